/- Part 5 of 6 of the proof of FnExactDecode: what each Go function on its way computes, that the Go code does just this, and what the law says of it. No condition beyond the statement's own. -/
import Derived.Lib.Bytes
import Derived.Lib.Bytealg
import Derived.Laws.BitsLemmas
import Derived.Test.YtcamchdenjpmhaaDoorMFnExactDecode4
namespace Go.Proofs.YtcamchdenjpmhaaDoor.F
open Go Go.Shelf Go.RowKit Go.Proofs.YtcamchdenjpmhaaDoorW.PrintWords Go.Proofs.YtcamchdenjpmhaaDoorW.PrintLast Go.Proofs.YtcamchdenjpmhaaDoorW.PrintMore
attribute [local go_sem] max2_int min2_int max_two min_two max_three min_three max_four min_four   -- for this text's walks alone
set_option linter.unusedVariables false
set_option linter.unusedSimpArgs false

/-! ### impl_Decode: function 6 -/
abbrev MsgR := Int × Bool × Int × Bool × Bool × Bool × Bool × Bool × Bool × Bool × Int × (List (S47)) × (List (S53)) × (List (S53)) × (List (S53)) × Int
def msgZ (c : Int) : MsgR := (0, false, 0, false, false, false, false, false, false, false, 0, [], [], [], [], c)
def impl_Decode.lq (k : Nat) (l0 : List Int) : Nat → Int → Int → List (S47) → Option (Int × Int × List (S47))
  | 0, p, c, q => some (p, c, q)
  | m + 1, p, c, q => if c = 0 then (impl_decoder_name.f k l0 p 0).bind fun t1 => (impl_decoder_take.f l0 t1.2.1 t1.2.2 2).bind fun t2 => (impl_u16.f t2.1).bind fun ty => (impl_decoder_take.f l0 t2.2.1 t2.2.2 2).bind fun t3 => (impl_u16.f t3.1).bind fun cl => if q.length ≤ 100000 then impl_Decode.lq k l0 m t3.2.1 t3.2.2 (q ++ [⟨t1.1, ty, cl⟩]) else none else some (p, c, q)
def impl_Decode.lr (k : Nat) (l0 : List Int) : Nat → Int → Int → List (S53) → Option (Int × Int × List (S53))
  | 0, p, c, q => some (p, c, q)
  | m + 1, p, c, q => if c = 0 then (impl_decoder_record.f k l0 p 0).bind fun t => if q.length ≤ 100000 then impl_Decode.lr k l0 m t.2.2.2.2.2.1 t.2.2.2.2.2.2 (q ++ [⟨t.1, t.2.1, t.2.2.1, t.2.2.2.1, t.2.2.2.2.1⟩]) else none else some (p, c, q)
def impl_Decode.rest (k : Nat) (l0 : List Int) (n1 n2 n3 : Nat) : Nat → Int → Int → List (S53) → List (S53) → List (S53) → Option (Int × Int × List (S53) × List (S53) × List (S53))
  | 0, p, c, a, u, e => (impl_Decode.lr k l0 n1 p c a).bind fun x => (impl_Decode.lr k l0 n2 x.1 x.2.1 u).bind fun y => (impl_Decode.lr k l0 n3 y.1 y.2.1 e).bind fun z => some (z.1, z.2.1, x.2.2, y.2.2, z.2.2)
  | 1, p, c, a, u, e => (impl_Decode.lr k l0 n2 p c u).bind fun y => (impl_Decode.lr k l0 n3 y.1 y.2.1 e).bind fun z => some (z.1, z.2.1, a, y.2.2, z.2.2)
  | 2, p, c, a, u, e => (impl_Decode.lr k l0 n3 p c e).bind fun z => some (z.1, z.2.1, a, u, z.2.2)
  | _, p, c, a, u, e => some (p, c, a, u, e)
def impl_Decode.f (k : Nat) (l0 : List Int) : Option MsgR := if (l0.length : Int) > 65535 then some (msgZ 11) else
  (impl_DecodeHead.f l0).bind fun (t1, t2, t3, t4, t5, t6, t7, t8, t9, t10, t11, n0, n1, n2, n3, code) => if code = 0 then
    (if 0 ≤ n0 ∧ n0 ≤ 65535 ∧ 0 ≤ n1 ∧ n1 ≤ 65535 ∧ 0 ≤ n2 ∧ n2 ≤ 65535 ∧ 0 ≤ n3 ∧ n3 ≤ 65535 then
      (if n0 + n1 + n2 + n3 > 400 then some (msgZ 12) else
        (impl_Decode.lq k l0 n0.toNat 12 0 []).bind fun x0 => (impl_Decode.lr k l0 n1.toNat x0.1 x0.2.1 []).bind fun x1 => (impl_Decode.lr k l0 n2.toNat x1.1 x1.2.1 []).bind fun x2 => (impl_Decode.lr k l0 n3.toNat x2.1 x2.2.1 []).bind fun x3 =>
        if x3.2.1 = 0 then (if x3.1 = (l0.length : Int) then some (t1, t2, t3, t4, t5, t6, t7, t8, t9, t10, t11, x0.2.2, x1.2.2, x2.2.2, x3.2.2, 0) else some (msgZ 10)) else some (msgZ x3.2.1))
    else none) else some (msgZ code)
set_option maxHeartbeats 16000000 in
set_option maxRecDepth 100000 in
theorem impl_Decode.calls (k : Nat) (A0 : Option Addr) (c0 : Nat) (l0 : List Int) (r1 : Int) (r2 : Bool) (r3 : Int) (r4 : Bool) (r5 : Bool) (r6 : Bool) (r7 : Bool) (r8 : Bool) (r9 : Bool) (r10 : Bool) (r11 : Int) (r12 : List (S47)) (r13 : List (S53)) (r14 : List (S53)) (r15 : List (S53)) (r16 : Int) (w : World) (hr0 : Kd.C (Kd.int .u8) w A0 l0.length l0) (hc0 : l0.length ≤ c0) (h : impl_Decode.f k l0 = some (r1, r2, r3, r4, r5, r6, r7, r8, r9, r10, r11, r12, r13, r14, r15, r16)) (hG : Glob w) :
    Calls Tryd.prog 6 #[.slice A0 l0.length c0] w fun e w' => ∃ v11_ v12_ v13_ v14_ : Value, e = .returned (.tuple #[.agg #[.int .i64 r1, .bool r2, .int .i64 r3, .bool r4, .bool r5, .bool r6, .bool r7, .bool r8, .bool r9, .bool r10, .int .i64 r11, v11_, v12_, v13_, v14_], .int .i64 r16]) ∧ Kd.R k47 47 w' w.heap.size (fun _ => True) v11_ r12 ∧ Kd.R k53 53 w' w.heap.size (fun k_ => some k_ ≠ (v13_ : Value).ownBlock ∧ some k_ ≠ (v14_ : Value).ownBlock) v12_ r13 ∧ Kd.R k53 53 w' w.heap.size (fun k_ => some k_ ≠ (v12_ : Value).ownBlock ∧ some k_ ≠ (v14_ : Value).ownBlock) v13_ r14 ∧ Kd.R k53 53 w' w.heap.size (fun k_ => some k_ ≠ (v12_ : Value).ownBlock ∧ some k_ ≠ (v13_ : Value).ownBlock) v14_ r15 ∧ Below w.heap.size w w' := by
  have HR := Aside0.mk hr0
  have HG := Aside0.mk hG
  clear hr0 hG
  unfold impl_Decode.f at h
  by_cases hl : (l0.length : Int) > 65535
  · rw [if_pos hl] at h
    simp only [msgZ, Option.some.injEq, Prod.mk.injEq] at h
    obtain ⟨rfl, rfl, rfl, rfl, rfl, rfl, rfl, rfl, rfl, rfl, rfl, rfl, rfl, rfl, rfl, rfl⟩ := h
    have ql : decide (65535 < (l0.length : Int)) = true := decide_eq_true hl
    go_enter Tryd.func6, Tryd.ntmps6
    go_wp2_with (first | ((with_reducible refine gate_store (t := 28) (p := 2) rfl ?_); refine wpList_store_row rfl 28 (.tmp 2) _ rfl w.heap.size (#[.int .i64 0, .bool false, .int .i64 0, .bool false, .bool false, .bool false, .bool false, .bool false, .bool false, .bool false, .int .i64 0, .slice none 0 0, .slice none 0 0, .slice none 0 0, .slice none 0 0]) rfl rfl _ _ (blk_new w _) ?hi ?ho ?h1 ?_; (case hi => kernel_rfl); (case ho => rfl); (case h1 => kernel_rfl)))
    exact bodyPost_ret (results_ct rfl _ _ w.heap.size 28 #[.int .i64 0, .bool false, .int .i64 0, .bool false, .bool false, .bool false, .bool false, .bool false, .bool false, .bool false, .int .i64 0, .slice none 0 0, .slice none 0 0, .slice none 0 0, .slice none 0 0] (0, 0) _ rfl (setRow_heap _ _ _ _ _ _ (blk_new w _)) Tryd.underlying28 rfl (by kernel_rfl)) rfl ⟨_, _, _, _, rfl, Kd.R_nil _ _ _ _ _, Kd.R_nil _ _ _ _ _, Kd.R_nil _ _ _ _ _, Kd.R_nil _ _ _ _ _, setRow_below (below_alloc (Below.refl _ _) _) (Nat.le_refl _) _⟩
  rw [if_neg hl] at h
  have ql : decide (65535 < (l0.length : Int)) = false := decide_eq_false hl
  replace h := Option.bind_eq_some_iff.mp h
  obtain ⟨⟨t1, t2, t3, t4, t5, t6, t7, t8, t9, t10, t11, n0, n1, n2, n3, code⟩, A1, h⟩ := h
  have H1 := Aside0.mk A1
  dsimp only at h
  have H := Aside0.mk h
  clear A1 h
  go_enter Tryd.func6, Tryd.ntmps6
  go_wp2_with fail
  refine (impl_DecodeHead.calls A0 c0 l0 _ _ _ _ _ _ _ _ _ _ _ _ _ _ _ _ _ (Kd.C_alloc HR.out _) hc0 H1.out).mono ?_
  rintro e w1 ⟨rfl, hb⟩
  have HZ := Aside0.mk (blk_below (blk_new w (Obj.cells #[.int .i64 0, .bool false, .int .i64 0, .bool false, .bool false, .bool false, .bool false, .bool false, .bool false, .bool false, .int .i64 0, .slice none 0 0, .slice none 0 0, .slice none 0 0, .slice none 0 0] 28)) hb)
  have HB := Aside0.mk (below_step (below_alloc (Below.refl _ _) _) hb)
  clear hb ql
  go_upto_region 4 with fail
  have hs1 := HB.out.size
  have esz : (w1.alloc (Obj.cells #[.int .i64 t1, .bool t2, .int .i64 t3, .bool t4, .bool t5, .bool t6, .bool t7, .bool t8, .bool t9, .bool t10, .int .i64 t11] 24)).heap.size = w1.heap.size + 1 := by simp
  have HH := Aside0.mk (blk_alloc (blk_new w1 (Obj.cells #[.int .i64 t1, .bool t2, .int .i64 t3, .bool t4, .bool t5, .bool t6, .bool t7, .bool t8, .bool t9, .bool t10, .int .i64 t11] 24)) (Obj.cells #[.int .i64 n0, .int .i64 n1, .int .i64 n2, .int .i64 n3] 39))
  have hcn := blk_new (w1.alloc (Obj.cells #[.int .i64 t1, .bool t2, .int .i64 t3, .bool t4, .bool t5, .bool t6, .bool t7, .bool t8, .bool t9, .bool t10, .int .i64 t11] 24)) (Obj.cells #[.int .i64 n0, .int .i64 n1, .int .i64 n2, .int .i64 n3] 39)
  rw [esz] at hcn
  have HCn := Aside0.mk hcn
  have HZ1 := Aside0.mk (blk_alloc (blk_alloc HZ.out (Obj.cells #[.int .i64 t1, .bool t2, .int .i64 t3, .bool t4, .bool t5, .bool t6, .bool t7, .bool t8, .bool t9, .bool t10, .int .i64 t11] 24)) (Obj.cells #[.int .i64 n0, .int .i64 n1, .int .i64 n2, .int .i64 n3] 39))
  have HB1 := Aside0.mk (below_alloc (below_alloc HB.out (Obj.cells #[.int .i64 t1, .bool t2, .int .i64 t3, .bool t4, .bool t5, .bool t6, .bool t7, .bool t8, .bool t9, .bool t10, .int .i64 t11] 24)) (Obj.cells #[.int .i64 n0, .int .i64 n1, .int .i64 n2, .int .i64 n3] 39))
  clear HZ HB hcn esz
  generalize (w1.alloc (Obj.cells #[.int .i64 t1, .bool t2, .int .i64 t3, .bool t4, .bool t5, .bool t6, .bool t7, .bool t8, .bool t9, .bool t10, .int .i64 t11] 24)).alloc (Obj.cells #[.int .i64 n0, .int .i64 n1, .int .i64 n2, .int .i64 n3] 39) = W1 at *
  generalize w1.heap.size = gh at *
  by_cases hc : code = 0
  case neg =>
    have h := H.out
    rw [if_neg hc] at h
    simp only [msgZ, Option.some.injEq, Prod.mk.injEq] at h
    obtain ⟨rfl, rfl, rfl, rfl, rfl, rfl, rfl, rfl, rfl, rfl, rfl, rfl, rfl, rfl, rfl, rfl⟩ := h
    have q5 : (code != 0) = true := bne_iff_ne.mpr hc
    clear hc
    go_wp2_with (first | ((with_reducible refine gate_store (t := 28) (p := 2) rfl ?_); refine wpList_store_row rfl 28 (.tmp 2) _ rfl w.heap.size (#[.int .i64 0, .bool false, .int .i64 0, .bool false, .bool false, .bool false, .bool false, .bool false, .bool false, .bool false, .int .i64 0, .slice none 0 0, .slice none 0 0, .slice none 0 0, .slice none 0 0]) rfl rfl _ _ (HZ1.out) ?hi ?ho ?h1 ?_; (case hi => kernel_rfl); (case ho => rfl); (case h1 => kernel_rfl)))
    exact bodyPost_ret (results_ct rfl _ _ w.heap.size 28 #[.int .i64 0, .bool false, .int .i64 0, .bool false, .bool false, .bool false, .bool false, .bool false, .bool false, .bool false, .int .i64 0, .slice none 0 0, .slice none 0 0, .slice none 0 0, .slice none 0 0] (0, 0) _ rfl (setRow_heap _ _ _ _ _ _ (HZ1.out)) Tryd.underlying28 rfl (by kernel_rfl)) rfl ⟨_, _, _, _, rfl, Kd.R_nil _ _ _ _ _, Kd.R_nil _ _ _ _ _, Kd.R_nil _ _ _ _ _, Kd.R_nil _ _ _ _ _, setRow_below (HB1.out) (Nat.le_refl _) _⟩
  case pos =>
    have h := H.out
    rw [if_pos hc] at h
    subst hc
    clear H H1
    split at h
    case isFalse => cases h
    case isTrue hn =>
    obtain ⟨hn0, hn0', hn1, hn1', hn2, hn2', hn3, hn3'⟩ := hn
    obtain ⟨n0, rfl⟩ := Int.eq_ofNat_of_zero_le hn0
    obtain ⟨n1, rfl⟩ := Int.eq_ofNat_of_zero_le hn1
    obtain ⟨n2, rfl⟩ := Int.eq_ofNat_of_zero_le hn2
    obtain ⟨n3, rfl⟩ := Int.eq_ofNat_of_zero_le hn3
    have kc0 : W1.cell? ⟨gh + 1, 0, none⟩ = some (.int .i64 n0) := (blk_cell HCn.out 0).trans rfl
    have kc1 : W1.cell? ⟨gh + 1, 1, none⟩ = some (.int .i64 n1) := (blk_cell HCn.out 1).trans rfl
    have kc2 : W1.cell? ⟨gh + 1, 2, none⟩ = some (.int .i64 n2) := (blk_cell HCn.out 2).trans rfl
    have kc3 : W1.cell? ⟨gh + 1, 3, none⟩ = some (.int .i64 n3) := (blk_cell HCn.out 3).trans rfl
    by_cases hsum : (n0 : Int) + n1 + n2 + n3 > 400
    · rw [if_pos hsum] at h
      simp only [msgZ, Option.some.injEq, Prod.mk.injEq] at h
      obtain ⟨rfl, rfl, rfl, rfl, rfl, rfl, rfl, rfl, rfl, rfl, rfl, rfl, rfl, rfl, rfl, rfl⟩ := h
      have q5 : decide (400 < (n0 : Int) + n1 + n2 + n3) = true := decide_eq_true hsum
      go_wp2_with (first | ((with_reducible refine gate_store (t := 28) (p := 2) rfl ?_); refine wpList_store_row rfl 28 (.tmp 2) _ rfl w.heap.size (#[.int .i64 0, .bool false, .int .i64 0, .bool false, .bool false, .bool false, .bool false, .bool false, .bool false, .bool false, .int .i64 0, .slice none 0 0, .slice none 0 0, .slice none 0 0, .slice none 0 0]) rfl rfl _ _ (HZ1.out) ?hi ?ho ?h1 ?_; (case hi => kernel_rfl); (case ho => rfl); (case h1 => kernel_rfl)))
      exact bodyPost_ret (results_ct rfl _ _ w.heap.size 28 #[.int .i64 0, .bool false, .int .i64 0, .bool false, .bool false, .bool false, .bool false, .bool false, .bool false, .bool false, .int .i64 0, .slice none 0 0, .slice none 0 0, .slice none 0 0, .slice none 0 0] (0, 0) _ rfl (setRow_heap _ _ _ _ _ _ (HZ1.out)) Tryd.underlying28 rfl (by kernel_rfl)) rfl ⟨_, _, _, _, rfl, Kd.R_nil _ _ _ _ _, Kd.R_nil _ _ _ _ _, Kd.R_nil _ _ _ _ _, Kd.R_nil _ _ _ _ _, setRow_below (HB1.out) (Nat.le_refl _) _⟩
    · rw [if_neg hsum] at h
      simp only [Int.toNat_natCast] at h
      have q5 : decide (400 < (n0 : Int) + n1 + n2 + n3) = false := decide_eq_false hsum
      replace h := Option.bind_eq_some_iff.mp h
      obtain ⟨⟨p0, e0, q0⟩, A2, h⟩ := h
      have H2 := Aside0.mk A2
      have H := Aside0.mk h
      clear A2 h
      go_wp2_with (first | ((with_reducible refine gate_ (.load 24 (.tmp 4)) rfl ?_); refine wpList_load_row rfl 24 (.tmp 4) rfl gh rfl 24 _ _ _ (blk_alloc HH.out _) Tryd.underlying24 rfl ?hi ?_; (case hi => kernel_rfl)))
      have h := Option.bind_eq_some_iff.mp H.out
      obtain ⟨⟨p1, e1, q1⟩, A3, h⟩ := h
      replace h := Option.bind_eq_some_iff.mp h
      obtain ⟨⟨p2, e2, q2⟩, A4, h⟩ := h
      replace h := Option.bind_eq_some_iff.mp h
      obtain ⟨⟨p3, e3, q3⟩, A5, h⟩ := h
      have HREST := Aside0.mk (show impl_Decode.rest k l0 n1 n2 n3 0 p0 e0 [] [] [] = some (p3, e3, q1, q2, q3) by
        dsimp only at A3 A4 A5
        simp only [impl_Decode.rest, A3, A4, A5, Option.bind_some])
      dsimp only at h
      have HEND := Aside0.mk h
      clear H A3 A4 A5 h
      have HI := Aside0.mk (show DMI w ((W1.alloc (Obj.cells #[.slice A0 l0.length c0, .int .i64 12, .int .i64 0] 44)).alloc (Obj.cells (msgC (⟨t1, t2, t3, t4, t5, t6, t7, t8, t9, t10, t11⟩ : S24) nilV nilV nilV nilV) 28)) (fun _ => True) w.heap.size (gh + 1) W1.heap.size (W1.heap.size + 1) #[.int .i64 0, .bool false, .int .i64 0, .bool false, .bool false, .bool false, .bool false, .bool false, .bool false, .bool false, .int .i64 0, .slice none 0 0, .slice none 0 0, .slice none 0 0, .slice none 0 0] (cntC n0 n1 n2 n3) (⟨t1, t2, t3, t4, t5, t6, t7, t8, t9, t10, t11⟩ : S24) nilV nilV nilV nilV [] [] [] [] #[.slice A0 l0.length c0, .int .i64 12, .int .i64 0] from
        ⟨⟨blk_alloc (blk_alloc HZ1.out _) _, blk_alloc (blk_alloc HCn.out _) _, (by have e := blk_new (W1.alloc (Obj.cells #[.slice A0 l0.length c0, .int .i64 12, .int .i64 0] 44)) (Obj.cells (msgC (⟨t1, t2, t3, t4, t5, t6, t7, t8, t9, t10, t11⟩ : S24) nilV nilV nilV nilV) 28); rwa [show (W1.alloc (Obj.cells #[.slice A0 l0.length c0, .int .i64 12, .int .i64 0] 44)).heap.size = W1.heap.size + 1 by simp] at e),
          Kd.R_nil _ _ _ _ _, Kd.R_nil _ _ _ _ _, Kd.R_nil _ _ _ _ _, Kd.R_nil _ _ _ _ _, below_alloc (below_alloc HB1.out _) _, Nat.le_refl _, (by omega), (by have := HB1.out.size; omega), (by have := lt_of_block HZ1.out; omega)⟩, blk_alloc (blk_new W1 _) _, HB1.out.size⟩)
      unfold msgC at HI
      clear HH HCn HZ1 kc0 kc1 kc2 kc3
      change Aside0 (DMI w ((W1.alloc _).alloc (Obj.cells #[.int .i64 t1, .bool t2, .int .i64 t3, .bool t4, .bool t5, .bool t6, .bool t7, .bool t8, .bool t9, .bool t10, .int .i64 t11, .slice none 0 0, .slice none 0 0, .slice none 0 0, .slice none 0 0] 28)) _ _ _ _ _ _ _ _ _ _ _ _ _ _ _ _ _) at HI
      generalize (W1.alloc (Obj.cells #[.slice A0 l0.length c0, .int .i64 12, .int .i64 0] 44)).alloc (Obj.cells #[.int .i64 t1, .bool t2, .int .i64 t3, .bool t4, .bool t5, .bool t6, .bool t7, .bool t8, .bool t9, .bool t10, .int .i64 t11, .slice none 0 0, .slice none 0 0, .slice none 0 0, .slice none 0 0] 28) = W2 at *
      generalize W1.heap.size + 1 = gm at *
      generalize W1.heap.size = gd at *
      clear HB1 hs1
      go_loopw [9] (fun i wr => ∃ (j : Nat) (vq : Value) (p c : Int) (q : List (S47)), i = .int .i64 j ∧ j ≤ n0 ∧ Aside0 (DMI w wr (fun _ => True) w.heap.size (gh + 1) gd gm #[.int .i64 0, .bool false, .int .i64 0, .bool false, .bool false, .bool false, .bool false, .bool false, .bool false, .bool false, .int .i64 0, .slice none 0 0, .slice none 0 0, .slice none 0 0, .slice none 0 0] (cntC n0 n1 n2 n3) (⟨t1, t2, t3, t4, t5, t6, t7, t8, t9, t10, t11⟩ : S24) vq nilV nilV nilV q [] [] [] #[.slice A0 l0.length c0, .int .i64 p, .int .i64 c]) ∧ Aside0 (impl_Decode.lq k l0 (n0 - j) p c q = some (p0, e0, q0))) (fun i _ => n0 - (intOf i).toNat)
      case atStart => exact ⟨0, nilV, 12, 0, [], rfl, Nat.zero_le _, HI, H2⟩
      case round =>
        clear HI H2
        obtain ⟨j, vq, p, c, q, rfl, hj, I, HL⟩ := hrel
        have kc0 : wr.cell? ⟨gh + 1, 0, none⟩ = some (.int .i64 n0) := (blk_cell I.out.m.cnt 0).trans rfl
        have kd2 : wr.cell? ⟨gd, 2, none⟩ = some (.int .i64 c) := (blk_cell I.out.d 2).trans rfl
        by_cases hlt : j < n0 ∧ c = 0
        · obtain ⟨hlt, rfl⟩ := hlt
          have hl2 := HL.out
          rw [show n0 - j = (n0 - (j + 1)) + 1 by omega, impl_Decode.lq, if_pos rfl] at hl2
          obtain ⟨⟨s1, x1, y1⟩, B1, hl2⟩ := Option.bind_eq_some_iff.mp hl2
          obtain ⟨⟨s2, x2, y2⟩, B2, hl2⟩ := Option.bind_eq_some_iff.mp hl2
          obtain ⟨ty, B3, hl2⟩ := Option.bind_eq_some_iff.mp hl2
          obtain ⟨⟨s3, x3, y3⟩, B4, hl2⟩ := Option.bind_eq_some_iff.mp hl2
          obtain ⟨cl, B5, hl2⟩ := Option.bind_eq_some_iff.mp hl2
          dsimp only at B2 B4
          have G1 := Aside0.mk B1
          have G2 := Aside0.mk B2
          have G3 := Aside0.mk B3
          have G4 := Aside0.mk B4
          have G5 := Aside0.mk B5
          split at hl2
          case isFalse => cases hl2
          case isTrue hlen =>
          have HL2 := Aside0.mk hl2
          clear B1 B2 B3 B4 B5 hl2 HL
          have qlt : decide ((j : Int) < (n0 : Int)) = true := decide_eq_true (by omega)
          go_wp2_with fail
          refine (impl_decoder_name.calls k w gd A0 c0 l0 p 0 _ _ _ _ HR.out hc0 I.out.m.bel I.out.hd I.out.d G1.out).mono ?_
          rintro e w1 ⟨rfl, hd, hb, hg⟩
          have I1 := Aside0.mk (I.out.step hd hb hg)
          clear hd hb hg I kc0 kd2 qlt
          go_wp2_with fail
          have I2 := Aside0.mk ((I1.out.okq_ (okq' := fun k => k ≠ w1.heap.size) (fun k _ hk => by omega)).below (below_alloc (Below.refl _ _) (Obj.cells #[.string s1, .int .i64 0, .int .i64 0] 47)))
          have QB := Aside0.mk (blk_new w1 (Obj.cells #[.string s1, .int .i64 0, .int .i64 0] 47))
          have hgq : w.heap.size ≤ w1.heap.size := I1.out.m.bel.size
          clear I1
          generalize w1.alloc (Obj.cells #[.string s1, .int .i64 0, .int .i64 0] 47) = w2 at *
          generalize w1.heap.size = gq at *
          refine (impl_decoder_take.calls w gd A0 c0 l0 x1 y1 2 _ _ _ _ HR.out hc0 I2.out.m.bel I2.out.hd I2.out.d G2.out).mono ?_
          rintro e w3 ⟨rfl, hd, hb, hg⟩
          have QB3 := Aside0.mk (blk_grown QB.out hg (fun e => blk_ne I2.out.d QB.out (by decide) (by injection e with e; exact e.symm)))
          have I3 := Aside0.mk (I2.out.step hd hb hg)
          clear hd hb hg I2 QB
          go_wp2_with fail
          refine (impl_u16.calls _ _ _ G3.out).mono ?_
          rintro e w4 ⟨rfl, hdr⟩
          have QB4 := Aside0.mk (blk_below QB3.out hdr.below)
          have I4 := Aside0.mk (I3.out.below hdr.below)
          clear hdr I3 QB3
          have kc := (blk_cell QB4.out 1).trans rfl
          have kf := blk_frozen QB4.out 1
          have I5 := Aside0.mk (I4.out.qbox QB4.out (fun _ hk => hk) hgq 1 (.int .i64 ty))
          have QB5 := Aside0.mk (blk_put QB4.out 1 (.int .i64 ty) (cs' := #[.string s1, .int .i64 ty, .int .i64 0]) rfl)
          clear I4 QB4
          go_wp2_with fail
          clear kc kf
          generalize w4.setCell ⟨gq, 1, none⟩ (.int .i64 ty) = w5 at *
          refine (impl_decoder_take.calls w gd A0 c0 l0 x2 y2 2 _ _ _ _ HR.out hc0 I5.out.m.bel I5.out.hd I5.out.d G4.out).mono ?_
          rintro e w6 ⟨rfl, hd, hb, hg⟩
          have QB6 := Aside0.mk (blk_grown QB5.out hg (fun e => blk_ne I5.out.d QB5.out (by decide) (by injection e with e; exact e.symm)))
          have I6 := Aside0.mk (I5.out.step hd hb hg)
          clear hd hb hg I5 QB5
          go_wp2_with fail
          refine (impl_u16.calls _ _ _ G5.out).mono ?_
          rintro e w7 ⟨rfl, hdr⟩
          have QB7 := Aside0.mk (blk_below QB6.out hdr.below)
          have I7 := Aside0.mk (I6.out.below hdr.below)
          clear hdr I6 QB6
          have kc := (blk_cell QB7.out 2).trans rfl
          have kf := blk_frozen QB7.out 2
          have I8 := Aside0.mk (I7.out.qbox QB7.out (fun _ hk => hk) hgq 2 (.int .i64 cl))
          have QB8 := Aside0.mk (blk_put QB7.out 2 (.int .i64 cl) (cs' := #[.string s1, .int .i64 ty, .int .i64 cl]) rfl)
          clear I7 QB7
          go_upto_region 16 with fail
          clear kc kf
          generalize w7.setCell ⟨gq, 2, none⟩ (.int .i64 cl) = w8 at *
          have km : w8.cell? ⟨gm, 11, none⟩ = some vq := (blk_cell I8.out.m.msg 11).trans rfl
          have hgl := lt_of_block QB8.out
          go_wp2_with (first | ((with_reducible refine gate_ (.load 47 (.tmp 10)) rfl ?_); refine wpList_load_row rfl 47 (.tmp 10) rfl gq rfl 47 _ _ _ QB8.out Tryd.underlying47 rfl ?hi ?_; (case hi => kernel_rfl)) | (at_builtin; refine Kd.R_append k47 w.heap.size rfl (.tmp 71) (.tmp 73) 25 47 (.agg #[.string ⟨#[]⟩, .int .i64 0, .int .i64 0]) 32 rfl Tryd.underlying25 (by kernel_rfl) rfl (by decide) (by omega) vq q (⟨s1, ty, cl⟩ : S47) [.string s1, .int .i64 ty, .int .i64 cl] (fun k => k ≠ gq) (fun _ => False) rfl rfl (k47_mkM _ _ _ _) (fun _ hk => hk.elim) (fun k hk => by omega) I8.out.m.rq I8.out.m.bel I8.out.m.bel.size (by omega) ?_; intro v1 w9 ho hb hg hat; obtain ⟨Av_, nv_, cv_, rfl⟩ : ∃ A n c, v1 = .slice A n c := (by obtain ⟨A, c, e⟩ := Kd.R_slice ho; exact ⟨A, _, c, e⟩); have kz := blk_grown I8.out.m.msg hg (Kd.R_ne I8.out.m.rq I8.out.m.msg (by decide)); have kc := (blk_cell kz 11).trans rfl; have kf := blk_frozen kz 11; have I9 := Aside0.mk (DMI.put I8.out I8.out.m.rq (by decide) hg (I8.out.m.appQ ho hb hg hat)); clear kz ho hb hg hat I8 QB8 km))
          go_roundw
          case rel => exact ⟨j + 1, _, x3, y3, q ++ [⟨s1, ty, cl⟩], by go_num, by omega, ⟨I9.out.okq_ (fun _ _ _ => trivial)⟩, HL2⟩
          case measure => simp [intOf]; omega
        · have hx : p = p0 ∧ c = e0 ∧ q = q0 := by
            have hl2 := HL.out
            by_cases h1 : j < n0
            · rw [show n0 - j = (n0 - (j + 1)) + 1 by omega, impl_Decode.lq, if_neg (fun h => hlt ⟨h1, h⟩)] at hl2
              simpa using hl2
            · rw [show n0 - j = 0 by omega, impl_Decode.lq] at hl2
              simpa using hl2
          obtain ⟨rfl, rfl, rfl⟩ := hx
          clear HL
          by_cases h1 : j < n0
          case' pos => have qlt : decide ((j : Int) < (n0 : Int)) = true := decide_eq_true (by omega)
          case' pos => have qlt2 : decide (j < n0) = true := decide_eq_true h1
          case' pos => have qlt3 : (j < n0) = True := eq_true h1
          case' pos => have qc : (c == 0) = false := beq_eq_false_iff_ne.mpr (fun h => hlt ⟨h1, h⟩)
          case' pos => have qc2 : (c = 0) = False := eq_false (fun h => hlt ⟨h1, h⟩)
          case' neg => have qlt : decide ((j : Int) < (n0 : Int)) = false := decide_eq_false (by omega)
          case' neg => have qlt2 : decide (j < n0) = false := decide_eq_false h1
          case' neg => have qlt3 : (j < n0) = False := eq_false h1
          all_goals
            clear hlt h1
            go_wp2
            have I0 := Aside0.mk (I.out.below (below_alloc (Below.refl _ _) (Obj.cells #[.pointer (some ⟨gm, 12, none⟩), .pointer (some ⟨gm, 13, none⟩), .pointer (some ⟨gm, 14, none⟩)] 50)))
            have PB0 := Aside0.mk (blk_new wr (Obj.cells #[.pointer (some ⟨gm, 12, none⟩), .pointer (some ⟨gm, 13, none⟩), .pointer (some ⟨gm, 14, none⟩)] 50))
            clear I kc0 kd2
            generalize wr.alloc (Obj.cells #[.pointer (some ⟨gm, 12, none⟩), .pointer (some ⟨gm, 13, none⟩), .pointer (some ⟨gm, 14, none⟩)] 50) = W3 at *
            generalize wr.heap.size = gp at *
            go_loopw [81] (fun i wr => ∃ (kk : Nat) (va vu ve : Value) (a u e : List (S53)) (p c : Int), i = .int .i64 kk ∧ kk ≤ 3 ∧ Aside0 (DMI w wr (fun _ => True) w.heap.size (gh + 1) gd gm #[.int .i64 0, .bool false, .int .i64 0, .bool false, .bool false, .bool false, .bool false, .bool false, .bool false, .bool false, .int .i64 0, .slice none 0 0, .slice none 0 0, .slice none 0 0, .slice none 0 0] (cntC n0 n1 n2 n3) (⟨t1, t2, t3, t4, t5, t6, t7, t8, t9, t10, t11⟩ : S24) vq va vu ve q a u e #[.slice A0 l0.length c0, .int .i64 p, .int .i64 c]) ∧ Aside0 (wr.heap[gp]? = some (.cells #[.pointer (some ⟨gm, 12, none⟩), .pointer (some ⟨gm, 13, none⟩), .pointer (some ⟨gm, 14, none⟩)] 50 (0, 0))) ∧ Aside0 (impl_Decode.rest k l0 n1 n2 n3 kk p c a u e = some (p3, e3, q1, q2, q3))) (fun i _ => 3 - (intOf i).toNat)
            case atStart => exact ⟨0, nilV, nilV, nilV, [], [], [], p, c, rfl, Nat.zero_le _, I0, PB0, HREST⟩
            case round =>
              clear I0 PB0 HREST
              obtain ⟨kk, va, vu, ve, a, u, e, p, c, rfl, hkk, I, PB, HRE⟩ := hrel
              obtain rfl | rfl | rfl | rfl : kk = 0 ∨ kk = 1 ∨ kk = 2 ∨ kk = 3 := by omega
              all_goals clear hkk
              · skip
                have hr2 := HRE.out
                rw [impl_Decode.rest] at hr2
                obtain ⟨⟨px, cx, lx⟩, B1, hr2⟩ := Option.bind_eq_some_iff.mp hr2
                have G1 := Aside0.mk B1
                have HRE2 := Aside0.mk (show impl_Decode.rest k l0 n1 n2 n3 1 px cx lx u e = some (p3, e3, q1, q2, q3) from hr2)
                clear B1 hr2 HRE
                have kp : wr.cell? ⟨gp, 0, none⟩ = some (.pointer (some ⟨gm, 12, none⟩)) := (blk_cell PB.out 0).trans rfl
                go_wp2
                clear kp
                obtain ⟨wo, rfl⟩ : ∃ wo : World, wo = wr := ⟨_, rfl⟩
                go_loopw [13] (fun i wr => ∃ (j : Nat) (vx : Value) (p c : Int) (xs : List (S53)), i = .int .i64 j ∧ j ≤ n1 ∧ Aside0 (DMI w wr (fun _ => True) w.heap.size (gh + 1) gd gm #[.int .i64 0, .bool false, .int .i64 0, .bool false, .bool false, .bool false, .bool false, .bool false, .bool false, .bool false, .int .i64 0, .slice none 0 0, .slice none 0 0, .slice none 0 0, .slice none 0 0] (cntC n0 n1 n2 n3) (⟨t1, t2, t3, t4, t5, t6, t7, t8, t9, t10, t11⟩ : S24) vq vx vu ve q xs u e #[.slice A0 l0.length c0, .int .i64 p, .int .i64 c]) ∧ Aside0 (wr.heap[gp]? = some (.cells #[.pointer (some ⟨gm, 12, none⟩), .pointer (some ⟨gm, 13, none⟩), .pointer (some ⟨gm, 14, none⟩)] 50 (0, 0))) ∧ Aside0 (impl_Decode.lr k l0 (n1 - j) p c xs = some (px, cx, lx))) (fun i _ => n1 - (intOf i).toNat)
                case atStart => exact ⟨0, va, _, _, a, rfl, Nat.zero_le _, I, PB, G1⟩
                case round =>
                  clear I PB G1
                  obtain ⟨j, vx, p, c, xs, rfl, hj, I, PB, HL⟩ := hrel
                  have kc0 : wr.cell? ⟨gh + 1, 1, none⟩ = some (.int .i64 n1) := (blk_cell I.out.m.cnt 1).trans rfl
                  have kd2 : wr.cell? ⟨gd, 2, none⟩ = some (.int .i64 c) := (blk_cell I.out.d 2).trans rfl
                  by_cases hlt : j < n1 ∧ c = 0
                  · obtain ⟨hlt, rfl⟩ := hlt
                    have hl2 := HL.out
                    rw [show n1 - j = (n1 - (j + 1)) + 1 by omega, impl_Decode.lr, if_pos rfl] at hl2
                    obtain ⟨⟨o1, ty1, cl1, tl1, d1, x1, y1⟩, B1, hl2⟩ := Option.bind_eq_some_iff.mp hl2
                    have G1 := Aside0.mk B1
                    split at hl2
                    case isFalse => cases hl2
                    case isTrue hlen =>
                    have HL2 := Aside0.mk hl2
                    clear B1 hl2 HL
                    have qlt : decide ((j : Int) < (n1 : Int)) = true := decide_eq_true (by omega)
                    have IE := Aside0.mk I.out.drew
                    have km : wr.cell? ⟨gm, 12, none⟩ = some vx := (blk_cell I.out.m.msg 12).trans rfl
                    go_upto_region 23 with fail
                    clear kc0 kd2 qlt
                    refine start_ (n := 10) (S := fun w' => w'.cell? ⟨gm, 12, none⟩ = some vx) (ds := [9]) #[false, false, false, false, false, false, false, false, false, false] (by kernel_rfl) rfl rfl (km) (fun hHeld => ?_)
                    refine pure_ (i := 0) (N := some 101) (v := ?_) (a' := ?_) #[true, false, false, false, false, false, false, false, false, false] rfl rfl (by kernel_rfl) (fun _ _ _ h => h) (Or.inl ⟨by rfl, ?_⟩) ?_ ?_
                    rotate_left
                    · intro w'
                      go_simp
                      with_reducible rfl
                    rotate_left
                    · simp only [Act.put, List.setIfInBounds_toArray, List.set_cons_zero, List.set_cons_succ, i64_w, i32_w]
                      rfl
                    refine pure_ (i := 1) (N := some 102) (v := ?_) (a' := ?_) #[true, true, false, false, false, false, false, false, false, false] rfl rfl (by kernel_rfl) (fun _ _ _ h => h) (Or.inl ⟨by rfl, ?_⟩) ?_ ?_
                    rotate_left
                    · intro w'
                      go_simp
                      with_reducible rfl
                    rotate_left
                    · simp only [Act.put, List.setIfInBounds_toArray, List.set_cons_zero, List.set_cons_succ, i64_w, i32_w]
                      rfl
                    refine pure_ (i := 2) (N := some 103) (v := ?_) (a' := ?_) #[true, true, true, false, false, false, false, false, false, false] rfl rfl (by kernel_rfl) (fun _ _ _ h => h) (Or.inl ⟨by rfl, ?_⟩) ?_ ?_
                    rotate_left
                    · intro w'
                      go_simp
                      with_reducible rfl
                    rotate_left
                    · simp only [Act.put, List.setIfInBounds_toArray, List.set_cons_zero, List.set_cons_succ, i64_w, i32_w]
                      rfl
                    refine pure_ (i := 4) (N := some 105) (v := ?_) (a' := ?_) #[true, true, true, false, true, false, false, false, false, false] rfl rfl (by kernel_rfl) (fun _ _ _ h => h) (Or.inl ⟨by rfl, ?_⟩) ?_ ?_
                    rotate_left
                    · intro w'
                      go_simp
                      with_reducible rfl
                    rotate_left
                    · simp only [Act.put, List.setIfInBounds_toArray, List.set_cons_zero, List.set_cons_succ, i64_w, i32_w]
                      rfl
                    refine take_ (i := 3) (N := some 104) (v := ?_) (a' := ?_) #[true, true, true, true, true, false, false, false, false, false] rfl rfl (by kernel_rfl) (fun _ _ _ h => h) (Or.inl ⟨by rfl, ?_⟩) hHeld ?_ ?_
                    rotate_left
                    · intro w' s0
                      go_simp
                      with_reducible rfl
                    rotate_left
                    · simp only [Act.put, List.setIfInBounds_toArray, List.set_cons_zero, List.set_cons_succ, i64_w, i32_w]
                      rfl
                    refine one_ (i := 5) (N := some 106) #[true, true, true, true, true, true, false, false, false, false] rfl rfl (by kernel_rfl) (by decide) (fun K hK => ?_)
                    refine goes_ Tryd.func17 (by kernel_rfl) rfl #[.pointer (some ⟨gd, 0, none⟩)] (by rfl) rfl rfl (by simp only [List.map_toArray, List.map_cons, List.map_nil]; rfl) ?_
                    with_reducible refine (impl_decoder_record.calls k w gd A0 c0 l0 p 0 _ _ _ _ _ _ _ _ HR.out hc0 IE.out.m.bel IE.out.hd IE.out.d G1.out HG.out).mono ?_
                    rintro e w3 ⟨rfl, hd, hb, hg⟩
                    refine ⟨_, rfl, ?_⟩
                    have I3 := Aside0.mk (IE.out.step hd hb hg)
                    have PB3 := Aside0.mk (blk_grown (w := wr.drew) PB.out hg (fun e => blk_ne (w := wr.drew) IE.out.d PB.out (by decide) (by injection e with e; exact e.symm)))
                    refine hK.out _ _ (((blk_cell I3.out.m.msg 12).trans rfl)) (fun hHeld => ?_)
                    clear hK K
                    refine norm_ (a' := ?_) ?_ ?_
                    rotate_left
                    · show Act.put _ (some 106) _ = _
                      simp only [Act.put, List.setIfInBounds_toArray, List.set_cons_zero, List.set_cons_succ, i64_w, i32_w]
                      rfl
                    refine one_ (i := 6) (N := some 107) #[true, true, true, true, true, true, true, false, false, false] rfl rfl (by kernel_rfl) (by decide) (fun K hK => ?_)
                    refine value_ (w1 := ?_) (v := ?_) (by rfl) rfl ?_ ?_
                    rotate_left 2
                    · go_simp
                      constructor
                      · rfl
                      · rfl
                    refine hK.out _ _ (((blk_cell (blk_alloc I3.out.m.msg _) 12).trans rfl)) (fun hHeld => ?_)
                    clear hK K
                    refine norm_ (a' := ?_) ?_ ?_
                    rotate_left
                    · show Act.put _ (some 107) _ = _
                      simp only [Act.put, List.setIfInBounds_toArray, List.set_cons_zero, List.set_cons_succ, i64_w, i32_w]
                      rfl
                    refine one_ (i := 7) (N := some 108) #[true, true, true, true, true, true, true, true, false, false] rfl rfl (by kernel_rfl) (by decide) (fun K hK => ?_)
                    refine Kd.R_append_step k53 (w0 := w) w.heap.size (by rfl) (.tmp 104) (.tmp 107) 26 53 (.agg #[.string ⟨#[]⟩, .int .i64 0, .int .i64 0, .int .i64 0, .string ⟨#[]⟩]) 56 rfl Tryd.underlying26 (by kernel_rfl) rfl (by decide) (by omega) vx xs (⟨o1, ty1, cl1, tl1, d1⟩ : S53) [.string o1, .int .i64 ty1, .int .i64 cl1, .int .i64 tl1, .string d1] (fun k => some k ≠ vu.ownBlock ∧ some k ≠ ve.ownBlock) (fun _ => False) rfl rfl ?aP (fun _ hk => hk.elim) ?aF ?aO ?aB ?aS ?aL ?_
                    (case aP => exact k53_mkM _ _ _ _)
                    (case aF => exact fun k hk => ⟨Kd.fresh_ok I3.out.m.ru k hk, Kd.fresh_ok I3.out.m.re k hk⟩)
                    (case aO => exact I3.out.m.ra)
                    (case aB => exact I3.out.m.bel)
                    (case aS => exact I3.out.m.bel.size)
                    (case aL => omega)
                    intro v1 w4 ho hb4 hg4 hat
                    obtain ⟨Av_, nv_, cv_, rfl⟩ : ∃ A n c, v1 = .slice A n c := (by obtain ⟨A, c, e⟩ := Kd.R_slice ho; exact ⟨A, _, c, e⟩)
                    have kz := blk_grown I3.out.m.msg hg4 (Kd.R_ne I3.out.m.ra I3.out.m.msg (by decide))
                    have kc := (blk_cell kz 12).trans rfl
                    have kf := blk_frozen kz 12
                    have I4 := Aside0.mk (DMI.put I3.out I3.out.m.ra (by decide) hg4 (I3.out.m.appA ho hb4 hg4 hat))
                    have PB4 := Aside0.mk (blk_far (p := ⟨gm, 12, none⟩) (blk_grown PB3.out hg4 (Kd.R_ne I3.out.m.ra PB3.out (by decide))) (fun e => blk_ne PB3.out I3.out.m.msg (by decide) e) (.slice Av_ nv_ cv_))
                    refine hK.out _ _ ((kc)) (fun hHeld => ?_)
                    clear hK K
                    refine norm_ (a' := ?_) ?_ ?_
                    rotate_left
                    · show Act.put _ (some 108) _ = _
                      simp only [Act.put, List.setIfInBounds_toArray, List.set_cons_zero, List.set_cons_succ, i64_w, i32_w]
                      rfl
                    refine pure_ (i := 8) (N := some 109) (v := ?_) (a' := ?_) #[true, true, true, true, true, true, true, true, true, false] rfl rfl (by kernel_rfl) (fun _ _ _ h => h) (Or.inl ⟨by rfl, ?_⟩) ?_ ?_
                    rotate_left
                    · intro w'
                      go_simp
                      with_reducible rfl
                    rotate_left
                    · simp only [Act.put, List.setIfInBounds_toArray, List.set_cons_zero, List.set_cons_succ, i64_w, i32_w]
                      rfl
                    refine last_ (i := 9) (N := none) #[true, true, true, true, true, true, true, true, true, true] rfl rfl (by kernel_rfl) (by decide) (fun K hK => ?_)
                    refine skip_ (w1 := ?_) (by rfl) rfl ?_ ?_
                    rotate_left
                    · go_simp
                      rfl
                    refine hK.out _ _ ?_
                    clear hK K
                    refine done_ (by kernel_rfl) ?_

                    go_wp2
                    go_roundw
                    case rel => exact ⟨j + 1, _, x1, y1, xs ++ [⟨o1, ty1, cl1, tl1, d1⟩], by go_num, by omega, I4, PB4, HL2⟩
                    case measure => simp [intOf]; omega
                  · have hx : p = px ∧ c = cx ∧ xs = lx := by
                      have hl2 := HL.out
                      by_cases h1 : j < n1
                      · rw [show n1 - j = (n1 - (j + 1)) + 1 by omega, impl_Decode.lr, if_neg (fun h => hlt ⟨h1, h⟩)] at hl2
                        simpa using hl2
                      · rw [show n1 - j = 0 by omega, impl_Decode.lr] at hl2
                        simpa using hl2
                    obtain ⟨rfl, rfl, rfl⟩ := hx
                    by_cases h1 : j < n1
                    case pos =>
                      have qlt : decide ((j : Int) < (n1 : Int)) = true := decide_eq_true (by omega)
                      have qlt2 : decide (j < n1) = true := decide_eq_true h1
                      have qlt3 : (j < n1) = True := eq_true h1
                      have qc : (c == 0) = false := beq_eq_false_iff_ne.mpr (fun h => hlt ⟨h1, h⟩)
                      have qc2 : (c = 0) = False := eq_false (fun h => hlt ⟨h1, h⟩)
                      clear hlt
                      go_wp2
                      go_roundw
                      case rel => exact ⟨1, vx, vu, ve, xs, u, e, p, c, (by first | rfl | go_num), by omega, I, PB, HRE2⟩
                      case measure => simp [intOf]
                    case neg =>
                      have qlt : decide ((j : Int) < (n1 : Int)) = false := decide_eq_false (by omega)
                      have qlt2 : decide (j < n1) = false := decide_eq_false h1
                      have qlt3 : (j < n1) = False := eq_false h1
                      go_wp2
                      go_roundw
                      case rel => exact ⟨1, vx, vu, ve, xs, u, e, p, c, (by first | rfl | go_num), by omega, I, PB, HRE2⟩
                      case measure => simp [intOf]
              · skip
                have hr2 := HRE.out
                rw [impl_Decode.rest] at hr2
                obtain ⟨⟨px, cx, lx⟩, B1, hr2⟩ := Option.bind_eq_some_iff.mp hr2
                have G1 := Aside0.mk B1
                have HRE2 := Aside0.mk (show impl_Decode.rest k l0 n1 n2 n3 2 px cx a lx e = some (p3, e3, q1, q2, q3) from hr2)
                clear B1 hr2 HRE
                have kp : wr.cell? ⟨gp, 1, none⟩ = some (.pointer (some ⟨gm, 13, none⟩)) := (blk_cell PB.out 1).trans rfl
                go_wp2
                clear kp
                obtain ⟨wo, rfl⟩ : ∃ wo : World, wo = wr := ⟨_, rfl⟩
                go_loopw [13] (fun i wr => ∃ (j : Nat) (vx : Value) (p c : Int) (xs : List (S53)), i = .int .i64 j ∧ j ≤ n2 ∧ Aside0 (DMI w wr (fun _ => True) w.heap.size (gh + 1) gd gm #[.int .i64 0, .bool false, .int .i64 0, .bool false, .bool false, .bool false, .bool false, .bool false, .bool false, .bool false, .int .i64 0, .slice none 0 0, .slice none 0 0, .slice none 0 0, .slice none 0 0] (cntC n0 n1 n2 n3) (⟨t1, t2, t3, t4, t5, t6, t7, t8, t9, t10, t11⟩ : S24) vq va vx ve q a xs e #[.slice A0 l0.length c0, .int .i64 p, .int .i64 c]) ∧ Aside0 (wr.heap[gp]? = some (.cells #[.pointer (some ⟨gm, 12, none⟩), .pointer (some ⟨gm, 13, none⟩), .pointer (some ⟨gm, 14, none⟩)] 50 (0, 0))) ∧ Aside0 (impl_Decode.lr k l0 (n2 - j) p c xs = some (px, cx, lx))) (fun i _ => n2 - (intOf i).toNat)
                case atStart => exact ⟨0, vu, _, _, u, rfl, Nat.zero_le _, I, PB, G1⟩
                case round =>
                  clear I PB G1
                  obtain ⟨j, vx, p, c, xs, rfl, hj, I, PB, HL⟩ := hrel
                  have kc0 : wr.cell? ⟨gh + 1, 2, none⟩ = some (.int .i64 n2) := (blk_cell I.out.m.cnt 2).trans rfl
                  have kd2 : wr.cell? ⟨gd, 2, none⟩ = some (.int .i64 c) := (blk_cell I.out.d 2).trans rfl
                  by_cases hlt : j < n2 ∧ c = 0
                  · obtain ⟨hlt, rfl⟩ := hlt
                    have hl2 := HL.out
                    rw [show n2 - j = (n2 - (j + 1)) + 1 by omega, impl_Decode.lr, if_pos rfl] at hl2
                    obtain ⟨⟨o1, ty1, cl1, tl1, d1, x1, y1⟩, B1, hl2⟩ := Option.bind_eq_some_iff.mp hl2
                    have G1 := Aside0.mk B1
                    split at hl2
                    case isFalse => cases hl2
                    case isTrue hlen =>
                    have HL2 := Aside0.mk hl2
                    clear B1 hl2 HL
                    have qlt : decide ((j : Int) < (n2 : Int)) = true := decide_eq_true (by omega)
                    have IE := Aside0.mk I.out.drew
                    have km : wr.cell? ⟨gm, 13, none⟩ = some vx := (blk_cell I.out.m.msg 13).trans rfl
                    go_upto_region 23 with fail
                    clear kc0 kd2 qlt
                    refine start_ (n := 10) (S := fun w' => w'.cell? ⟨gm, 13, none⟩ = some vx) (ds := [9]) #[false, false, false, false, false, false, false, false, false, false] (by kernel_rfl) rfl rfl (km) (fun hHeld => ?_)
                    refine pure_ (i := 0) (N := some 101) (v := ?_) (a' := ?_) #[true, false, false, false, false, false, false, false, false, false] rfl rfl (by kernel_rfl) (fun _ _ _ h => h) (Or.inl ⟨by rfl, ?_⟩) ?_ ?_
                    rotate_left
                    · intro w'
                      go_simp
                      with_reducible rfl
                    rotate_left
                    · simp only [Act.put, List.setIfInBounds_toArray, List.set_cons_zero, List.set_cons_succ, i64_w, i32_w]
                      rfl
                    refine pure_ (i := 1) (N := some 102) (v := ?_) (a' := ?_) #[true, true, false, false, false, false, false, false, false, false] rfl rfl (by kernel_rfl) (fun _ _ _ h => h) (Or.inl ⟨by rfl, ?_⟩) ?_ ?_
                    rotate_left
                    · intro w'
                      go_simp
                      with_reducible rfl
                    rotate_left
                    · simp only [Act.put, List.setIfInBounds_toArray, List.set_cons_zero, List.set_cons_succ, i64_w, i32_w]
                      rfl
                    refine pure_ (i := 2) (N := some 103) (v := ?_) (a' := ?_) #[true, true, true, false, false, false, false, false, false, false] rfl rfl (by kernel_rfl) (fun _ _ _ h => h) (Or.inl ⟨by rfl, ?_⟩) ?_ ?_
                    rotate_left
                    · intro w'
                      go_simp
                      with_reducible rfl
                    rotate_left
                    · simp only [Act.put, List.setIfInBounds_toArray, List.set_cons_zero, List.set_cons_succ, i64_w, i32_w]
                      rfl
                    refine pure_ (i := 4) (N := some 105) (v := ?_) (a' := ?_) #[true, true, true, false, true, false, false, false, false, false] rfl rfl (by kernel_rfl) (fun _ _ _ h => h) (Or.inl ⟨by rfl, ?_⟩) ?_ ?_
                    rotate_left
                    · intro w'
                      go_simp
                      with_reducible rfl
                    rotate_left
                    · simp only [Act.put, List.setIfInBounds_toArray, List.set_cons_zero, List.set_cons_succ, i64_w, i32_w]
                      rfl
                    refine take_ (i := 3) (N := some 104) (v := ?_) (a' := ?_) #[true, true, true, true, true, false, false, false, false, false] rfl rfl (by kernel_rfl) (fun _ _ _ h => h) (Or.inl ⟨by rfl, ?_⟩) hHeld ?_ ?_
                    rotate_left
                    · intro w' s0
                      go_simp
                      with_reducible rfl
                    rotate_left
                    · simp only [Act.put, List.setIfInBounds_toArray, List.set_cons_zero, List.set_cons_succ, i64_w, i32_w]
                      rfl
                    refine one_ (i := 5) (N := some 106) #[true, true, true, true, true, true, false, false, false, false] rfl rfl (by kernel_rfl) (by decide) (fun K hK => ?_)
                    refine goes_ Tryd.func17 (by kernel_rfl) rfl #[.pointer (some ⟨gd, 0, none⟩)] (by rfl) rfl rfl (by simp only [List.map_toArray, List.map_cons, List.map_nil]; rfl) ?_
                    with_reducible refine (impl_decoder_record.calls k w gd A0 c0 l0 p 0 _ _ _ _ _ _ _ _ HR.out hc0 IE.out.m.bel IE.out.hd IE.out.d G1.out HG.out).mono ?_
                    rintro e w3 ⟨rfl, hd, hb, hg⟩
                    refine ⟨_, rfl, ?_⟩
                    have I3 := Aside0.mk (IE.out.step hd hb hg)
                    have PB3 := Aside0.mk (blk_grown (w := wr.drew) PB.out hg (fun e => blk_ne (w := wr.drew) IE.out.d PB.out (by decide) (by injection e with e; exact e.symm)))
                    refine hK.out _ _ (((blk_cell I3.out.m.msg 13).trans rfl)) (fun hHeld => ?_)
                    clear hK K
                    refine norm_ (a' := ?_) ?_ ?_
                    rotate_left
                    · show Act.put _ (some 106) _ = _
                      simp only [Act.put, List.setIfInBounds_toArray, List.set_cons_zero, List.set_cons_succ, i64_w, i32_w]
                      rfl
                    refine one_ (i := 6) (N := some 107) #[true, true, true, true, true, true, true, false, false, false] rfl rfl (by kernel_rfl) (by decide) (fun K hK => ?_)
                    refine value_ (w1 := ?_) (v := ?_) (by rfl) rfl ?_ ?_
                    rotate_left 2
                    · go_simp
                      constructor
                      · rfl
                      · rfl
                    refine hK.out _ _ (((blk_cell (blk_alloc I3.out.m.msg _) 13).trans rfl)) (fun hHeld => ?_)
                    clear hK K
                    refine norm_ (a' := ?_) ?_ ?_
                    rotate_left
                    · show Act.put _ (some 107) _ = _
                      simp only [Act.put, List.setIfInBounds_toArray, List.set_cons_zero, List.set_cons_succ, i64_w, i32_w]
                      rfl
                    refine one_ (i := 7) (N := some 108) #[true, true, true, true, true, true, true, true, false, false] rfl rfl (by kernel_rfl) (by decide) (fun K hK => ?_)
                    refine Kd.R_append_step k53 (w0 := w) w.heap.size (by rfl) (.tmp 104) (.tmp 107) 26 53 (.agg #[.string ⟨#[]⟩, .int .i64 0, .int .i64 0, .int .i64 0, .string ⟨#[]⟩]) 56 rfl Tryd.underlying26 (by kernel_rfl) rfl (by decide) (by omega) vx xs (⟨o1, ty1, cl1, tl1, d1⟩ : S53) [.string o1, .int .i64 ty1, .int .i64 cl1, .int .i64 tl1, .string d1] (fun k => some k ≠ va.ownBlock ∧ some k ≠ ve.ownBlock) (fun _ => False) rfl rfl ?aP (fun _ hk => hk.elim) ?aF ?aO ?aB ?aS ?aL ?_
                    (case aP => exact k53_mkM _ _ _ _)
                    (case aF => exact fun k hk => ⟨Kd.fresh_ok I3.out.m.ra k hk, Kd.fresh_ok I3.out.m.re k hk⟩)
                    (case aO => exact I3.out.m.ru)
                    (case aB => exact I3.out.m.bel)
                    (case aS => exact I3.out.m.bel.size)
                    (case aL => omega)
                    intro v1 w4 ho hb4 hg4 hat
                    obtain ⟨Av_, nv_, cv_, rfl⟩ : ∃ A n c, v1 = .slice A n c := (by obtain ⟨A, c, e⟩ := Kd.R_slice ho; exact ⟨A, _, c, e⟩)
                    have kz := blk_grown I3.out.m.msg hg4 (Kd.R_ne I3.out.m.ru I3.out.m.msg (by decide))
                    have kc := (blk_cell kz 13).trans rfl
                    have kf := blk_frozen kz 13
                    have I4 := Aside0.mk (DMI.put I3.out I3.out.m.ru (by decide) hg4 (I3.out.m.appU ho hb4 hg4 hat))
                    have PB4 := Aside0.mk (blk_far (p := ⟨gm, 13, none⟩) (blk_grown PB3.out hg4 (Kd.R_ne I3.out.m.ru PB3.out (by decide))) (fun e => blk_ne PB3.out I3.out.m.msg (by decide) e) (.slice Av_ nv_ cv_))
                    refine hK.out _ _ ((kc)) (fun hHeld => ?_)
                    clear hK K
                    refine norm_ (a' := ?_) ?_ ?_
                    rotate_left
                    · show Act.put _ (some 108) _ = _
                      simp only [Act.put, List.setIfInBounds_toArray, List.set_cons_zero, List.set_cons_succ, i64_w, i32_w]
                      rfl
                    refine pure_ (i := 8) (N := some 109) (v := ?_) (a' := ?_) #[true, true, true, true, true, true, true, true, true, false] rfl rfl (by kernel_rfl) (fun _ _ _ h => h) (Or.inl ⟨by rfl, ?_⟩) ?_ ?_
                    rotate_left
                    · intro w'
                      go_simp
                      with_reducible rfl
                    rotate_left
                    · simp only [Act.put, List.setIfInBounds_toArray, List.set_cons_zero, List.set_cons_succ, i64_w, i32_w]
                      rfl
                    refine last_ (i := 9) (N := none) #[true, true, true, true, true, true, true, true, true, true] rfl rfl (by kernel_rfl) (by decide) (fun K hK => ?_)
                    refine skip_ (w1 := ?_) (by rfl) rfl ?_ ?_
                    rotate_left
                    · go_simp
                      rfl
                    refine hK.out _ _ ?_
                    clear hK K
                    refine done_ (by kernel_rfl) ?_

                    go_wp2
                    go_roundw
                    case rel => exact ⟨j + 1, _, x1, y1, xs ++ [⟨o1, ty1, cl1, tl1, d1⟩], by go_num, by omega, I4, PB4, HL2⟩
                    case measure => simp [intOf]; omega
                  · have hx : p = px ∧ c = cx ∧ xs = lx := by
                      have hl2 := HL.out
                      by_cases h1 : j < n2
                      · rw [show n2 - j = (n2 - (j + 1)) + 1 by omega, impl_Decode.lr, if_neg (fun h => hlt ⟨h1, h⟩)] at hl2
                        simpa using hl2
                      · rw [show n2 - j = 0 by omega, impl_Decode.lr] at hl2
                        simpa using hl2
                    obtain ⟨rfl, rfl, rfl⟩ := hx
                    by_cases h1 : j < n2
                    case pos =>
                      have qlt : decide ((j : Int) < (n2 : Int)) = true := decide_eq_true (by omega)
                      have qlt2 : decide (j < n2) = true := decide_eq_true h1
                      have qlt3 : (j < n2) = True := eq_true h1
                      have qc : (c == 0) = false := beq_eq_false_iff_ne.mpr (fun h => hlt ⟨h1, h⟩)
                      have qc2 : (c = 0) = False := eq_false (fun h => hlt ⟨h1, h⟩)
                      clear hlt
                      go_wp2
                      go_roundw
                      case rel => exact ⟨2, va, vx, ve, a, xs, e, p, c, (by first | rfl | go_num), by omega, I, PB, HRE2⟩
                      case measure => simp [intOf]
                    case neg =>
                      have qlt : decide ((j : Int) < (n2 : Int)) = false := decide_eq_false (by omega)
                      have qlt2 : decide (j < n2) = false := decide_eq_false h1
                      have qlt3 : (j < n2) = False := eq_false h1
                      go_wp2
                      go_roundw
                      case rel => exact ⟨2, va, vx, ve, a, xs, e, p, c, (by first | rfl | go_num), by omega, I, PB, HRE2⟩
                      case measure => simp [intOf]
              · skip
                have hr2 := HRE.out
                rw [impl_Decode.rest] at hr2
                obtain ⟨⟨px, cx, lx⟩, B1, hr2⟩ := Option.bind_eq_some_iff.mp hr2
                have G1 := Aside0.mk B1
                have HRE2 := Aside0.mk (show impl_Decode.rest k l0 n1 n2 n3 3 px cx a u lx = some (p3, e3, q1, q2, q3) from hr2)
                clear B1 hr2 HRE
                have kp : wr.cell? ⟨gp, 2, none⟩ = some (.pointer (some ⟨gm, 14, none⟩)) := (blk_cell PB.out 2).trans rfl
                go_wp2
                clear kp
                obtain ⟨wo, rfl⟩ : ∃ wo : World, wo = wr := ⟨_, rfl⟩
                go_loopw [13] (fun i wr => ∃ (j : Nat) (vx : Value) (p c : Int) (xs : List (S53)), i = .int .i64 j ∧ j ≤ n3 ∧ Aside0 (DMI w wr (fun _ => True) w.heap.size (gh + 1) gd gm #[.int .i64 0, .bool false, .int .i64 0, .bool false, .bool false, .bool false, .bool false, .bool false, .bool false, .bool false, .int .i64 0, .slice none 0 0, .slice none 0 0, .slice none 0 0, .slice none 0 0] (cntC n0 n1 n2 n3) (⟨t1, t2, t3, t4, t5, t6, t7, t8, t9, t10, t11⟩ : S24) vq va vu vx q a u xs #[.slice A0 l0.length c0, .int .i64 p, .int .i64 c]) ∧ Aside0 (wr.heap[gp]? = some (.cells #[.pointer (some ⟨gm, 12, none⟩), .pointer (some ⟨gm, 13, none⟩), .pointer (some ⟨gm, 14, none⟩)] 50 (0, 0))) ∧ Aside0 (impl_Decode.lr k l0 (n3 - j) p c xs = some (px, cx, lx))) (fun i _ => n3 - (intOf i).toNat)
                case atStart => exact ⟨0, ve, _, _, e, rfl, Nat.zero_le _, I, PB, G1⟩
                case round =>
                  clear I PB G1
                  obtain ⟨j, vx, p, c, xs, rfl, hj, I, PB, HL⟩ := hrel
                  have kc0 : wr.cell? ⟨gh + 1, 3, none⟩ = some (.int .i64 n3) := (blk_cell I.out.m.cnt 3).trans rfl
                  have kd2 : wr.cell? ⟨gd, 2, none⟩ = some (.int .i64 c) := (blk_cell I.out.d 2).trans rfl
                  by_cases hlt : j < n3 ∧ c = 0
                  · obtain ⟨hlt, rfl⟩ := hlt
                    have hl2 := HL.out
                    rw [show n3 - j = (n3 - (j + 1)) + 1 by omega, impl_Decode.lr, if_pos rfl] at hl2
                    obtain ⟨⟨o1, ty1, cl1, tl1, d1, x1, y1⟩, B1, hl2⟩ := Option.bind_eq_some_iff.mp hl2
                    have G1 := Aside0.mk B1
                    split at hl2
                    case isFalse => cases hl2
                    case isTrue hlen =>
                    have HL2 := Aside0.mk hl2
                    clear B1 hl2 HL
                    have qlt : decide ((j : Int) < (n3 : Int)) = true := decide_eq_true (by omega)
                    have IE := Aside0.mk I.out.drew
                    have km : wr.cell? ⟨gm, 14, none⟩ = some vx := (blk_cell I.out.m.msg 14).trans rfl
                    go_upto_region 23 with fail
                    clear kc0 kd2 qlt
                    refine start_ (n := 10) (S := fun w' => w'.cell? ⟨gm, 14, none⟩ = some vx) (ds := [9]) #[false, false, false, false, false, false, false, false, false, false] (by kernel_rfl) rfl rfl (km) (fun hHeld => ?_)
                    refine pure_ (i := 0) (N := some 101) (v := ?_) (a' := ?_) #[true, false, false, false, false, false, false, false, false, false] rfl rfl (by kernel_rfl) (fun _ _ _ h => h) (Or.inl ⟨by rfl, ?_⟩) ?_ ?_
                    rotate_left
                    · intro w'
                      go_simp
                      with_reducible rfl
                    rotate_left
                    · simp only [Act.put, List.setIfInBounds_toArray, List.set_cons_zero, List.set_cons_succ, i64_w, i32_w]
                      rfl
                    refine pure_ (i := 1) (N := some 102) (v := ?_) (a' := ?_) #[true, true, false, false, false, false, false, false, false, false] rfl rfl (by kernel_rfl) (fun _ _ _ h => h) (Or.inl ⟨by rfl, ?_⟩) ?_ ?_
                    rotate_left
                    · intro w'
                      go_simp
                      with_reducible rfl
                    rotate_left
                    · simp only [Act.put, List.setIfInBounds_toArray, List.set_cons_zero, List.set_cons_succ, i64_w, i32_w]
                      rfl
                    refine pure_ (i := 2) (N := some 103) (v := ?_) (a' := ?_) #[true, true, true, false, false, false, false, false, false, false] rfl rfl (by kernel_rfl) (fun _ _ _ h => h) (Or.inl ⟨by rfl, ?_⟩) ?_ ?_
                    rotate_left
                    · intro w'
                      go_simp
                      with_reducible rfl
                    rotate_left
                    · simp only [Act.put, List.setIfInBounds_toArray, List.set_cons_zero, List.set_cons_succ, i64_w, i32_w]
                      rfl
                    refine pure_ (i := 4) (N := some 105) (v := ?_) (a' := ?_) #[true, true, true, false, true, false, false, false, false, false] rfl rfl (by kernel_rfl) (fun _ _ _ h => h) (Or.inl ⟨by rfl, ?_⟩) ?_ ?_
                    rotate_left
                    · intro w'
                      go_simp
                      with_reducible rfl
                    rotate_left
                    · simp only [Act.put, List.setIfInBounds_toArray, List.set_cons_zero, List.set_cons_succ, i64_w, i32_w]
                      rfl
                    refine take_ (i := 3) (N := some 104) (v := ?_) (a' := ?_) #[true, true, true, true, true, false, false, false, false, false] rfl rfl (by kernel_rfl) (fun _ _ _ h => h) (Or.inl ⟨by rfl, ?_⟩) hHeld ?_ ?_
                    rotate_left
                    · intro w' s0
                      go_simp
                      with_reducible rfl
                    rotate_left
                    · simp only [Act.put, List.setIfInBounds_toArray, List.set_cons_zero, List.set_cons_succ, i64_w, i32_w]
                      rfl
                    refine one_ (i := 5) (N := some 106) #[true, true, true, true, true, true, false, false, false, false] rfl rfl (by kernel_rfl) (by decide) (fun K hK => ?_)
                    refine goes_ Tryd.func17 (by kernel_rfl) rfl #[.pointer (some ⟨gd, 0, none⟩)] (by rfl) rfl rfl (by simp only [List.map_toArray, List.map_cons, List.map_nil]; rfl) ?_
                    with_reducible refine (impl_decoder_record.calls k w gd A0 c0 l0 p 0 _ _ _ _ _ _ _ _ HR.out hc0 IE.out.m.bel IE.out.hd IE.out.d G1.out HG.out).mono ?_
                    rintro e w3 ⟨rfl, hd, hb, hg⟩
                    refine ⟨_, rfl, ?_⟩
                    have I3 := Aside0.mk (IE.out.step hd hb hg)
                    have PB3 := Aside0.mk (blk_grown (w := wr.drew) PB.out hg (fun e => blk_ne (w := wr.drew) IE.out.d PB.out (by decide) (by injection e with e; exact e.symm)))
                    refine hK.out _ _ (((blk_cell I3.out.m.msg 14).trans rfl)) (fun hHeld => ?_)
                    clear hK K
                    refine norm_ (a' := ?_) ?_ ?_
                    rotate_left
                    · show Act.put _ (some 106) _ = _
                      simp only [Act.put, List.setIfInBounds_toArray, List.set_cons_zero, List.set_cons_succ, i64_w, i32_w]
                      rfl
                    refine one_ (i := 6) (N := some 107) #[true, true, true, true, true, true, true, false, false, false] rfl rfl (by kernel_rfl) (by decide) (fun K hK => ?_)
                    refine value_ (w1 := ?_) (v := ?_) (by rfl) rfl ?_ ?_
                    rotate_left 2
                    · go_simp
                      constructor
                      · rfl
                      · rfl
                    refine hK.out _ _ (((blk_cell (blk_alloc I3.out.m.msg _) 14).trans rfl)) (fun hHeld => ?_)
                    clear hK K
                    refine norm_ (a' := ?_) ?_ ?_
                    rotate_left
                    · show Act.put _ (some 107) _ = _
                      simp only [Act.put, List.setIfInBounds_toArray, List.set_cons_zero, List.set_cons_succ, i64_w, i32_w]
                      rfl
                    refine one_ (i := 7) (N := some 108) #[true, true, true, true, true, true, true, true, false, false] rfl rfl (by kernel_rfl) (by decide) (fun K hK => ?_)
                    refine Kd.R_append_step k53 (w0 := w) w.heap.size (by rfl) (.tmp 104) (.tmp 107) 26 53 (.agg #[.string ⟨#[]⟩, .int .i64 0, .int .i64 0, .int .i64 0, .string ⟨#[]⟩]) 56 rfl Tryd.underlying26 (by kernel_rfl) rfl (by decide) (by omega) vx xs (⟨o1, ty1, cl1, tl1, d1⟩ : S53) [.string o1, .int .i64 ty1, .int .i64 cl1, .int .i64 tl1, .string d1] (fun k => some k ≠ va.ownBlock ∧ some k ≠ vu.ownBlock) (fun _ => False) rfl rfl ?aP (fun _ hk => hk.elim) ?aF ?aO ?aB ?aS ?aL ?_
                    (case aP => exact k53_mkM _ _ _ _)
                    (case aF => exact fun k hk => ⟨Kd.fresh_ok I3.out.m.ra k hk, Kd.fresh_ok I3.out.m.ru k hk⟩)
                    (case aO => exact I3.out.m.re)
                    (case aB => exact I3.out.m.bel)
                    (case aS => exact I3.out.m.bel.size)
                    (case aL => omega)
                    intro v1 w4 ho hb4 hg4 hat
                    obtain ⟨Av_, nv_, cv_, rfl⟩ : ∃ A n c, v1 = .slice A n c := (by obtain ⟨A, c, e⟩ := Kd.R_slice ho; exact ⟨A, _, c, e⟩)
                    have kz := blk_grown I3.out.m.msg hg4 (Kd.R_ne I3.out.m.re I3.out.m.msg (by decide))
                    have kc := (blk_cell kz 14).trans rfl
                    have kf := blk_frozen kz 14
                    have I4 := Aside0.mk (DMI.put I3.out I3.out.m.re (by decide) hg4 (I3.out.m.appE ho hb4 hg4 hat))
                    have PB4 := Aside0.mk (blk_far (p := ⟨gm, 14, none⟩) (blk_grown PB3.out hg4 (Kd.R_ne I3.out.m.re PB3.out (by decide))) (fun e => blk_ne PB3.out I3.out.m.msg (by decide) e) (.slice Av_ nv_ cv_))
                    refine hK.out _ _ ((kc)) (fun hHeld => ?_)
                    clear hK K
                    refine norm_ (a' := ?_) ?_ ?_
                    rotate_left
                    · show Act.put _ (some 108) _ = _
                      simp only [Act.put, List.setIfInBounds_toArray, List.set_cons_zero, List.set_cons_succ, i64_w, i32_w]
                      rfl
                    refine pure_ (i := 8) (N := some 109) (v := ?_) (a' := ?_) #[true, true, true, true, true, true, true, true, true, false] rfl rfl (by kernel_rfl) (fun _ _ _ h => h) (Or.inl ⟨by rfl, ?_⟩) ?_ ?_
                    rotate_left
                    · intro w'
                      go_simp
                      with_reducible rfl
                    rotate_left
                    · simp only [Act.put, List.setIfInBounds_toArray, List.set_cons_zero, List.set_cons_succ, i64_w, i32_w]
                      rfl
                    refine last_ (i := 9) (N := none) #[true, true, true, true, true, true, true, true, true, true] rfl rfl (by kernel_rfl) (by decide) (fun K hK => ?_)
                    refine skip_ (w1 := ?_) (by rfl) rfl ?_ ?_
                    rotate_left
                    · go_simp
                      rfl
                    refine hK.out _ _ ?_
                    clear hK K
                    refine done_ (by kernel_rfl) ?_

                    go_wp2
                    go_roundw
                    case rel => exact ⟨j + 1, _, x1, y1, xs ++ [⟨o1, ty1, cl1, tl1, d1⟩], by go_num, by omega, I4, PB4, HL2⟩
                    case measure => simp [intOf]; omega
                  · have hx : p = px ∧ c = cx ∧ xs = lx := by
                      have hl2 := HL.out
                      by_cases h1 : j < n3
                      · rw [show n3 - j = (n3 - (j + 1)) + 1 by omega, impl_Decode.lr, if_neg (fun h => hlt ⟨h1, h⟩)] at hl2
                        simpa using hl2
                      · rw [show n3 - j = 0 by omega, impl_Decode.lr] at hl2
                        simpa using hl2
                    obtain ⟨rfl, rfl, rfl⟩ := hx
                    by_cases h1 : j < n3
                    case pos =>
                      have qlt : decide ((j : Int) < (n3 : Int)) = true := decide_eq_true (by omega)
                      have qlt2 : decide (j < n3) = true := decide_eq_true h1
                      have qlt3 : (j < n3) = True := eq_true h1
                      have qc : (c == 0) = false := beq_eq_false_iff_ne.mpr (fun h => hlt ⟨h1, h⟩)
                      have qc2 : (c = 0) = False := eq_false (fun h => hlt ⟨h1, h⟩)
                      clear hlt
                      go_wp2
                      go_roundw
                      case rel => exact ⟨3, va, vu, vx, a, u, xs, p, c, (by first | rfl | go_num), by omega, I, PB, HRE2⟩
                      case measure => simp [intOf]
                    case neg =>
                      have qlt : decide ((j : Int) < (n3 : Int)) = false := decide_eq_false (by omega)
                      have qlt2 : decide (j < n3) = false := decide_eq_false h1
                      have qlt3 : (j < n3) = False := eq_false h1
                      go_wp2
                      go_roundw
                      case rel => exact ⟨3, va, vu, vx, a, u, xs, p, c, (by first | rfl | go_num), by omega, I, PB, HRE2⟩
                      case measure => simp [intOf]
              · have hr2 : some (p, c, a, u, e) = some (p3, e3, q1, q2, q3) := HRE.out
                simp only [Option.some.injEq, Prod.mk.injEq] at hr2
                obtain ⟨rfl, rfl, rfl, rfl, rfl⟩ := hr2
                have hend := HEND.out
                clear HRE HEND
                have kd2 : wr.cell? ⟨gd, 2, none⟩ = some (.int .i64 c) := (blk_cell I.out.d 2).trans rfl
                have kd1 : wr.cell? ⟨gd, 1, none⟩ = some (.int .i64 p) := (blk_cell I.out.d 1).trans rfl
                by_cases hc : c = 0
                · rw [if_pos hc] at hend
                  subst hc
                  by_cases hp : p = (l0.length : Int)
                  · rw [if_pos hp] at hend
                    simp only [Option.some.injEq, Prod.mk.injEq] at hend
                    obtain ⟨rfl, rfl, rfl, rfl, rfl, rfl, rfl, rfl, rfl, rfl, rfl, rfl, rfl, rfl, rfl, rfl⟩ := hend
                    have qp : (p != (l0.length : Int)) = false := bne_eq_false_iff_eq.mpr hp
                    obtain ⟨Aq, nq, cq, rfl⟩ : ∃ A n c, vq = .slice A n c := (by obtain ⟨A, c, e⟩ := Kd.R_slice I.out.m.rq; exact ⟨A, _, c, e⟩)
                    obtain ⟨Aa, na, ca, rfl⟩ : ∃ A n c, va = .slice A n c := (by obtain ⟨A, c, e⟩ := Kd.R_slice I.out.m.ra; exact ⟨A, _, c, e⟩)
                    obtain ⟨Au, nu, cu, rfl⟩ : ∃ A n c, vu = .slice A n c := (by obtain ⟨A, c, e⟩ := Kd.R_slice I.out.m.ru; exact ⟨A, _, c, e⟩)
                    obtain ⟨Ae, ne, ce, rfl⟩ : ∃ A n c, ve = .slice A n c := (by obtain ⟨A, c, e⟩ := Kd.R_slice I.out.m.re; exact ⟨A, _, c, e⟩)
                    clear hp
                    go_wp2_with (first | ((with_reducible refine gate_ (.load 28 (.tmp 8)) rfl ?_); refine wpList_load_row rfl 28 (.tmp 8) rfl gm rfl 28 _ _ _ I.out.m.msg Tryd.underlying28 rfl ?hi ?_; (case hi => kernel_rfl)) | ((with_reducible refine gate_store (t := 28) (p := 2) rfl ?_); refine wpList_store_row rfl 28 (.tmp 2) _ rfl w.heap.size (msgC (⟨t1, t2, t3, t4, t5, t6, t7, t8, t9, t10, t11⟩ : S24) (.slice Aq nq cq) (.slice Aa na ca) (.slice Au nu cu) (.slice Ae ne ce)) rfl rfl _ _ (I.out.m.res) ?hi ?ho ?h1 ?_; (case hi => kernel_rfl); (case ho => rfl); (case h1 => kernel_rfl)))
                    obtain ⟨z1, z2⟩ := I.out.m.ret (S := msgC (⟨t1, t2, t3, t4, t5, t6, t7, t8, t9, t10, t11⟩ : S24) (.slice Aq nq cq) (.slice Aa na ca) (.slice Au nu cu) (.slice Ae ne ce))
                    obtain ⟨y1, y2, y3, y4⟩ := I.out.m.ret_rows (okq' := fun _ => True) (fun _ _ => trivial) (S := msgC (⟨t1, t2, t3, t4, t5, t6, t7, t8, t9, t10, t11⟩ : S24) (.slice Aq nq cq) (.slice Aa na ca) (.slice Au nu cu) (.slice Ae ne ce))
                    exact bodyPost_ret (results_ct rfl _ _ w.heap.size 28 (msgC (⟨t1, t2, t3, t4, t5, t6, t7, t8, t9, t10, t11⟩ : S24) (.slice Aq nq cq) (.slice Aa na ca) (.slice Au nu cu) (.slice Ae ne ce)) (0, 0) _ rfl z1 Tryd.underlying28 rfl (by kernel_rfl)) rfl ⟨_, _, _, _, rfl, y1, y2, y3, y4, z2⟩
                  · rw [if_neg hp] at hend
                    simp only [msgZ, Option.some.injEq, Prod.mk.injEq] at hend
                    obtain ⟨rfl, rfl, rfl, rfl, rfl, rfl, rfl, rfl, rfl, rfl, rfl, rfl, rfl, rfl, rfl, rfl⟩ := hend
                    have qp : (p != (l0.length : Int)) = true := bne_iff_ne.mpr hp
                    go_wp2_with (first | ((with_reducible refine gate_store (t := 28) (p := 2) rfl ?_); refine wpList_store_row rfl 28 (.tmp 2) _ rfl w.heap.size (#[.int .i64 0, .bool false, .int .i64 0, .bool false, .bool false, .bool false, .bool false, .bool false, .bool false, .bool false, .int .i64 0, .slice none 0 0, .slice none 0 0, .slice none 0 0, .slice none 0 0]) rfl rfl _ _ (I.out.m.res) ?hi ?ho ?h1 ?_; (case hi => kernel_rfl); (case ho => rfl); (case h1 => kernel_rfl)))
                    exact bodyPost_ret (results_ct rfl _ _ w.heap.size 28 #[.int .i64 0, .bool false, .int .i64 0, .bool false, .bool false, .bool false, .bool false, .bool false, .bool false, .bool false, .int .i64 0, .slice none 0 0, .slice none 0 0, .slice none 0 0, .slice none 0 0] (0, 0) _ rfl (I.out.m.ret (S := #[.int .i64 0, .bool false, .int .i64 0, .bool false, .bool false, .bool false, .bool false, .bool false, .bool false, .bool false, .int .i64 0, .slice none 0 0, .slice none 0 0, .slice none 0 0, .slice none 0 0])).1 Tryd.underlying28 rfl (by kernel_rfl)) rfl ⟨_, _, _, _, rfl, Kd.R_nil _ _ _ _ _, Kd.R_nil _ _ _ _ _, Kd.R_nil _ _ _ _ _, Kd.R_nil _ _ _ _ _, (I.out.m.ret (S := #[.int .i64 0, .bool false, .int .i64 0, .bool false, .bool false, .bool false, .bool false, .bool false, .bool false, .bool false, .int .i64 0, .slice none 0 0, .slice none 0 0, .slice none 0 0, .slice none 0 0])).2⟩
                · rw [if_neg hc] at hend
                  simp only [msgZ, Option.some.injEq, Prod.mk.injEq] at hend
                  obtain ⟨rfl, rfl, rfl, rfl, rfl, rfl, rfl, rfl, rfl, rfl, rfl, rfl, rfl, rfl, rfl, rfl⟩ := hend
                  have qc : (c != 0) = true := bne_iff_ne.mpr hc
                  clear hc kd1
                  go_upto_region 26 with fail
                  have IE := Aside0.mk I.out.drew
                  have hne : gd ≠ w.heap.size := fun e => blk_ne I.out.d I.out.m.res (by decide) e
                  refine start_ (n := 7) (S := fun w' => w'.cell? ⟨gd, 2, none⟩ = some (.int .i64 c)) (ds := []) #[false, false, false, false, false, false, false] (by kernel_rfl) rfl rfl (kd2) (fun hHeld => ?_)
                  refine pure_ (i := 0) (N := some 116) (v := ?_) (a' := ?_) #[true, false, false, false, false, false, false] rfl rfl (by kernel_rfl) (fun _ _ _ h => h) (Or.inl ⟨by rfl, ?_⟩) ?_ ?_
                  rotate_left
                  · intro w'
                    go_simp
                    with_reducible rfl
                  rotate_left
                  · simp only [Act.put, List.setIfInBounds_toArray, List.set_cons_zero, List.set_cons_succ, i64_w, i32_w]
                    rfl
                  refine pure_ (i := 1) (N := some 117) (v := ?_) (a' := ?_) #[true, true, false, false, false, false, false] rfl rfl (by kernel_rfl) (fun _ _ _ h => h) (Or.inl ⟨by rfl, ?_⟩) ?_ ?_
                  rotate_left
                  · intro w'
                    go_simp
                    with_reducible rfl
                  rotate_left
                  · simp only [Act.put, List.setIfInBounds_toArray, List.set_cons_zero, List.set_cons_succ, i64_w, i32_w]
                    rfl
                  refine pure_ (i := 2) (N := some 118) (v := ?_) (a' := ?_) #[true, true, true, false, false, false, false] rfl rfl (by kernel_rfl) (fun _ _ _ h => h) (Or.inl ⟨by rfl, ?_⟩) ?_ ?_
                  rotate_left
                  · intro w'
                    go_simp
                    with_reducible rfl
                  rotate_left
                  · simp only [Act.put, List.setIfInBounds_toArray, List.set_cons_zero, List.set_cons_succ, i64_w, i32_w]
                    rfl
                  refine pure_ (i := 3) (N := some 119) (v := ?_) (a' := ?_) #[true, true, true, true, false, false, false] rfl rfl (by kernel_rfl) (fun _ _ _ h => h) (Or.inl ⟨by rfl, ?_⟩) ?_ ?_
                  rotate_left
                  · intro w'
                    go_simp
                    with_reducible rfl
                  rotate_left
                  · simp only [Act.put, List.setIfInBounds_toArray, List.set_cons_zero, List.set_cons_succ, i64_w, i32_w]
                    rfl
                  refine take_ (i := 4) (N := some 120) (v := ?_) (a' := ?_) #[true, true, true, true, true, false, false] rfl rfl (by kernel_rfl) (fun _ _ _ h => h) (Or.inl ⟨by rfl, ?_⟩) hHeld ?_ ?_
                  rotate_left
                  · intro w' s0
                    go_simp
                    with_reducible rfl
                  rotate_left
                  · simp only [Act.put, List.setIfInBounds_toArray, List.set_cons_zero, List.set_cons_succ, i64_w, i32_w]
                    rfl
                  refine one_ (i := 5) (N := none) #[true, true, true, true, true, true, false] rfl rfl (by kernel_rfl) (by decide) (fun K hK => ?_)
                  refine storeRowD_ (by rfl) 28 (.tmp 2) (.tmp 116) rfl w.heap.size (#[.int .i64 0, .bool false, .int .i64 0, .bool false, .bool false, .bool false, .bool false, .bool false, .bool false, .bool false, .int .i64 0, .slice none 0 0, .slice none 0 0, .slice none 0 0, .slice none 0 0]) rfl rfl 28 _ IE.out.m.res ?hi ?ho ?h1 ?_
                  (case hi => kernel_rfl)
                  (case ho => rfl)
                  (case h1 => kernel_rfl)
                  refine hK.out _ _ (((blk_cell ((setRow_other _ _ _ _ hne).trans IE.out.d) 2).trans rfl)) (fun hHeld => ?_)
                  clear hK K
                  refine pure_ (i := 6) (N := some 3) (v := ?_) (a' := ?_) #[true, true, true, true, true, true, true] rfl rfl (by kernel_rfl) (fun _ _ _ h => h) (Or.inl ⟨by rfl, ?_⟩) ?_ ?_
                  rotate_left
                  · intro w'
                    go_simp
                    with_reducible rfl
                  rotate_left
                  · simp only [Act.put, List.setIfInBounds_toArray, List.set_cons_zero, List.set_cons_succ, i64_w, i32_w]
                    rfl
                  refine done_ (by kernel_rfl) ?_

                  go_wp2
                  exact bodyPost_ret (results_ct rfl _ _ w.heap.size 28 #[.int .i64 0, .bool false, .int .i64 0, .bool false, .bool false, .bool false, .bool false, .bool false, .bool false, .bool false, .int .i64 0, .slice none 0 0, .slice none 0 0, .slice none 0 0, .slice none 0 0] (0, 0) _ rfl (IE.out.m.ret (S := #[.int .i64 0, .bool false, .int .i64 0, .bool false, .bool false, .bool false, .bool false, .bool false, .bool false, .bool false, .int .i64 0, .slice none 0 0, .slice none 0 0, .slice none 0 0, .slice none 0 0])).1 Tryd.underlying28 rfl (by kernel_rfl)) rfl ⟨_, _, _, _, rfl, Kd.R_nil _ _ _ _ _, Kd.R_nil _ _ _ _ _, Kd.R_nil _ _ _ _ _, Kd.R_nil _ _ _ _ _, (IE.out.m.ret (S := #[.int .i64 0, .bool false, .int .i64 0, .bool false, .bool false, .bool false, .bool false, .bool false, .bool false, .bool false, .int .i64 0, .slice none 0 0, .slice none 0 0, .slice none 0 0, .slice none 0 0])).2⟩

end Go.Proofs.YtcamchdenjpmhaaDoor.F
namespace Go.Proofs.YtcamchdenjpmhaaDoor.F
open Go Go.Shelf Go.RowKit Go.Proofs.YtcamchdenjpmhaaDoorW.PrintWords Go.Proofs.YtcamchdenjpmhaaDoorW.PrintLast Go.Proofs.YtcamchdenjpmhaaDoorW.PrintMore
attribute [local go_sem] max2_int min2_int max_two min_two max_three min_three max_four min_four   -- for this text's walks alone
set_option linter.unusedVariables false
set_option linter.unusedSimpArgs false

/-! ### laws_eqMessage: function 7 -/
set_option maxHeartbeats 4000000 in
set_option maxRecDepth 100000 in
theorem laws_eqHead.same (x : S24) (w : World) : Calls Tryd.prog 18 #[.agg (headC x), .agg (headC x)] w fun e w' => e = .returned (.bool true) ∧ Below w.heap.size w w' := by
  unfold headC
  go_enter Tryd.func18, Tryd.ntmps18
  go_wp2
  go_ret
  exact ⟨rfl, below_alloc (below_alloc (Below.refl _ _) _) _⟩
set_option maxHeartbeats 4000000 in
set_option maxRecDepth 100000 in
theorem laws_eqRR.same (x : S53) (w : World) : Calls Tryd.prog 35 #[.agg (#[.string x.f0, .int .i64 x.f1, .int .i64 x.f2, .int .i64 x.f3, .string x.f4]), .agg (#[.string x.f0, .int .i64 x.f1, .int .i64 x.f2, .int .i64 x.f3, .string x.f4])] w fun e w' => e = .returned (.bool true) ∧ Below w.heap.size w w' := by
  go_enter Tryd.func35, Tryd.ntmps35
  go_wp2
  go_ret
  exact ⟨rfl, below_alloc (below_alloc (Below.refl _ _) _) _⟩
set_option maxHeartbeats 4000000 in
set_option maxRecDepth 100000 in
theorem laws_eqQuestion.same (x : S47) (w : World) : Calls Tryd.prog 34 #[.agg (#[.string x.f0, .int .i64 x.f1, .int .i64 x.f2]), .agg (#[.string x.f0, .int .i64 x.f1, .int .i64 x.f2])] w fun e w' => e = .returned (.bool true) ∧ Below w.heap.size w w' := by
  go_enter Tryd.func34, Tryd.ntmps34
  go_wp2
  go_ret
  exact ⟨rfl, below_alloc (below_alloc (Below.refl _ _) _) _⟩
set_option maxHeartbeats 4000000 in
set_option maxRecDepth 100000 in
theorem laws_eqRRS.same (A0 : Option Addr) (c0 : Nat) (A1 : Option Addr) (c1 : Nat) (l : List S53) (w : World) (hr0 : Kd.C k53 w A0 l.length l) (hr1 : Kd.C k53 w A1 l.length l) :
    Calls Tryd.prog 20 #[.slice A0 l.length c0, .slice A1 l.length c1] w fun e w' => e = .returned (.bool true) ∧ Below w.heap.size w w' := by
  have H0 := Aside0.mk hr0
  have H1 := Aside0.mk hr1
  have hmx := Kd.C_max hr0
  clear hr0 hr1
  go_enter Tryd.func20, Tryd.ntmps20
  go_wp2
  go_loopw [5] (fun i wr => ∃ j : Nat, j ≤ l.length ∧ i = .int .i64 j ∧ Aside0 (Below w.heap.size w wr)) (fun i _ => l.length - (intOf i).toNat)
  case atStart => exact ⟨0, Nat.zero_le _, rfl, ⟨Below.refl _ _⟩⟩
  case round =>
    obtain ⟨j, hj, rfl, HB⟩ := hrel
    by_cases hlt : j < l.length
    · obtain ⟨ad, e0, hx0, hx1, hx2, hx3, hx4⟩ := at_T53 (Kd.C_below H0.out HB.out) (j : Int) (by omega) (by omega)
      obtain ⟨ae, e1, hy0, hy1, hy2, hy3, hy4⟩ := at_T53 (Kd.C_below H1.out HB.out) (j : Int) (by omega) (by omega)
      cases e0
      cases e1
      rw [Int.toNat_natCast] at hx0 hx1 hx2 hx3 hx4 hy0 hy1 hy2 hy3 hy4
      have q1 : decide ((j : Int) < (l.length : Int)) = true := decide_eq_true (by omega)
      have q2 : decide (j < l.length) = true := decide_eq_true hlt
      go_upto_region 6 with fail
      refine start_ (n := 10) (S := fun w' => w'.cell? (ad.add (j * 5)) = some (.string (rd_T53 l (j : Int)).f0) ∧ w'.cell? ⟨(ad.add (j * 5)).block, (ad.add (j * 5)).off + 1, none⟩ = some (.int .i64 (rd_T53 l (j : Int)).f1) ∧ w'.cell? ⟨(ad.add (j * 5)).block, (ad.add (j * 5)).off + 2, none⟩ = some (.int .i64 (rd_T53 l (j : Int)).f2) ∧ w'.cell? ⟨(ad.add (j * 5)).block, (ad.add (j * 5)).off + 3, none⟩ = some (.int .i64 (rd_T53 l (j : Int)).f3) ∧ w'.cell? ⟨(ad.add (j * 5)).block, (ad.add (j * 5)).off + 4, none⟩ = some (.string (rd_T53 l (j : Int)).f4) ∧ w'.cell? (ae.add (j * 5)) = some (.string (rd_T53 l (j : Int)).f0) ∧ w'.cell? ⟨(ae.add (j * 5)).block, (ae.add (j * 5)).off + 1, none⟩ = some (.int .i64 (rd_T53 l (j : Int)).f1) ∧ w'.cell? ⟨(ae.add (j * 5)).block, (ae.add (j * 5)).off + 2, none⟩ = some (.int .i64 (rd_T53 l (j : Int)).f2) ∧ w'.cell? ⟨(ae.add (j * 5)).block, (ae.add (j * 5)).off + 3, none⟩ = some (.int .i64 (rd_T53 l (j : Int)).f3) ∧ w'.cell? ⟨(ae.add (j * 5)).block, (ae.add (j * 5)).off + 4, none⟩ = some (.string (rd_T53 l (j : Int)).f4)) (ds := []) #[false, false, false, false, false, false, false, false, false, false] (by kernel_rfl) rfl rfl ⟨hx0, hx1, hx2, hx3, hx4, hy0, hy1, hy2, hy3, hy4⟩ (fun hHeld => ?_)
      refine pure_ (i := 0) (N := some 17) (v := ?_) (a' := ?_) #[true, false, false, false, false, false, false, false, false, false] rfl rfl (by kernel_rfl) (fun _ _ _ h => h) (Or.inl ⟨by rfl, ?_⟩) ?_ ?_
      rotate_left
      · intro w'
        go_simp
        with_reducible rfl
      rotate_left
      · simp only [Act.put, List.setIfInBounds_toArray, List.set_cons_zero, List.set_cons_succ, i64_w, i32_w]
        rfl
      refine pure_ (i := 1) (N := some 18) (v := ?_) (a' := ?_) #[true, true, false, false, false, false, false, false, false, false] rfl rfl (by kernel_rfl) (fun _ _ _ h => h) (Or.inl ⟨by rfl, ?_⟩) ?_ ?_
      rotate_left
      · intro w'
        go_simp
        with_reducible rfl
      rotate_left
      · simp only [Act.put, List.setIfInBounds_toArray, List.set_cons_zero, List.set_cons_succ, i64_w, i32_w]
        rfl
      refine pure_ (i := 2) (N := some 19) (v := ?_) (a' := ?_) #[true, true, true, false, false, false, false, false, false, false] rfl rfl (by kernel_rfl) (fun _ _ _ h => h) (Or.inl ⟨by rfl, ?_⟩) ?_ ?_
      rotate_left
      · intro w'
        go_simp
        with_reducible rfl
      rotate_left
      · simp only [Act.put, List.setIfInBounds_toArray, List.set_cons_zero, List.set_cons_succ, i64_w, i32_w]
        rfl
      refine pure_ (i := 4) (N := some 21) (v := ?_) (a' := ?_) #[true, true, true, false, true, false, false, false, false, false] rfl rfl (by kernel_rfl) (fun _ _ _ h => h) (Or.inl ⟨by rfl, ?_⟩) ?_ ?_
      rotate_left
      · intro w'
        go_simp
        with_reducible rfl
      rotate_left
      · simp only [Act.put, List.setIfInBounds_toArray, List.set_cons_zero, List.set_cons_succ, i64_w, i32_w]
        rfl
      refine pure_ (i := 5) (N := some 22) (v := ?_) (a' := ?_) #[true, true, true, false, true, true, false, false, false, false] rfl rfl (by kernel_rfl) (fun _ _ _ h => h) (Or.inl ⟨by rfl, ?_⟩) ?_ ?_
      rotate_left
      · intro w'
        go_simp
        with_reducible rfl
      rotate_left
      · simp only [Act.put, List.setIfInBounds_toArray, List.set_cons_zero, List.set_cons_succ, i64_w, i32_w]
        rfl
      refine pure_ (i := 6) (N := some 23) (v := ?_) (a' := ?_) #[true, true, true, false, true, true, true, false, false, false] rfl rfl (by kernel_rfl) (fun _ _ _ h => h) (Or.inl ⟨by rfl, ?_⟩) ?_ ?_
      rotate_left
      · intro w'
        go_simp
        with_reducible rfl
      rotate_left
      · simp only [Act.put, List.setIfInBounds_toArray, List.set_cons_zero, List.set_cons_succ, i64_w, i32_w]
        rfl
      refine take_ (i := 3) (N := some 20) (v := ?_) (a' := ?_) #[true, true, true, true, true, true, true, false, false, false] rfl rfl (by kernel_rfl) (fun _ _ _ h => h) (Or.inl ⟨by rfl, ?_⟩) hHeld ?_ ?_
      rotate_left
      · rintro w' ⟨s0, s1, s2, s3, s4, s5, s6, s7, s8, s9⟩
        go_simp
        with_reducible rfl
      rotate_left
      · simp only [Act.put, List.setIfInBounds_toArray, List.set_cons_zero, List.set_cons_succ, i64_w, i32_w]
        rfl
      refine take_ (i := 7) (N := some 24) (v := ?_) (a' := ?_) #[true, true, true, true, true, true, true, true, false, false] rfl rfl (by kernel_rfl) (fun _ _ _ h => h) (Or.inl ⟨by rfl, ?_⟩) hHeld ?_ ?_
      rotate_left
      · rintro w' ⟨s0, s1, s2, s3, s4, s5, s6, s7, s8, s9⟩
        go_simp
        with_reducible rfl
      rotate_left
      · simp only [Act.put, List.setIfInBounds_toArray, List.set_cons_zero, List.set_cons_succ, i64_w, i32_w]
        rfl
      refine one_ (i := 8) (N := some 25) #[true, true, true, true, true, true, true, true, true, false] rfl rfl (by kernel_rfl) (by decide) (fun K hK => ?_)
      refine goes_ Tryd.func35 (by kernel_rfl) rfl #[.agg #[.string (rd_T53 l (j : Int)).f0, .int .i64 (rd_T53 l (j : Int)).f1, .int .i64 (rd_T53 l (j : Int)).f2, .int .i64 (rd_T53 l (j : Int)).f3, .string (rd_T53 l (j : Int)).f4], .agg #[.string (rd_T53 l (j : Int)).f0, .int .i64 (rd_T53 l (j : Int)).f1, .int .i64 (rd_T53 l (j : Int)).f2, .int .i64 (rd_T53 l (j : Int)).f3, .string (rd_T53 l (j : Int)).f4]] (by rfl) rfl rfl (by simp only [List.map_toArray, List.map_cons, List.map_nil]; rfl) ?_
      with_reducible refine (laws_eqRR.same (rd_T53 l (j : Int)) _).mono ?_
      rintro e w3 ⟨rfl, hb⟩
      refine ⟨_, rfl, ?_⟩
      have HB3 := Aside0.mk (below_step (below_drew HB.out) hb)
      refine hK.out _ _ ⟨((hb.cell (World.block_lt_of_cell? _ _ hx0)).trans hx0), ((hb.cell (World.block_lt_of_cell? _ _ hx1)).trans hx1), ((hb.cell (World.block_lt_of_cell? _ _ hx2)).trans hx2), ((hb.cell (World.block_lt_of_cell? _ _ hx3)).trans hx3), ((hb.cell (World.block_lt_of_cell? _ _ hx4)).trans hx4), ((hb.cell (World.block_lt_of_cell? _ _ hy0)).trans hy0), ((hb.cell (World.block_lt_of_cell? _ _ hy1)).trans hy1), ((hb.cell (World.block_lt_of_cell? _ _ hy2)).trans hy2), ((hb.cell (World.block_lt_of_cell? _ _ hy3)).trans hy3), ((hb.cell (World.block_lt_of_cell? _ _ hy4)).trans hy4)⟩ (fun hHeld => ?_)
      clear hK K
      refine norm_ (a' := ?_) ?_ ?_
      rotate_left
      · show Act.put _ (some 25) _ = _
        simp only [Act.put, List.setIfInBounds_toArray, List.set_cons_zero, List.set_cons_succ, i64_w, i32_w]
        rfl
      refine pure_ (i := 9) (N := some 26) (v := ?_) (a' := ?_) #[true, true, true, true, true, true, true, true, true, true] rfl rfl (by kernel_rfl) (fun _ _ _ h => h) (Or.inl ⟨by rfl, ?_⟩) ?_ ?_
      rotate_left
      · intro w'
        go_simp
        with_reducible rfl
      rotate_left
      · simp only [Act.put, List.setIfInBounds_toArray, List.set_cons_zero, List.set_cons_succ, i64_w, i32_w]
        rfl
      refine done_ (by kernel_rfl) ?_

      clear hx0 hx1 hx2 hx3 hx4 hy0 hy1 hy2 hy3 hy4 hb
      go_wp2
      go_roundw
      case rel => exact ⟨j + 1, by omega, by go_num, HB3⟩
      case measure => simp [intOf]; omega
    · obtain rfl : j = l.length := by omega
      have q1 : decide ((l.length : Int) < (l.length : Int)) = false := decide_eq_false (by omega)
      have q2 : decide (l.length < l.length) = false := decide_eq_false (by omega)
      go_wp2
      go_ret
      exact ⟨rfl, HB.out⟩
set_option maxHeartbeats 4000000 in
set_option maxRecDepth 100000 in
theorem laws_eqQuestionS.same (A0 : Option Addr) (c0 : Nat) (A1 : Option Addr) (c1 : Nat) (l : List S47) (w : World) (hr0 : Kd.C k47 w A0 l.length l) (hr1 : Kd.C k47 w A1 l.length l) :
    Calls Tryd.prog 19 #[.slice A0 l.length c0, .slice A1 l.length c1] w fun e w' => e = .returned (.bool true) ∧ Below w.heap.size w w' := by
  have H0 := Aside0.mk hr0
  have H1 := Aside0.mk hr1
  have hmx := Kd.C_max hr0
  clear hr0 hr1
  go_enter Tryd.func19, Tryd.ntmps19
  go_wp2
  go_loopw [5] (fun i wr => ∃ j : Nat, j ≤ l.length ∧ i = .int .i64 j ∧ Aside0 (Below w.heap.size w wr)) (fun i _ => l.length - (intOf i).toNat)
  case atStart => exact ⟨0, Nat.zero_le _, rfl, ⟨Below.refl _ _⟩⟩
  case round =>
    obtain ⟨j, hj, rfl, HB⟩ := hrel
    by_cases hlt : j < l.length
    · obtain ⟨ad, e0, hx0, hx1, hx2⟩ := at_T47 (Kd.C_below H0.out HB.out) (j : Int) (by omega) (by omega)
      obtain ⟨ae, e1, hy0, hy1, hy2⟩ := at_T47 (Kd.C_below H1.out HB.out) (j : Int) (by omega) (by omega)
      cases e0
      cases e1
      rw [Int.toNat_natCast] at hx0 hx1 hx2 hy0 hy1 hy2
      have q1 : decide ((j : Int) < (l.length : Int)) = true := decide_eq_true (by omega)
      have q2 : decide (j < l.length) = true := decide_eq_true hlt
      go_upto_region 6 with fail
      refine start_ (n := 10) (S := fun w' => w'.cell? (ad.add (j * 3)) = some (.string (rd_T47 l (j : Int)).f0) ∧ w'.cell? ⟨(ad.add (j * 3)).block, (ad.add (j * 3)).off + 1, none⟩ = some (.int .i64 (rd_T47 l (j : Int)).f1) ∧ w'.cell? ⟨(ad.add (j * 3)).block, (ad.add (j * 3)).off + 2, none⟩ = some (.int .i64 (rd_T47 l (j : Int)).f2) ∧ w'.cell? (ae.add (j * 3)) = some (.string (rd_T47 l (j : Int)).f0) ∧ w'.cell? ⟨(ae.add (j * 3)).block, (ae.add (j * 3)).off + 1, none⟩ = some (.int .i64 (rd_T47 l (j : Int)).f1) ∧ w'.cell? ⟨(ae.add (j * 3)).block, (ae.add (j * 3)).off + 2, none⟩ = some (.int .i64 (rd_T47 l (j : Int)).f2)) (ds := []) #[false, false, false, false, false, false, false, false, false, false] (by kernel_rfl) rfl rfl ⟨hx0, hx1, hx2, hy0, hy1, hy2⟩ (fun hHeld => ?_)
      refine pure_ (i := 0) (N := some 17) (v := ?_) (a' := ?_) #[true, false, false, false, false, false, false, false, false, false] rfl rfl (by kernel_rfl) (fun _ _ _ h => h) (Or.inl ⟨by rfl, ?_⟩) ?_ ?_
      rotate_left
      · intro w'
        go_simp
        with_reducible rfl
      rotate_left
      · simp only [Act.put, List.setIfInBounds_toArray, List.set_cons_zero, List.set_cons_succ, i64_w, i32_w]
        rfl
      refine pure_ (i := 1) (N := some 18) (v := ?_) (a' := ?_) #[true, true, false, false, false, false, false, false, false, false] rfl rfl (by kernel_rfl) (fun _ _ _ h => h) (Or.inl ⟨by rfl, ?_⟩) ?_ ?_
      rotate_left
      · intro w'
        go_simp
        with_reducible rfl
      rotate_left
      · simp only [Act.put, List.setIfInBounds_toArray, List.set_cons_zero, List.set_cons_succ, i64_w, i32_w]
        rfl
      refine pure_ (i := 2) (N := some 19) (v := ?_) (a' := ?_) #[true, true, true, false, false, false, false, false, false, false] rfl rfl (by kernel_rfl) (fun _ _ _ h => h) (Or.inl ⟨by rfl, ?_⟩) ?_ ?_
      rotate_left
      · intro w'
        go_simp
        with_reducible rfl
      rotate_left
      · simp only [Act.put, List.setIfInBounds_toArray, List.set_cons_zero, List.set_cons_succ, i64_w, i32_w]
        rfl
      refine pure_ (i := 4) (N := some 21) (v := ?_) (a' := ?_) #[true, true, true, false, true, false, false, false, false, false] rfl rfl (by kernel_rfl) (fun _ _ _ h => h) (Or.inl ⟨by rfl, ?_⟩) ?_ ?_
      rotate_left
      · intro w'
        go_simp
        with_reducible rfl
      rotate_left
      · simp only [Act.put, List.setIfInBounds_toArray, List.set_cons_zero, List.set_cons_succ, i64_w, i32_w]
        rfl
      refine pure_ (i := 5) (N := some 22) (v := ?_) (a' := ?_) #[true, true, true, false, true, true, false, false, false, false] rfl rfl (by kernel_rfl) (fun _ _ _ h => h) (Or.inl ⟨by rfl, ?_⟩) ?_ ?_
      rotate_left
      · intro w'
        go_simp
        with_reducible rfl
      rotate_left
      · simp only [Act.put, List.setIfInBounds_toArray, List.set_cons_zero, List.set_cons_succ, i64_w, i32_w]
        rfl
      refine pure_ (i := 6) (N := some 23) (v := ?_) (a' := ?_) #[true, true, true, false, true, true, true, false, false, false] rfl rfl (by kernel_rfl) (fun _ _ _ h => h) (Or.inl ⟨by rfl, ?_⟩) ?_ ?_
      rotate_left
      · intro w'
        go_simp
        with_reducible rfl
      rotate_left
      · simp only [Act.put, List.setIfInBounds_toArray, List.set_cons_zero, List.set_cons_succ, i64_w, i32_w]
        rfl
      refine take_ (i := 3) (N := some 20) (v := ?_) (a' := ?_) #[true, true, true, true, true, true, true, false, false, false] rfl rfl (by kernel_rfl) (fun _ _ _ h => h) (Or.inl ⟨by rfl, ?_⟩) hHeld ?_ ?_
      rotate_left
      · rintro w' ⟨s0, s1, s2, s3, s4, s5⟩
        go_simp
        with_reducible rfl
      rotate_left
      · simp only [Act.put, List.setIfInBounds_toArray, List.set_cons_zero, List.set_cons_succ, i64_w, i32_w]
        rfl
      refine take_ (i := 7) (N := some 24) (v := ?_) (a' := ?_) #[true, true, true, true, true, true, true, true, false, false] rfl rfl (by kernel_rfl) (fun _ _ _ h => h) (Or.inl ⟨by rfl, ?_⟩) hHeld ?_ ?_
      rotate_left
      · rintro w' ⟨s0, s1, s2, s3, s4, s5⟩
        go_simp
        with_reducible rfl
      rotate_left
      · simp only [Act.put, List.setIfInBounds_toArray, List.set_cons_zero, List.set_cons_succ, i64_w, i32_w]
        rfl
      refine one_ (i := 8) (N := some 25) #[true, true, true, true, true, true, true, true, true, false] rfl rfl (by kernel_rfl) (by decide) (fun K hK => ?_)
      refine goes_ Tryd.func34 (by kernel_rfl) rfl #[.agg #[.string (rd_T47 l (j : Int)).f0, .int .i64 (rd_T47 l (j : Int)).f1, .int .i64 (rd_T47 l (j : Int)).f2], .agg #[.string (rd_T47 l (j : Int)).f0, .int .i64 (rd_T47 l (j : Int)).f1, .int .i64 (rd_T47 l (j : Int)).f2]] (by rfl) rfl rfl (by simp only [List.map_toArray, List.map_cons, List.map_nil]; rfl) ?_
      with_reducible refine (laws_eqQuestion.same (rd_T47 l (j : Int)) _).mono ?_
      rintro e w3 ⟨rfl, hb⟩
      refine ⟨_, rfl, ?_⟩
      have HB3 := Aside0.mk (below_step (below_drew HB.out) hb)
      refine hK.out _ _ ⟨((hb.cell (World.block_lt_of_cell? _ _ hx0)).trans hx0), ((hb.cell (World.block_lt_of_cell? _ _ hx1)).trans hx1), ((hb.cell (World.block_lt_of_cell? _ _ hx2)).trans hx2), ((hb.cell (World.block_lt_of_cell? _ _ hy0)).trans hy0), ((hb.cell (World.block_lt_of_cell? _ _ hy1)).trans hy1), ((hb.cell (World.block_lt_of_cell? _ _ hy2)).trans hy2)⟩ (fun hHeld => ?_)
      clear hK K
      refine norm_ (a' := ?_) ?_ ?_
      rotate_left
      · show Act.put _ (some 25) _ = _
        simp only [Act.put, List.setIfInBounds_toArray, List.set_cons_zero, List.set_cons_succ, i64_w, i32_w]
        rfl
      refine pure_ (i := 9) (N := some 26) (v := ?_) (a' := ?_) #[true, true, true, true, true, true, true, true, true, true] rfl rfl (by kernel_rfl) (fun _ _ _ h => h) (Or.inl ⟨by rfl, ?_⟩) ?_ ?_
      rotate_left
      · intro w'
        go_simp
        with_reducible rfl
      rotate_left
      · simp only [Act.put, List.setIfInBounds_toArray, List.set_cons_zero, List.set_cons_succ, i64_w, i32_w]
        rfl
      refine done_ (by kernel_rfl) ?_

      clear hx0 hx1 hx2 hy0 hy1 hy2 hb
      go_wp2
      go_roundw
      case rel => exact ⟨j + 1, by omega, by go_num, HB3⟩
      case measure => simp [intOf]; omega
    · obtain rfl : j = l.length := by omega
      have q1 : decide ((l.length : Int) < (l.length : Int)) = false := decide_eq_false (by omega)
      have q2 : decide (l.length < l.length) = false := decide_eq_false (by omega)
      go_wp2
      go_ret
      exact ⟨rfl, HB.out⟩
set_option maxHeartbeats 4000000 in
set_option maxRecDepth 100000 in
theorem laws_eqMessage.same (h : S24) (q : List S47) (a u e : List S53) (Ax0 : Option Addr) (cx0 : Nat) (Ax1 : Option Addr) (cx1 : Nat) (Ax2 : Option Addr) (cx2 : Nat) (Ax3 : Option Addr) (cx3 : Nat) (Ay0 : Option Addr) (cy0 : Nat) (Ay1 : Option Addr) (cy1 : Nat) (Ay2 : Option Addr) (cy2 : Nat) (Ay3 : Option Addr) (cy3 : Nat) (w : World) (hx0 : Kd.C k47 w Ax0 q.length q) (hx1 : Kd.C k53 w Ax1 a.length a) (hx2 : Kd.C k53 w Ax2 u.length u) (hx3 : Kd.C k53 w Ax3 e.length e) (hy0 : Kd.C k47 w Ay0 q.length q) (hy1 : Kd.C k53 w Ay1 a.length a) (hy2 : Kd.C k53 w Ay2 u.length u) (hy3 : Kd.C k53 w Ay3 e.length e) :
    Calls Tryd.prog 7 #[.agg (msgC h (.slice Ax0 q.length cx0) (.slice Ax1 a.length cx1) (.slice Ax2 u.length cx2) (.slice Ax3 e.length cx3)), .agg (msgC h (.slice Ay0 q.length cy0) (.slice Ay1 a.length cy1) (.slice Ay2 u.length cy2) (.slice Ay3 e.length cy3))] w fun e_ w' => e_ = .returned (.bool true) ∧ Below w.heap.size w w' := by
  have Hx0 := Aside0.mk hx0
  have Hx1 := Aside0.mk hx1
  have Hx2 := Aside0.mk hx2
  have Hx3 := Aside0.mk hx3
  have Hy0 := Aside0.mk hy0
  have Hy1 := Aside0.mk hy1
  have Hy2 := Aside0.mk hy2
  have Hy3 := Aside0.mk hy3
  clear hx0 hx1 hx2 hx3 hy0 hy1 hy2 hy3
  unfold msgC
  go_enter Tryd.func7, Tryd.ntmps7
  go_upto_region 1 with fail
  obtain ⟨W, hW⟩ : ∃ W, W = (w.alloc (Obj.cells #[.int .i64 h.f0, .bool h.f1, .int .i64 h.f2, .bool h.f3, .bool h.f4, .bool h.f5, .bool h.f6, .bool h.f7, .bool h.f8, .bool h.f9, .int .i64 h.f10, .slice Ax0 q.length cx0, .slice Ax1 a.length cx1, .slice Ax2 u.length cx2, .slice Ax3 e.length cx3] 28)).alloc (Obj.cells #[.int .i64 h.f0, .bool h.f1, .int .i64 h.f2, .bool h.f3, .bool h.f4, .bool h.f5, .bool h.f6, .bool h.f7, .bool h.f8, .bool h.f9, .int .i64 h.f10, .slice Ay0 q.length cy0, .slice Ay1 a.length cy1, .slice Ay2 u.length cy2, .slice Ay3 e.length cy3] 28) := ⟨_, rfl⟩
  have hB0 : W.heap[w.heap.size]? = some (.cells (msgC h (.slice Ax0 q.length cx0) (.slice Ax1 a.length cx1) (.slice Ax2 u.length cx2) (.slice Ax3 e.length cx3)) 28 (0, 0)) := by rw [hW]; exact blk_alloc (blk_new w _) _
  have hB1 : W.heap[w.heap.size + 1]? = some (.cells (msgC h (.slice Ay0 q.length cy0) (.slice Ay1 a.length cy1) (.slice Ay2 u.length cy2) (.slice Ay3 e.length cy3)) 28 (0, 0)) := by
    rw [hW]
    have := blk_new (w.alloc (Obj.cells #[.int .i64 h.f0, .bool h.f1, .int .i64 h.f2, .bool h.f3, .bool h.f4, .bool h.f5, .bool h.f6, .bool h.f7, .bool h.f8, .bool h.f9, .int .i64 h.f10, .slice Ax0 q.length cx0, .slice Ax1 a.length cx1, .slice Ax2 u.length cx2, .slice Ax3 e.length cx3] 28)) (Obj.cells #[.int .i64 h.f0, .bool h.f1, .int .i64 h.f2, .bool h.f3, .bool h.f4, .bool h.f5, .bool h.f6, .bool h.f7, .bool h.f8, .bool h.f9, .int .i64 h.f10, .slice Ay0 q.length cy0, .slice Ay1 a.length cy1, .slice Ay2 u.length cy2, .slice Ay3 e.length cy3] 28)
    rwa [show (w.alloc (Obj.cells #[.int .i64 h.f0, .bool h.f1, .int .i64 h.f2, .bool h.f3, .bool h.f4, .bool h.f5, .bool h.f6, .bool h.f7, .bool h.f8, .bool h.f9, .int .i64 h.f10, .slice Ax0 q.length cx0, .slice Ax1 a.length cx1, .slice Ax2 u.length cx2, .slice Ax3 e.length cx3] 28)).heap.size = w.heap.size + 1 by simp] at this
  have hBW : Below w.heap.size w W := by rw [hW]; exact below_alloc (below_alloc (Below.refl _ _) _) _
  rw [← hW]
  clear hW
  have K0 := Aside0.mk hB0
  have K1 := Aside0.mk hB1
  have KB := Aside0.mk hBW
  clear hB0 hB1 hBW
  obtain ⟨b0, hb0⟩ : ∃ b, b = w.heap.size := ⟨_, rfl⟩
  rw [← hb0] at K0 K1 ⊢
  replace hb0 := Aside0.mk hb0
  have hc0 : W.cell? ⟨b0, 0, none⟩ = some (.int .i64 h.f0) := (blk_cell K0.out 0).trans rfl
  have hc1 : W.cell? ⟨b0, 1, none⟩ = some (.bool h.f1) := (blk_cell K0.out 1).trans rfl
  have hc2 : W.cell? ⟨b0, 2, none⟩ = some (.int .i64 h.f2) := (blk_cell K0.out 2).trans rfl
  have hc3 : W.cell? ⟨b0, 3, none⟩ = some (.bool h.f3) := (blk_cell K0.out 3).trans rfl
  have hc4 : W.cell? ⟨b0, 4, none⟩ = some (.bool h.f4) := (blk_cell K0.out 4).trans rfl
  have hc5 : W.cell? ⟨b0, 5, none⟩ = some (.bool h.f5) := (blk_cell K0.out 5).trans rfl
  have hc6 : W.cell? ⟨b0, 6, none⟩ = some (.bool h.f6) := (blk_cell K0.out 6).trans rfl
  have hc7 : W.cell? ⟨b0, 7, none⟩ = some (.bool h.f7) := (blk_cell K0.out 7).trans rfl
  have hc8 : W.cell? ⟨b0, 8, none⟩ = some (.bool h.f8) := (blk_cell K0.out 8).trans rfl
  have hc9 : W.cell? ⟨b0, 9, none⟩ = some (.bool h.f9) := (blk_cell K0.out 9).trans rfl
  have hc10 : W.cell? ⟨b0, 10, none⟩ = some (.int .i64 h.f10) := (blk_cell K0.out 10).trans rfl
  have hd0 : W.cell? ⟨b0 + 1, 0, none⟩ = some (.int .i64 h.f0) := (blk_cell K1.out 0).trans rfl
  have hd1 : W.cell? ⟨b0 + 1, 1, none⟩ = some (.bool h.f1) := (blk_cell K1.out 1).trans rfl
  have hd2 : W.cell? ⟨b0 + 1, 2, none⟩ = some (.int .i64 h.f2) := (blk_cell K1.out 2).trans rfl
  have hd3 : W.cell? ⟨b0 + 1, 3, none⟩ = some (.bool h.f3) := (blk_cell K1.out 3).trans rfl
  have hd4 : W.cell? ⟨b0 + 1, 4, none⟩ = some (.bool h.f4) := (blk_cell K1.out 4).trans rfl
  have hd5 : W.cell? ⟨b0 + 1, 5, none⟩ = some (.bool h.f5) := (blk_cell K1.out 5).trans rfl
  have hd6 : W.cell? ⟨b0 + 1, 6, none⟩ = some (.bool h.f6) := (blk_cell K1.out 6).trans rfl
  have hd7 : W.cell? ⟨b0 + 1, 7, none⟩ = some (.bool h.f7) := (blk_cell K1.out 7).trans rfl
  have hd8 : W.cell? ⟨b0 + 1, 8, none⟩ = some (.bool h.f8) := (blk_cell K1.out 8).trans rfl
  have hd9 : W.cell? ⟨b0 + 1, 9, none⟩ = some (.bool h.f9) := (blk_cell K1.out 9).trans rfl
  have hd10 : W.cell? ⟨b0 + 1, 10, none⟩ = some (.int .i64 h.f10) := (blk_cell K1.out 10).trans rfl
  go_wp2_with fail
  refine (laws_eqHead.same h _).mono ?_
  rintro e1 w1 ⟨rfl, hb⟩
  have J0 := Aside0.mk (blk_below K0.out hb)
  have J1 := Aside0.mk (blk_below K1.out hb)
  have JB := Aside0.mk (below_step KB.out hb)
  clear hb K0 K1 KB hc0 hd0 hc1 hd1 hc2 hd2 hc3 hd3 hc4 hd4 hc5 hd5 hc6 hd6 hc7 hd7 hc8 hd8 hc9 hd9 hc10 hd10
  have hc0 : w1.cell? ⟨b0, 11, none⟩ = some (.slice Ax0 q.length cx0) := (blk_cell J0.out 11).trans rfl
  have hd0 : w1.cell? ⟨b0 + 1, 11, none⟩ = some (.slice Ay0 q.length cy0) := (blk_cell J1.out 11).trans rfl
  go_wp2_with fail
  refine (laws_eqQuestionS.same _ _ _ _ q _ (Kd.C_below Hx0.out JB.out) (Kd.C_below Hy0.out JB.out)).mono ?_
  rintro e1 w2 ⟨rfl, hb⟩
  have J0' := Aside0.mk (blk_below J0.out hb)
  have J1' := Aside0.mk (blk_below J1.out hb)
  have JB' := Aside0.mk (below_step JB.out hb)
  clear hb J0 J1 JB hc0 hd0
  have J0 := J0'
  have J1 := J1'
  have JB := JB'
  clear J0' J1' JB'
  have hc0 : w2.cell? ⟨b0, 12, none⟩ = some (.slice Ax1 a.length cx1) := (blk_cell J0.out 12).trans rfl
  have hd0 : w2.cell? ⟨b0 + 1, 12, none⟩ = some (.slice Ay1 a.length cy1) := (blk_cell J1.out 12).trans rfl
  go_wp2_with fail
  refine (laws_eqRRS.same _ _ _ _ a _ (Kd.C_below Hx1.out JB.out) (Kd.C_below Hy1.out JB.out)).mono ?_
  rintro e1 w3 ⟨rfl, hb⟩
  have J0' := Aside0.mk (blk_below J0.out hb)
  have J1' := Aside0.mk (blk_below J1.out hb)
  have JB' := Aside0.mk (below_step JB.out hb)
  clear hb J0 J1 JB hc0 hd0
  have J0 := J0'
  have J1 := J1'
  have JB := JB'
  clear J0' J1' JB'
  have hc0 : w3.cell? ⟨b0, 13, none⟩ = some (.slice Ax2 u.length cx2) := (blk_cell J0.out 13).trans rfl
  have hd0 : w3.cell? ⟨b0 + 1, 13, none⟩ = some (.slice Ay2 u.length cy2) := (blk_cell J1.out 13).trans rfl
  go_wp2_with fail
  refine (laws_eqRRS.same _ _ _ _ u _ (Kd.C_below Hx2.out JB.out) (Kd.C_below Hy2.out JB.out)).mono ?_
  rintro e1 w4 ⟨rfl, hb⟩
  have J0' := Aside0.mk (blk_below J0.out hb)
  have J1' := Aside0.mk (blk_below J1.out hb)
  have JB' := Aside0.mk (below_step JB.out hb)
  clear hb J0 J1 JB hc0 hd0
  have J0 := J0'
  have J1 := J1'
  have JB := JB'
  clear J0' J1' JB'
  have hc0 : w4.cell? ⟨b0, 14, none⟩ = some (.slice Ax3 e.length cx3) := (blk_cell J0.out 14).trans rfl
  have hd0 : w4.cell? ⟨b0 + 1, 14, none⟩ = some (.slice Ay3 e.length cy3) := (blk_cell J1.out 14).trans rfl
  go_wp2_with fail
  refine (laws_eqRRS.same _ _ _ _ e _ (Kd.C_below Hx3.out JB.out) (Kd.C_below Hy3.out JB.out)).mono ?_
  rintro e1 w5 ⟨rfl, hb⟩
  have J0' := Aside0.mk (blk_below J0.out hb)
  have J1' := Aside0.mk (blk_below J1.out hb)
  have JB' := Aside0.mk (below_step JB.out hb)
  clear hb J0 J1 JB hc0 hd0
  have J0 := J0'
  have J1 := J1'
  have JB := JB'
  clear J0' J1' JB'
  go_wp2
  go_ret
  exact ⟨rfl, JB.out⟩

end Go.Proofs.YtcamchdenjpmhaaDoor.F
namespace Go.Proofs.YtcamchdenjpmhaaDoor.F
open Go Go.Shelf Go.RowKit Go.Proofs.YtcamchdenjpmhaaDoorW.PrintWords Go.Proofs.YtcamchdenjpmhaaDoorW.PrintLast Go.Proofs.YtcamchdenjpmhaaDoorW.PrintMore
attribute [local go_sem] max2_int min2_int max_two min_two max_three min_three max_four min_four   -- for this text's walks alone
set_option linter.unusedVariables false
set_option linter.unusedSimpArgs false

/-! ### laws_eqByteS: function 8 -/
def laws_eqByteS.l0 : Nat → List Int → List Int → Int → Option (Bool)
  | 0, _, _, _ => none
  | k + 1, x0, x1, x5 => if x5 < (x0.length : Int) then (if 0 ≤ x5 then (if x5 < (x1.length : Int) then (if (rd x0 x5) = (rd x1 x5) then (laws_eqByteS.l0 k x0 x1 (wrap64 (x5 + 1))) else (some false)) else (none)) else (none)) else (some true)
def laws_eqByteS.f (k : Nat) (l0 : List Int) (l1 : List Int) : Option (Bool) := if (l0.length : Int) = (l1.length : Int) then (laws_eqByteS.l0 k l0 l1 0) else (some false)
theorem laws_eqByteS.mono_l : ∀ k, (∀ y0 y1 y2, LeO (laws_eqByteS.l0 k y0 y1 y2) (laws_eqByteS.l0 (k + 1) y0 y1 y2))
  | 0 => fun _ _ _ r h => by simp [laws_eqByteS.l0] at h
  | k + 1 => by
    have ih0 := laws_eqByteS.mono_l k
    · intro y0 y1 y2
      unfold laws_eqByteS.l0
      repeat' first
      | (with_reducible exact ih0 _ _ _)
      | (with_reducible exact LeO.refl _)
      | (with_reducible exact LeO.none _)
      | (with_reducible refine LeO.ite ?_ ?_)
      | (with_reducible refine LeO.bind ?_ (fun _ => ?_))
      | exact ih0 _ _ _
      | exact LeO.none _
      | refine LeO.ite ?_ ?_
      | refine LeO.bind ?_ (fun _ => ?_)
theorem laws_eqByteS.mono : ∀ a0 a1 k, LeO (laws_eqByteS.f k a0 a1) (laws_eqByteS.f (k + 1) a0 a1) := by
  intro a0 a1 k
  have ih0 := laws_eqByteS.mono_l k
  unfold laws_eqByteS.f
  repeat' first
      | (with_reducible exact ih0 _ _ _)
      | (with_reducible exact LeO.refl _)
      | (with_reducible exact LeO.none _)
      | (with_reducible refine LeO.ite ?_ ?_)
      | (with_reducible refine LeO.bind ?_ (fun _ => ?_))
      | exact ih0 _ _ _
      | exact LeO.none _
      | refine LeO.ite ?_ ?_
      | refine LeO.bind ?_ (fun _ => ?_)
set_option maxHeartbeats 8000000 in
set_option maxRecDepth 100000 in
theorem laws_eqByteS.calls (k : Nat) (A0 : Option Addr) (c0 : Nat) (l0 : List Int) (A1 : Option Addr) (c1 : Nat) (l1 : List Int) (r : Bool) (w : World) (hr0 : Kd.C (Kd.int .u8) w A0 l0.length l0) (hc0 : l0.length ≤ c0) (hr1 : Kd.C (Kd.int .u8) w A1 l1.length l1) (hc1 : l1.length ≤ c1) (h : laws_eqByteS.f k l0 l1 = some r) :
    Calls Tryd.prog 8 #[.slice A0 l0.length c0, .slice A1 l1.length c1] w fun e w' => e = .returned (.bool r) ∧ Drawn0 w w' := by
  have HR0 := Aside0.mk hr0
  have HC0 := Aside0.mk hc0
  clear hr0 hc0
  have HR1 := Aside0.mk hr1
  have HC1 := Aside0.mk hc1
  clear hr1 hc1
  have H : (if (l0.length : Int) = (l1.length : Int) then (laws_eqByteS.l0 k l0 l1 0) else (some false)) = some r := h
  clear h
  by_cases c3 : (l0.length : Int) = (l1.length : Int)
  · rw [if_pos c3] at H
    have c3b0 : ((l0.length : Int) == (l1.length : Int)) = true := beq_iff_eq.mpr c3
    have c3b1 : ((l0.length : Int) != (l1.length : Int)) = false := bne_eq_false_iff_eq.mpr c3
    have c3b2 : (l0.length == l1.length) = true := by first | simpa using c3 | (simp at c3 ⊢; omega)
    clear c3
    have H' := Aside0.mk H
    clear H
    go_enter Tryd.func8, Tryd.ntmps8
    go_wp2
    repeat (go_quiet (fail); try go_wp2)
    go_loopg [5] k (fun kq v5 w' => ∃ (x5_1 : Int), v5 = .int .i64 x5_1 ∧ Aside0 (laws_eqByteS.l0 kq l0 l1 x5_1 = some r) ∧ Aside0 (kq ≤ k) ∧ Drawn0 w w')
    case atStart => exact ⟨(0), (by first | rfl | (simp; done) | (simp [*]; done)), H', ⟨Nat.le_refl _⟩, by repeat (first | exact Drawn0.refl _ | apply Drawn0.step)⟩
    case round =>
      clear H'
      try clear c1
      try clear p2
      try clear c3
      try clear c3b0
      try clear c3b1
      try clear c3b2
      obtain ⟨x5_1, rfl, HA, HK1, ⟨m1, rfl⟩⟩ := hrel
      cases gk with
      | zero => exact absurd HA.out (by simp [laws_eqByteS.l0])
      | succ k1 =>
        have H := HA.out
        clear HA
        simp only [laws_eqByteS.l0] at H
        by_cases c4 : x5_1 < (l0.length : Int)
        · rw [if_pos c4] at H
          have c4b0 : decide (x5_1 < (l0.length : Int)) = true := decide_eq_true c4
          clear c4
          by_cases c5 : 0 ≤ x5_1
          · rw [if_pos c5] at H
            have c5b0 : decide (0 ≤ x5_1) = true := decide_eq_true c5
            clear c5
            by_cases c6 : x5_1 < (l1.length : Int)
            · rw [if_pos c6] at H
              have c6b0 : decide (x5_1 < (l1.length : Int)) = true := decide_eq_true c6
              clear c6
              by_cases c7 : (rd l0 x5_1) = (rd l1 x5_1)
              · rw [if_pos c7] at H
                have c7b0 : ((rd l0 x5_1) == (rd l1 x5_1)) = true := beq_iff_eq.mpr c7
                have c7b1 : ((rd l0 x5_1) != (rd l1 x5_1)) = false := bne_eq_false_iff_eq.mpr c7
                clear c7
                have H' := Aside0.mk H
                clear H
                have p101 : 0 ≤ (x5_1 : Int) := of_decide_eq_true (by first | (with_reducible assumption) | assumption)
                have q101 : x5_1 < (l0.length : Int) := of_decide_eq_true (by first | (with_reducible assumption) | assumption)
                obtain ⟨ad101, e101, hx101_0⟩ := Kd.at_int HR0.out x5_1 p101 q101
                cases e101
                replace p101 := eq_true p101
                replace q101 := eq_true q101
                have p102 : 0 ≤ (x5_1 : Int) := of_decide_eq_true (by first | (with_reducible assumption) | assumption)
                have q102 : x5_1 < (l1.length : Int) := of_decide_eq_true (by first | (with_reducible assumption) | assumption)
                obtain ⟨ad102, e102, hx102_0⟩ := Kd.at_int HR1.out x5_1 p102 q102
                cases e102
                replace p102 := eq_true p102
                replace q102 := eq_true q102
                go_wp2
                repeat (go_quiet (fail); try go_wp2)
                go_roundg k1
                case measure => have := HK1.out; omega
                case rel => exact ⟨(wrap64 (x5_1 + 1)), (by first | rfl | (simp; done) | (simp [*]; done)), H', ⟨by have := HK1.out; omega⟩, by repeat (first | exact Drawn0.refl _ | apply Drawn0.step)⟩
              · rw [if_neg c7] at H
                have c7b0 : ((rd l0 x5_1) == (rd l1 x5_1)) = false := beq_eq_false_iff_ne.mpr c7
                have c7b1 : ((rd l0 x5_1) != (rd l1 x5_1)) = true := bne_iff_ne.mpr c7
                obtain rfl := Option.some.inj H
                have p101 : 0 ≤ (x5_1 : Int) := of_decide_eq_true (by first | (with_reducible assumption) | assumption)
                have q101 : x5_1 < (l0.length : Int) := of_decide_eq_true (by first | (with_reducible assumption) | assumption)
                obtain ⟨ad101, e101, hx101_0⟩ := Kd.at_int HR0.out x5_1 p101 q101
                cases e101
                replace p101 := eq_true p101
                replace q101 := eq_true q101
                have p102 : 0 ≤ (x5_1 : Int) := of_decide_eq_true (by first | (with_reducible assumption) | assumption)
                have q102 : x5_1 < (l1.length : Int) := of_decide_eq_true (by first | (with_reducible assumption) | assumption)
                obtain ⟨ad102, e102, hx102_0⟩ := Kd.at_int HR1.out x5_1 p102 q102
                cases e102
                replace p102 := eq_true p102
                replace q102 := eq_true q102
                go_wp2
                repeat (go_quiet (fail); try go_wp2)
                go_ret
                exact ⟨by first | rfl | (simp; done) | (simp [*]; done), by repeat (first | exact Drawn0.refl _ | apply Drawn0.step)⟩
            · rw [if_neg c6] at H
              exact absurd H (by simp)
          · rw [if_neg c5] at H
            exact absurd H (by simp)
        · rw [if_neg c4] at H
          have c4b0 : decide (x5_1 < (l0.length : Int)) = false := decide_eq_false c4
          clear c4
          obtain rfl := Option.some.inj H
          go_wp2
          repeat (go_quiet (fail); try go_wp2)
          go_ret
          exact ⟨by first | rfl | (simp; done) | (simp [*]; done), by repeat (first | exact Drawn0.refl _ | apply Drawn0.step)⟩
  · rw [if_neg c3] at H
    have c3b0 : ((l0.length : Int) == (l1.length : Int)) = false := beq_eq_false_iff_ne.mpr c3
    have c3b1 : ((l0.length : Int) != (l1.length : Int)) = true := bne_iff_ne.mpr c3
    have c3b2 : (l0.length == l1.length) = false := by first | simpa using c3 | (simp at c3 ⊢; omega)
    obtain rfl := Option.some.inj H
    go_enter Tryd.func8, Tryd.ntmps8
    go_wp2
    repeat (go_quiet (fail); try go_wp2)
    go_ret
    exact ⟨by first | rfl | (simp; done) | (simp [*]; done), by repeat (first | exact Drawn0.refl _ | apply Drawn0.step)⟩

end Go.Proofs.YtcamchdenjpmhaaDoor.F
namespace Go.Proofs.YtcamchdenjpmhaaDoor.F
open Go Go.Shelf Go.RowKit Go.Proofs.YtcamchdenjpmhaaDoorW.PrintWords Go.Proofs.YtcamchdenjpmhaaDoorW.PrintLast Go.Proofs.YtcamchdenjpmhaaDoorW.PrintMore
attribute [local go_sem] max2_int min2_int max_two min_two max_three min_three max_four min_four   -- for this text's walks alone
set_option linter.unusedVariables false
set_option linter.unusedSimpArgs false

/-! ### laws_markByteS: function 9 -/
def laws_markByteS.l0 : Nat → List Int → Int → Int → Option (Int × List Int)
  | 0, _, _, _ => none
  | k + 1, x0, x1, x5 => if x5 < (x0.length : Int) then (if 0 ≤ x5 then (laws_markByteS.l0 k (x0.set (x5 : Int).toNat ((x1) % 256)) (wrap64 (x1 + 1)) (wrap64 (x5 + 1))) else (none)) else (some (x1, x0))
def laws_markByteS.f (k : Nat) (l0 : List Int) (a1 : Int) : Option (Int × List Int) := laws_markByteS.l0 k l0 a1 0
theorem laws_markByteS.mono_l : ∀ k, (∀ y0 y1 y2, LeO (laws_markByteS.l0 k y0 y1 y2) (laws_markByteS.l0 (k + 1) y0 y1 y2))
  | 0 => fun _ _ _ r h => by simp [laws_markByteS.l0] at h
  | k + 1 => by
    have ih0 := laws_markByteS.mono_l k
    · intro y0 y1 y2
      unfold laws_markByteS.l0
      repeat' first
      | (with_reducible exact ih0 _ _ _)
      | (with_reducible exact LeO.refl _)
      | (with_reducible exact LeO.none _)
      | (with_reducible refine LeO.ite ?_ ?_)
      | (with_reducible refine LeO.bind ?_ (fun _ => ?_))
      | exact ih0 _ _ _
      | exact LeO.none _
      | refine LeO.ite ?_ ?_
      | refine LeO.bind ?_ (fun _ => ?_)
theorem laws_markByteS.mono : ∀ a0 a1 k, LeO (laws_markByteS.f k a0 a1) (laws_markByteS.f (k + 1) a0 a1) := by
  intro a0 a1 k
  have ih0 := laws_markByteS.mono_l k
  unfold laws_markByteS.f
  repeat' first
      | (with_reducible exact ih0 _ _ _)
      | (with_reducible exact LeO.refl _)
      | (with_reducible exact LeO.none _)
      | (with_reducible refine LeO.ite ?_ ?_)
      | (with_reducible refine LeO.bind ?_ (fun _ => ?_))
      | exact ih0 _ _ _
      | exact LeO.none _
      | refine LeO.ite ?_ ?_
      | refine LeO.bind ?_ (fun _ => ?_)
set_option maxHeartbeats 8000000 in
set_option maxRecDepth 100000 in
theorem laws_markByteS.calls (k : Nat) (P0_ : Nat → Prop) (u9000_ : Value) (l0 : List Int) (a1 : Int) (r1 : Int) (r2 : List Int) (w0 w : World) (hB : Below w0.heap.size w0 w) (ho0 : Kd.R (Kd.int .u8) 5 w w0.heap.size P0_ u9000_ l0) (h : laws_markByteS.f k l0 a1 = some (r1, r2)) :
    Calls Tryd.prog 9 #[u9000_, .int .i64 a1] w fun e w' => e = .returned (.int .i64 r1) ∧ Kd.R (Kd.int .u8) 5 w' w0.heap.size (fun k_ => (P0_ k_ ∨ w.heap.size ≤ k_)) u9000_ r2 ∧ Below w0.heap.size w0 w' ∧ Kept w w' (fun k_ => P0_ k_) := by
  have HO0 := Aside0.mk (show Kd.R (Kd.int .u8) 5 w w0.heap.size (fun k_ => (P0_ k_ ∨ w.heap.size ≤ k_)) u9000_ l0 from Kd.R_mono ho0 (fun k_ hk => (.inl hk)))
  have HK := Aside0.mk (Kept.refl w (fun k_ => P0_ k_))
  have HW0 := Aside0.mk hB.size
  have HB := Aside0.mk hB
  clear hB
  have H : (laws_markByteS.l0 k l0 a1 0) = some (r1, r2) := h
  clear h
  have H' := Aside0.mk H
  clear H
  go_enter Tryd.func9, Tryd.ntmps9
  go_wp2
  go_loopg [1, 5] k (fun kq v1 v5 w' => ∃ (x0_1 : List Int) (x1_1 : Int) (x5_1 : Int), v1 = .int .i64 x1_1 ∧ v5 = .int .i64 x5_1 ∧ Aside0 (laws_markByteS.l0 kq x0_1 x1_1 x5_1 = some (r1, r2)) ∧ Aside0 (kq ≤ k) ∧ Aside0 (Kd.R (Kd.int .u8) 5 w' w0.heap.size (fun k_ => (P0_ k_ ∨ w.heap.size ≤ k_)) u9000_ x0_1) ∧ Aside0 (Kept w w' (fun k_ => P0_ k_)) ∧ Aside0 (Below w0.heap.size w0 w'))
  case atStart => exact ⟨(l0), (a1), (0), (by first | rfl | (simp; done) | (simp [*]; done)), (by first | rfl | (simp; done) | (simp [*]; done)), H', ⟨Nat.le_refl _⟩, ⟨by (with_reducible repeat (first | apply Kd.R_alloc | apply Kd.R_drewN | apply Kd.R_drew)); exact HO0.out⟩, ⟨by repeat (first | (with_reducible first | exact HK.out | apply Kept.alloc | apply Kept.drewN | apply Kept.drew) | exact HK.out)⟩, ⟨by repeat (first | (with_reducible first | exact HB.out | apply below_alloc | apply pw_below_drewN | apply below_drew1) | exact HB.out)⟩⟩
  case round =>
    clear H'
    try clear p2
    obtain ⟨x0_1, x1_1, x5_1, rfl, rfl, HA, HK1, HO_0, HK, HB⟩ := hrel
    cases gk with
    | zero => exact absurd HA.out (by simp [laws_markByteS.l0])
    | succ k1 =>
      have H := HA.out
      clear HA
      simp only [laws_markByteS.l0] at H
      by_cases c3 : x5_1 < (x0_1.length : Int)
      · rw [if_pos c3] at H
        have c3b0 : decide (x5_1 < (x0_1.length : Int)) = true := decide_eq_true c3
        clear c3
        by_cases c4 : 0 ≤ x5_1
        · rw [if_pos c4] at H
          have c4b0 : decide (0 ≤ x5_1) = true := decide_eq_true c4
          clear c4
          obtain ⟨y101, hy101⟩ : ∃ y_ : List Int, y_ = (x0_1.set (x5_1 : Int).toNat ((x1_1) % 256)) := ⟨_, rfl⟩
          replace H : (laws_markByteS.l0 k1 y101 (wrap64 (x1_1 + 1)) (wrap64 (x5_1 + 1))) = some (r1, r2) := by first | (rw [hy101]; with_reducible exact H) | (have H2_ := (Option.bind_some _ _).symm.trans H; rw [hy101]; with_reducible exact H2_) | (have H2_ := (Option.bind_some _ _).symm.trans H; with_reducible exact H2_) | with_reducible exact H | (rw [hy101]; exact H) | exact H
          have Ny101 := Aside0.mk hy101
          clear hy101
          have H' := Aside0.mk H
          clear H
          obtain ⟨Ao6, co6, eo6⟩ := Kd.R_slice HO_0.out
          subst eo6
          have p5 : 0 ≤ (x5_1 : Int) := of_decide_eq_true (by first | (with_reducible assumption) | assumption)
          have q5 : (x5_1 : Int) < ((x0_1.length : Int) : Int) := of_decide_eq_true (by first | (with_reducible assumption) | assumption)
          obtain ⟨go5, co5, eo5, gb5, gl5, cl5, HG5⟩ := Kd.R_form HO_0.out (by omega)
          (first | cases eo5 | (injection eo5 with ea_ en_ ec_; (first | subst ea_ | (injection ea_ with ea_; subst ea_)); subst ec_; clear en_))
          have GB5 := Aside0.mk gb5
          have GG5 := Aside0.mk HG5
          clear gb5 gl5 HG5
          have HMgo5 := Aside0.mk (show (P0_ go5 ∨ w.heap.size ≤ go5) from (HO_0.out.1 _ rfl))
          obtain ⟨hx5_0, hf5_0⟩ := Kd.R_celln 0 HO_0.out (x5_1 : Int) p5 q5
          replace p5 := eq_true p5
          replace q5 := eq_true q5
          have HP7 := Kd.R_putg HO_0.out (x5_1 : Int) ((x1_1) % 256)
          go_wp2_with (first | ((with_reducible refine gate_store (t := 5) (p := 16) rfl ?_); refine store_event (t := 5) (p := 16) (v := ?vo_w8) (w1 := (wr.setCell ⟨go5, (x5_1 : Int).toNat, none⟩ (.int .u8 ((x1_1) % 256)))) ?hg ?ho ?hn ?hr ?_; (case ho => rfl); (case hg => rfl); (case hn => rfl); (case hr => first | (go_simp; done) | (go_simp; rfl)); intro w8 hw; have hg : wr.grownBy w8 (some go5) := (by rw [hw]; exact HP7.2); have hp_ : Kd.R (Kd.int .u8) 5 w8 w0.heap.size (fun k_ => (P0_ k_ ∨ w.heap.size ≤ k_)) (.slice (some ⟨go5, 0, none⟩) x0_1.length co6) y101 := (by rw [hw, Ny101.out]; exact HP7.1); clear HP7; have n0_ := Aside0.mk (hp_); have n1_ := Aside0.mk ((by rw [hw]; exact below_set (HB.out) GB5.out : Below w0.heap.size w0 w8)); have n2_ := Aside0.mk (Kept.of_grown (S := (fun k_ => P0_ k_)) hg (by repeat (first | (with_reducible first | exact HK.out | apply Kept.alloc | apply Kept.drewN | apply Kept.drew) | exact HK.out)) (fun k_ e_ => (HO_0.out.1 k_ e_))); clear HO_0; clear HB; clear HK; have HO_0 := n0_; have HB := n1_; have HK := n2_; clear n0_ n1_ n2_; clear hg hw hp_))
          go_roundg k1
          case measure => have := HK1.out; omega
          case rel => exact ⟨(y101), (wrap64 (x1_1 + 1)), (wrap64 (x5_1 + 1)), (by first | rfl | (simp; done) | (simp [*]; done)), (by first | rfl | (simp; done) | (simp [*]; done)), H', ⟨by have := HK1.out; omega⟩, ⟨by (with_reducible repeat (first | apply Kd.R_alloc | apply Kd.R_drewN | apply Kd.R_drew)); exact HO_0.out⟩, ⟨by repeat (first | (with_reducible first | exact HK.out | apply Kept.alloc | apply Kept.drewN | apply Kept.drew) | exact HK.out)⟩, ⟨by repeat (first | (with_reducible first | exact HB.out | apply below_alloc | apply pw_below_drewN | apply below_drew1) | exact HB.out)⟩⟩
        · rw [if_neg c4] at H
          exact absurd H (by simp)
      · rw [if_neg c3] at H
        have c3b0 : decide (x5_1 < (x0_1.length : Int)) = false := decide_eq_false c3
        clear c3
        simp only [Option.some.injEq, Prod.mk.injEq] at H
        obtain ⟨rfl, rfl⟩ := H
        obtain ⟨Ao9, co9, eo9⟩ := Kd.R_slice HO_0.out
        subst eo9
        go_wp2
        go_ret
        exact ⟨by first | rfl | (simp [errW_none, errW_some] <;> rfl) | (simp [*, errW_none, errW_some] <;> rfl), by (with_reducible repeat (first | apply Kd.R_alloc | apply Kd.R_drewN | apply Kd.R_drew)); exact HO_0.out, by repeat (first | (with_reducible first | exact HB.out | apply below_alloc | apply pw_below_drewN | apply below_drew1) | exact HB.out), by repeat (first | (with_reducible first | exact HK.out | apply Kept.alloc | apply Kept.drewN | apply Kept.drew) | exact HK.out)⟩

end Go.Proofs.YtcamchdenjpmhaaDoor.F
namespace Go.Proofs.YtcamchdenjpmhaaDoor.F
open Go Go.Shelf Go.RowKit Go.Proofs.YtcamchdenjpmhaaDoorW.PrintWords Go.Proofs.YtcamchdenjpmhaaDoorW.PrintLast Go.Proofs.YtcamchdenjpmhaaDoorW.PrintMore
attribute [local go_sem] max2_int min2_int max_two min_two max_three min_three max_four min_four   -- for this text's walks alone
set_option linter.unusedVariables false
set_option linter.unusedSimpArgs false

/-! ### laws_markText: function 36 -/
def laws_markText.l0 : Nat → Int → ByteArray → Option (ByteArray)
  | 0, _, _ => none
  | k + 1, x0, x3 => if x0 > 0 then ((some (([(wrap64 (48 + (Int.tmod x0 10))) % 256] : List Int) : List Int)).bind fun y101 => (if (strOfNums y101).size + x3.size ≤ 9223372036854775807 then (laws_markText.l0 k (wrap64 (Int.tdiv x0 10)) ((strOfNums y101) ++ x3)) else (none))) else (if 1 + x3.size ≤ 9223372036854775807 then (some ((⟨#[109]⟩ : ByteArray) ++ x3)) else (none))
def laws_markText.f (k : Nat) (a0 : Int) : Option (ByteArray) := if a0 ≤ 0 then (some (⟨#[109, 48]⟩ : ByteArray)) else (laws_markText.l0 k a0 (⟨#[]⟩ : ByteArray))
theorem laws_markText.mono_l : ∀ k, (∀ y0 y1, LeO (laws_markText.l0 k y0 y1) (laws_markText.l0 (k + 1) y0 y1))
  | 0 => fun _ _ r h => by simp [laws_markText.l0] at h
  | k + 1 => by
    have ih0 := laws_markText.mono_l k
    · intro y0 y1
      unfold laws_markText.l0
      repeat' first
      | (with_reducible exact ih0 _ _)
      | (with_reducible exact LeO.refl _)
      | (with_reducible exact LeO.none _)
      | (with_reducible refine LeO.ite ?_ ?_)
      | (with_reducible refine LeO.bind ?_ (fun _ => ?_))
      | exact ih0 _ _
      | exact LeO.none _
      | refine LeO.ite ?_ ?_
      | refine LeO.bind ?_ (fun _ => ?_)
theorem laws_markText.mono : ∀ a0 k, LeO (laws_markText.f k a0) (laws_markText.f (k + 1) a0) := by
  intro a0 k
  have ih0 := laws_markText.mono_l k
  unfold laws_markText.f
  repeat' first
      | (with_reducible exact ih0 _ _)
      | (with_reducible exact LeO.refl _)
      | (with_reducible exact LeO.none _)
      | (with_reducible refine LeO.ite ?_ ?_)
      | (with_reducible refine LeO.bind ?_ (fun _ => ?_))
      | exact ih0 _ _
      | exact LeO.none _
      | refine LeO.ite ?_ ?_
      | refine LeO.bind ?_ (fun _ => ?_)
set_option maxHeartbeats 8000000 in
set_option maxRecDepth 100000 in
theorem laws_markText.calls (k : Nat) (a0 : Int) (r : ByteArray) (w : World) (h : laws_markText.f k a0 = some r) :
    Calls Tryd.prog 36 #[.int .i64 a0] w fun e w' => e = .returned (.string r) ∧ Below w.heap.size w w' := by
  have HB := Aside0.mk (Below.refl w.heap.size w)
  have H : (if a0 ≤ 0 then (some (⟨#[109, 48]⟩ : ByteArray)) else (laws_markText.l0 k a0 (⟨#[]⟩ : ByteArray))) = some r := h
  clear h
  by_cases c2 : a0 ≤ 0
  · rw [if_pos c2] at H
    have c2b0 : decide (a0 ≤ 0) = true := decide_eq_true c2
    clear c2
    obtain rfl := Option.some.inj H
    go_enter Tryd.func36, Tryd.ntmps36
    go_wp2
    go_ret
    exact ⟨by first | rfl | (simp [errW_none, errW_some] <;> rfl) | (simp [*, errW_none, errW_some] <;> rfl), by repeat (first | (with_reducible first | exact HB.out | apply below_alloc | apply pw_below_drewN | apply below_drew1) | exact HB.out)⟩
  · rw [if_neg c2] at H
    have c2b0 : decide (a0 ≤ 0) = false := decide_eq_false c2
    clear c2
    have H' := Aside0.mk H
    clear H
    go_enter Tryd.func36, Tryd.ntmps36
    go_wp2
    go_loopg [0, 3] k (fun kq v0 v3 w' => ∃ (x0_1 : Int) (x3_1 : ByteArray), v0 = .int .i64 x0_1 ∧ v3 = .string x3_1 ∧ Aside0 (laws_markText.l0 kq x0_1 x3_1 = some r) ∧ Aside0 (kq ≤ k) ∧ Aside0 (Below w.heap.size w w'))
    case atStart => exact ⟨(a0), ((⟨#[]⟩ : ByteArray)), (by first | rfl | (simp; done) | (simp [*]; done)), (by first | rfl | (simp; done) | (simp [*]; done)), H', ⟨Nat.le_refl _⟩, ⟨by repeat (first | (with_reducible first | exact HB.out | apply below_alloc | apply pw_below_drewN | apply below_drew1) | exact HB.out)⟩⟩
    case round =>
      clear H'
      try clear c2
      try clear c2b0
      try clear p2
      obtain ⟨x0_1, x3_1, rfl, rfl, HA, HK1, HB⟩ := hrel
      cases gk with
      | zero => exact absurd HA.out (by simp [laws_markText.l0])
      | succ k1 =>
        have H := HA.out
        clear HA
        simp only [laws_markText.l0] at H
        by_cases c3 : x0_1 > 0
        · rw [if_pos c3] at H
          have c3b0 : decide (0 < x0_1) = true := decide_eq_true c3
          clear c3
          obtain ⟨y101, hy101⟩ : ∃ y_ : List Int, y_ = (([(wrap64 (48 + (Int.tmod x0_1 10))) % 256] : List Int)) := ⟨_, rfl⟩
          replace H : (if (strOfNums y101).size + x3_1.size ≤ 9223372036854775807 then (laws_markText.l0 k1 (wrap64 (Int.tdiv x0_1 10)) ((strOfNums y101) ++ x3_1)) else (none)) = some r := by first | (rw [hy101]; with_reducible exact H) | (have H2_ := (Option.bind_some _ _).symm.trans H; rw [hy101]; with_reducible exact H2_) | (have H2_ := (Option.bind_some _ _).symm.trans H; with_reducible exact H2_) | with_reducible exact H | (rw [hy101]; exact H) | exact H
          have Ny101 := Aside0.mk hy101
          clear hy101
          by_cases c4 : (strOfNums y101).size + x3_1.size ≤ 9223372036854775807
          · rw [if_pos c4] at H
            have c4b0 := eq_true c4
            have c4b1 : decide ((strOfNums y101).size + x3_1.size ≤ 9223372036854775807) = true := decide_eq_true c4
            try have c4b2 : (9223372036854775807 < (strOfNums y101).size + x3_1.size) = False := eq_false (Nat.not_lt.2 c4)
            have H' := Aside0.mk H
            clear H
            go_wp2_with (first | ((with_reducible refine gate_dst (N := 12) rfl ?_); refine Kd.R_lit (Kd.int .u8) _ 5 ?hg (N := 12) ?hd (xs := ([(wrap64 (48 + (Int.tmod x0_1 10))) % 256] : List Int)) (inner := [.int .u8 ((wrap64 (48 + (Int.tmod x0_1 10))) % 256)]) (ok := fun _ => True) (okp := fun _ => True) ?hr ?hp (fun _ hk => hk) trivial (Below.refl _ _) (Nat.le_refl _) (by simp) ?_; (case hd => rfl); (case hg => rfl); (case hr => first | (go_simp; done) | (go_simp; rfl)); (case hp => exact (Reps.one (show Kd.M (Kd.int .u8) _ _ _ ((wrap64 (48 + (Int.tmod x0_1 10))) % 256) [.int .u8 ((wrap64 (48 + (Int.tmod x0_1 10))) % 256)] from rfl) (Reps.none _ _))); intro v102 w5 ho6 hb hg_ hnew_; clear hg_ hnew_; (first | rw [← Ny101.out] at ho6 | (simp only [Int.reduceToNat] at ho6; rw [← Ny101.out] at ho6)); have n0_ := Aside0.mk (Kd.R_lower ho6 (below_size (by repeat (first | (with_reducible first | exact HB.out | apply below_alloc | apply pw_below_drewN | apply below_drew1) | exact HB.out)))); have n1_ := Aside0.mk (below_step (by repeat (first | (with_reducible first | exact HB.out | apply below_alloc | apply pw_below_drewN | apply below_drew1) | exact HB.out)) hb); clear HB; have HO103 := n0_; have HB := n1_; clear n0_ n1_; clear hb ho6; have hcv7 := own_string (P := Tryd.prog) Tryd.underlying22 Tryd.underlying5 Tryd.underlying9 (Kd.own_of_R HO103.out)))
            go_roundg k1
            case measure => have := HK1.out; omega
            case rel => exact ⟨(wrap64 (Int.tdiv x0_1 10)), ((strOfNums y101) ++ x3_1), (by first | rfl | (simp; done) | (simp [*]; done)), (by first | rfl | (simp; done) | (simp [*]; done)), H', ⟨by have := HK1.out; omega⟩, ⟨by repeat (first | (with_reducible first | exact HB.out | apply below_alloc | apply pw_below_drewN | apply below_drew1) | exact HB.out)⟩⟩
          · rw [if_neg c4] at H
            exact absurd H (by simp)
        · rw [if_neg c3] at H
          have c3b0 : decide (0 < x0_1) = false := decide_eq_false c3
          clear c3
          by_cases c8 : 1 + x3_1.size ≤ 9223372036854775807
          · rw [if_pos c8] at H
            have c8b0 := eq_true c8
            have c8b1 : decide (1 + x3_1.size ≤ 9223372036854775807) = true := decide_eq_true c8
            try have c8b2 : (9223372036854775807 < 1 + x3_1.size) = False := eq_false (Nat.not_lt.2 c8)
            obtain rfl := Option.some.inj H
            go_wp2
            go_ret
            exact ⟨by first | rfl | (simp [errW_none, errW_some] <;> rfl) | (simp [*, errW_none, errW_some] <;> rfl), by repeat (first | (with_reducible first | exact HB.out | apply below_alloc | apply pw_below_drewN | apply below_drew1) | exact HB.out)⟩
          · rw [if_neg c8] at H
            exact absurd H (by simp)

end Go.Proofs.YtcamchdenjpmhaaDoor.F
namespace Go.Proofs.YtcamchdenjpmhaaDoor.F
open Go Go.Shelf Go.RowKit Go.Proofs.YtcamchdenjpmhaaDoorW.PrintWords Go.Proofs.YtcamchdenjpmhaaDoorW.PrintLast Go.Proofs.YtcamchdenjpmhaaDoorW.PrintMore
attribute [local go_sem] max2_int min2_int max_two min_two max_three min_three max_four min_four   -- for this text's walks alone
set_option linter.unusedVariables false
set_option linter.unusedSimpArgs false

/-! ### laws_markQuestionS: function 21 -/
def laws_markQuestionS.l0 : Nat → List (S47) → Int → Int → Option (Int × (List (S47)))
  | 0, _, _, _ => none
  | k + 1, x0, x1, x5 => if x5 < (x0.length : Int) then ((laws_markText.f k x1).bind fun t101 => (if 0 ≤ x5 then ((some (x0.set (x5 : Int).toNat (⟨t101, (rd_T47 x0 x5).f1, (rd_T47 x0 x5).f2⟩ : S47) : List (S47))).bind fun y102 => ((some (y102.set (x5 : Int).toNat (⟨(rd_T47 y102 x5).f0, wrap64 (x1 + 1), (rd_T47 y102 x5).f2⟩ : S47) : List (S47))).bind fun y103 => (laws_markQuestionS.l0 k (y103.set (x5 : Int).toNat (⟨(rd_T47 y103 x5).f0, (rd_T47 y103 x5).f1, wrap64 ((wrap64 (x1 + 1)) + 1)⟩ : S47)) (wrap64 ((wrap64 ((wrap64 (x1 + 1)) + 1)) + 1)) (wrap64 (x5 + 1))))) else (none))) else (some (x1, x0))
def laws_markQuestionS.f (k : Nat) (l0 : List (S47)) (a1 : Int) : Option (Int × (List (S47))) := laws_markQuestionS.l0 k l0 a1 0
theorem laws_markQuestionS.mono_l : ∀ k, (∀ y0 y1 y2, LeO (laws_markQuestionS.l0 k y0 y1 y2) (laws_markQuestionS.l0 (k + 1) y0 y1 y2))
  | 0 => fun _ _ _ r h => by simp [laws_markQuestionS.l0] at h
  | k + 1 => by
    have ih0 := laws_markQuestionS.mono_l k
    · intro y0 y1 y2
      unfold laws_markQuestionS.l0
      repeat' first
      | (with_reducible exact ih0 _ _ _)
      | (with_reducible exact laws_markText.mono _ _)
      | (with_reducible exact LeO.refl _)
      | (with_reducible exact LeO.none _)
      | (with_reducible refine LeO.ite ?_ ?_)
      | (with_reducible refine LeO.bind ?_ (fun _ => ?_))
      | exact ih0 _ _ _
      | exact laws_markText.mono _ _
      | exact LeO.none _
      | refine LeO.ite ?_ ?_
      | refine LeO.bind ?_ (fun _ => ?_)
theorem laws_markQuestionS.mono : ∀ a0 a1 k, LeO (laws_markQuestionS.f k a0 a1) (laws_markQuestionS.f (k + 1) a0 a1) := by
  intro a0 a1 k
  have ih0 := laws_markQuestionS.mono_l k
  unfold laws_markQuestionS.f
  repeat' first
      | (with_reducible exact ih0 _ _ _)
      | (with_reducible exact laws_markText.mono _ _)
      | (with_reducible exact LeO.refl _)
      | (with_reducible exact LeO.none _)
      | (with_reducible refine LeO.ite ?_ ?_)
      | (with_reducible refine LeO.bind ?_ (fun _ => ?_))
      | exact ih0 _ _ _
      | exact laws_markText.mono _ _
      | exact LeO.none _
      | refine LeO.ite ?_ ?_
      | refine LeO.bind ?_ (fun _ => ?_)
set_option maxHeartbeats 8000000 in
set_option maxRecDepth 100000 in
theorem laws_markQuestionS.calls (k : Nat) (P0_ : Nat → Prop) (u9000_ : Value) (l0 : List (S47)) (a1 : Int) (r1 : Int) (r2 : List (S47)) (w0 w : World) (hB : Below w0.heap.size w0 w) (ho0 : Kd.R k47 47 w w0.heap.size P0_ u9000_ l0) (h : laws_markQuestionS.f k l0 a1 = some (r1, r2)) :
    Calls Tryd.prog 21 #[u9000_, .int .i64 a1] w fun e w' => e = .returned (.int .i64 r1) ∧ Kd.R k47 47 w' w0.heap.size (fun k_ => (P0_ k_ ∨ w.heap.size ≤ k_)) u9000_ r2 ∧ Below w0.heap.size w0 w' ∧ Kept w w' (fun k_ => P0_ k_) := by
  have HO0 := Aside0.mk (show Kd.R k47 47 w w0.heap.size (fun k_ => (P0_ k_ ∨ w.heap.size ≤ k_)) u9000_ l0 from Kd.R_mono ho0 (fun k_ hk => (.inl hk)))
  have HK := Aside0.mk (Kept.refl w (fun k_ => P0_ k_))
  have HW0 := Aside0.mk hB.size
  have HB := Aside0.mk hB
  clear hB
  have H : (laws_markQuestionS.l0 k l0 a1 0) = some (r1, r2) := h
  clear h
  have H' := Aside0.mk H
  clear H
  go_enter Tryd.func21, Tryd.ntmps21
  go_wp2
  go_loopg [1, 5] k (fun kq v1 v5 w' => ∃ (x0_1 : List (S47)) (x1_1 : Int) (x5_1 : Int), v1 = .int .i64 x1_1 ∧ v5 = .int .i64 x5_1 ∧ Aside0 (laws_markQuestionS.l0 kq x0_1 x1_1 x5_1 = some (r1, r2)) ∧ Aside0 (kq ≤ k) ∧ Aside0 (Kd.R k47 47 w' w0.heap.size (fun k_ => (P0_ k_ ∨ w.heap.size ≤ k_)) u9000_ x0_1) ∧ Aside0 (Kept w w' (fun k_ => P0_ k_)) ∧ Aside0 (Below w0.heap.size w0 w'))
  case atStart => exact ⟨(l0), (a1), (0), (by first | rfl | (simp; done) | (simp [*]; done)), (by first | rfl | (simp; done) | (simp [*]; done)), H', ⟨Nat.le_refl _⟩, ⟨by (with_reducible repeat (first | apply Kd.R_alloc | apply Kd.R_drewN | apply Kd.R_drew)); exact HO0.out⟩, ⟨by repeat (first | (with_reducible first | exact HK.out | apply Kept.alloc | apply Kept.drewN | apply Kept.drew) | exact HK.out)⟩, ⟨by repeat (first | (with_reducible first | exact HB.out | apply below_alloc | apply pw_below_drewN | apply below_drew1) | exact HB.out)⟩⟩
  case round =>
    clear H'
    try clear c2
    try clear p2
    obtain ⟨x0_1, x1_1, x5_1, rfl, rfl, HA, HK1, HO_0, HK, HB⟩ := hrel
    cases gk with
    | zero => exact absurd HA.out (by simp [laws_markQuestionS.l0])
    | succ k1 =>
      have H := HA.out
      clear HA
      simp only [laws_markQuestionS.l0] at H
      by_cases c3 : x5_1 < (x0_1.length : Int)
      · rw [if_pos c3] at H
        have c3b0 : decide (x5_1 < (x0_1.length : Int)) = true := decide_eq_true c3
        clear c3
        replace H := Option.bind_eq_some_iff.mp H
        obtain ⟨t101, A40, H⟩ := H
        replace H : (if 0 ≤ x5_1 then ((some (x0_1.set (x5_1 : Int).toNat (⟨t101, (rd_T47 x0_1 x5_1).f1, (rd_T47 x0_1 x5_1).f2⟩ : S47) : List (S47))).bind fun y102 => ((some (y102.set (x5_1 : Int).toNat (⟨(rd_T47 y102 x5_1).f0, wrap64 (x1_1 + 1), (rd_T47 y102 x5_1).f2⟩ : S47) : List (S47))).bind fun y103 => (laws_markQuestionS.l0 k1 (y103.set (x5_1 : Int).toNat (⟨(rd_T47 y103 x5_1).f0, (rd_T47 y103 x5_1).f1, wrap64 ((wrap64 (x1_1 + 1)) + 1)⟩ : S47)) (wrap64 ((wrap64 ((wrap64 (x1_1 + 1)) + 1)) + 1)) (wrap64 (x5_1 + 1))))) else (none)) = some (r1, r2) := H
        have A4 := Aside0.mk A40
        clear A40
        by_cases c5 : 0 ≤ x5_1
        · rw [if_pos c5] at H
          have c5b0 : decide (0 ≤ x5_1) = true := decide_eq_true c5
          clear c5
          obtain ⟨y102, hy102⟩ : ∃ y_ : List (S47), y_ = (x0_1.set (x5_1 : Int).toNat (⟨t101, (rd_T47 x0_1 x5_1).f1, (rd_T47 x0_1 x5_1).f2⟩ : S47)) := ⟨_, rfl⟩
          replace H : ((some (y102.set (x5_1 : Int).toNat (⟨(rd_T47 y102 x5_1).f0, wrap64 (x1_1 + 1), (rd_T47 y102 x5_1).f2⟩ : S47) : List (S47))).bind fun y103 => (laws_markQuestionS.l0 k1 (y103.set (x5_1 : Int).toNat (⟨(rd_T47 y103 x5_1).f0, (rd_T47 y103 x5_1).f1, wrap64 ((wrap64 (x1_1 + 1)) + 1)⟩ : S47)) (wrap64 ((wrap64 ((wrap64 (x1_1 + 1)) + 1)) + 1)) (wrap64 (x5_1 + 1)))) = some (r1, r2) := by first | (rw [hy102]; with_reducible exact H) | (have H2_ := (Option.bind_some _ _).symm.trans H; rw [hy102]; with_reducible exact H2_) | (have H2_ := (Option.bind_some _ _).symm.trans H; with_reducible exact H2_) | with_reducible exact H | (rw [hy102]; exact H) | exact H
          have Ny102 := Aside0.mk hy102
          clear hy102
          obtain ⟨y103, hy103⟩ : ∃ y_ : List (S47), y_ = (y102.set (x5_1 : Int).toNat (⟨(rd_T47 y102 x5_1).f0, wrap64 (x1_1 + 1), (rd_T47 y102 x5_1).f2⟩ : S47)) := ⟨_, rfl⟩
          replace H : (laws_markQuestionS.l0 k1 (y103.set (x5_1 : Int).toNat (⟨(rd_T47 y103 x5_1).f0, (rd_T47 y103 x5_1).f1, wrap64 ((wrap64 (x1_1 + 1)) + 1)⟩ : S47)) (wrap64 ((wrap64 ((wrap64 (x1_1 + 1)) + 1)) + 1)) (wrap64 (x5_1 + 1))) = some (r1, r2) := by first | (rw [hy103]; with_reducible exact H) | (have H2_ := (Option.bind_some _ _).symm.trans H; rw [hy103]; with_reducible exact H2_) | (have H2_ := (Option.bind_some _ _).symm.trans H; with_reducible exact H2_) | with_reducible exact H | (rw [hy103]; exact H) | exact H
          have Ny103 := Aside0.mk hy103
          clear hy103
          obtain ⟨y104, hy104⟩ : ∃ y_ : List (S47), y_ = (y103.set (x5_1 : Int).toNat (⟨(rd_T47 y103 x5_1).f0, (rd_T47 y103 x5_1).f1, wrap64 ((wrap64 (x1_1 + 1)) + 1)⟩ : S47)) := ⟨_, rfl⟩
          replace H : (laws_markQuestionS.l0 k1 y104 (wrap64 ((wrap64 ((wrap64 (x1_1 + 1)) + 1)) + 1)) (wrap64 (x5_1 + 1))) = some (r1, r2) := by first | (rw [hy104]; with_reducible exact H) | (have H2_ := (Option.bind_some _ _).symm.trans H; rw [hy104]; with_reducible exact H2_) | (have H2_ := (Option.bind_some _ _).symm.trans H; with_reducible exact H2_) | with_reducible exact H | (rw [hy104]; exact H) | exact H
          have Ny104 := Aside0.mk hy104
          clear hy104
          have H' := Aside0.mk H
          clear H
          obtain ⟨Ao9, co9, eo9⟩ := Kd.R_slice HO_0.out
          subst eo9
          go_wp2_with (first | ((with_reducible refine gate_callee (f := 36) rfl ?_); refine goesL_ (some 15) rfl rfl Tryd.func36 (by kernel_rfl) rfl #[.int .i64 x1_1] rfl (by (try simp only [List.map_toArray, List.map_cons, List.map_nil]); first | done | rfl | (simp only [List.length_drop, List.length_take]; rfl)) ?_; (with_reducible refine (laws_markText.calls k1 x1_1 t101 _ A4.out).mono ?_); rintro e w10 ⟨rfl, hb⟩; refine ⟨_, rfl, ?_⟩; have n0_ := Aside0.mk (Kd.R_below (by (with_reducible repeat (first | apply Kd.R_alloc | apply Kd.R_drewN | apply Kd.R_drew)); exact HO_0.out) hb); have n1_ := Aside0.mk (Kept.below (S := (fun k_ => P0_ k_)) (by repeat (first | (with_reducible first | exact HK.out | apply Kept.alloc | apply Kept.drewN | apply Kept.drew) | exact HK.out)) hb); have n2_ := Aside0.mk (below_step (by repeat (first | (with_reducible first | exact HB.out | apply below_alloc | apply pw_below_drewN | apply below_drew1) | exact HB.out)) hb); clear HO_0; clear HK; clear HB; have HO_0 := n0_; have HK := n1_; have HB := n2_; clear n0_ n1_ n2_; (try clear hb); (try clear hb2); (try clear hk); (try clear hi); have p6 : 0 ≤ (x5_1 : Int) := of_decide_eq_true (by first | (with_reducible assumption) | assumption); have q6 : (x5_1 : Int) < ((x0_1.length : Int) : Int) := of_decide_eq_true (by first | (with_reducible assumption) | assumption); obtain ⟨go6, co6, eo6, gb6, gl6, cl6, HG6⟩ := Kd.R_form HO_0.out (by omega); (first | cases eo6 | (injection eo6 with ea_ en_ ec_; (first | subst ea_ | (injection ea_ with ea_; subst ea_)); subst ec_; clear en_)); have GB6 := Aside0.mk gb6; have GG6 := Aside0.mk HG6; clear gb6 gl6 HG6; have HMgo6 := Aside0.mk (show (P0_ go6 ∨ w.heap.size ≤ go6) from (HO_0.out.1 _ rfl)); obtain ⟨ce6, hcl6, hM6, hcc6, hfr6⟩ := Kd.R_elem HO_0.out z47 (x5_1 : Int) p6 q6; obtain rfl := k47_openM hM6; have hx6_0 : w10.cell? ⟨go6, (x5_1 : Int).toNat * 3, none⟩ = some (.string ((rd_T47 x0_1 x5_1).f0)) := hcc6 0 _ rfl; have hx6_1 : w10.cell? ⟨go6, (x5_1 : Int).toNat * 3 + 1, none⟩ = some (.int .i64 ((rd_T47 x0_1 x5_1).f1)) := hcc6 1 _ rfl; have hx6_2 : w10.cell? ⟨go6, (x5_1 : Int).toNat * 3 + 2, none⟩ = some (.int .i64 ((rd_T47 x0_1 x5_1).f2)) := hcc6 2 _ rfl; have hf6_0 : w10.frozen? ⟨go6, (x5_1 : Int).toNat * 3, none⟩ = false := hfr6 0; have hf6_1 : w10.frozen? ⟨go6, (x5_1 : Int).toNat * 3 + 1, none⟩ = false := hfr6 1; have hf6_2 : w10.frozen? ⟨go6, (x5_1 : Int).toNat * 3 + 2, none⟩ = false := hfr6 2; clear hcl6 hcc6 hfr6 hM6; replace p6 := eq_true p6; replace q6 := eq_true q6; have HX11 := Aside0.mk (show Kd.R k47 47 w10 w0.heap.size (fun k_ => (P0_ k_ ∨ w.heap.size ≤ k_)) (.slice (some ⟨go6, 0, none⟩) x0_1.length co9) x0_1 from (by (with_reducible repeat (first | apply Kd.R_alloc | apply Kd.R_drewN | apply Kd.R_drew)); exact HO_0.out)); obtain ⟨ce11, hcl11, hM11, hcc11, hfr11⟩ := Kd.R_elem HX11.out z47 (x5_1 : Int) (of_decide_eq_true (by first | (with_reducible assumption) | assumption)) (by have h_ : (x5_1 : Int) < ((x0_1.length : Int) : Int) := of_decide_eq_true (by first | (with_reducible assumption) | assumption); first | exact h_ | (have e_ := (Kd.R_reads' HO_0.out).1; omega) | simpa using h_); obtain rfl := k47_openM hM11; have HP11 := Kd.R_seg HX11.out (x5_1 : Int) (of_decide_eq_true (by first | (with_reducible assumption) | assumption)) (by have h_ : (x5_1 : Int) < ((x0_1.length : Int) : Int) := of_decide_eq_true (by first | (with_reducible assumption) | assumption); first | exact h_ | (have e_ := (Kd.R_reads' HO_0.out).1; omega) | simpa using h_) (seg := [.string t101]) (j := 0) hcl11 hcc11 (show 1 ≤ 3 from by decide) (x' := (⟨t101, (rd_T47 x0_1 x5_1).f1, (rd_T47 x0_1 x5_1).f2⟩ : S47)) (k47_mkM _ _ _ (⟨t101, (rd_T47 x0_1 x5_1).f1, (rd_T47 x0_1 x5_1).f2⟩ : S47) ) (fun _ hk => hk); have hx11_0 := hcc11 0 _ rfl; (try simp only [show (k47).sz = 3 from rfl, Nat.mul_one, Nat.add_zero] at hx11_0); have hf11_0 := hfr11 0; (try simp only [show (k47).sz = 3 from rfl, Nat.mul_one, Nat.add_zero] at hf11_0); clear hcl11 hcc11 hfr11 hM11) | ((with_reducible refine gate_store (t := 9) (p := 17) rfl ?_); refine store_event (t := 9) (p := 17) (v := ?vo_w12) (w1 := (w10.setCell ⟨go6, (x5_1 : Int).toNat * 3, none⟩ (.string t101))) ?hg ?ho ?hn ?hr ?_; (case ho => rfl); (case hg => rfl); (case hn => rfl); (case hr => first | (go_simp; done) | (go_simp; rfl)); intro w12 hw; have hg : w10.grownBy w12 (some go6) := (by rw [hw]; exact HP11.2); have hp_ : Kd.R k47 47 w12 w0.heap.size (fun k_ => (P0_ k_ ∨ w.heap.size ≤ k_)) (.slice (some ⟨go6, 0, none⟩) x0_1.length co9) y102 := (by rw [hw, Ny102.out]; exact HP11.1); clear HP11; have n0_ := Aside0.mk (hp_); have n1_ := Aside0.mk ((by rw [hw]; exact below_set (HB.out) GB6.out : Below w0.heap.size w0 w12)); have n2_ := Aside0.mk (Kept.of_grown (S := (fun k_ => P0_ k_)) hg (by repeat (first | (with_reducible first | exact HK.out | apply Kept.alloc | apply Kept.drewN | apply Kept.drew) | exact HK.out)) (fun k_ e_ => (HO_0.out.1 k_ e_))); clear HO_0; clear HB; clear HK; have HO_0 := n0_; have HB := n1_; have HK := n2_; clear n0_ n1_ n2_; clear hg hw hp_; have p7 : 0 ≤ (x5_1 : Int) := of_decide_eq_true (by first | (with_reducible assumption) | assumption); have q7 : (x5_1 : Int) < ((x0_1.length : Int) : Int) := of_decide_eq_true (by first | (with_reducible assumption) | assumption); obtain ⟨ce7, hcl7, hM7, hcc7, hfr7⟩ := Kd.R_elem HO_0.out z47 (x5_1 : Int) p7 q7; obtain rfl := k47_openM hM7; have hx7_0 : w12.cell? ⟨go6, (x5_1 : Int).toNat * 3, none⟩ = some (.string ((rd_T47 y102 x5_1).f0)) := hcc7 0 _ rfl; have hx7_1 : w12.cell? ⟨go6, (x5_1 : Int).toNat * 3 + 1, none⟩ = some (.int .i64 ((rd_T47 y102 x5_1).f1)) := hcc7 1 _ rfl; have hx7_2 : w12.cell? ⟨go6, (x5_1 : Int).toNat * 3 + 2, none⟩ = some (.int .i64 ((rd_T47 y102 x5_1).f2)) := hcc7 2 _ rfl; have hf7_0 : w12.frozen? ⟨go6, (x5_1 : Int).toNat * 3, none⟩ = false := hfr7 0; have hf7_1 : w12.frozen? ⟨go6, (x5_1 : Int).toNat * 3 + 1, none⟩ = false := hfr7 1; have hf7_2 : w12.frozen? ⟨go6, (x5_1 : Int).toNat * 3 + 2, none⟩ = false := hfr7 2; clear hcl7 hcc7 hfr7 hM7; replace p7 := eq_true p7; replace q7 := eq_true q7; have HX13 := Aside0.mk (show Kd.R k47 47 w12 w0.heap.size (fun k_ => (P0_ k_ ∨ w.heap.size ≤ k_)) (.slice (some ⟨go6, 0, none⟩) x0_1.length co9) y102 from (by (with_reducible repeat (first | apply Kd.R_alloc | apply Kd.R_drewN | apply Kd.R_drew)); exact HO_0.out)); obtain ⟨ce13, hcl13, hM13, hcc13, hfr13⟩ := Kd.R_elem HX13.out z47 (x5_1 : Int) (of_decide_eq_true (by first | (with_reducible assumption) | assumption)) (by have h_ : (x5_1 : Int) < ((x0_1.length : Int) : Int) := of_decide_eq_true (by first | (with_reducible assumption) | assumption); first | exact h_ | (have e_ := (Kd.R_reads' HO_0.out).1; omega) | simpa using h_); obtain rfl := k47_openM hM13; have HP13 := Kd.R_seg HX13.out (x5_1 : Int) (of_decide_eq_true (by first | (with_reducible assumption) | assumption)) (by have h_ : (x5_1 : Int) < ((x0_1.length : Int) : Int) := of_decide_eq_true (by first | (with_reducible assumption) | assumption); first | exact h_ | (have e_ := (Kd.R_reads' HO_0.out).1; omega) | simpa using h_) (seg := [.int .i64 (wrap64 (x1_1 + 1))]) (j := 1) hcl13 hcc13 (show 2 ≤ 3 from by decide) (x' := (⟨(rd_T47 y102 x5_1).f0, wrap64 (x1_1 + 1), (rd_T47 y102 x5_1).f2⟩ : S47)) (k47_mkM _ _ _ (⟨(rd_T47 y102 x5_1).f0, wrap64 (x1_1 + 1), (rd_T47 y102 x5_1).f2⟩ : S47) ) (fun _ hk => hk); have hx13_1 := hcc13 1 _ rfl; (try simp only [show (k47).sz = 3 from rfl, Nat.mul_one, Nat.add_zero] at hx13_1); have hf13_1 := hfr13 1; (try simp only [show (k47).sz = 3 from rfl, Nat.mul_one, Nat.add_zero] at hf13_1); clear hcl13 hcc13 hfr13 hM13) | ((with_reducible refine gate_store (t := 2) (p := 24) rfl ?_); refine store_event (t := 2) (p := 24) (v := ?vo_w14) (w1 := (w12.setCell ⟨go6, (x5_1 : Int).toNat * 3 + 1, none⟩ (.int .i64 (wrap64 (x1_1 + 1))))) ?hg ?ho ?hn ?hr ?_; (case ho => rfl); (case hg => rfl); (case hn => rfl); (case hr => first | (go_simp; done) | (go_simp; rfl)); intro w14 hw; have hg : w12.grownBy w14 (some go6) := (by rw [hw]; exact HP13.2); have hp_ : Kd.R k47 47 w14 w0.heap.size (fun k_ => (P0_ k_ ∨ w.heap.size ≤ k_)) (.slice (some ⟨go6, 0, none⟩) x0_1.length co9) y103 := (by rw [hw, Ny103.out]; exact HP13.1); clear HP13; have n0_ := Aside0.mk (hp_); have n1_ := Aside0.mk ((by rw [hw]; exact below_set (HB.out) GB6.out : Below w0.heap.size w0 w14)); have n2_ := Aside0.mk (Kept.of_grown (S := (fun k_ => P0_ k_)) hg (by repeat (first | (with_reducible first | exact HK.out | apply Kept.alloc | apply Kept.drewN | apply Kept.drew) | exact HK.out)) (fun k_ e_ => (HO_0.out.1 k_ e_))); clear HO_0; clear HB; clear HK; have HO_0 := n0_; have HB := n1_; have HK := n2_; clear n0_ n1_ n2_; clear hg hw hp_; have p8 : 0 ≤ (x5_1 : Int) := of_decide_eq_true (by first | (with_reducible assumption) | assumption); have q8 : (x5_1 : Int) < ((x0_1.length : Int) : Int) := of_decide_eq_true (by first | (with_reducible assumption) | assumption); obtain ⟨ce8, hcl8, hM8, hcc8, hfr8⟩ := Kd.R_elem HO_0.out z47 (x5_1 : Int) p8 q8; obtain rfl := k47_openM hM8; have hx8_0 : w14.cell? ⟨go6, (x5_1 : Int).toNat * 3, none⟩ = some (.string ((rd_T47 y103 x5_1).f0)) := hcc8 0 _ rfl; have hx8_1 : w14.cell? ⟨go6, (x5_1 : Int).toNat * 3 + 1, none⟩ = some (.int .i64 ((rd_T47 y103 x5_1).f1)) := hcc8 1 _ rfl; have hx8_2 : w14.cell? ⟨go6, (x5_1 : Int).toNat * 3 + 2, none⟩ = some (.int .i64 ((rd_T47 y103 x5_1).f2)) := hcc8 2 _ rfl; have hf8_0 : w14.frozen? ⟨go6, (x5_1 : Int).toNat * 3, none⟩ = false := hfr8 0; have hf8_1 : w14.frozen? ⟨go6, (x5_1 : Int).toNat * 3 + 1, none⟩ = false := hfr8 1; have hf8_2 : w14.frozen? ⟨go6, (x5_1 : Int).toNat * 3 + 2, none⟩ = false := hfr8 2; clear hcl8 hcc8 hfr8 hM8; replace p8 := eq_true p8; replace q8 := eq_true q8; have HX15 := Aside0.mk (show Kd.R k47 47 w14 w0.heap.size (fun k_ => (P0_ k_ ∨ w.heap.size ≤ k_)) (.slice (some ⟨go6, 0, none⟩) x0_1.length co9) y103 from (by (with_reducible repeat (first | apply Kd.R_alloc | apply Kd.R_drewN | apply Kd.R_drew)); exact HO_0.out)); obtain ⟨ce15, hcl15, hM15, hcc15, hfr15⟩ := Kd.R_elem HX15.out z47 (x5_1 : Int) (of_decide_eq_true (by first | (with_reducible assumption) | assumption)) (by have h_ : (x5_1 : Int) < ((x0_1.length : Int) : Int) := of_decide_eq_true (by first | (with_reducible assumption) | assumption); first | exact h_ | (have e_ := (Kd.R_reads' HO_0.out).1; omega) | simpa using h_); obtain rfl := k47_openM hM15; have HP15 := Kd.R_seg HX15.out (x5_1 : Int) (of_decide_eq_true (by first | (with_reducible assumption) | assumption)) (by have h_ : (x5_1 : Int) < ((x0_1.length : Int) : Int) := of_decide_eq_true (by first | (with_reducible assumption) | assumption); first | exact h_ | (have e_ := (Kd.R_reads' HO_0.out).1; omega) | simpa using h_) (seg := [.int .i64 (wrap64 ((wrap64 (x1_1 + 1)) + 1))]) (j := 2) hcl15 hcc15 (show 3 ≤ 3 from by decide) (x' := (⟨(rd_T47 y103 x5_1).f0, (rd_T47 y103 x5_1).f1, wrap64 ((wrap64 (x1_1 + 1)) + 1)⟩ : S47)) (k47_mkM _ _ _ (⟨(rd_T47 y103 x5_1).f0, (rd_T47 y103 x5_1).f1, wrap64 ((wrap64 (x1_1 + 1)) + 1)⟩ : S47) ) (fun _ hk => hk); have hx15_2 := hcc15 2 _ rfl; (try simp only [show (k47).sz = 3 from rfl, Nat.mul_one, Nat.add_zero] at hx15_2); have hf15_2 := hfr15 2; (try simp only [show (k47).sz = 3 from rfl, Nat.mul_one, Nat.add_zero] at hf15_2); clear hcl15 hcc15 hfr15 hM15) | ((with_reducible refine gate_store (t := 2) (p := 31) rfl ?_); refine store_event (t := 2) (p := 31) (v := ?vo_w16) (w1 := (w14.setCell ⟨go6, (x5_1 : Int).toNat * 3 + 2, none⟩ (.int .i64 (wrap64 ((wrap64 (x1_1 + 1)) + 1))))) ?hg ?ho ?hn ?hr ?_; (case ho => rfl); (case hg => rfl); (case hn => rfl); (case hr => first | (go_simp; done) | (go_simp; rfl)); intro w16 hw; have hg : w14.grownBy w16 (some go6) := (by rw [hw]; exact HP15.2); have hp_ : Kd.R k47 47 w16 w0.heap.size (fun k_ => (P0_ k_ ∨ w.heap.size ≤ k_)) (.slice (some ⟨go6, 0, none⟩) x0_1.length co9) y104 := (by rw [hw, Ny104.out]; exact HP15.1); clear HP15; have n0_ := Aside0.mk (hp_); have n1_ := Aside0.mk ((by rw [hw]; exact below_set (HB.out) GB6.out : Below w0.heap.size w0 w16)); have n2_ := Aside0.mk (Kept.of_grown (S := (fun k_ => P0_ k_)) hg (by repeat (first | (with_reducible first | exact HK.out | apply Kept.alloc | apply Kept.drewN | apply Kept.drew) | exact HK.out)) (fun k_ e_ => (HO_0.out.1 k_ e_))); clear HO_0; clear HB; clear HK; have HO_0 := n0_; have HB := n1_; have HK := n2_; clear n0_ n1_ n2_; clear hg hw hp_))
          go_roundg k1
          case measure => have := HK1.out; omega
          case rel => exact ⟨(y104), (wrap64 ((wrap64 ((wrap64 (x1_1 + 1)) + 1)) + 1)), (wrap64 (x5_1 + 1)), (by first | rfl | (simp; done) | (simp [*]; done)), (by first | rfl | (simp; done) | (simp [*]; done)), H', ⟨by have := HK1.out; omega⟩, ⟨by (with_reducible repeat (first | apply Kd.R_alloc | apply Kd.R_drewN | apply Kd.R_drew)); exact HO_0.out⟩, ⟨by repeat (first | (with_reducible first | exact HK.out | apply Kept.alloc | apply Kept.drewN | apply Kept.drew) | exact HK.out)⟩, ⟨by repeat (first | (with_reducible first | exact HB.out | apply below_alloc | apply pw_below_drewN | apply below_drew1) | exact HB.out)⟩⟩
        · rw [if_neg c5] at H
          exact absurd H (by simp)
      · rw [if_neg c3] at H
        have c3b0 : decide (x5_1 < (x0_1.length : Int)) = false := decide_eq_false c3
        clear c3
        simp only [Option.some.injEq, Prod.mk.injEq] at H
        obtain ⟨rfl, rfl⟩ := H
        obtain ⟨Ao17, co17, eo17⟩ := Kd.R_slice HO_0.out
        subst eo17
        go_wp2
        go_ret
        exact ⟨by first | rfl | (simp [errW_none, errW_some] <;> rfl) | (simp [*, errW_none, errW_some] <;> rfl), by (with_reducible repeat (first | apply Kd.R_alloc | apply Kd.R_drewN | apply Kd.R_drew)); exact HO_0.out, by repeat (first | (with_reducible first | exact HB.out | apply below_alloc | apply pw_below_drewN | apply below_drew1) | exact HB.out), by repeat (first | (with_reducible first | exact HK.out | apply Kept.alloc | apply Kept.drewN | apply Kept.drew) | exact HK.out)⟩

end Go.Proofs.YtcamchdenjpmhaaDoor.F
namespace Go.Proofs.YtcamchdenjpmhaaDoor.F
open Go Go.Shelf Go.RowKit Go.Proofs.YtcamchdenjpmhaaDoorW.PrintWords Go.Proofs.YtcamchdenjpmhaaDoorW.PrintLast Go.Proofs.YtcamchdenjpmhaaDoorW.PrintMore
attribute [local go_sem] max2_int min2_int max_two min_two max_three min_three max_four min_four   -- for this text's walks alone
set_option linter.unusedVariables false
set_option linter.unusedSimpArgs false

/-! ### laws_markRRS: function 22 -/
def laws_markRRS.l0 : Nat → List (S53) → Int → Int → Option (Int × (List (S53)))
  | 0, _, _, _ => none
  | k + 1, x0, x1, x5 => if x5 < (x0.length : Int) then ((laws_markText.f k x1).bind fun t101 => (if 0 ≤ x5 then ((some (x0.set (x5 : Int).toNat (⟨t101, (rd_T53 x0 x5).f1, (rd_T53 x0 x5).f2, (rd_T53 x0 x5).f3, (rd_T53 x0 x5).f4⟩ : S53) : List (S53))).bind fun y102 => ((some (y102.set (x5 : Int).toNat (⟨(rd_T53 y102 x5).f0, wrap64 (x1 + 1), (rd_T53 y102 x5).f2, (rd_T53 y102 x5).f3, (rd_T53 y102 x5).f4⟩ : S53) : List (S53))).bind fun y103 => ((some (y103.set (x5 : Int).toNat (⟨(rd_T53 y103 x5).f0, (rd_T53 y103 x5).f1, wrap64 ((wrap64 (x1 + 1)) + 1), (rd_T53 y103 x5).f3, (rd_T53 y103 x5).f4⟩ : S53) : List (S53))).bind fun y104 => ((some (y104.set (x5 : Int).toNat (⟨(rd_T53 y104 x5).f0, (rd_T53 y104 x5).f1, (rd_T53 y104 x5).f2, wrap64 ((wrap64 ((wrap64 (x1 + 1)) + 1)) + 1), (rd_T53 y104 x5).f4⟩ : S53) : List (S53))).bind fun y105 => ((laws_markText.f k (wrap64 ((wrap64 ((wrap64 ((wrap64 (x1 + 1)) + 1)) + 1)) + 1))).bind fun t106 => (laws_markRRS.l0 k (y105.set (x5 : Int).toNat (⟨(rd_T53 y105 x5).f0, (rd_T53 y105 x5).f1, (rd_T53 y105 x5).f2, (rd_T53 y105 x5).f3, t106⟩ : S53)) (wrap64 ((wrap64 ((wrap64 ((wrap64 ((wrap64 (x1 + 1)) + 1)) + 1)) + 1)) + 1)) (wrap64 (x5 + 1)))))))) else (none))) else (some (x1, x0))
def laws_markRRS.f (k : Nat) (l0 : List (S53)) (a1 : Int) : Option (Int × (List (S53))) := laws_markRRS.l0 k l0 a1 0
theorem laws_markRRS.mono_l : ∀ k, (∀ y0 y1 y2, LeO (laws_markRRS.l0 k y0 y1 y2) (laws_markRRS.l0 (k + 1) y0 y1 y2))
  | 0 => fun _ _ _ r h => by simp [laws_markRRS.l0] at h
  | k + 1 => by
    have ih0 := laws_markRRS.mono_l k
    · intro y0 y1 y2
      unfold laws_markRRS.l0
      repeat' first
      | (with_reducible exact ih0 _ _ _)
      | (with_reducible exact laws_markText.mono _ _)
      | (with_reducible exact LeO.refl _)
      | (with_reducible exact LeO.none _)
      | (with_reducible refine LeO.ite ?_ ?_)
      | (with_reducible refine LeO.bind ?_ (fun _ => ?_))
      | exact ih0 _ _ _
      | exact laws_markText.mono _ _
      | exact LeO.none _
      | refine LeO.ite ?_ ?_
      | refine LeO.bind ?_ (fun _ => ?_)
theorem laws_markRRS.mono : ∀ a0 a1 k, LeO (laws_markRRS.f k a0 a1) (laws_markRRS.f (k + 1) a0 a1) := by
  intro a0 a1 k
  have ih0 := laws_markRRS.mono_l k
  unfold laws_markRRS.f
  repeat' first
      | (with_reducible exact ih0 _ _ _)
      | (with_reducible exact laws_markText.mono _ _)
      | (with_reducible exact LeO.refl _)
      | (with_reducible exact LeO.none _)
      | (with_reducible refine LeO.ite ?_ ?_)
      | (with_reducible refine LeO.bind ?_ (fun _ => ?_))
      | exact ih0 _ _ _
      | exact laws_markText.mono _ _
      | exact LeO.none _
      | refine LeO.ite ?_ ?_
      | refine LeO.bind ?_ (fun _ => ?_)
set_option maxHeartbeats 8000000 in
set_option maxRecDepth 100000 in
theorem laws_markRRS.calls (k : Nat) (P0_ : Nat → Prop) (u9000_ : Value) (l0 : List (S53)) (a1 : Int) (r1 : Int) (r2 : List (S53)) (w0 w : World) (hB : Below w0.heap.size w0 w) (ho0 : Kd.R k53 53 w w0.heap.size P0_ u9000_ l0) (h : laws_markRRS.f k l0 a1 = some (r1, r2)) :
    Calls Tryd.prog 22 #[u9000_, .int .i64 a1] w fun e w' => e = .returned (.int .i64 r1) ∧ Kd.R k53 53 w' w0.heap.size (fun k_ => (P0_ k_ ∨ w.heap.size ≤ k_)) u9000_ r2 ∧ Below w0.heap.size w0 w' ∧ Kept w w' (fun k_ => P0_ k_) := by
  have HO0 := Aside0.mk (show Kd.R k53 53 w w0.heap.size (fun k_ => (P0_ k_ ∨ w.heap.size ≤ k_)) u9000_ l0 from Kd.R_mono ho0 (fun k_ hk => (.inl hk)))
  have HK := Aside0.mk (Kept.refl w (fun k_ => P0_ k_))
  have HW0 := Aside0.mk hB.size
  have HB := Aside0.mk hB
  clear hB
  have H : (laws_markRRS.l0 k l0 a1 0) = some (r1, r2) := h
  clear h
  have H' := Aside0.mk H
  clear H
  go_enter Tryd.func22, Tryd.ntmps22
  go_wp2
  go_loopg [1, 5] k (fun kq v1 v5 w' => ∃ (x0_1 : List (S53)) (x1_1 : Int) (x5_1 : Int), v1 = .int .i64 x1_1 ∧ v5 = .int .i64 x5_1 ∧ Aside0 (laws_markRRS.l0 kq x0_1 x1_1 x5_1 = some (r1, r2)) ∧ Aside0 (kq ≤ k) ∧ Aside0 (Kd.R k53 53 w' w0.heap.size (fun k_ => (P0_ k_ ∨ w.heap.size ≤ k_)) u9000_ x0_1) ∧ Aside0 (Kept w w' (fun k_ => P0_ k_)) ∧ Aside0 (Below w0.heap.size w0 w'))
  case atStart => exact ⟨(l0), (a1), (0), (by first | rfl | (simp; done) | (simp [*]; done)), (by first | rfl | (simp; done) | (simp [*]; done)), H', ⟨Nat.le_refl _⟩, ⟨by (with_reducible repeat (first | apply Kd.R_alloc | apply Kd.R_drewN | apply Kd.R_drew)); exact HO0.out⟩, ⟨by repeat (first | (with_reducible first | exact HK.out | apply Kept.alloc | apply Kept.drewN | apply Kept.drew) | exact HK.out)⟩, ⟨by repeat (first | (with_reducible first | exact HB.out | apply below_alloc | apply pw_below_drewN | apply below_drew1) | exact HB.out)⟩⟩
  case round =>
    clear H'
    try clear c2
    try clear p2
    obtain ⟨x0_1, x1_1, x5_1, rfl, rfl, HA, HK1, HO_0, HK, HB⟩ := hrel
    cases gk with
    | zero => exact absurd HA.out (by simp [laws_markRRS.l0])
    | succ k1 =>
      have H := HA.out
      clear HA
      simp only [laws_markRRS.l0] at H
      by_cases c3 : x5_1 < (x0_1.length : Int)
      · rw [if_pos c3] at H
        have c3b0 : decide (x5_1 < (x0_1.length : Int)) = true := decide_eq_true c3
        clear c3
        replace H := Option.bind_eq_some_iff.mp H
        obtain ⟨t101, A40, H⟩ := H
        replace H : (if 0 ≤ x5_1 then ((some (x0_1.set (x5_1 : Int).toNat (⟨t101, (rd_T53 x0_1 x5_1).f1, (rd_T53 x0_1 x5_1).f2, (rd_T53 x0_1 x5_1).f3, (rd_T53 x0_1 x5_1).f4⟩ : S53) : List (S53))).bind fun y102 => ((some (y102.set (x5_1 : Int).toNat (⟨(rd_T53 y102 x5_1).f0, wrap64 (x1_1 + 1), (rd_T53 y102 x5_1).f2, (rd_T53 y102 x5_1).f3, (rd_T53 y102 x5_1).f4⟩ : S53) : List (S53))).bind fun y103 => ((some (y103.set (x5_1 : Int).toNat (⟨(rd_T53 y103 x5_1).f0, (rd_T53 y103 x5_1).f1, wrap64 ((wrap64 (x1_1 + 1)) + 1), (rd_T53 y103 x5_1).f3, (rd_T53 y103 x5_1).f4⟩ : S53) : List (S53))).bind fun y104 => ((some (y104.set (x5_1 : Int).toNat (⟨(rd_T53 y104 x5_1).f0, (rd_T53 y104 x5_1).f1, (rd_T53 y104 x5_1).f2, wrap64 ((wrap64 ((wrap64 (x1_1 + 1)) + 1)) + 1), (rd_T53 y104 x5_1).f4⟩ : S53) : List (S53))).bind fun y105 => ((laws_markText.f k1 (wrap64 ((wrap64 ((wrap64 ((wrap64 (x1_1 + 1)) + 1)) + 1)) + 1))).bind fun t106 => (laws_markRRS.l0 k1 (y105.set (x5_1 : Int).toNat (⟨(rd_T53 y105 x5_1).f0, (rd_T53 y105 x5_1).f1, (rd_T53 y105 x5_1).f2, (rd_T53 y105 x5_1).f3, t106⟩ : S53)) (wrap64 ((wrap64 ((wrap64 ((wrap64 ((wrap64 (x1_1 + 1)) + 1)) + 1)) + 1)) + 1)) (wrap64 (x5_1 + 1)))))))) else (none)) = some (r1, r2) := H
        have A4 := Aside0.mk A40
        clear A40
        by_cases c5 : 0 ≤ x5_1
        · rw [if_pos c5] at H
          have c5b0 : decide (0 ≤ x5_1) = true := decide_eq_true c5
          clear c5
          obtain ⟨y102, hy102⟩ : ∃ y_ : List (S53), y_ = (x0_1.set (x5_1 : Int).toNat (⟨t101, (rd_T53 x0_1 x5_1).f1, (rd_T53 x0_1 x5_1).f2, (rd_T53 x0_1 x5_1).f3, (rd_T53 x0_1 x5_1).f4⟩ : S53)) := ⟨_, rfl⟩
          replace H : ((some (y102.set (x5_1 : Int).toNat (⟨(rd_T53 y102 x5_1).f0, wrap64 (x1_1 + 1), (rd_T53 y102 x5_1).f2, (rd_T53 y102 x5_1).f3, (rd_T53 y102 x5_1).f4⟩ : S53) : List (S53))).bind fun y103 => ((some (y103.set (x5_1 : Int).toNat (⟨(rd_T53 y103 x5_1).f0, (rd_T53 y103 x5_1).f1, wrap64 ((wrap64 (x1_1 + 1)) + 1), (rd_T53 y103 x5_1).f3, (rd_T53 y103 x5_1).f4⟩ : S53) : List (S53))).bind fun y104 => ((some (y104.set (x5_1 : Int).toNat (⟨(rd_T53 y104 x5_1).f0, (rd_T53 y104 x5_1).f1, (rd_T53 y104 x5_1).f2, wrap64 ((wrap64 ((wrap64 (x1_1 + 1)) + 1)) + 1), (rd_T53 y104 x5_1).f4⟩ : S53) : List (S53))).bind fun y105 => ((laws_markText.f k1 (wrap64 ((wrap64 ((wrap64 ((wrap64 (x1_1 + 1)) + 1)) + 1)) + 1))).bind fun t106 => (laws_markRRS.l0 k1 (y105.set (x5_1 : Int).toNat (⟨(rd_T53 y105 x5_1).f0, (rd_T53 y105 x5_1).f1, (rd_T53 y105 x5_1).f2, (rd_T53 y105 x5_1).f3, t106⟩ : S53)) (wrap64 ((wrap64 ((wrap64 ((wrap64 ((wrap64 (x1_1 + 1)) + 1)) + 1)) + 1)) + 1)) (wrap64 (x5_1 + 1))))))) = some (r1, r2) := by first | (rw [hy102]; with_reducible exact H) | (have H2_ := (Option.bind_some _ _).symm.trans H; rw [hy102]; with_reducible exact H2_) | (have H2_ := (Option.bind_some _ _).symm.trans H; with_reducible exact H2_) | with_reducible exact H | (rw [hy102]; exact H) | exact H
          have Ny102 := Aside0.mk hy102
          clear hy102
          obtain ⟨y103, hy103⟩ : ∃ y_ : List (S53), y_ = (y102.set (x5_1 : Int).toNat (⟨(rd_T53 y102 x5_1).f0, wrap64 (x1_1 + 1), (rd_T53 y102 x5_1).f2, (rd_T53 y102 x5_1).f3, (rd_T53 y102 x5_1).f4⟩ : S53)) := ⟨_, rfl⟩
          replace H : ((some (y103.set (x5_1 : Int).toNat (⟨(rd_T53 y103 x5_1).f0, (rd_T53 y103 x5_1).f1, wrap64 ((wrap64 (x1_1 + 1)) + 1), (rd_T53 y103 x5_1).f3, (rd_T53 y103 x5_1).f4⟩ : S53) : List (S53))).bind fun y104 => ((some (y104.set (x5_1 : Int).toNat (⟨(rd_T53 y104 x5_1).f0, (rd_T53 y104 x5_1).f1, (rd_T53 y104 x5_1).f2, wrap64 ((wrap64 ((wrap64 (x1_1 + 1)) + 1)) + 1), (rd_T53 y104 x5_1).f4⟩ : S53) : List (S53))).bind fun y105 => ((laws_markText.f k1 (wrap64 ((wrap64 ((wrap64 ((wrap64 (x1_1 + 1)) + 1)) + 1)) + 1))).bind fun t106 => (laws_markRRS.l0 k1 (y105.set (x5_1 : Int).toNat (⟨(rd_T53 y105 x5_1).f0, (rd_T53 y105 x5_1).f1, (rd_T53 y105 x5_1).f2, (rd_T53 y105 x5_1).f3, t106⟩ : S53)) (wrap64 ((wrap64 ((wrap64 ((wrap64 ((wrap64 (x1_1 + 1)) + 1)) + 1)) + 1)) + 1)) (wrap64 (x5_1 + 1)))))) = some (r1, r2) := by first | (rw [hy103]; with_reducible exact H) | (have H2_ := (Option.bind_some _ _).symm.trans H; rw [hy103]; with_reducible exact H2_) | (have H2_ := (Option.bind_some _ _).symm.trans H; with_reducible exact H2_) | with_reducible exact H | (rw [hy103]; exact H) | exact H
          have Ny103 := Aside0.mk hy103
          clear hy103
          obtain ⟨y104, hy104⟩ : ∃ y_ : List (S53), y_ = (y103.set (x5_1 : Int).toNat (⟨(rd_T53 y103 x5_1).f0, (rd_T53 y103 x5_1).f1, wrap64 ((wrap64 (x1_1 + 1)) + 1), (rd_T53 y103 x5_1).f3, (rd_T53 y103 x5_1).f4⟩ : S53)) := ⟨_, rfl⟩
          replace H : ((some (y104.set (x5_1 : Int).toNat (⟨(rd_T53 y104 x5_1).f0, (rd_T53 y104 x5_1).f1, (rd_T53 y104 x5_1).f2, wrap64 ((wrap64 ((wrap64 (x1_1 + 1)) + 1)) + 1), (rd_T53 y104 x5_1).f4⟩ : S53) : List (S53))).bind fun y105 => ((laws_markText.f k1 (wrap64 ((wrap64 ((wrap64 ((wrap64 (x1_1 + 1)) + 1)) + 1)) + 1))).bind fun t106 => (laws_markRRS.l0 k1 (y105.set (x5_1 : Int).toNat (⟨(rd_T53 y105 x5_1).f0, (rd_T53 y105 x5_1).f1, (rd_T53 y105 x5_1).f2, (rd_T53 y105 x5_1).f3, t106⟩ : S53)) (wrap64 ((wrap64 ((wrap64 ((wrap64 ((wrap64 (x1_1 + 1)) + 1)) + 1)) + 1)) + 1)) (wrap64 (x5_1 + 1))))) = some (r1, r2) := by first | (rw [hy104]; with_reducible exact H) | (have H2_ := (Option.bind_some _ _).symm.trans H; rw [hy104]; with_reducible exact H2_) | (have H2_ := (Option.bind_some _ _).symm.trans H; with_reducible exact H2_) | with_reducible exact H | (rw [hy104]; exact H) | exact H
          have Ny104 := Aside0.mk hy104
          clear hy104
          obtain ⟨y105, hy105⟩ : ∃ y_ : List (S53), y_ = (y104.set (x5_1 : Int).toNat (⟨(rd_T53 y104 x5_1).f0, (rd_T53 y104 x5_1).f1, (rd_T53 y104 x5_1).f2, wrap64 ((wrap64 ((wrap64 (x1_1 + 1)) + 1)) + 1), (rd_T53 y104 x5_1).f4⟩ : S53)) := ⟨_, rfl⟩
          replace H : ((laws_markText.f k1 (wrap64 ((wrap64 ((wrap64 ((wrap64 (x1_1 + 1)) + 1)) + 1)) + 1))).bind fun t106 => (laws_markRRS.l0 k1 (y105.set (x5_1 : Int).toNat (⟨(rd_T53 y105 x5_1).f0, (rd_T53 y105 x5_1).f1, (rd_T53 y105 x5_1).f2, (rd_T53 y105 x5_1).f3, t106⟩ : S53)) (wrap64 ((wrap64 ((wrap64 ((wrap64 ((wrap64 (x1_1 + 1)) + 1)) + 1)) + 1)) + 1)) (wrap64 (x5_1 + 1)))) = some (r1, r2) := by first | (rw [hy105]; with_reducible exact H) | (have H2_ := (Option.bind_some _ _).symm.trans H; rw [hy105]; with_reducible exact H2_) | (have H2_ := (Option.bind_some _ _).symm.trans H; with_reducible exact H2_) | with_reducible exact H | (rw [hy105]; exact H) | exact H
          have Ny105 := Aside0.mk hy105
          clear hy105
          replace H := Option.bind_eq_some_iff.mp H
          obtain ⟨t106, A100, H⟩ := H
          replace H : (laws_markRRS.l0 k1 (y105.set (x5_1 : Int).toNat (⟨(rd_T53 y105 x5_1).f0, (rd_T53 y105 x5_1).f1, (rd_T53 y105 x5_1).f2, (rd_T53 y105 x5_1).f3, t106⟩ : S53)) (wrap64 ((wrap64 ((wrap64 ((wrap64 ((wrap64 (x1_1 + 1)) + 1)) + 1)) + 1)) + 1)) (wrap64 (x5_1 + 1))) = some (r1, r2) := H
          have A10 := Aside0.mk A100
          clear A100
          obtain ⟨y107, hy107⟩ : ∃ y_ : List (S53), y_ = (y105.set (x5_1 : Int).toNat (⟨(rd_T53 y105 x5_1).f0, (rd_T53 y105 x5_1).f1, (rd_T53 y105 x5_1).f2, (rd_T53 y105 x5_1).f3, t106⟩ : S53)) := ⟨_, rfl⟩
          replace H : (laws_markRRS.l0 k1 y107 (wrap64 ((wrap64 ((wrap64 ((wrap64 ((wrap64 (x1_1 + 1)) + 1)) + 1)) + 1)) + 1)) (wrap64 (x5_1 + 1))) = some (r1, r2) := by first | (rw [hy107]; with_reducible exact H) | (have H2_ := (Option.bind_some _ _).symm.trans H; rw [hy107]; with_reducible exact H2_) | (have H2_ := (Option.bind_some _ _).symm.trans H; with_reducible exact H2_) | with_reducible exact H | (rw [hy107]; exact H) | exact H
          have Ny107 := Aside0.mk hy107
          clear hy107
          have H' := Aside0.mk H
          clear H
          obtain ⟨Ao12, co12, eo12⟩ := Kd.R_slice HO_0.out
          subst eo12
          go_wp2_with (first | ((with_reducible refine gate_callee (f := 36) rfl ?_); refine goesL_ (some 15) rfl rfl Tryd.func36 (by kernel_rfl) rfl #[.int .i64 x1_1] rfl (by (try simp only [List.map_toArray, List.map_cons, List.map_nil]); first | done | rfl | (simp only [List.length_drop, List.length_take]; rfl)) ?_; (with_reducible refine (laws_markText.calls k1 x1_1 t101 _ A4.out).mono ?_); rintro e w13 ⟨rfl, hb⟩; refine ⟨_, rfl, ?_⟩; have n0_ := Aside0.mk (Kd.R_below (by (with_reducible repeat (first | apply Kd.R_alloc | apply Kd.R_drewN | apply Kd.R_drew)); exact HO_0.out) hb); have n1_ := Aside0.mk (Kept.below (S := (fun k_ => P0_ k_)) (by repeat (first | (with_reducible first | exact HK.out | apply Kept.alloc | apply Kept.drewN | apply Kept.drew) | exact HK.out)) hb); have n2_ := Aside0.mk (below_step (by repeat (first | (with_reducible first | exact HB.out | apply below_alloc | apply pw_below_drewN | apply below_drew1) | exact HB.out)) hb); clear HO_0; clear HK; clear HB; have HO_0 := n0_; have HK := n1_; have HB := n2_; clear n0_ n1_ n2_; (try clear hb); (try clear hb2); (try clear hk); (try clear hi); have p6 : 0 ≤ (x5_1 : Int) := of_decide_eq_true (by first | (with_reducible assumption) | assumption); have q6 : (x5_1 : Int) < ((x0_1.length : Int) : Int) := of_decide_eq_true (by first | (with_reducible assumption) | assumption); obtain ⟨go6, co6, eo6, gb6, gl6, cl6, HG6⟩ := Kd.R_form HO_0.out (by omega); (first | cases eo6 | (injection eo6 with ea_ en_ ec_; (first | subst ea_ | (injection ea_ with ea_; subst ea_)); subst ec_; clear en_)); have GB6 := Aside0.mk gb6; have GG6 := Aside0.mk HG6; clear gb6 gl6 HG6; have HMgo6 := Aside0.mk (show (P0_ go6 ∨ w.heap.size ≤ go6) from (HO_0.out.1 _ rfl)); obtain ⟨ce6, hcl6, hM6, hcc6, hfr6⟩ := Kd.R_elem HO_0.out z53 (x5_1 : Int) p6 q6; obtain rfl := k53_openM hM6; have hx6_0 : w13.cell? ⟨go6, (x5_1 : Int).toNat * 5, none⟩ = some (.string ((rd_T53 x0_1 x5_1).f0)) := hcc6 0 _ rfl; have hx6_1 : w13.cell? ⟨go6, (x5_1 : Int).toNat * 5 + 1, none⟩ = some (.int .i64 ((rd_T53 x0_1 x5_1).f1)) := hcc6 1 _ rfl; have hx6_2 : w13.cell? ⟨go6, (x5_1 : Int).toNat * 5 + 2, none⟩ = some (.int .i64 ((rd_T53 x0_1 x5_1).f2)) := hcc6 2 _ rfl; have hx6_3 : w13.cell? ⟨go6, (x5_1 : Int).toNat * 5 + 3, none⟩ = some (.int .i64 ((rd_T53 x0_1 x5_1).f3)) := hcc6 3 _ rfl; have hx6_4 : w13.cell? ⟨go6, (x5_1 : Int).toNat * 5 + 4, none⟩ = some (.string ((rd_T53 x0_1 x5_1).f4)) := hcc6 4 _ rfl; have hf6_0 : w13.frozen? ⟨go6, (x5_1 : Int).toNat * 5, none⟩ = false := hfr6 0; have hf6_1 : w13.frozen? ⟨go6, (x5_1 : Int).toNat * 5 + 1, none⟩ = false := hfr6 1; have hf6_2 : w13.frozen? ⟨go6, (x5_1 : Int).toNat * 5 + 2, none⟩ = false := hfr6 2; have hf6_3 : w13.frozen? ⟨go6, (x5_1 : Int).toNat * 5 + 3, none⟩ = false := hfr6 3; have hf6_4 : w13.frozen? ⟨go6, (x5_1 : Int).toNat * 5 + 4, none⟩ = false := hfr6 4; clear hcl6 hcc6 hfr6 hM6; replace p6 := eq_true p6; replace q6 := eq_true q6; have HX14 := Aside0.mk (show Kd.R k53 53 w13 w0.heap.size (fun k_ => (P0_ k_ ∨ w.heap.size ≤ k_)) (.slice (some ⟨go6, 0, none⟩) x0_1.length co12) x0_1 from (by (with_reducible repeat (first | apply Kd.R_alloc | apply Kd.R_drewN | apply Kd.R_drew)); exact HO_0.out)); obtain ⟨ce14, hcl14, hM14, hcc14, hfr14⟩ := Kd.R_elem HX14.out z53 (x5_1 : Int) (of_decide_eq_true (by first | (with_reducible assumption) | assumption)) (by have h_ : (x5_1 : Int) < ((x0_1.length : Int) : Int) := of_decide_eq_true (by first | (with_reducible assumption) | assumption); first | exact h_ | (have e_ := (Kd.R_reads' HO_0.out).1; omega) | simpa using h_); obtain rfl := k53_openM hM14; have HP14 := Kd.R_seg HX14.out (x5_1 : Int) (of_decide_eq_true (by first | (with_reducible assumption) | assumption)) (by have h_ : (x5_1 : Int) < ((x0_1.length : Int) : Int) := of_decide_eq_true (by first | (with_reducible assumption) | assumption); first | exact h_ | (have e_ := (Kd.R_reads' HO_0.out).1; omega) | simpa using h_) (seg := [.string t101]) (j := 0) hcl14 hcc14 (show 1 ≤ 5 from by decide) (x' := (⟨t101, (rd_T53 x0_1 x5_1).f1, (rd_T53 x0_1 x5_1).f2, (rd_T53 x0_1 x5_1).f3, (rd_T53 x0_1 x5_1).f4⟩ : S53)) (k53_mkM _ _ _ (⟨t101, (rd_T53 x0_1 x5_1).f1, (rd_T53 x0_1 x5_1).f2, (rd_T53 x0_1 x5_1).f3, (rd_T53 x0_1 x5_1).f4⟩ : S53) ) (fun _ hk => hk); have hx14_0 := hcc14 0 _ rfl; (try simp only [show (k53).sz = 5 from rfl, Nat.mul_one, Nat.add_zero] at hx14_0); have hf14_0 := hfr14 0; (try simp only [show (k53).sz = 5 from rfl, Nat.mul_one, Nat.add_zero] at hf14_0); clear hcl14 hcc14 hfr14 hM14) | ((with_reducible refine gate_store (t := 9) (p := 17) rfl ?_); refine store_event (t := 9) (p := 17) (v := ?vo_w15) (w1 := (w13.setCell ⟨go6, (x5_1 : Int).toNat * 5, none⟩ (.string t101))) ?hg ?ho ?hn ?hr ?_; (case ho => rfl); (case hg => rfl); (case hn => rfl); (case hr => first | (go_simp; done) | (go_simp; rfl)); intro w15 hw; have hg : w13.grownBy w15 (some go6) := (by rw [hw]; exact HP14.2); have hp_ : Kd.R k53 53 w15 w0.heap.size (fun k_ => (P0_ k_ ∨ w.heap.size ≤ k_)) (.slice (some ⟨go6, 0, none⟩) x0_1.length co12) y102 := (by rw [hw, Ny102.out]; exact HP14.1); clear HP14; have n0_ := Aside0.mk (hp_); have n1_ := Aside0.mk ((by rw [hw]; exact below_set (HB.out) GB6.out : Below w0.heap.size w0 w15)); have n2_ := Aside0.mk (Kept.of_grown (S := (fun k_ => P0_ k_)) hg (by repeat (first | (with_reducible first | exact HK.out | apply Kept.alloc | apply Kept.drewN | apply Kept.drew) | exact HK.out)) (fun k_ e_ => (HO_0.out.1 k_ e_))); clear HO_0; clear HB; clear HK; have HO_0 := n0_; have HB := n1_; have HK := n2_; clear n0_ n1_ n2_; clear hg hw hp_; have p7 : 0 ≤ (x5_1 : Int) := of_decide_eq_true (by first | (with_reducible assumption) | assumption); have q7 : (x5_1 : Int) < ((x0_1.length : Int) : Int) := of_decide_eq_true (by first | (with_reducible assumption) | assumption); obtain ⟨ce7, hcl7, hM7, hcc7, hfr7⟩ := Kd.R_elem HO_0.out z53 (x5_1 : Int) p7 q7; obtain rfl := k53_openM hM7; have hx7_0 : w15.cell? ⟨go6, (x5_1 : Int).toNat * 5, none⟩ = some (.string ((rd_T53 y102 x5_1).f0)) := hcc7 0 _ rfl; have hx7_1 : w15.cell? ⟨go6, (x5_1 : Int).toNat * 5 + 1, none⟩ = some (.int .i64 ((rd_T53 y102 x5_1).f1)) := hcc7 1 _ rfl; have hx7_2 : w15.cell? ⟨go6, (x5_1 : Int).toNat * 5 + 2, none⟩ = some (.int .i64 ((rd_T53 y102 x5_1).f2)) := hcc7 2 _ rfl; have hx7_3 : w15.cell? ⟨go6, (x5_1 : Int).toNat * 5 + 3, none⟩ = some (.int .i64 ((rd_T53 y102 x5_1).f3)) := hcc7 3 _ rfl; have hx7_4 : w15.cell? ⟨go6, (x5_1 : Int).toNat * 5 + 4, none⟩ = some (.string ((rd_T53 y102 x5_1).f4)) := hcc7 4 _ rfl; have hf7_0 : w15.frozen? ⟨go6, (x5_1 : Int).toNat * 5, none⟩ = false := hfr7 0; have hf7_1 : w15.frozen? ⟨go6, (x5_1 : Int).toNat * 5 + 1, none⟩ = false := hfr7 1; have hf7_2 : w15.frozen? ⟨go6, (x5_1 : Int).toNat * 5 + 2, none⟩ = false := hfr7 2; have hf7_3 : w15.frozen? ⟨go6, (x5_1 : Int).toNat * 5 + 3, none⟩ = false := hfr7 3; have hf7_4 : w15.frozen? ⟨go6, (x5_1 : Int).toNat * 5 + 4, none⟩ = false := hfr7 4; clear hcl7 hcc7 hfr7 hM7; replace p7 := eq_true p7; replace q7 := eq_true q7; have HX16 := Aside0.mk (show Kd.R k53 53 w15 w0.heap.size (fun k_ => (P0_ k_ ∨ w.heap.size ≤ k_)) (.slice (some ⟨go6, 0, none⟩) x0_1.length co12) y102 from (by (with_reducible repeat (first | apply Kd.R_alloc | apply Kd.R_drewN | apply Kd.R_drew)); exact HO_0.out)); obtain ⟨ce16, hcl16, hM16, hcc16, hfr16⟩ := Kd.R_elem HX16.out z53 (x5_1 : Int) (of_decide_eq_true (by first | (with_reducible assumption) | assumption)) (by have h_ : (x5_1 : Int) < ((x0_1.length : Int) : Int) := of_decide_eq_true (by first | (with_reducible assumption) | assumption); first | exact h_ | (have e_ := (Kd.R_reads' HO_0.out).1; omega) | simpa using h_); obtain rfl := k53_openM hM16; have HP16 := Kd.R_seg HX16.out (x5_1 : Int) (of_decide_eq_true (by first | (with_reducible assumption) | assumption)) (by have h_ : (x5_1 : Int) < ((x0_1.length : Int) : Int) := of_decide_eq_true (by first | (with_reducible assumption) | assumption); first | exact h_ | (have e_ := (Kd.R_reads' HO_0.out).1; omega) | simpa using h_) (seg := [.int .i64 (wrap64 (x1_1 + 1))]) (j := 1) hcl16 hcc16 (show 2 ≤ 5 from by decide) (x' := (⟨(rd_T53 y102 x5_1).f0, wrap64 (x1_1 + 1), (rd_T53 y102 x5_1).f2, (rd_T53 y102 x5_1).f3, (rd_T53 y102 x5_1).f4⟩ : S53)) (k53_mkM _ _ _ (⟨(rd_T53 y102 x5_1).f0, wrap64 (x1_1 + 1), (rd_T53 y102 x5_1).f2, (rd_T53 y102 x5_1).f3, (rd_T53 y102 x5_1).f4⟩ : S53) ) (fun _ hk => hk); have hx16_1 := hcc16 1 _ rfl; (try simp only [show (k53).sz = 5 from rfl, Nat.mul_one, Nat.add_zero] at hx16_1); have hf16_1 := hfr16 1; (try simp only [show (k53).sz = 5 from rfl, Nat.mul_one, Nat.add_zero] at hf16_1); clear hcl16 hcc16 hfr16 hM16) | ((with_reducible refine gate_store (t := 2) (p := 24) rfl ?_); refine store_event (t := 2) (p := 24) (v := ?vo_w17) (w1 := (w15.setCell ⟨go6, (x5_1 : Int).toNat * 5 + 1, none⟩ (.int .i64 (wrap64 (x1_1 + 1))))) ?hg ?ho ?hn ?hr ?_; (case ho => rfl); (case hg => rfl); (case hn => rfl); (case hr => first | (go_simp; done) | (go_simp; rfl)); intro w17 hw; have hg : w15.grownBy w17 (some go6) := (by rw [hw]; exact HP16.2); have hp_ : Kd.R k53 53 w17 w0.heap.size (fun k_ => (P0_ k_ ∨ w.heap.size ≤ k_)) (.slice (some ⟨go6, 0, none⟩) x0_1.length co12) y103 := (by rw [hw, Ny103.out]; exact HP16.1); clear HP16; have n0_ := Aside0.mk (hp_); have n1_ := Aside0.mk ((by rw [hw]; exact below_set (HB.out) GB6.out : Below w0.heap.size w0 w17)); have n2_ := Aside0.mk (Kept.of_grown (S := (fun k_ => P0_ k_)) hg (by repeat (first | (with_reducible first | exact HK.out | apply Kept.alloc | apply Kept.drewN | apply Kept.drew) | exact HK.out)) (fun k_ e_ => (HO_0.out.1 k_ e_))); clear HO_0; clear HB; clear HK; have HO_0 := n0_; have HB := n1_; have HK := n2_; clear n0_ n1_ n2_; clear hg hw hp_; have p8 : 0 ≤ (x5_1 : Int) := of_decide_eq_true (by first | (with_reducible assumption) | assumption); have q8 : (x5_1 : Int) < ((x0_1.length : Int) : Int) := of_decide_eq_true (by first | (with_reducible assumption) | assumption); obtain ⟨ce8, hcl8, hM8, hcc8, hfr8⟩ := Kd.R_elem HO_0.out z53 (x5_1 : Int) p8 q8; obtain rfl := k53_openM hM8; have hx8_0 : w17.cell? ⟨go6, (x5_1 : Int).toNat * 5, none⟩ = some (.string ((rd_T53 y103 x5_1).f0)) := hcc8 0 _ rfl; have hx8_1 : w17.cell? ⟨go6, (x5_1 : Int).toNat * 5 + 1, none⟩ = some (.int .i64 ((rd_T53 y103 x5_1).f1)) := hcc8 1 _ rfl; have hx8_2 : w17.cell? ⟨go6, (x5_1 : Int).toNat * 5 + 2, none⟩ = some (.int .i64 ((rd_T53 y103 x5_1).f2)) := hcc8 2 _ rfl; have hx8_3 : w17.cell? ⟨go6, (x5_1 : Int).toNat * 5 + 3, none⟩ = some (.int .i64 ((rd_T53 y103 x5_1).f3)) := hcc8 3 _ rfl; have hx8_4 : w17.cell? ⟨go6, (x5_1 : Int).toNat * 5 + 4, none⟩ = some (.string ((rd_T53 y103 x5_1).f4)) := hcc8 4 _ rfl; have hf8_0 : w17.frozen? ⟨go6, (x5_1 : Int).toNat * 5, none⟩ = false := hfr8 0; have hf8_1 : w17.frozen? ⟨go6, (x5_1 : Int).toNat * 5 + 1, none⟩ = false := hfr8 1; have hf8_2 : w17.frozen? ⟨go6, (x5_1 : Int).toNat * 5 + 2, none⟩ = false := hfr8 2; have hf8_3 : w17.frozen? ⟨go6, (x5_1 : Int).toNat * 5 + 3, none⟩ = false := hfr8 3; have hf8_4 : w17.frozen? ⟨go6, (x5_1 : Int).toNat * 5 + 4, none⟩ = false := hfr8 4; clear hcl8 hcc8 hfr8 hM8; replace p8 := eq_true p8; replace q8 := eq_true q8; have HX18 := Aside0.mk (show Kd.R k53 53 w17 w0.heap.size (fun k_ => (P0_ k_ ∨ w.heap.size ≤ k_)) (.slice (some ⟨go6, 0, none⟩) x0_1.length co12) y103 from (by (with_reducible repeat (first | apply Kd.R_alloc | apply Kd.R_drewN | apply Kd.R_drew)); exact HO_0.out)); obtain ⟨ce18, hcl18, hM18, hcc18, hfr18⟩ := Kd.R_elem HX18.out z53 (x5_1 : Int) (of_decide_eq_true (by first | (with_reducible assumption) | assumption)) (by have h_ : (x5_1 : Int) < ((x0_1.length : Int) : Int) := of_decide_eq_true (by first | (with_reducible assumption) | assumption); first | exact h_ | (have e_ := (Kd.R_reads' HO_0.out).1; omega) | simpa using h_); obtain rfl := k53_openM hM18; have HP18 := Kd.R_seg HX18.out (x5_1 : Int) (of_decide_eq_true (by first | (with_reducible assumption) | assumption)) (by have h_ : (x5_1 : Int) < ((x0_1.length : Int) : Int) := of_decide_eq_true (by first | (with_reducible assumption) | assumption); first | exact h_ | (have e_ := (Kd.R_reads' HO_0.out).1; omega) | simpa using h_) (seg := [.int .i64 (wrap64 ((wrap64 (x1_1 + 1)) + 1))]) (j := 2) hcl18 hcc18 (show 3 ≤ 5 from by decide) (x' := (⟨(rd_T53 y103 x5_1).f0, (rd_T53 y103 x5_1).f1, wrap64 ((wrap64 (x1_1 + 1)) + 1), (rd_T53 y103 x5_1).f3, (rd_T53 y103 x5_1).f4⟩ : S53)) (k53_mkM _ _ _ (⟨(rd_T53 y103 x5_1).f0, (rd_T53 y103 x5_1).f1, wrap64 ((wrap64 (x1_1 + 1)) + 1), (rd_T53 y103 x5_1).f3, (rd_T53 y103 x5_1).f4⟩ : S53) ) (fun _ hk => hk); have hx18_2 := hcc18 2 _ rfl; (try simp only [show (k53).sz = 5 from rfl, Nat.mul_one, Nat.add_zero] at hx18_2); have hf18_2 := hfr18 2; (try simp only [show (k53).sz = 5 from rfl, Nat.mul_one, Nat.add_zero] at hf18_2); clear hcl18 hcc18 hfr18 hM18) | ((with_reducible refine gate_store (t := 2) (p := 31) rfl ?_); refine store_event (t := 2) (p := 31) (v := ?vo_w19) (w1 := (w17.setCell ⟨go6, (x5_1 : Int).toNat * 5 + 2, none⟩ (.int .i64 (wrap64 ((wrap64 (x1_1 + 1)) + 1))))) ?hg ?ho ?hn ?hr ?_; (case ho => rfl); (case hg => rfl); (case hn => rfl); (case hr => first | (go_simp; done) | (go_simp; rfl)); intro w19 hw; have hg : w17.grownBy w19 (some go6) := (by rw [hw]; exact HP18.2); have hp_ : Kd.R k53 53 w19 w0.heap.size (fun k_ => (P0_ k_ ∨ w.heap.size ≤ k_)) (.slice (some ⟨go6, 0, none⟩) x0_1.length co12) y104 := (by rw [hw, Ny104.out]; exact HP18.1); clear HP18; have n0_ := Aside0.mk (hp_); have n1_ := Aside0.mk ((by rw [hw]; exact below_set (HB.out) GB6.out : Below w0.heap.size w0 w19)); have n2_ := Aside0.mk (Kept.of_grown (S := (fun k_ => P0_ k_)) hg (by repeat (first | (with_reducible first | exact HK.out | apply Kept.alloc | apply Kept.drewN | apply Kept.drew) | exact HK.out)) (fun k_ e_ => (HO_0.out.1 k_ e_))); clear HO_0; clear HB; clear HK; have HO_0 := n0_; have HB := n1_; have HK := n2_; clear n0_ n1_ n2_; clear hg hw hp_; have p9 : 0 ≤ (x5_1 : Int) := of_decide_eq_true (by first | (with_reducible assumption) | assumption); have q9 : (x5_1 : Int) < ((x0_1.length : Int) : Int) := of_decide_eq_true (by first | (with_reducible assumption) | assumption); obtain ⟨ce9, hcl9, hM9, hcc9, hfr9⟩ := Kd.R_elem HO_0.out z53 (x5_1 : Int) p9 q9; obtain rfl := k53_openM hM9; have hx9_0 : w19.cell? ⟨go6, (x5_1 : Int).toNat * 5, none⟩ = some (.string ((rd_T53 y104 x5_1).f0)) := hcc9 0 _ rfl; have hx9_1 : w19.cell? ⟨go6, (x5_1 : Int).toNat * 5 + 1, none⟩ = some (.int .i64 ((rd_T53 y104 x5_1).f1)) := hcc9 1 _ rfl; have hx9_2 : w19.cell? ⟨go6, (x5_1 : Int).toNat * 5 + 2, none⟩ = some (.int .i64 ((rd_T53 y104 x5_1).f2)) := hcc9 2 _ rfl; have hx9_3 : w19.cell? ⟨go6, (x5_1 : Int).toNat * 5 + 3, none⟩ = some (.int .i64 ((rd_T53 y104 x5_1).f3)) := hcc9 3 _ rfl; have hx9_4 : w19.cell? ⟨go6, (x5_1 : Int).toNat * 5 + 4, none⟩ = some (.string ((rd_T53 y104 x5_1).f4)) := hcc9 4 _ rfl; have hf9_0 : w19.frozen? ⟨go6, (x5_1 : Int).toNat * 5, none⟩ = false := hfr9 0; have hf9_1 : w19.frozen? ⟨go6, (x5_1 : Int).toNat * 5 + 1, none⟩ = false := hfr9 1; have hf9_2 : w19.frozen? ⟨go6, (x5_1 : Int).toNat * 5 + 2, none⟩ = false := hfr9 2; have hf9_3 : w19.frozen? ⟨go6, (x5_1 : Int).toNat * 5 + 3, none⟩ = false := hfr9 3; have hf9_4 : w19.frozen? ⟨go6, (x5_1 : Int).toNat * 5 + 4, none⟩ = false := hfr9 4; clear hcl9 hcc9 hfr9 hM9; replace p9 := eq_true p9; replace q9 := eq_true q9; have HX20 := Aside0.mk (show Kd.R k53 53 w19 w0.heap.size (fun k_ => (P0_ k_ ∨ w.heap.size ≤ k_)) (.slice (some ⟨go6, 0, none⟩) x0_1.length co12) y104 from (by (with_reducible repeat (first | apply Kd.R_alloc | apply Kd.R_drewN | apply Kd.R_drew)); exact HO_0.out)); obtain ⟨ce20, hcl20, hM20, hcc20, hfr20⟩ := Kd.R_elem HX20.out z53 (x5_1 : Int) (of_decide_eq_true (by first | (with_reducible assumption) | assumption)) (by have h_ : (x5_1 : Int) < ((x0_1.length : Int) : Int) := of_decide_eq_true (by first | (with_reducible assumption) | assumption); first | exact h_ | (have e_ := (Kd.R_reads' HO_0.out).1; omega) | simpa using h_); obtain rfl := k53_openM hM20; have HP20 := Kd.R_seg HX20.out (x5_1 : Int) (of_decide_eq_true (by first | (with_reducible assumption) | assumption)) (by have h_ : (x5_1 : Int) < ((x0_1.length : Int) : Int) := of_decide_eq_true (by first | (with_reducible assumption) | assumption); first | exact h_ | (have e_ := (Kd.R_reads' HO_0.out).1; omega) | simpa using h_) (seg := [.int .i64 (wrap64 ((wrap64 ((wrap64 (x1_1 + 1)) + 1)) + 1))]) (j := 3) hcl20 hcc20 (show 4 ≤ 5 from by decide) (x' := (⟨(rd_T53 y104 x5_1).f0, (rd_T53 y104 x5_1).f1, (rd_T53 y104 x5_1).f2, wrap64 ((wrap64 ((wrap64 (x1_1 + 1)) + 1)) + 1), (rd_T53 y104 x5_1).f4⟩ : S53)) (k53_mkM _ _ _ (⟨(rd_T53 y104 x5_1).f0, (rd_T53 y104 x5_1).f1, (rd_T53 y104 x5_1).f2, wrap64 ((wrap64 ((wrap64 (x1_1 + 1)) + 1)) + 1), (rd_T53 y104 x5_1).f4⟩ : S53) ) (fun _ hk => hk); have hx20_3 := hcc20 3 _ rfl; (try simp only [show (k53).sz = 5 from rfl, Nat.mul_one, Nat.add_zero] at hx20_3); have hf20_3 := hfr20 3; (try simp only [show (k53).sz = 5 from rfl, Nat.mul_one, Nat.add_zero] at hf20_3); clear hcl20 hcc20 hfr20 hM20) | ((with_reducible refine gate_store (t := 2) (p := 38) rfl ?_); refine store_event (t := 2) (p := 38) (v := ?vo_w21) (w1 := (w19.setCell ⟨go6, (x5_1 : Int).toNat * 5 + 3, none⟩ (.int .i64 (wrap64 ((wrap64 ((wrap64 (x1_1 + 1)) + 1)) + 1))))) ?hg ?ho ?hn ?hr ?_; (case ho => rfl); (case hg => rfl); (case hn => rfl); (case hr => first | (go_simp; done) | (go_simp; rfl)); intro w21 hw; have hg : w19.grownBy w21 (some go6) := (by rw [hw]; exact HP20.2); have hp_ : Kd.R k53 53 w21 w0.heap.size (fun k_ => (P0_ k_ ∨ w.heap.size ≤ k_)) (.slice (some ⟨go6, 0, none⟩) x0_1.length co12) y105 := (by rw [hw, Ny105.out]; exact HP20.1); clear HP20; have n0_ := Aside0.mk (hp_); have n1_ := Aside0.mk ((by rw [hw]; exact below_set (HB.out) GB6.out : Below w0.heap.size w0 w21)); have n2_ := Aside0.mk (Kept.of_grown (S := (fun k_ => P0_ k_)) hg (by repeat (first | (with_reducible first | exact HK.out | apply Kept.alloc | apply Kept.drewN | apply Kept.drew) | exact HK.out)) (fun k_ e_ => (HO_0.out.1 k_ e_))); clear HO_0; clear HB; clear HK; have HO_0 := n0_; have HB := n1_; have HK := n2_; clear n0_ n1_ n2_; clear hg hw hp_) | ((with_reducible refine gate_callee (f := 36) rfl ?_); refine goesL_ (some 44) rfl rfl Tryd.func36 (by kernel_rfl) rfl #[.int .i64 (wrap64 ((wrap64 ((wrap64 ((wrap64 (x1_1 + 1)) + 1)) + 1)) + 1))] rfl (by (try simp only [List.map_toArray, List.map_cons, List.map_nil]); first | done | rfl | (simp only [List.length_drop, List.length_take]; rfl)) ?_; (with_reducible refine (laws_markText.calls k1 (wrap64 ((wrap64 ((wrap64 ((wrap64 (x1_1 + 1)) + 1)) + 1)) + 1)) t106 _ A10.out).mono ?_); rintro e w22 ⟨rfl, hb⟩; refine ⟨_, rfl, ?_⟩; have n0_ := Aside0.mk (Kd.R_below (by (with_reducible repeat (first | apply Kd.R_alloc | apply Kd.R_drewN | apply Kd.R_drew)); exact HO_0.out) hb); have n1_ := Aside0.mk (Kept.below (S := (fun k_ => P0_ k_)) (by repeat (first | (with_reducible first | exact HK.out | apply Kept.alloc | apply Kept.drewN | apply Kept.drew) | exact HK.out)) hb); have n2_ := Aside0.mk (below_step (by repeat (first | (with_reducible first | exact HB.out | apply below_alloc | apply pw_below_drewN | apply below_drew1) | exact HB.out)) hb); clear HO_0; clear HK; clear HB; have HO_0 := n0_; have HK := n1_; have HB := n2_; clear n0_ n1_ n2_; (try clear hb); (try clear hb2); (try clear hk); (try clear hi); have p11 : 0 ≤ (x5_1 : Int) := of_decide_eq_true (by first | (with_reducible assumption) | assumption); have q11 : (x5_1 : Int) < ((x0_1.length : Int) : Int) := of_decide_eq_true (by first | (with_reducible assumption) | assumption); obtain ⟨ce11, hcl11, hM11, hcc11, hfr11⟩ := Kd.R_elem HO_0.out z53 (x5_1 : Int) p11 q11; obtain rfl := k53_openM hM11; have hx11_0 : w22.cell? ⟨go6, (x5_1 : Int).toNat * 5, none⟩ = some (.string ((rd_T53 y105 x5_1).f0)) := hcc11 0 _ rfl; have hx11_1 : w22.cell? ⟨go6, (x5_1 : Int).toNat * 5 + 1, none⟩ = some (.int .i64 ((rd_T53 y105 x5_1).f1)) := hcc11 1 _ rfl; have hx11_2 : w22.cell? ⟨go6, (x5_1 : Int).toNat * 5 + 2, none⟩ = some (.int .i64 ((rd_T53 y105 x5_1).f2)) := hcc11 2 _ rfl; have hx11_3 : w22.cell? ⟨go6, (x5_1 : Int).toNat * 5 + 3, none⟩ = some (.int .i64 ((rd_T53 y105 x5_1).f3)) := hcc11 3 _ rfl; have hx11_4 : w22.cell? ⟨go6, (x5_1 : Int).toNat * 5 + 4, none⟩ = some (.string ((rd_T53 y105 x5_1).f4)) := hcc11 4 _ rfl; have hf11_0 : w22.frozen? ⟨go6, (x5_1 : Int).toNat * 5, none⟩ = false := hfr11 0; have hf11_1 : w22.frozen? ⟨go6, (x5_1 : Int).toNat * 5 + 1, none⟩ = false := hfr11 1; have hf11_2 : w22.frozen? ⟨go6, (x5_1 : Int).toNat * 5 + 2, none⟩ = false := hfr11 2; have hf11_3 : w22.frozen? ⟨go6, (x5_1 : Int).toNat * 5 + 3, none⟩ = false := hfr11 3; have hf11_4 : w22.frozen? ⟨go6, (x5_1 : Int).toNat * 5 + 4, none⟩ = false := hfr11 4; clear hcl11 hcc11 hfr11 hM11; replace p11 := eq_true p11; replace q11 := eq_true q11; have HX23 := Aside0.mk (show Kd.R k53 53 w22 w0.heap.size (fun k_ => (P0_ k_ ∨ w.heap.size ≤ k_)) (.slice (some ⟨go6, 0, none⟩) x0_1.length co12) y105 from (by (with_reducible repeat (first | apply Kd.R_alloc | apply Kd.R_drewN | apply Kd.R_drew)); exact HO_0.out)); obtain ⟨ce23, hcl23, hM23, hcc23, hfr23⟩ := Kd.R_elem HX23.out z53 (x5_1 : Int) (of_decide_eq_true (by first | (with_reducible assumption) | assumption)) (by have h_ : (x5_1 : Int) < ((x0_1.length : Int) : Int) := of_decide_eq_true (by first | (with_reducible assumption) | assumption); first | exact h_ | (have e_ := (Kd.R_reads' HO_0.out).1; omega) | simpa using h_); obtain rfl := k53_openM hM23; have HP23 := Kd.R_seg HX23.out (x5_1 : Int) (of_decide_eq_true (by first | (with_reducible assumption) | assumption)) (by have h_ : (x5_1 : Int) < ((x0_1.length : Int) : Int) := of_decide_eq_true (by first | (with_reducible assumption) | assumption); first | exact h_ | (have e_ := (Kd.R_reads' HO_0.out).1; omega) | simpa using h_) (seg := [.string t106]) (j := 4) hcl23 hcc23 (show 5 ≤ 5 from by decide) (x' := (⟨(rd_T53 y105 x5_1).f0, (rd_T53 y105 x5_1).f1, (rd_T53 y105 x5_1).f2, (rd_T53 y105 x5_1).f3, t106⟩ : S53)) (k53_mkM _ _ _ (⟨(rd_T53 y105 x5_1).f0, (rd_T53 y105 x5_1).f1, (rd_T53 y105 x5_1).f2, (rd_T53 y105 x5_1).f3, t106⟩ : S53) ) (fun _ hk => hk); have hx23_4 := hcc23 4 _ rfl; (try simp only [show (k53).sz = 5 from rfl, Nat.mul_one, Nat.add_zero] at hx23_4); have hf23_4 := hfr23 4; (try simp only [show (k53).sz = 5 from rfl, Nat.mul_one, Nat.add_zero] at hf23_4); clear hcl23 hcc23 hfr23 hM23) | ((with_reducible refine gate_store (t := 9) (p := 46) rfl ?_); refine store_event (t := 9) (p := 46) (v := ?vo_w24) (w1 := (w22.setCell ⟨go6, (x5_1 : Int).toNat * 5 + 4, none⟩ (.string t106))) ?hg ?ho ?hn ?hr ?_; (case ho => rfl); (case hg => rfl); (case hn => rfl); (case hr => first | (go_simp; done) | (go_simp; rfl)); intro w24 hw; have hg : w22.grownBy w24 (some go6) := (by rw [hw]; exact HP23.2); have hp_ : Kd.R k53 53 w24 w0.heap.size (fun k_ => (P0_ k_ ∨ w.heap.size ≤ k_)) (.slice (some ⟨go6, 0, none⟩) x0_1.length co12) y107 := (by rw [hw, Ny107.out]; exact HP23.1); clear HP23; have n0_ := Aside0.mk (hp_); have n1_ := Aside0.mk ((by rw [hw]; exact below_set (HB.out) GB6.out : Below w0.heap.size w0 w24)); have n2_ := Aside0.mk (Kept.of_grown (S := (fun k_ => P0_ k_)) hg (by repeat (first | (with_reducible first | exact HK.out | apply Kept.alloc | apply Kept.drewN | apply Kept.drew) | exact HK.out)) (fun k_ e_ => (HO_0.out.1 k_ e_))); clear HO_0; clear HB; clear HK; have HO_0 := n0_; have HB := n1_; have HK := n2_; clear n0_ n1_ n2_; clear hg hw hp_))
          go_roundg k1
          case measure => have := HK1.out; omega
          case rel => exact ⟨(y107), (wrap64 ((wrap64 ((wrap64 ((wrap64 ((wrap64 (x1_1 + 1)) + 1)) + 1)) + 1)) + 1)), (wrap64 (x5_1 + 1)), (by first | rfl | (simp; done) | (simp [*]; done)), (by first | rfl | (simp; done) | (simp [*]; done)), H', ⟨by have := HK1.out; omega⟩, ⟨by (with_reducible repeat (first | apply Kd.R_alloc | apply Kd.R_drewN | apply Kd.R_drew)); exact HO_0.out⟩, ⟨by repeat (first | (with_reducible first | exact HK.out | apply Kept.alloc | apply Kept.drewN | apply Kept.drew) | exact HK.out)⟩, ⟨by repeat (first | (with_reducible first | exact HB.out | apply below_alloc | apply pw_below_drewN | apply below_drew1) | exact HB.out)⟩⟩
        · rw [if_neg c5] at H
          exact absurd H (by simp)
      · rw [if_neg c3] at H
        have c3b0 : decide (x5_1 < (x0_1.length : Int)) = false := decide_eq_false c3
        clear c3
        simp only [Option.some.injEq, Prod.mk.injEq] at H
        obtain ⟨rfl, rfl⟩ := H
        obtain ⟨Ao25, co25, eo25⟩ := Kd.R_slice HO_0.out
        subst eo25
        go_wp2
        go_ret
        exact ⟨by first | rfl | (simp [errW_none, errW_some] <;> rfl) | (simp [*, errW_none, errW_some] <;> rfl), by (with_reducible repeat (first | apply Kd.R_alloc | apply Kd.R_drewN | apply Kd.R_drew)); exact HO_0.out, by repeat (first | (with_reducible first | exact HB.out | apply below_alloc | apply pw_below_drewN | apply below_drew1) | exact HB.out), by repeat (first | (with_reducible first | exact HK.out | apply Kept.alloc | apply Kept.drewN | apply Kept.drew) | exact HK.out)⟩

end Go.Proofs.YtcamchdenjpmhaaDoor.F
namespace Go.Proofs.YtcamchdenjpmhaaDoor.F
open Go Go.Shelf Go.RowKit Go.Proofs.YtcamchdenjpmhaaDoorW.PrintWords Go.Proofs.YtcamchdenjpmhaaDoorW.PrintLast Go.Proofs.YtcamchdenjpmhaaDoorW.PrintMore
attribute [local go_sem] max2_int min2_int max_two min_two max_three min_three max_four min_four   -- for this text's walks alone
set_option linter.unusedVariables false
set_option linter.unusedSimpArgs false

/-! ### laws_markMessage: function 10 -/
theorem flat_53 {w : World} {base : Nat} {ok1 ok2 : Nat → Prop} {x : S53} {cs : List Value} (h : k53.M w base ok1 x cs) : k53.M w base ok2 x cs := h
theorem flat_47 {w : World} {base : Nat} {ok1 ok2 : Nat → Prop} {x : S47} {cs : List Value} (h : k47.M w base ok1 x cs) : k47.M w base ok2 x cs := h
theorem R_keptOwn {α : Type} {d : Kd α} {e base : Nat} {ok : Nat → Prop} {w w1 : World} {v u : Value} {xs : List α} (hd : ∀ {ok1 ok2 : Nat → Prop} {x : α} {cs : List Value}, d.M w base ok1 x cs → d.M w base ok2 x cs) (h : d.R e w base ok v xs) (hk : Kept w w1 (fun k => some k = u.ownBlock)) (hne : ∀ k, v.ownBlock = some k → some k ≠ u.ownBlock) : d.R e w1 base ok v xs :=
  Kd.R_mono (Kd.R_step (Kd.R_flat (ok' := fun k => ok k ∧ some k = v.ownBlock) hd h (fun k hk ho => ⟨ho, hk.symm⟩)) (fun k ho hlt => hk.2 k hlt (hne k ho.2.symm))) (fun _ hk => hk.1)
theorem R_ownB {α : Type} {d : Kd α} {e base : Nat} {ok : Nat → Prop} {w : World} {v : Value} {xs : List α} (hd : ∀ {ok1 ok2 : Nat → Prop} {x : α} {cs : List Value}, d.M w base ok1 x cs → d.M w base ok2 x cs) (h : d.R e w base ok v xs) : d.R e w base (fun k => some k = v.ownBlock) v xs :=
  Kd.R_flat (ok' := fun k => some k = v.ownBlock) hd h (fun k hk _ => hk.symm)
theorem R_ne_types {α β : Type} {d : Kd α} {d' : Kd β} {e e' b b' : Nat} {ok ok' : Nat → Prop} {w : World} {v u : Value} {xs : List α} {ys : List β} (h : d.R e w b ok v xs) (h' : d'.R e' w b' ok' u ys) (hne : e ≠ e') : ∀ k, v.ownBlock = some k → some k ≠ u.ownBlock := by
  obtain ⟨_, o1⟩ := Kd.R_own h
  obtain ⟨_, o2⟩ := Kd.R_own h'
  intro k hk he
  rcases own_type_ne o1 o2 hne with h0 | h0
  · rw [h0] at hk; cases hk
  · exact h0 (hk.trans he)
def laws_markMessage.m (k : Nat) (q : List S47) (a u e : List S53) (m : Int) : Option (Int × List S47 × List S53 × List S53 × List S53) := (laws_markQuestionS.f k q m).bind fun x0 => (laws_markRRS.f k a x0.1).bind fun x1 => (laws_markRRS.f k u x1.1).bind fun x2 => (laws_markRRS.f k e x2.1).bind fun x3 => some (x3.1, x0.2, x1.2, x2.2, x3.2)
set_option maxHeartbeats 4000000 in
set_option maxRecDepth 100000 in
theorem laws_markMessage.mark (k : Nat) (h : S24) (q : List S47) (a u e : List S53) (m r : Int) (q1 : List S47) (a1 u1 e1 : List S53) (vq va vu ve : Value) (v w : World) (hB : Below v.heap.size v w)
    (hq : Kd.R k47 47 w v.heap.size (fun _ => True) vq q) (ha : Kd.R k53 53 w v.heap.size (fun k => some k ≠ vu.ownBlock ∧ some k ≠ ve.ownBlock) va a) (hu : Kd.R k53 53 w v.heap.size (fun k => some k ≠ va.ownBlock ∧ some k ≠ ve.ownBlock) vu u) (he : Kd.R k53 53 w v.heap.size (fun k => some k ≠ va.ownBlock ∧ some k ≠ vu.ownBlock) ve e)
    (hm : laws_markMessage.m k q a u e m = some (r, q1, a1, u1, e1)) :
    Calls Tryd.prog 10 #[.agg (msgC h vq va vu ve), .int .i64 m] w fun e_ w' => e_ = .returned (.int .i64 r) ∧ Kd.R k47 47 w' v.heap.size (fun _ => True) vq q1 ∧ Kd.R k53 53 w' v.heap.size (fun k => some k ≠ vu.ownBlock ∧ some k ≠ ve.ownBlock) va a1 ∧ Kd.R k53 53 w' v.heap.size (fun k => some k ≠ va.ownBlock ∧ some k ≠ ve.ownBlock) vu u1 ∧ Kd.R k53 53 w' v.heap.size (fun k => some k ≠ va.ownBlock ∧ some k ≠ vu.ownBlock) ve e1 ∧ Below v.heap.size v w' ∧ ∀ (g : Nat) (t : TypeId) (cs : Array Value), w.heap[g]? = some (Obj.cells cs t (0, 0)) → t ≠ 47 → t ≠ 53 → w'.heap[g]? = some (Obj.cells cs t (0, 0)) := by
  have HB := Aside0.mk hB
  have HQ := Aside0.mk hq
  have HA := Aside0.mk ha
  have HU := Aside0.mk hu
  have HE := Aside0.mk he
  have HK := Aside0.mk (fun (g : Nat) (t : TypeId) (cs : Array Value) (hg : w.heap[g]? = some (Obj.cells cs t (0, 0))) (_ : t ≠ 47) (_ : t ≠ 53) => blk_alloc hg (Obj.cells #[.int .i64 h.f0, .bool h.f1, .int .i64 h.f2, .bool h.f3, .bool h.f4, .bool h.f5, .bool h.f6, .bool h.f7, .bool h.f8, .bool h.f9, .int .i64 h.f10, vq, va, vu, ve] 28))
  clear hB hq ha hu he
  unfold laws_markMessage.m at hm
  replace hm := Option.bind_eq_some_iff.mp hm
  obtain ⟨⟨m1, l1⟩, B1, hm⟩ := hm
  replace hm := Option.bind_eq_some_iff.mp hm
  obtain ⟨⟨m2, l2⟩, B2, hm⟩ := hm
  replace hm := Option.bind_eq_some_iff.mp hm
  obtain ⟨⟨m3, l3⟩, B3, hm⟩ := hm
  replace hm := Option.bind_eq_some_iff.mp hm
  obtain ⟨⟨m4, l4⟩, B4, hm⟩ := hm
  simp only [Option.some.injEq, Prod.mk.injEq] at hm
  obtain ⟨rfl, rfl, rfl, rfl, rfl⟩ := hm
  have G1 := Aside0.mk B1
  have G2 := Aside0.mk B2
  have G3 := Aside0.mk B3
  have G4 := Aside0.mk B4
  clear B1 B2 B3 B4
  unfold msgC
  go_enter Tryd.func10, Tryd.ntmps10
  go_upto_region 1 with fail
  have J0 := Aside0.mk (blk_new w (Obj.cells #[.int .i64 h.f0, .bool h.f1, .int .i64 h.f2, .bool h.f3, .bool h.f4, .bool h.f5, .bool h.f6, .bool h.f7, .bool h.f8, .bool h.f9, .int .i64 h.f10, vq, va, vu, ve] 28))
  have HB1 := Aside0.mk (HB.out.alloc HB.out.size (Obj.cells #[.int .i64 h.f0, .bool h.f1, .int .i64 h.f2, .bool h.f3, .bool h.f4, .bool h.f5, .bool h.f6, .bool h.f7, .bool h.f8, .bool h.f9, .int .i64 h.f10, vq, va, vu, ve] 28))
  have HQ1 := Aside0.mk (Kd.R_alloc HQ.out (Obj.cells #[.int .i64 h.f0, .bool h.f1, .int .i64 h.f2, .bool h.f3, .bool h.f4, .bool h.f5, .bool h.f6, .bool h.f7, .bool h.f8, .bool h.f9, .int .i64 h.f10, vq, va, vu, ve] 28))
  have HA1 := Aside0.mk (Kd.R_alloc HA.out (Obj.cells #[.int .i64 h.f0, .bool h.f1, .int .i64 h.f2, .bool h.f3, .bool h.f4, .bool h.f5, .bool h.f6, .bool h.f7, .bool h.f8, .bool h.f9, .int .i64 h.f10, vq, va, vu, ve] 28))
  have HU1 := Aside0.mk (Kd.R_alloc HU.out (Obj.cells #[.int .i64 h.f0, .bool h.f1, .int .i64 h.f2, .bool h.f3, .bool h.f4, .bool h.f5, .bool h.f6, .bool h.f7, .bool h.f8, .bool h.f9, .int .i64 h.f10, vq, va, vu, ve] 28))
  have HE1 := Aside0.mk (Kd.R_alloc HE.out (Obj.cells #[.int .i64 h.f0, .bool h.f1, .int .i64 h.f2, .bool h.f3, .bool h.f4, .bool h.f5, .bool h.f6, .bool h.f7, .bool h.f8, .bool h.f9, .int .i64 h.f10, vq, va, vu, ve] 28))
  clear HB HQ HA HU HE
  generalize w.alloc (Obj.cells #[.int .i64 h.f0, .bool h.f1, .int .i64 h.f2, .bool h.f3, .bool h.f4, .bool h.f5, .bool h.f6, .bool h.f7, .bool h.f8, .bool h.f9, .int .i64 h.f10, vq, va, vu, ve] 28) = w1 at *
  generalize w.heap.size = b0 at *
  have hc0 : w1.cell? ⟨b0, 11, none⟩ = some vq := (blk_cell J0.out 11).trans rfl
  go_wp2_with fail
  refine (laws_markQuestionS.calls k (fun k => some k = vq.ownBlock) _ _ _ _ _ v _ HB1.out (R_ownB flat_47 HQ1.out) G1.out).mono ?_
  rintro e1 w2 ⟨rfl, ho, hb, hk⟩
  have HB2 := Aside0.mk hb
  have J1 := Aside0.mk (blk_kept J0.out hk (Kd.R_ne HQ1.out J0.out (by decide)))
  have HK2 := Aside0.mk (fun (g : Nat) (t : TypeId) (cs : Array Value) hg h1 h2 => blk_kept (HK.out g t cs hg h1 h2) hk (Kd.R_ne HQ1.out (HK.out g t cs hg h1 h2) (fun e => h1 e.symm)))
  have HQ2 := Aside0.mk (Kd.R_flat (ok' := (fun _ => True)) flat_47 ho (fun k hk _ => HQ1.out.1 k hk))
  have HA2 := Aside0.mk (R_keptOwn flat_53 HA1.out hk (R_ne_types HA1.out HQ1.out (by decide)))
  have HU2 := Aside0.mk (R_keptOwn flat_53 HU1.out hk (R_ne_types HU1.out HQ1.out (by decide)))
  have HE2 := Aside0.mk (R_keptOwn flat_53 HE1.out hk (R_ne_types HE1.out HQ1.out (by decide)))
  clear ho hb hk hc0 J0 HB1 HK HQ1 HA1 HU1 HE1
  have J0 := J1
  clear J1
  have hc0 : w2.cell? ⟨b0, 12, none⟩ = some va := (blk_cell J0.out 12).trans rfl
  go_wp2_with fail
  refine (laws_markRRS.calls k (fun k => some k = va.ownBlock) _ _ _ _ _ v _ HB2.out (R_ownB flat_53 HA2.out) G2.out).mono ?_
  rintro e1 w3 ⟨rfl, ho, hb, hk⟩
  have HB3 := Aside0.mk hb
  have J1 := Aside0.mk (blk_kept J0.out hk (Kd.R_ne HA2.out J0.out (by decide)))
  have HK3 := Aside0.mk (fun (g : Nat) (t : TypeId) (cs : Array Value) hg h1 h2 => blk_kept (HK2.out g t cs hg h1 h2) hk (Kd.R_ne HA2.out (HK2.out g t cs hg h1 h2) (fun e => h2 e.symm)))
  have HQ3 := Aside0.mk (R_keptOwn flat_47 HQ2.out hk (R_ne_types HQ2.out HA2.out (by decide)))
  have HA3 := Aside0.mk (Kd.R_flat (ok' := (fun k => some k ≠ vu.ownBlock ∧ some k ≠ ve.ownBlock)) flat_53 ho (fun k hk _ => HA2.out.1 k hk))
  have HU3 := Aside0.mk (R_keptOwn flat_53 HU2.out hk (fun k hk => (HU2.out.1 k hk).1))
  have HE3 := Aside0.mk (R_keptOwn flat_53 HE2.out hk (fun k hk => (HE2.out.1 k hk).1))
  clear ho hb hk hc0 J0 HB2 HK2 HQ2 HA2 HU2 HE2
  have J0 := J1
  clear J1
  have hc0 : w3.cell? ⟨b0, 13, none⟩ = some vu := (blk_cell J0.out 13).trans rfl
  go_wp2_with fail
  refine (laws_markRRS.calls k (fun k => some k = vu.ownBlock) _ _ _ _ _ v _ HB3.out (R_ownB flat_53 HU3.out) G3.out).mono ?_
  rintro e1 w4 ⟨rfl, ho, hb, hk⟩
  have HB4 := Aside0.mk hb
  have J1 := Aside0.mk (blk_kept J0.out hk (Kd.R_ne HU3.out J0.out (by decide)))
  have HK4 := Aside0.mk (fun (g : Nat) (t : TypeId) (cs : Array Value) hg h1 h2 => blk_kept (HK3.out g t cs hg h1 h2) hk (Kd.R_ne HU3.out (HK3.out g t cs hg h1 h2) (fun e => h2 e.symm)))
  have HQ4 := Aside0.mk (R_keptOwn flat_47 HQ3.out hk (R_ne_types HQ3.out HU3.out (by decide)))
  have HA4 := Aside0.mk (R_keptOwn flat_53 HA3.out hk (fun k hk => (HA3.out.1 k hk).1))
  have HU4 := Aside0.mk (Kd.R_flat (ok' := (fun k => some k ≠ va.ownBlock ∧ some k ≠ ve.ownBlock)) flat_53 ho (fun k hk _ => HU3.out.1 k hk))
  have HE4 := Aside0.mk (R_keptOwn flat_53 HE3.out hk (fun k hk => (HE3.out.1 k hk).2))
  clear ho hb hk hc0 J0 HB3 HK3 HQ3 HA3 HU3 HE3
  have J0 := J1
  clear J1
  have hc0 : w4.cell? ⟨b0, 14, none⟩ = some ve := (blk_cell J0.out 14).trans rfl
  go_wp2_with fail
  refine (laws_markRRS.calls k (fun k => some k = ve.ownBlock) _ _ _ _ _ v _ HB4.out (R_ownB flat_53 HE4.out) G4.out).mono ?_
  rintro e1 w5 ⟨rfl, ho, hb, hk⟩
  have HB5 := Aside0.mk hb
  have J1 := Aside0.mk (blk_kept J0.out hk (Kd.R_ne HE4.out J0.out (by decide)))
  have HK5 := Aside0.mk (fun (g : Nat) (t : TypeId) (cs : Array Value) hg h1 h2 => blk_kept (HK4.out g t cs hg h1 h2) hk (Kd.R_ne HE4.out (HK4.out g t cs hg h1 h2) (fun e => h2 e.symm)))
  have HQ5 := Aside0.mk (R_keptOwn flat_47 HQ4.out hk (R_ne_types HQ4.out HE4.out (by decide)))
  have HA5 := Aside0.mk (R_keptOwn flat_53 HA4.out hk (fun k hk => (HA4.out.1 k hk).2))
  have HU5 := Aside0.mk (R_keptOwn flat_53 HU4.out hk (fun k hk => (HU4.out.1 k hk).2))
  have HE5 := Aside0.mk (Kd.R_flat (ok' := (fun k => some k ≠ va.ownBlock ∧ some k ≠ vu.ownBlock)) flat_53 ho (fun k hk _ => HE4.out.1 k hk))
  clear ho hb hk hc0 J0 HB4 HK4 HQ4 HA4 HU4 HE4
  have J0 := J1
  clear J1
  go_wp2
  go_ret
  exact ⟨rfl, HQ5.out, HA5.out, HU5.out, HE5.out, HB5.out, HK5.out⟩

end Go.Proofs.YtcamchdenjpmhaaDoor.F
namespace Go.Proofs.YtcamchdenjpmhaaDoor.F
open Go Go.Shelf Go.RowKit Go.Proofs.YtcamchdenjpmhaaDoorW.PrintWords Go.Proofs.YtcamchdenjpmhaaDoorW.PrintLast Go.Proofs.YtcamchdenjpmhaaDoorW.PrintMore
attribute [local go_sem] max2_int min2_int max_two min_two max_three min_three max_four min_four   -- for this text's walks alone
set_option linter.unusedVariables false
set_option linter.unusedSimpArgs false

/-! ### laws_heldMessage: function 11 -/
def laws_heldRRS.h (k : Nat) : List S53 → Int → Option Int
  | [], m => some m
  | x :: r, m => if 0 ≤ m ∧ m ≤ 1000000000000000 then (laws_markText.f k (m)).bind fun s0 => (laws_markText.f k (m + 1 + 1 + 1 + 1)).bind fun s4 => (if x.f0 = s0 ∧ x.f1 = m + 1 ∧ x.f2 = m + 1 + 1 ∧ x.f3 = m + 1 + 1 + 1 ∧ x.f4 = s4 then laws_heldRRS.h k r (m + 1 + 1 + 1 + 1 + 1) else none) else none
set_option maxHeartbeats 4000000 in
set_option maxRecDepth 100000 in
theorem laws_heldRRS.held (k : Nat) (A0 : Option Addr) (c0 : Nat) (l : List S53) (m r : Int) (w : World) (hr0 : Kd.C k53 w A0 l.length l) (h : laws_heldRRS.h k l m = some r) :
    Calls Tryd.prog 24 #[.slice A0 l.length c0, .int .i64 m] w fun e w' => e = .returned (.int .i64 r) ∧ Below w.heap.size w w' := by
  have H0 := Aside0.mk hr0
  have H := Aside0.mk h
  have hmx := Kd.C_max hr0
  clear hr0 h
  go_enter Tryd.func24, Tryd.ntmps24
  go_wp2
  go_loopw [1, 5] (fun km i wr => ∃ (j : Nat) (m : Int), j ≤ l.length ∧ km = .int .i64 m ∧ i = .int .i64 j ∧ Aside0 (laws_heldRRS.h k (l.drop j) m = some r) ∧ Aside0 (Below w.heap.size w wr)) (fun _ i _ => l.length - (intOf i).toNat)
  case atStart => exact ⟨0, m, Nat.zero_le _, rfl, rfl, H, ⟨Below.refl _ _⟩⟩
  case round =>
    clear H
    obtain ⟨j, m, hj, rfl, rfl, HL, HB⟩ := hrel
    by_cases hlt : j < l.length
    · obtain ⟨ad, e0, hx0, hx1, hx2, hx3, hx4⟩ := at_T53 (Kd.C_below H0.out HB.out) (j : Int) (by omega) (by omega)
      cases e0
      rw [Int.toNat_natCast] at hx0 hx1 hx2 hx3 hx4
      have hrd : rd_T53 l (j : Int) = l[j] := by simp [rd_T53, List.getD_eq_getElem?_getD, hlt]
      rw [hrd] at hx0 hx1 hx2 hx3 hx4
      have hl := HL.out
      rw [List.drop_eq_getElem_cons hlt, laws_heldRRS.h] at hl
      clear HL hrd
      generalize l[j] = x at *
      split at hl
      case isFalse => cases hl
      case isTrue hm =>
      obtain ⟨hm0, hm1⟩ := hm
      replace hl := Option.bind_eq_some_iff.mp hl
      obtain ⟨s0, B0, hl⟩ := hl
      have G0 := Aside0.mk B0
      clear B0
      replace hl := Option.bind_eq_some_iff.mp hl
      obtain ⟨s4, B4, hl⟩ := hl
      have G4 := Aside0.mk B4
      clear B4
      split at hl
      case isFalse => cases hl
      case isTrue hc =>
      have HL := Aside0.mk hl
      clear hl
      obtain ⟨p0, p1, p2, p3, p4⟩ := hc
      rw [p0] at hx0
      rw [p1] at hx1
      rw [p2] at hx2
      rw [p3] at hx3
      rw [p4] at hx4
      clear p0 p1 p2 p3 p4
      have q1 : decide ((j : Int) < (l.length : Int)) = true := decide_eq_true (by omega)
      have q2 : decide (j < l.length) = true := decide_eq_true hlt
      go_upto_region 4 with fail
      refine start_ (n := 8) (S := fun w' => w'.cell? (ad.add (j * 5)) = some (.string s0)) (ds := []) #[false, false, false, false, false, false, false, false] (by kernel_rfl) rfl rfl (hx0) (fun hHeld => ?_)
      refine pure_ (i := 0) (N := some 12) (v := ?_) (a' := ?_) #[true, false, false, false, false, false, false, false] rfl rfl (by kernel_rfl) (fun _ _ _ h => h) (Or.inl ⟨by rfl, ?_⟩) ?_ ?_
      rotate_left
      · intro w'
        go_simp
        with_reducible rfl
      rotate_left
      · simp only [Act.put, List.setIfInBounds_toArray, List.set_cons_zero, List.set_cons_succ, i64_w, i32_w]
        rfl
      refine pure_ (i := 1) (N := some 13) (v := ?_) (a' := ?_) #[true, true, false, false, false, false, false, false] rfl rfl (by kernel_rfl) (fun _ _ _ h => h) (Or.inl ⟨by rfl, ?_⟩) ?_ ?_
      rotate_left
      · intro w'
        go_simp
        with_reducible rfl
      rotate_left
      · simp only [Act.put, List.setIfInBounds_toArray, List.set_cons_zero, List.set_cons_succ, i64_w, i32_w]
        rfl
      refine pure_ (i := 2) (N := some 14) (v := ?_) (a' := ?_) #[true, true, true, false, false, false, false, false] rfl rfl (by kernel_rfl) (fun _ _ _ h => h) (Or.inl ⟨by rfl, ?_⟩) ?_ ?_
      rotate_left
      · intro w'
        go_simp
        with_reducible rfl
      rotate_left
      · simp only [Act.put, List.setIfInBounds_toArray, List.set_cons_zero, List.set_cons_succ, i64_w, i32_w]
        rfl
      refine pure_ (i := 3) (N := some 15) (v := ?_) (a' := ?_) #[true, true, true, true, false, false, false, false] rfl rfl (by kernel_rfl) (fun _ _ _ h => h) (Or.inl ⟨by rfl, ?_⟩) ?_ ?_
      rotate_left
      · intro w'
        go_simp
        with_reducible rfl
      rotate_left
      · simp only [Act.put, List.setIfInBounds_toArray, List.set_cons_zero, List.set_cons_succ, i64_w, i32_w]
        rfl
      refine pure_ (i := 5) (N := some 17) (v := ?_) (a' := ?_) #[true, true, true, true, false, true, false, false] rfl rfl (by kernel_rfl) (fun _ _ _ h => h) (Or.inl ⟨by rfl, ?_⟩) ?_ ?_
      rotate_left
      · intro w'
        go_simp
        with_reducible rfl
      rotate_left
      · simp only [Act.put, List.setIfInBounds_toArray, List.set_cons_zero, List.set_cons_succ, i64_w, i32_w]
        rfl
      refine take_ (i := 4) (N := some 16) (v := ?_) (a' := ?_) #[true, true, true, true, true, true, false, false] rfl rfl (by kernel_rfl) (fun _ _ _ h => h) (Or.inl ⟨by rfl, ?_⟩) hHeld ?_ ?_
      rotate_left
      · intro w' s0
        go_simp
        with_reducible rfl
      rotate_left
      · simp only [Act.put, List.setIfInBounds_toArray, List.set_cons_zero, List.set_cons_succ, i64_w, i32_w]
        rfl
      refine one_ (i := 6) (N := some 18) #[true, true, true, true, true, true, true, false] rfl rfl (by kernel_rfl) (by decide) (fun K hK => ?_)
      refine goes_ Tryd.func36 (by kernel_rfl) rfl #[.int .i64 (m)] (by rfl) rfl rfl (by simp only [List.map_toArray, List.map_cons, List.map_nil]; rfl) ?_
      with_reducible refine (laws_markText.calls k _ _ _ G0.out).mono ?_
      rintro e w3 ⟨rfl, hb⟩
      refine ⟨_, rfl, ?_⟩
      have HBw3 := Aside0.mk (below_step (below_drew HB.out) hb)
      refine hK.out _ _ (((hb.cell (World.block_lt_of_cell? _ _ hx0)).trans hx0)) (fun hHeld => ?_)
      clear hK K
      refine norm_ (a' := ?_) ?_ ?_
      rotate_left
      · show Act.put _ (some 18) _ = _
        simp only [Act.put, List.setIfInBounds_toArray, List.set_cons_zero, List.set_cons_succ, i64_w, i32_w]
        rfl
      refine pure_ (i := 7) (N := some 19) (v := ?_) (a' := ?_) #[true, true, true, true, true, true, true, true] rfl rfl (by kernel_rfl) (fun _ _ _ h => h) (Or.inl ⟨by rfl, ?_⟩) ?_ ?_
      rotate_left
      · intro w'
        go_simp
        with_reducible rfl
      rotate_left
      · simp only [Act.put, List.setIfInBounds_toArray, List.set_cons_zero, List.set_cons_succ, i64_w, i32_w]
        rfl
      refine done_ (by kernel_rfl) ?_

      clear hx0
      replace hx1 := (hb.cell (World.block_lt_of_cell? _ _ hx1)).trans hx1
      replace hx2 := (hb.cell (World.block_lt_of_cell? _ _ hx2)).trans hx2
      replace hx3 := (hb.cell (World.block_lt_of_cell? _ _ hx3)).trans hx3
      replace hx4 := (hb.cell (World.block_lt_of_cell? _ _ hx4)).trans hx4
      clear hb
      go_upto_region 16 with fail
      refine start_ (n := 8) (S := fun w' => w'.cell? ⟨(ad.add (j * 5)).block, (ad.add (j * 5)).off + 4, none⟩ = some (.string s4)) (ds := []) #[false, false, false, false, false, false, false, false] (by kernel_rfl) rfl rfl (hx4) (fun hHeld => ?_)
      refine pure_ (i := 0) (N := some 49) (v := ?_) (a' := ?_) #[true, false, false, false, false, false, false, false] rfl rfl (by kernel_rfl) (fun _ _ _ h => h) (Or.inl ⟨by rfl, ?_⟩) ?_ ?_
      rotate_left
      · intro w'
        go_simp
        with_reducible rfl
      rotate_left
      · simp only [Act.put, List.setIfInBounds_toArray, List.set_cons_zero, List.set_cons_succ, i64_w, i32_w]
        rfl
      refine pure_ (i := 1) (N := some 50) (v := ?_) (a' := ?_) #[true, true, false, false, false, false, false, false] rfl rfl (by kernel_rfl) (fun _ _ _ h => h) (Or.inl ⟨by rfl, ?_⟩) ?_ ?_
      rotate_left
      · intro w'
        go_simp
        with_reducible rfl
      rotate_left
      · simp only [Act.put, List.setIfInBounds_toArray, List.set_cons_zero, List.set_cons_succ, i64_w, i32_w]
        rfl
      refine pure_ (i := 2) (N := some 51) (v := ?_) (a' := ?_) #[true, true, true, false, false, false, false, false] rfl rfl (by kernel_rfl) (fun _ _ _ h => h) (Or.inl ⟨by rfl, ?_⟩) ?_ ?_
      rotate_left
      · intro w'
        go_simp
        with_reducible rfl
      rotate_left
      · simp only [Act.put, List.setIfInBounds_toArray, List.set_cons_zero, List.set_cons_succ, i64_w, i32_w]
        rfl
      refine pure_ (i := 3) (N := some 52) (v := ?_) (a' := ?_) #[true, true, true, true, false, false, false, false] rfl rfl (by kernel_rfl) (fun _ _ _ h => h) (Or.inl ⟨by rfl, ?_⟩) ?_ ?_
      rotate_left
      · intro w'
        go_simp
        with_reducible rfl
      rotate_left
      · simp only [Act.put, List.setIfInBounds_toArray, List.set_cons_zero, List.set_cons_succ, i64_w, i32_w]
        rfl
      refine pure_ (i := 5) (N := some 54) (v := ?_) (a' := ?_) #[true, true, true, true, false, true, false, false] rfl rfl (by kernel_rfl) (fun _ _ _ h => h) (Or.inl ⟨by rfl, ?_⟩) ?_ ?_
      rotate_left
      · intro w'
        go_simp
        with_reducible rfl
      rotate_left
      · simp only [Act.put, List.setIfInBounds_toArray, List.set_cons_zero, List.set_cons_succ, i64_w, i32_w]
        rfl
      refine take_ (i := 4) (N := some 53) (v := ?_) (a' := ?_) #[true, true, true, true, true, true, false, false] rfl rfl (by kernel_rfl) (fun _ _ _ h => h) (Or.inl ⟨by rfl, ?_⟩) hHeld ?_ ?_
      rotate_left
      · intro w' s0
        go_simp
        with_reducible rfl
      rotate_left
      · simp only [Act.put, List.setIfInBounds_toArray, List.set_cons_zero, List.set_cons_succ, i64_w, i32_w]
        rfl
      refine one_ (i := 6) (N := some 55) #[true, true, true, true, true, true, true, false] rfl rfl (by kernel_rfl) (by decide) (fun K hK => ?_)
      refine goes_ Tryd.func36 (by kernel_rfl) rfl #[.int .i64 (m + 1 + 1 + 1 + 1)] (by rfl) rfl rfl (by simp only [List.map_toArray, List.map_cons, List.map_nil]; rfl) ?_
      with_reducible refine (laws_markText.calls k _ _ _ G4.out).mono ?_
      rintro e w4 ⟨rfl, hb⟩
      refine ⟨_, rfl, ?_⟩
      have HBw4 := Aside0.mk (below_step (below_drew HBw3.out) hb)
      refine hK.out _ _ (((hb.cell (World.block_lt_of_cell? _ _ hx4)).trans hx4)) (fun hHeld => ?_)
      clear hK K
      refine norm_ (a' := ?_) ?_ ?_
      rotate_left
      · show Act.put _ (some 55) _ = _
        simp only [Act.put, List.setIfInBounds_toArray, List.set_cons_zero, List.set_cons_succ, i64_w, i32_w]
        rfl
      refine pure_ (i := 7) (N := some 56) (v := ?_) (a' := ?_) #[true, true, true, true, true, true, true, true] rfl rfl (by kernel_rfl) (fun _ _ _ h => h) (Or.inl ⟨by rfl, ?_⟩) ?_ ?_
      rotate_left
      · intro w'
        go_simp
        with_reducible rfl
      rotate_left
      · simp only [Act.put, List.setIfInBounds_toArray, List.set_cons_zero, List.set_cons_succ, i64_w, i32_w]
        rfl
      refine done_ (by kernel_rfl) ?_

      clear hx4
      clear hb
      go_wp2
      have HBz := HBw4
      go_roundw
      case rel => exact ⟨j + 1, _, by omega, rfl, by go_num, HL, HBz⟩
      case measure => simp [intOf]; omega
    · obtain rfl : j = l.length := by omega
      have hl := HL.out
      rw [List.drop_length, laws_heldRRS.h] at hl
      obtain rfl := Option.some.inj hl
      have q1 : decide ((l.length : Int) < (l.length : Int)) = false := decide_eq_false (by omega)
      have q2 : decide (l.length < l.length) = false := decide_eq_false (by omega)
      go_wp2
      go_ret
      exact ⟨rfl, HB.out⟩
def laws_heldQuestionS.h (k : Nat) : List S47 → Int → Option Int
  | [], m => some m
  | x :: r, m => if 0 ≤ m ∧ m ≤ 1000000000000000 then (laws_markText.f k (m)).bind fun s0 => (if x.f0 = s0 ∧ x.f1 = m + 1 ∧ x.f2 = m + 1 + 1 then laws_heldQuestionS.h k r (m + 1 + 1 + 1) else none) else none
set_option maxHeartbeats 4000000 in
set_option maxRecDepth 100000 in
theorem laws_heldQuestionS.held (k : Nat) (A0 : Option Addr) (c0 : Nat) (l : List S47) (m r : Int) (w : World) (hr0 : Kd.C k47 w A0 l.length l) (h : laws_heldQuestionS.h k l m = some r) :
    Calls Tryd.prog 23 #[.slice A0 l.length c0, .int .i64 m] w fun e w' => e = .returned (.int .i64 r) ∧ Below w.heap.size w w' := by
  have H0 := Aside0.mk hr0
  have H := Aside0.mk h
  have hmx := Kd.C_max hr0
  clear hr0 h
  go_enter Tryd.func23, Tryd.ntmps23
  go_wp2
  go_loopw [1, 5] (fun km i wr => ∃ (j : Nat) (m : Int), j ≤ l.length ∧ km = .int .i64 m ∧ i = .int .i64 j ∧ Aside0 (laws_heldQuestionS.h k (l.drop j) m = some r) ∧ Aside0 (Below w.heap.size w wr)) (fun _ i _ => l.length - (intOf i).toNat)
  case atStart => exact ⟨0, m, Nat.zero_le _, rfl, rfl, H, ⟨Below.refl _ _⟩⟩
  case round =>
    clear H
    obtain ⟨j, m, hj, rfl, rfl, HL, HB⟩ := hrel
    by_cases hlt : j < l.length
    · obtain ⟨ad, e0, hx0, hx1, hx2⟩ := at_T47 (Kd.C_below H0.out HB.out) (j : Int) (by omega) (by omega)
      cases e0
      rw [Int.toNat_natCast] at hx0 hx1 hx2
      have hrd : rd_T47 l (j : Int) = l[j] := by simp [rd_T47, List.getD_eq_getElem?_getD, hlt]
      rw [hrd] at hx0 hx1 hx2
      have hl := HL.out
      rw [List.drop_eq_getElem_cons hlt, laws_heldQuestionS.h] at hl
      clear HL hrd
      generalize l[j] = x at *
      split at hl
      case isFalse => cases hl
      case isTrue hm =>
      obtain ⟨hm0, hm1⟩ := hm
      replace hl := Option.bind_eq_some_iff.mp hl
      obtain ⟨s0, B0, hl⟩ := hl
      have G0 := Aside0.mk B0
      clear B0
      split at hl
      case isFalse => cases hl
      case isTrue hc =>
      have HL := Aside0.mk hl
      clear hl
      obtain ⟨p0, p1, p2⟩ := hc
      rw [p0] at hx0
      rw [p1] at hx1
      rw [p2] at hx2
      clear p0 p1 p2
      have q1 : decide ((j : Int) < (l.length : Int)) = true := decide_eq_true (by omega)
      have q2 : decide (j < l.length) = true := decide_eq_true hlt
      go_upto_region 4 with fail
      refine start_ (n := 8) (S := fun w' => w'.cell? (ad.add (j * 3)) = some (.string s0)) (ds := []) #[false, false, false, false, false, false, false, false] (by kernel_rfl) rfl rfl (hx0) (fun hHeld => ?_)
      refine pure_ (i := 0) (N := some 12) (v := ?_) (a' := ?_) #[true, false, false, false, false, false, false, false] rfl rfl (by kernel_rfl) (fun _ _ _ h => h) (Or.inl ⟨by rfl, ?_⟩) ?_ ?_
      rotate_left
      · intro w'
        go_simp
        with_reducible rfl
      rotate_left
      · simp only [Act.put, List.setIfInBounds_toArray, List.set_cons_zero, List.set_cons_succ, i64_w, i32_w]
        rfl
      refine pure_ (i := 1) (N := some 13) (v := ?_) (a' := ?_) #[true, true, false, false, false, false, false, false] rfl rfl (by kernel_rfl) (fun _ _ _ h => h) (Or.inl ⟨by rfl, ?_⟩) ?_ ?_
      rotate_left
      · intro w'
        go_simp
        with_reducible rfl
      rotate_left
      · simp only [Act.put, List.setIfInBounds_toArray, List.set_cons_zero, List.set_cons_succ, i64_w, i32_w]
        rfl
      refine pure_ (i := 2) (N := some 14) (v := ?_) (a' := ?_) #[true, true, true, false, false, false, false, false] rfl rfl (by kernel_rfl) (fun _ _ _ h => h) (Or.inl ⟨by rfl, ?_⟩) ?_ ?_
      rotate_left
      · intro w'
        go_simp
        with_reducible rfl
      rotate_left
      · simp only [Act.put, List.setIfInBounds_toArray, List.set_cons_zero, List.set_cons_succ, i64_w, i32_w]
        rfl
      refine pure_ (i := 3) (N := some 15) (v := ?_) (a' := ?_) #[true, true, true, true, false, false, false, false] rfl rfl (by kernel_rfl) (fun _ _ _ h => h) (Or.inl ⟨by rfl, ?_⟩) ?_ ?_
      rotate_left
      · intro w'
        go_simp
        with_reducible rfl
      rotate_left
      · simp only [Act.put, List.setIfInBounds_toArray, List.set_cons_zero, List.set_cons_succ, i64_w, i32_w]
        rfl
      refine pure_ (i := 5) (N := some 17) (v := ?_) (a' := ?_) #[true, true, true, true, false, true, false, false] rfl rfl (by kernel_rfl) (fun _ _ _ h => h) (Or.inl ⟨by rfl, ?_⟩) ?_ ?_
      rotate_left
      · intro w'
        go_simp
        with_reducible rfl
      rotate_left
      · simp only [Act.put, List.setIfInBounds_toArray, List.set_cons_zero, List.set_cons_succ, i64_w, i32_w]
        rfl
      refine take_ (i := 4) (N := some 16) (v := ?_) (a' := ?_) #[true, true, true, true, true, true, false, false] rfl rfl (by kernel_rfl) (fun _ _ _ h => h) (Or.inl ⟨by rfl, ?_⟩) hHeld ?_ ?_
      rotate_left
      · intro w' s0
        go_simp
        with_reducible rfl
      rotate_left
      · simp only [Act.put, List.setIfInBounds_toArray, List.set_cons_zero, List.set_cons_succ, i64_w, i32_w]
        rfl
      refine one_ (i := 6) (N := some 18) #[true, true, true, true, true, true, true, false] rfl rfl (by kernel_rfl) (by decide) (fun K hK => ?_)
      refine goes_ Tryd.func36 (by kernel_rfl) rfl #[.int .i64 (m)] (by rfl) rfl rfl (by simp only [List.map_toArray, List.map_cons, List.map_nil]; rfl) ?_
      with_reducible refine (laws_markText.calls k _ _ _ G0.out).mono ?_
      rintro e w3 ⟨rfl, hb⟩
      refine ⟨_, rfl, ?_⟩
      have HBw3 := Aside0.mk (below_step (below_drew HB.out) hb)
      refine hK.out _ _ (((hb.cell (World.block_lt_of_cell? _ _ hx0)).trans hx0)) (fun hHeld => ?_)
      clear hK K
      refine norm_ (a' := ?_) ?_ ?_
      rotate_left
      · show Act.put _ (some 18) _ = _
        simp only [Act.put, List.setIfInBounds_toArray, List.set_cons_zero, List.set_cons_succ, i64_w, i32_w]
        rfl
      refine pure_ (i := 7) (N := some 19) (v := ?_) (a' := ?_) #[true, true, true, true, true, true, true, true] rfl rfl (by kernel_rfl) (fun _ _ _ h => h) (Or.inl ⟨by rfl, ?_⟩) ?_ ?_
      rotate_left
      · intro w'
        go_simp
        with_reducible rfl
      rotate_left
      · simp only [Act.put, List.setIfInBounds_toArray, List.set_cons_zero, List.set_cons_succ, i64_w, i32_w]
        rfl
      refine done_ (by kernel_rfl) ?_

      clear hx0
      replace hx1 := (hb.cell (World.block_lt_of_cell? _ _ hx1)).trans hx1
      replace hx2 := (hb.cell (World.block_lt_of_cell? _ _ hx2)).trans hx2
      clear hb
      go_wp2
      have HBz := HBw3
      go_roundw
      case rel => exact ⟨j + 1, _, by omega, rfl, by go_num, HL, HBz⟩
      case measure => simp [intOf]; omega
    · obtain rfl : j = l.length := by omega
      have hl := HL.out
      rw [List.drop_length, laws_heldQuestionS.h] at hl
      obtain rfl := Option.some.inj hl
      have q1 : decide ((l.length : Int) < (l.length : Int)) = false := decide_eq_false (by omega)
      have q2 : decide (l.length < l.length) = false := decide_eq_false (by omega)
      go_wp2
      go_ret
      exact ⟨rfl, HB.out⟩
def laws_heldMessage.h (k : Nat) (q : List S47) (a u e : List S53) (m : Int) : Option Int := (laws_heldQuestionS.h k q m).bind fun m1 => if 0 ≤ m1 then (laws_heldRRS.h k a m1).bind fun m2 => if 0 ≤ m2 then (laws_heldRRS.h k u m2).bind fun m3 => if 0 ≤ m3 then (laws_heldRRS.h k e m3).bind fun m4 => if 0 ≤ m4 then some m4 else none else none else none else none
set_option maxHeartbeats 4000000 in
set_option maxRecDepth 100000 in
theorem laws_heldMessage.held (k : Nat) (h : S24) (q : List S47) (a u e : List S53) (m r : Int) (Ax0 : Option Addr) (cx0 : Nat) (Ax1 : Option Addr) (cx1 : Nat) (Ax2 : Option Addr) (cx2 : Nat) (Ax3 : Option Addr) (cx3 : Nat) (w : World) (hx0 : Kd.C k47 w Ax0 q.length q) (hx1 : Kd.C k53 w Ax1 a.length a) (hx2 : Kd.C k53 w Ax2 u.length u) (hx3 : Kd.C k53 w Ax3 e.length e) (hm : laws_heldMessage.h k q a u e m = some r) :
    Calls Tryd.prog 11 #[.agg (msgC h (.slice Ax0 q.length cx0) (.slice Ax1 a.length cx1) (.slice Ax2 u.length cx2) (.slice Ax3 e.length cx3)), .int .i64 m] w fun e_ w' => e_ = .returned (.int .i64 r) ∧ Below w.heap.size w w' := by
  have Hx0 := Aside0.mk hx0
  have Hx1 := Aside0.mk hx1
  have Hx2 := Aside0.mk hx2
  have Hx3 := Aside0.mk hx3
  clear hx0 hx1 hx2 hx3
  unfold laws_heldMessage.h at hm
  replace hm := Option.bind_eq_some_iff.mp hm
  obtain ⟨m1, B0, hm⟩ := hm
  split at hm
  case isFalse => cases hm
  case isTrue hp0 =>
  have G0 := Aside0.mk B0
  clear B0
  replace hm := Option.bind_eq_some_iff.mp hm
  obtain ⟨m2, B1, hm⟩ := hm
  split at hm
  case isFalse => cases hm
  case isTrue hp1 =>
  have G1 := Aside0.mk B1
  clear B1
  replace hm := Option.bind_eq_some_iff.mp hm
  obtain ⟨m3, B2, hm⟩ := hm
  split at hm
  case isFalse => cases hm
  case isTrue hp2 =>
  have G2 := Aside0.mk B2
  clear B2
  replace hm := Option.bind_eq_some_iff.mp hm
  obtain ⟨m4, B3, hm⟩ := hm
  split at hm
  case isFalse => cases hm
  case isTrue hp3 =>
  have G3 := Aside0.mk B3
  clear B3
  obtain rfl := Option.some.inj hm
  clear hm
  unfold msgC
  go_enter Tryd.func11, Tryd.ntmps11
  go_upto_region 1 with fail
  have J0 := Aside0.mk (show (w.alloc (Obj.cells #[.int .i64 h.f0, .bool h.f1, .int .i64 h.f2, .bool h.f3, .bool h.f4, .bool h.f5, .bool h.f6, .bool h.f7, .bool h.f8, .bool h.f9, .int .i64 h.f10, .slice Ax0 q.length cx0, .slice Ax1 a.length cx1, .slice Ax2 u.length cx2, .slice Ax3 e.length cx3] 28)).heap[w.heap.size]? = some (.cells (msgC h (.slice Ax0 q.length cx0) (.slice Ax1 a.length cx1) (.slice Ax2 u.length cx2) (.slice Ax3 e.length cx3)) 28 (0, 0)) from blk_new w _)
  have JB := Aside0.mk (below_alloc (Below.refl w.heap.size w) (Obj.cells #[.int .i64 h.f0, .bool h.f1, .int .i64 h.f2, .bool h.f3, .bool h.f4, .bool h.f5, .bool h.f6, .bool h.f7, .bool h.f8, .bool h.f9, .int .i64 h.f10, .slice Ax0 q.length cx0, .slice Ax1 a.length cx1, .slice Ax2 u.length cx2, .slice Ax3 e.length cx3] 28))
  generalize w.alloc (Obj.cells #[.int .i64 h.f0, .bool h.f1, .int .i64 h.f2, .bool h.f3, .bool h.f4, .bool h.f5, .bool h.f6, .bool h.f7, .bool h.f8, .bool h.f9, .int .i64 h.f10, .slice Ax0 q.length cx0, .slice Ax1 a.length cx1, .slice Ax2 u.length cx2, .slice Ax3 e.length cx3] 28) = w1 at *
  obtain ⟨b0, hb0⟩ : ∃ b, b = w.heap.size := ⟨_, rfl⟩
  rw [← hb0] at J0 ⊢
  replace hb0 := Aside0.mk hb0
  have hc0 : w1.cell? ⟨b0, 11, none⟩ = some (.slice Ax0 q.length cx0) := (blk_cell J0.out 11).trans rfl
  go_wp2_with fail
  refine (laws_heldQuestionS.held k _ _ q _ _ _ (Kd.C_below Hx0.out JB.out) G0.out).mono ?_
  rintro e1 w2 ⟨rfl, hb⟩
  have J0' := Aside0.mk (blk_below J0.out hb)
  have JB' := Aside0.mk (below_step JB.out hb)
  clear hb J0 JB hc0
  have J0 := J0'
  have JB := JB'
  clear J0' JB'
  have qm0 : decide (m1 < 0) = false := decide_eq_false (by omega)
  have hc0 : w2.cell? ⟨b0, 12, none⟩ = some (.slice Ax1 a.length cx1) := (blk_cell J0.out 12).trans rfl
  go_wp2_with fail
  refine (laws_heldRRS.held k _ _ a _ _ _ (Kd.C_below Hx1.out JB.out) G1.out).mono ?_
  rintro e1 w3 ⟨rfl, hb⟩
  have J0' := Aside0.mk (blk_below J0.out hb)
  have JB' := Aside0.mk (below_step JB.out hb)
  clear hb J0 JB hc0
  have J0 := J0'
  have JB := JB'
  clear J0' JB'
  have qm1 : decide (m2 < 0) = false := decide_eq_false (by omega)
  have hc0 : w3.cell? ⟨b0, 13, none⟩ = some (.slice Ax2 u.length cx2) := (blk_cell J0.out 13).trans rfl
  go_wp2_with fail
  refine (laws_heldRRS.held k _ _ u _ _ _ (Kd.C_below Hx2.out JB.out) G2.out).mono ?_
  rintro e1 w4 ⟨rfl, hb⟩
  have J0' := Aside0.mk (blk_below J0.out hb)
  have JB' := Aside0.mk (below_step JB.out hb)
  clear hb J0 JB hc0
  have J0 := J0'
  have JB := JB'
  clear J0' JB'
  have qm2 : decide (m3 < 0) = false := decide_eq_false (by omega)
  have hc0 : w4.cell? ⟨b0, 14, none⟩ = some (.slice Ax3 e.length cx3) := (blk_cell J0.out 14).trans rfl
  go_wp2_with fail
  refine (laws_heldRRS.held k _ _ e _ _ _ (Kd.C_below Hx3.out JB.out) G3.out).mono ?_
  rintro e1 w5 ⟨rfl, hb⟩
  have J0' := Aside0.mk (blk_below J0.out hb)
  have JB' := Aside0.mk (below_step JB.out hb)
  clear hb J0 JB hc0
  have J0 := J0'
  have JB := JB'
  clear J0' JB'
  have qm3 : decide (m4 < 0) = false := decide_eq_false (by omega)
  go_wp2
  go_ret
  exact ⟨rfl, JB.out⟩

end Go.Proofs.YtcamchdenjpmhaaDoor.F
namespace Go.Proofs.YtcamchdenjpmhaaDoor.F
open Go Go.Shelf Go.RowKit Go.Proofs.YtcamchdenjpmhaaDoorW.PrintWords Go.Proofs.YtcamchdenjpmhaaDoorW.PrintLast Go.Proofs.YtcamchdenjpmhaaDoorW.PrintMore
attribute [local go_sem] max2_int min2_int max_two min_two max_three min_three max_four min_four   -- for this text's walks alone
set_option linter.unusedVariables false
set_option linter.unusedSimpArgs false

/-! ### laws_FnExactDecode: function 3 -/
theorem msg_eq (h : S24) (q : List S47) (a u e : List S53) (Ax0 : Option Addr) (nx0 cx0 : Nat) (Ax1 : Option Addr) (nx1 cx1 : Nat) (Ax2 : Option Addr) (nx2 cx2 : Nat) (Ax3 : Option Addr) (nx3 cx3 : Nat) (Ay0 : Option Addr) (ny0 cy0 : Nat) (Ay1 : Option Addr) (ny1 cy1 : Nat) (Ay2 : Option Addr) (ny2 cy2 : Nat) (Ay3 : Option Addr) (ny3 cy3 : Nat) (w : World) (hx0 : nx0 = q.length ∧ Kd.C k47 w Ax0 q.length q) (hx1 : nx1 = a.length ∧ Kd.C k53 w Ax1 a.length a) (hx2 : nx2 = u.length ∧ Kd.C k53 w Ax2 u.length u) (hx3 : nx3 = e.length ∧ Kd.C k53 w Ax3 e.length e) (hy0 : ny0 = q.length ∧ Kd.C k47 w Ay0 q.length q) (hy1 : ny1 = a.length ∧ Kd.C k53 w Ay1 a.length a) (hy2 : ny2 = u.length ∧ Kd.C k53 w Ay2 u.length u) (hy3 : ny3 = e.length ∧ Kd.C k53 w Ay3 e.length e) :
    Calls Tryd.prog 7 #[.agg (msgC h (.slice Ax0 nx0 cx0) (.slice Ax1 nx1 cx1) (.slice Ax2 nx2 cx2) (.slice Ax3 nx3 cx3)), .agg (msgC h (.slice Ay0 ny0 cy0) (.slice Ay1 ny1 cy1) (.slice Ay2 ny2 cy2) (.slice Ay3 ny3 cy3))] w fun e_ w' => e_ = .returned (.bool true) ∧ Below w.heap.size w w' := by
  obtain ⟨rfl, hx0⟩ := hx0
  obtain ⟨rfl, hx1⟩ := hx1
  obtain ⟨rfl, hx2⟩ := hx2
  obtain ⟨rfl, hx3⟩ := hx3
  obtain ⟨rfl, hy0⟩ := hy0
  obtain ⟨rfl, hy1⟩ := hy1
  obtain ⟨rfl, hy2⟩ := hy2
  obtain ⟨rfl, hy3⟩ := hy3
  exact laws_eqMessage.same h q a u e _ _ _ _ _ _ _ _ _ _ _ _ _ _ _ _ w hx0 hx1 hx2 hx3 hy0 hy1 hy2 hy3
theorem msg_held (k : Nat) (h : S24) (q : List S47) (a u e : List S53) (m r : Int) (Ax0 : Option Addr) (nx0 cx0 : Nat) (Ax1 : Option Addr) (nx1 cx1 : Nat) (Ax2 : Option Addr) (nx2 cx2 : Nat) (Ax3 : Option Addr) (nx3 cx3 : Nat) (w : World) (hx0 : nx0 = q.length ∧ Kd.C k47 w Ax0 q.length q) (hx1 : nx1 = a.length ∧ Kd.C k53 w Ax1 a.length a) (hx2 : nx2 = u.length ∧ Kd.C k53 w Ax2 u.length u) (hx3 : nx3 = e.length ∧ Kd.C k53 w Ax3 e.length e) (hm : laws_heldMessage.h k q a u e m = some r) :
    Calls Tryd.prog 11 #[.agg (msgC h (.slice Ax0 nx0 cx0) (.slice Ax1 nx1 cx1) (.slice Ax2 nx2 cx2) (.slice Ax3 nx3 cx3)), .int .i64 m] w fun e_ w' => e_ = .returned (.int .i64 r) ∧ Below w.heap.size w w' := by
  obtain ⟨rfl, hx0⟩ := hx0
  obtain ⟨rfl, hx1⟩ := hx1
  obtain ⟨rfl, hx2⟩ := hx2
  obtain ⟨rfl, hx3⟩ := hx3
  exact laws_heldMessage.held k h q a u e m r _ _ _ _ _ _ _ _ w hx0 hx1 hx2 hx3 hm
theorem row_form {α : Type} {d : Kd α} {e b : Nat} {ok : Nat → Prop} {w : World} {A : Option Addr} {n c : Nat} {xs : List α} (h : d.R e w b ok (.slice A n c) xs) : n = xs.length ∧ d.C w A xs.length xs := ⟨(Kd.R_reads' h).1, (Kd.R_reads' h).2.2⟩
theorem row_any {α : Type} {d : Kd α} {e b : Nat} {ok : Nat → Prop} {w : World} {v : Value} {xs : List α} (h : d.R e w b ok v xs) : ∃ A n c, v = .slice A n c := by
  obtain ⟨A, c, e⟩ := Kd.R_slice h
  exact ⟨A, _, c, e⟩
/-- A row of bytes that was made: as a slice. -/
theorem row8 {w : World} {b : Nat} {ok : Nat → Prop} {v : Value} {xs : List Int} (h : Kd.R (Kd.int .u8) 5 w b ok v xs) : ∃ A c, v = .slice A xs.length c ∧ xs.length ≤ c ∧ Kd.C (Kd.int .u8) w A xs.length xs := Kd.R_reads h
theorem flat8 {w : World} {base : Nat} {ok1 ok2 : Nat → Prop} {x : Int} {cs : List Value} (h : (Kd.int .u8).M w base ok1 x cs) : (Kd.int .u8).M w base ok2 x cs := h
structure MRows (w : World) (base : Nat) (vq va vu ve : Value) (q : List S47) (a u e : List S53) : Prop where
  rq : Kd.R k47 47 w base (fun _ => True) vq q
  ra : Kd.R k53 53 w base (fun k => some k ≠ vu.ownBlock ∧ some k ≠ ve.ownBlock) va a
  ru : Kd.R k53 53 w base (fun k => some k ≠ va.ownBlock ∧ some k ≠ ve.ownBlock) vu u
  re : Kd.R k53 53 w base (fun k => some k ≠ va.ownBlock ∧ some k ≠ vu.ownBlock) ve e
theorem MRows.below {w W : World} {base : Nat} {vq va vu ve : Value} {q : List S47} {a u e : List S53} (h : MRows w base vq va vu ve q a u e) (hb : Below w.heap.size w W) : MRows W base vq va vu ve q a u e := ⟨Kd.R_below h.rq hb, Kd.R_below h.ra hb, Kd.R_below h.ru hb, Kd.R_below h.re hb⟩
theorem MRows.lower {w : World} {base b : Nat} {vq va vu ve : Value} {q : List S47} {a u e : List S53} (h : MRows w base vq va vu ve q a u e) (hb : b ≤ base) : MRows w b vq va vu ve q a u e := ⟨Kd.R_lower h.rq hb, Kd.R_lower h.ra hb, Kd.R_lower h.ru hb, Kd.R_lower h.re hb⟩
/-- The rows of what a law holds behind what is made below: they are read there, too. -/
theorem MRows.at_ {w0 w W : World} {base : Nat} {vq va vu ve : Value} {q : List S47} {a u e : List S53} (h : MRows w0 base vq va vu ve q a u e) (hb : Below w0.heap.size w0 W) : MRows W base vq va vu ve q a u e := h.below hb
theorem MRows.kept {w W : World} {base b : Nat} {okx : Nat → Prop} {vq va vu ve vx : Value} {q : List S47} {a u e : List S53} {lx : List Int} (h : MRows w base vq va vu ve q a u e) (hx : Kd.R (Kd.int .u8) 5 w b okx vx lx) (hk : Kept w W (fun k => some k = vx.ownBlock)) : MRows W base vq va vu ve q a u e :=
  ⟨R_keptOwn flat_47 h.rq hk (R_ne_types h.rq hx (by decide)), R_keptOwn flat_53 h.ra hk (R_ne_types h.ra hx (by decide)), R_keptOwn flat_53 h.ru hk (R_ne_types h.ru hx (by decide)), R_keptOwn flat_53 h.re hk (R_ne_types h.re hx (by decide))⟩
def laws_FnExactDecode.Ok (k : Nat) (l0 : List Int) : Prop := l0.length > 1048576 ∨ (l0.length ≤ 1048576 ∧ ∃ (h : S24) (q : List S47) (a u e : List S53) (c b : Int) (lb : List Int) (r : Int) (q1 : List S47) (a1 u1 e1 : List S53), laws_toByteS.f k l0 = some l0 ∧ spec_Decode.f k l0 = some (h.f0, h.f1, h.f2, h.f3, h.f4, h.f5, h.f6, h.f7, h.f8, h.f9, h.f10, q, a, u, e, c) ∧ impl_Decode.f k l0 = some (h.f0, h.f1, h.f2, h.f3, h.f4, h.f5, h.f6, h.f7, h.f8, h.f9, h.f10, q, a, u, e, c) ∧ laws_eqByteS.f k l0 l0 = some true ∧ laws_markByteS.f k l0 1 = some (b, lb) ∧ 0 ≤ b ∧ laws_markMessage.m k q a u e 1 = some (r, q1, a1, u1, e1) ∧ laws_heldMessage.h k q1 a1 u1 e1 1 = some r ∧ 0 ≤ r)
set_option maxHeartbeats 16000000 in
set_option maxRecDepth 100000 in
theorem laws_FnExactDecode.calls (k : Nat) (A0 : Option Addr) (c0 : Nat) (l0 : List Int) (w : World) (hr0 : Kd.C (Kd.int .u8) w A0 l0.length l0) (hc0 : l0.length ≤ c0) (hok : laws_FnExactDecode.Ok k l0) (hG : Glob w) :
    Calls Tryd.prog 3 #[.slice A0 l0.length c0] w fun e w' => e = .returned (.bool true) ∧ Below w.heap.size w w' := by
  have HR := Aside0.mk hr0
  have HG := Aside0.mk hG
  clear hr0 hG
  rcases hok with hl | ⟨hl, hok⟩
  · have q0 : decide (1048576 < (l0.length : Int)) = true := decide_eq_true (by omega)
    have q1 : decide (1048576 < l0.length) = true := decide_eq_true hl
    go_enter Tryd.func3, Tryd.ntmps3
    go_wp2
    go_ret
    exact ⟨rfl, Below.refl _ _⟩
  obtain ⟨h, q, a, u, e, c, b, lb, r, q1, a1, u1, e1, B1, B2, B3, B4, B5, B6, B7, B8, B9⟩ := hok
  have G1 := Aside0.mk B1
  have G2 := Aside0.mk B2
  have G3 := Aside0.mk B3
  have G4 := Aside0.mk B4
  have G5 := Aside0.mk B5
  have G7 := Aside0.mk B7
  have G8 := Aside0.mk B8
  clear B1 B2 B3 B4 B5 B7 B8
  have q0 : decide (1048576 < (l0.length : Int)) = false := decide_eq_false (by omega)
  have q1_ : decide (1048576 < l0.length) = false := decide_eq_false (by omega)
  have qb : decide (b < 0) = false := decide_eq_false (by omega)
  have qr : decide (r < 0) = false := decide_eq_false (by omega)
  go_enter Tryd.func3, Tryd.ntmps3
  go_wp2_with fail
  clear q0 q1_
  refine (laws_toByteS.calls k A0 c0 l0 l0 _ HR.out hc0 G1.out).mono ?_
  rintro e_ w1 ⟨v1, rfl, h1, hb1⟩
  obtain ⟨A1, c1, rfl, hc1, hC1⟩ := row8 h1
  have HC1 := Aside0.mk hC1
  have HB1 := Aside0.mk hb1
  clear h1 hC1 hb1
  go_wp2_with fail
  refine (spec_Decode.calls k A1 c1 l0 _ _ _ _ _ _ _ _ _ _ _ _ _ _ _ _ _ HC1.out hc1 G2.out).mono ?_
  rintro e_ w2 ⟨x0, x1, x2, x3, rfl, y0, y1, y2, y3, hb2⟩
  obtain ⟨Ax0, nx0, cx0, rfl⟩ := row_any y0
  obtain ⟨Ax1, nx1, cx1, rfl⟩ := row_any y1
  obtain ⟨Ax2, nx2, cx2, rfl⟩ := row_any y2
  obtain ⟨Ax3, nx3, cx3, rfl⟩ := row_any y3
  have HB2 := Aside0.mk (below_step HB1.out hb2)
  have SX := Aside0.mk (show MRows w2 w1.heap.size _ _ _ _ q a u e from ⟨y0, y1, y2, y3⟩)
  clear y0 y1 y2 y3 hb2 HB1 HC1 hc1
  go_upto_region 4 with fail
  have BX3 := Aside0.mk (show (w2.alloc (Obj.cells #[.int .i64 h.f0, .bool h.f1, .int .i64 h.f2, .bool h.f3, .bool h.f4, .bool h.f5, .bool h.f6, .bool h.f7, .bool h.f8, .bool h.f9, .int .i64 h.f10, .slice Ax0 nx0 cx0, .slice Ax1 nx1 cx1, .slice Ax2 nx2 cx2, .slice Ax3 nx3 cx3] 28)).heap[w2.heap.size]? = some (.cells (msgC h (.slice Ax0 nx0 cx0) (.slice Ax1 nx1 cx1) (.slice Ax2 nx2 cx2) (.slice Ax3 nx3 cx3)) 28 (0, 0)) from blk_new w2 _)
  have SX3 := Aside0.mk (SX.out.below (below_alloc (Below.refl _ _) (Obj.cells #[.int .i64 h.f0, .bool h.f1, .int .i64 h.f2, .bool h.f3, .bool h.f4, .bool h.f5, .bool h.f6, .bool h.f7, .bool h.f8, .bool h.f9, .int .i64 h.f10, .slice Ax0 nx0 cx0, .slice Ax1 nx1 cx1, .slice Ax2 nx2 cx2, .slice Ax3 nx3 cx3] 28)))
  have HB3 := Aside0.mk (below_alloc HB2.out (Obj.cells #[.int .i64 h.f0, .bool h.f1, .int .i64 h.f2, .bool h.f3, .bool h.f4, .bool h.f5, .bool h.f6, .bool h.f7, .bool h.f8, .bool h.f9, .int .i64 h.f10, .slice Ax0 nx0 cx0, .slice Ax1 nx1 cx1, .slice Ax2 nx2 cx2, .slice Ax3 nx3 cx3] 28))
  clear SX HB2
  generalize w2.alloc (Obj.cells #[.int .i64 h.f0, .bool h.f1, .int .i64 h.f2, .bool h.f3, .bool h.f4, .bool h.f5, .bool h.f6, .bool h.f7, .bool h.f8, .bool h.f9, .int .i64 h.f10, .slice Ax0 nx0 cx0, .slice Ax1 nx1 cx1, .slice Ax2 nx2 cx2, .slice Ax3 nx3 cx3] 28) = w3 at *
  generalize w2.heap.size = b3 at *
  go_wp2_with fail
  refine (laws_toByteS.calls k A0 c0 l0 l0 _ (Kd.C_below HR.out HB3.out) hc0 G1.out).mono ?_
  rintro e_ w4 ⟨v5, rfl, h5, hb4⟩
  obtain ⟨A5, n5, c5, rfl⟩ := row_any h5
  have X5 := Aside0.mk h5
  have B34 := Aside0.mk hb4
  clear h5 hb4
  go_wp2_with fail
  have hn5 := (row_form X5.out).1
  subst hn5
  refine (impl_Decode.calls k A5 c5 l0 _ _ _ _ _ _ _ _ _ _ _ _ _ _ _ _ _ (row_form X5.out).2 (Kd.R_reads' X5.out).2.1 G3.out (HG.out.below (below_step HB3.out B34.out))).mono ?_
  rintro e_ w5 ⟨x0, x1, x2, x3, rfl, y0, y1, y2, y3, hb5⟩
  obtain ⟨Ay0, ny0, cy0, rfl⟩ := row_any y0
  obtain ⟨Ay1, ny1, cy1, rfl⟩ := row_any y1
  obtain ⟨Ay2, ny2, cy2, rfl⟩ := row_any y2
  obtain ⟨Ay3, ny3, cy3, rfl⟩ := row_any y3
  have GY := Aside0.mk (MRows.lower (show MRows w5 w4.heap.size _ _ _ _ q a u e from ⟨y0, y1, y2, y3⟩) B34.out.size)
  have B35 := Aside0.mk (below_step B34.out hb5)
  have X55 := Aside0.mk (Kd.R_below X5.out hb5)
  clear y0 y1 y2 y3 hb5 B34 X5
  go_upto_region 6 with fail
  have BX6 := Aside0.mk (show (w5.alloc (Obj.cells #[.int .i64 h.f0, .bool h.f1, .int .i64 h.f2, .bool h.f3, .bool h.f4, .bool h.f5, .bool h.f6, .bool h.f7, .bool h.f8, .bool h.f9, .int .i64 h.f10, .slice Ay0 ny0 cy0, .slice Ay1 ny1 cy1, .slice Ay2 ny2 cy2, .slice Ay3 ny3 cy3] 28)).heap[w5.heap.size]? = some (.cells (msgC h (.slice Ay0 ny0 cy0) (.slice Ay1 ny1 cy1) (.slice Ay2 ny2 cy2) (.slice Ay3 ny3 cy3)) 28 (0, 0)) from blk_new w5 _)
  have GY6 := Aside0.mk (GY.out.below (below_alloc (Below.refl _ _) (Obj.cells #[.int .i64 h.f0, .bool h.f1, .int .i64 h.f2, .bool h.f3, .bool h.f4, .bool h.f5, .bool h.f6, .bool h.f7, .bool h.f8, .bool h.f9, .int .i64 h.f10, .slice Ay0 ny0 cy0, .slice Ay1 ny1 cy1, .slice Ay2 ny2 cy2, .slice Ay3 ny3 cy3] 28)))
  have B36 := Aside0.mk (below_alloc B35.out (Obj.cells #[.int .i64 h.f0, .bool h.f1, .int .i64 h.f2, .bool h.f3, .bool h.f4, .bool h.f5, .bool h.f6, .bool h.f7, .bool h.f8, .bool h.f9, .int .i64 h.f10, .slice Ay0 ny0 cy0, .slice Ay1 ny1 cy1, .slice Ay2 ny2 cy2, .slice Ay3 ny3 cy3] 28))
  have X56 := Aside0.mk (Kd.R_alloc X55.out (Obj.cells #[.int .i64 h.f0, .bool h.f1, .int .i64 h.f2, .bool h.f3, .bool h.f4, .bool h.f5, .bool h.f6, .bool h.f7, .bool h.f8, .bool h.f9, .int .i64 h.f10, .slice Ay0 ny0 cy0, .slice Ay1 ny1 cy1, .slice Ay2 ny2 cy2, .slice Ay3 ny3 cy3] 28))
  clear GY B35 X55
  generalize w5.alloc (Obj.cells #[.int .i64 h.f0, .bool h.f1, .int .i64 h.f2, .bool h.f3, .bool h.f4, .bool h.f5, .bool h.f6, .bool h.f7, .bool h.f8, .bool h.f9, .int .i64 h.f10, .slice Ay0 ny0 cy0, .slice Ay1 ny1 cy1, .slice Ay2 ny2 cy2, .slice Ay3 ny3 cy3] 28) = w6 at *
  generalize w5.heap.size = b6 at *
  have B6 := Aside0.mk (blk_below BX3.out B36.out)
  have S6 := Aside0.mk (SX3.out.below B36.out)
  have C6 := BX6
  have Y6 := GY6
  have X6 := X56
  have D6 := B36
  clear BX3 BX6 GY6 X56 B36
  go_wp2_with (first | ((with_reducible refine gate_ (.load 28 (.tmp 6)) rfl ?_); (try (refine gate_guard (by rfl) ?_; dsimp only)); refine wpList_load_row rfl 28 (.tmp 6) rfl b6 rfl 28 _ _ _ C6.out Tryd.underlying28 rfl ?hi ?_; (case hi => kernel_rfl)) | ((with_reducible refine gate_ (.load 28 (.tmp 3)) rfl ?_); (try (refine gate_guard (by rfl) ?_; dsimp only)); refine wpList_load_row rfl 28 (.tmp 3) rfl b3 rfl 28 _ _ _ B6.out Tryd.underlying28 rfl ?hi ?_; (case hi => kernel_rfl)))
  refine (msg_eq h q a u e _ _ _ _ _ _ _ _ _ _ _ _ _ _ _ _ _ _ _ _ _ _ _ _ _ (row_form Y6.out.rq) (row_form Y6.out.ra) (row_form Y6.out.ru) (row_form Y6.out.re) (row_form S6.out.rq) (row_form S6.out.ra) (row_form S6.out.ru) (row_form S6.out.re)).mono ?_
  rintro e_ w7 ⟨rfl, hb⟩
  have B7 := Aside0.mk (blk_below B6.out hb)
  have C7 := Aside0.mk (blk_below C6.out hb)
  have S7 := Aside0.mk (S6.out.below hb)
  have Y7 := Aside0.mk (Y6.out.below hb)
  have D7 := Aside0.mk (below_step D6.out hb)
  have X7 := Aside0.mk (Kd.R_below X6.out hb)
  clear hb B6 C6 S6 Y6 D6 X6
  go_wp2_with fail
  refine (laws_toByteS.calls k A0 c0 l0 l0 _ (Kd.C_below HR.out (below_then HB3.out HB3.out.size D7.out)) hc0 G1.out).mono ?_
  rintro e_ w8 ⟨v7, rfl, h7, hb⟩
  obtain ⟨A7, c7, rfl, hc7, hC7⟩ := row8 h7
  have C7_ := Aside0.mk hC7
  clear h7 hC7
  have B8 := Aside0.mk (blk_below B7.out hb)
  have C8 := Aside0.mk (blk_below C7.out hb)
  have S8 := Aside0.mk (S7.out.below hb)
  have Y8 := Aside0.mk (Y7.out.below hb)
  have D8 := Aside0.mk (below_step D7.out hb)
  have X8 := Aside0.mk (Kd.R_below X7.out hb)
  clear hb B7 C7 S7 Y7 D7 X7
  go_wp2_with fail
  refine (laws_eqByteS.calls k _ c5 l0 _ c7 l0 true _ (row_form X8.out).2 (Kd.R_reads' X8.out).2.1 C7_.out hc7 G4.out).mono ?_
  rintro e_ w9 ⟨rfl, hd⟩
  have hb := hd.below
  clear hd C7_
  have B9 := Aside0.mk (blk_below B8.out hb)
  have C9 := Aside0.mk (blk_below C8.out hb)
  have S9 := Aside0.mk (S8.out.below hb)
  have Y9 := Aside0.mk (Y8.out.below hb)
  have D9 := Aside0.mk (below_step D8.out hb)
  have X9 := Aside0.mk (Kd.R_below X8.out hb)
  clear hb B8 C8 S8 Y8 D8 X8
  go_wp2_with fail
  refine (laws_markByteS.calls k (fun k => some k = (Value.slice A5 l0.length c5).ownBlock) _ l0 1 _ _ w3 _ D9.out (R_ownB flat8 X9.out) G5.out).mono ?_
  rintro e_ w10 ⟨rfl, ho, hbb, hk⟩
  have D10 := Aside0.mk hbb
  have B10 := Aside0.mk (blk_kept B9.out hk (Kd.R_ne X9.out B9.out (by decide)))
  have C10 := Aside0.mk (blk_kept C9.out hk (Kd.R_ne X9.out C9.out (by decide)))
  have S10 := Aside0.mk (S9.out.kept X9.out hk)
  have Y10 := Aside0.mk (Y9.out.kept X9.out hk)
  clear ho hbb hk D9 B9 C9 S9 Y9 X9
  go_wp2_with (first | ((with_reducible refine gate_ (.load 28 (.tmp 6)) rfl ?_); (try (refine gate_guard (by rfl) ?_; dsimp only)); refine wpList_load_row rfl 28 (.tmp 6) rfl b6 rfl 28 _ _ _ C10.out Tryd.underlying28 rfl ?hi ?_; (case hi => kernel_rfl)) | ((with_reducible refine gate_ (.load 28 (.tmp 3)) rfl ?_); (try (refine gate_guard (by rfl) ?_; dsimp only)); refine wpList_load_row rfl 28 (.tmp 3) rfl b3 rfl 28 _ _ _ B10.out Tryd.underlying28 rfl ?hi ?_; (case hi => kernel_rfl)))
  refine (msg_eq h q a u e _ _ _ _ _ _ _ _ _ _ _ _ _ _ _ _ _ _ _ _ _ _ _ _ _ (row_form Y10.out.rq) (row_form Y10.out.ra) (row_form Y10.out.ru) (row_form Y10.out.re) (row_form S10.out.rq) (row_form S10.out.ra) (row_form S10.out.ru) (row_form S10.out.re)).mono ?_
  rintro e_ w11 ⟨rfl, hb⟩
  have B11 := Aside0.mk (blk_below B10.out hb)
  have C11 := Aside0.mk (blk_below C10.out hb)
  have S11 := Aside0.mk (S10.out.below hb)
  have Y11 := Aside0.mk (Y10.out.below hb)
  have D11 := Aside0.mk (below_step D10.out hb)
  clear hb B10 C10 S10 Y10 D10
  go_wp2_with (first | ((with_reducible refine gate_ (.load 28 (.tmp 6)) rfl ?_); (try (refine gate_guard (by rfl) ?_; dsimp only)); refine wpList_load_row rfl 28 (.tmp 6) rfl b6 rfl 28 _ _ _ C11.out Tryd.underlying28 rfl ?hi ?_; (case hi => kernel_rfl)))
  refine (laws_markMessage.mark k h q a u e 1 r q1 a1 u1 e1 _ _ _ _ w3 _ D11.out Y11.out.rq Y11.out.ra Y11.out.ru Y11.out.re G7.out).mono ?_
  rintro e_ w12 ⟨rfl, m0, m1, m2, m3, hbb, hfr⟩
  have D12 := Aside0.mk hbb
  have B12 := Aside0.mk (hfr _ _ _ B11.out (by decide) (by decide))
  have C12 := Aside0.mk (hfr _ _ _ C11.out (by decide) (by decide))
  have Y12 := Aside0.mk (show MRows w12 w3.heap.size _ _ _ _ q1 a1 u1 e1 from ⟨m0, m1, m2, m3⟩)
  have S12 := Aside0.mk (SX3.out.below hbb)
  clear m0 m1 m2 m3 hbb hfr B11 C11 Y11 S11 D11 SX3
  go_wp2_with (first | ((with_reducible refine gate_ (.load 28 (.tmp 6)) rfl ?_); (try (refine gate_guard (by rfl) ?_; dsimp only)); refine wpList_load_row rfl 28 (.tmp 6) rfl b6 rfl 28 _ _ _ C12.out Tryd.underlying28 rfl ?hi ?_; (case hi => kernel_rfl)))
  refine (msg_held k h q1 a1 u1 e1 1 r _ _ _ _ _ _ _ _ _ _ _ _ _ (row_form Y12.out.rq) (row_form Y12.out.ra) (row_form Y12.out.ru) (row_form Y12.out.re) G8.out).mono ?_
  rintro e_ w13 ⟨rfl, hb⟩
  have B13 := Aside0.mk (blk_below B12.out hb)
  have C13 := Aside0.mk (blk_below C12.out hb)
  have S13 := Aside0.mk (S12.out.below hb)
  have Y13 := Aside0.mk (Y12.out.below hb)
  have D13 := Aside0.mk (below_step D12.out hb)
  clear hb B12 C12 S12 Y12 D12
  go_wp2_with fail
  refine (laws_toByteS.calls k A0 c0 l0 l0 _ (Kd.C_below HR.out (below_then HB3.out HB3.out.size D13.out)) hc0 G1.out).mono ?_
  rintro e_ w14 ⟨v7, rfl, h7, hb⟩
  obtain ⟨A7, c7, rfl, hc7, hC7⟩ := row8 h7
  have C7_ := Aside0.mk hC7
  clear h7 hC7
  have B14 := Aside0.mk (blk_below B13.out hb)
  have C14 := Aside0.mk (blk_below C13.out hb)
  have S14 := Aside0.mk (S13.out.below hb)
  have Y14 := Aside0.mk (Y13.out.below hb)
  have D14 := Aside0.mk (below_step D13.out hb)
  clear hb B13 C13 S13 Y13 D13
  go_wp2_with fail
  refine (impl_Decode.calls k A7 c7 l0 _ _ _ _ _ _ _ _ _ _ _ _ _ _ _ _ _ C7_.out hc7 G3.out (HG.out.below (below_then HB3.out HB3.out.size D14.out))).mono ?_
  rintro e_ w15 ⟨x0, x1, x2, x3, rfl, y0, y1, y2, y3, hb⟩
  obtain ⟨Az0, nz0, cz0, rfl⟩ := row_any y0
  obtain ⟨Az1, nz1, cz1, rfl⟩ := row_any y1
  obtain ⟨Az2, nz2, cz2, rfl⟩ := row_any y2
  obtain ⟨Az3, nz3, cz3, rfl⟩ := row_any y3
  have Z := Aside0.mk (show MRows w15 w14.heap.size _ _ _ _ q a u e from ⟨y0, y1, y2, y3⟩)
  clear y0 y1 y2 y3 C7_
  have B15 := Aside0.mk (blk_below B14.out hb)
  have C15 := Aside0.mk (blk_below C14.out hb)
  have S15 := Aside0.mk (S14.out.below hb)
  have Y15 := Aside0.mk (Y14.out.below hb)
  have D15 := Aside0.mk (below_step D14.out hb)
  clear hb B14 C14 S14 Y14 D14
  go_upto_region 23 with fail
  have hb := below_alloc (Below.refl w15.heap.size w15) (Obj.cells #[.int .i64 h.f0, .bool h.f1, .int .i64 h.f2, .bool h.f3, .bool h.f4, .bool h.f5, .bool h.f6, .bool h.f7, .bool h.f8, .bool h.f9, .int .i64 h.f10, .slice Az0 nz0 cz0, .slice Az1 nz1 cz1, .slice Az2 nz2 cz2, .slice Az3 nz3 cz3] 28)
  have Z16 := Aside0.mk (Z.out.below hb)
  have T16 := Aside0.mk (show (w15.alloc (Obj.cells #[.int .i64 h.f0, .bool h.f1, .int .i64 h.f2, .bool h.f3, .bool h.f4, .bool h.f5, .bool h.f6, .bool h.f7, .bool h.f8, .bool h.f9, .int .i64 h.f10, .slice Az0 nz0 cz0, .slice Az1 nz1 cz1, .slice Az2 nz2 cz2, .slice Az3 nz3 cz3] 28)).heap[w15.heap.size]? = some (.cells (msgC h (.slice Az0 nz0 cz0) (.slice Az1 nz1 cz1) (.slice Az2 nz2 cz2) (.slice Az3 nz3 cz3)) 28 (0, 0)) from blk_new w15 _)
  have B16 := Aside0.mk (blk_below B15.out hb)
  have C16 := Aside0.mk (blk_below C15.out hb)
  have S16 := Aside0.mk (S15.out.below hb)
  have Y16 := Aside0.mk (Y15.out.below hb)
  have D16 := Aside0.mk (below_step D15.out hb)
  clear hb B15 C15 S15 Y15 D15
  clear Z
  generalize w15.alloc (Obj.cells #[.int .i64 h.f0, .bool h.f1, .int .i64 h.f2, .bool h.f3, .bool h.f4, .bool h.f5, .bool h.f6, .bool h.f7, .bool h.f8, .bool h.f9, .int .i64 h.f10, .slice Az0 nz0 cz0, .slice Az1 nz1 cz1, .slice Az2 nz2 cz2, .slice Az3 nz3 cz3] 28) = w16 at *
  generalize w15.heap.size = b11 at *
  go_wp2_with (first | ((with_reducible refine gate_ (.load 28 (.tmp 11)) rfl ?_); (try (refine gate_guard (by rfl) ?_; dsimp only)); refine wpList_load_row rfl 28 (.tmp 11) rfl b11 rfl 28 _ _ _ T16.out Tryd.underlying28 rfl ?hi ?_; (case hi => kernel_rfl)) | ((with_reducible refine gate_ (.load 28 (.tmp 3)) rfl ?_); (try (refine gate_guard (by rfl) ?_; dsimp only)); refine wpList_load_row rfl 28 (.tmp 3) rfl b3 rfl 28 _ _ _ B16.out Tryd.underlying28 rfl ?hi ?_; (case hi => kernel_rfl)))
  refine (msg_eq h q a u e _ _ _ _ _ _ _ _ _ _ _ _ _ _ _ _ _ _ _ _ _ _ _ _ _ (row_form Z16.out.rq) (row_form Z16.out.ra) (row_form Z16.out.ru) (row_form Z16.out.re) (row_form S16.out.rq) (row_form S16.out.ra) (row_form S16.out.ru) (row_form S16.out.re)).mono ?_
  rintro e_ w17 ⟨rfl, hb⟩
  have B17 := Aside0.mk (blk_below B16.out hb)
  have C17 := Aside0.mk (blk_below C16.out hb)
  have S17 := Aside0.mk (S16.out.below hb)
  have Y17 := Aside0.mk (Y16.out.below hb)
  have D17 := Aside0.mk (below_step D16.out hb)
  have T17 := Aside0.mk (blk_below T16.out hb)
  have Z17 := Aside0.mk (Z16.out.below hb)
  clear hb B16 C16 S16 Y16 D16 T16 Z16
  go_wp2_with (first | ((with_reducible refine gate_ (.load 28 (.tmp 6)) rfl ?_); (try (refine gate_guard (by rfl) ?_; dsimp only)); refine wpList_load_row rfl 28 (.tmp 6) rfl b6 rfl 28 _ _ _ C17.out Tryd.underlying28 rfl ?hi ?_; (case hi => kernel_rfl)))
  refine (msg_held k h q1 a1 u1 e1 1 r _ _ _ _ _ _ _ _ _ _ _ _ _ (row_form Y17.out.rq) (row_form Y17.out.ra) (row_form Y17.out.ru) (row_form Y17.out.re) G8.out).mono ?_
  rintro e_ w18 ⟨rfl, hb⟩
  have B18 := Aside0.mk (blk_below B17.out hb)
  have C18 := Aside0.mk (blk_below C17.out hb)
  have S18 := Aside0.mk (S17.out.below hb)
  have Y18 := Aside0.mk (Y17.out.below hb)
  have D18 := Aside0.mk (below_step D17.out hb)
  have T18 := Aside0.mk (blk_below T17.out hb)
  have Z18 := Aside0.mk (Z17.out.below hb)
  clear hb B17 C17 S17 Y17 D17 T17 Z17
  go_wp2
  go_ret
  exact ⟨rfl, below_then HB3.out HB3.out.size D18.out⟩
def laws_FnExactDecode.Pure : Prop := ∀ (l0 : List Int), l0.length ≤ maxLen → l0.length * 1 ≤ 140737488351232 → (∀ x ∈ l0, (Lit.int .u8 x).wf = true) → ∃ k, laws_FnExactDecode.Ok k l0
theorem laws_FnExactDecode.walk (P : laws_FnExactDecode.Pure) (a0 : Option Addr) (len0 cap0 : Nat) (z0 : List Int) (w : World) (w0 : (a0 = none ∧ len0 = 0 ∧ cap0 = 0 ∧ z0 = []) ∨ ∃ x, a0 = some x ∧ len0 ≤ cap0 ∧ cap0 ≤ maxLen ∧ z0.length = cap0 ∧ (∀ i, i < z0.length → w.cell? (x.add i) = some (.int .u8 (z0.getD i 0))) ∧ ∀ n ∈ z0, (Lit.int .u8 n).wf = true) (y0 : len0 * 1 ≤ 140737488351232) (hG : Glob w) :
    Calls Tryd.prog 3 #[.slice a0 len0 cap0] w fun e w' => e = .returned (.bool true) ∧ Below w.heap.size w w' := by
  obtain ⟨l0, rfl, hr0, hm0, hw0, hc0⟩ := ReadsInt.ofRowC w0
  obtain ⟨k, h⟩ := P l0 hm0 y0 hw0
  exact laws_FnExactDecode.calls k _ _ l0 w (Kd.C_of_reads (d := (0 : Int)) (h1 := fun _ => rfl) hr0) hc0 h hG

end Go.Proofs.YtcamchdenjpmhaaDoor.F
namespace Go.Proofs.YtcamchdenjpmhaaDoor.Base
open Go.RowKit Go.Proofs.YtcamchdenjpmhaaDoorW.PrintWords Go.Proofs.YtcamchdenjpmhaaDoorW.PrintMore

theorem w64 {x : Int} (h0 : -9223372036854775808 ≤ x) (h1 : x ≤ 9223372036854775807) : wrap64 x = x := by
  unfold wrap64
  omega

def L (s : ByteArray) : List UInt8 := s.data.toList
def B (l : List UInt8) : ByteArray := ⟨l.toArray⟩
theorem L_B (l : List UInt8) : L (B l) = l := by simp [L, B]
theorem B_L (s : ByteArray) : B (L s) = s := by simp [L, B]
theorem L_inj {a b : ByteArray} (h : L a = L b) : a = b := by rw [← B_L a, ← B_L b, h]
theorem size_L (s : ByteArray) : s.size = (L s).length := by simp [L]
theorem toL (s : ByteArray) : s.toList = L s := Lib.toList_data s
theorem L_extract (s : ByteArray) (i j : Nat) : L (s.extract i j) = ((L s).drop i).take (j - i) := by
  simp [L, ByteArray.data_extract]
theorem L_append (a b : ByteArray) : L (a ++ b) = L a ++ L b := by
  simp [L, ByteArray.data_append]
theorem bt_L (s : ByteArray) (i : Int) : bt s i = (((L s).getD i.toNat 0).toNat : Int) := by
  unfold bt
  split
  · rename_i h
    have h' : i.toNat < (L s).length := by rw [← size_L]; exact h
    rw [List.getD_eq_getElem?_getD, List.getElem?_eq_getElem h']
    rfl
  · rename_i h
    have h' : (L s).length ≤ i.toNat := by rw [← size_L]; omega
    rw [List.getD_eq_getElem?_getD, List.getElem?_eq_none h']
    rfl
theorem bt_mid {x : ByteArray} {p : List UInt8} {c : UInt8} {r : List UInt8} (h : L x = p ++ c :: r) {i : Int} (hi : i = (p.length : Int)) : bt x i = (c.toNat : Int) := by
  rw [bt_L, h, hi]
  simp [List.getD_eq_getElem?_getD]
theorem bt_cons {x : ByteArray} {c : UInt8} {r : List UInt8} (h : L x = c :: r) : bt x 0 = (c.toNat : Int) := bt_mid (p := []) h rfl
theorem L_strOfNums (xs : List Int) : L (strOfNums xs) = xs.map fun n => UInt8.ofNat n.toNat := by simp [L, strOfNums]
theorem byte_le (c : UInt8) : (c.toNat : Int) ≤ 255 := by have := c.toNat_lt; omega
theorem getD_len {α : Type} (p t : List α) (k : Nat) (d : α) : (p ++ t).getD (p.length + k) d = t.getD k d := by
  simp [List.getD_eq_getElem?_getD, List.getElem?_append_right]

/-- The labels of a name's bytes; none: they are no name (but for the limit on the whole). -/
def labs : List UInt8 → Option (List ByteArray)
  | [] => none
  | c :: r => if c.toNat = 0 then (if r = [] then some [] else none) else if 63 < c.toNat then none else if r.length < c.toNat then none else (labs (r.drop c.toNat)).map (B (r.take c.toNat) :: ·)
  termination_by l => l.length
  decreasing_by simp; omega

/-- The labels of a name. -/
def names (l : List UInt8) : Option (List ByteArray) := if l.length < 1 ∨ 255 < l.length then none else labs l

/-- What a cut in labels answers that had come to some. -/
def res (acc : List ByteArray) : Option (List ByteArray) → List ByteArray × Bool
  | none => ([], false)
  | some ls => (acc ++ ls, true)
/-- What the other cut in labels leaves where it fails. -/
def jk (acc : List ByteArray) : List UInt8 → List ByteArray
  | [] => []
  | c :: r => if c.toNat = 0 then acc else if 63 < c.toNat then [] else if r.length < c.toNat then [] else jk (acc ++ [B (r.take c.toNat)]) (r.drop c.toNat)
  termination_by l => l.length
  decreasing_by simp; omega
def res2 (acc : List ByteArray) (l : List UInt8) : List ByteArray × Bool := match labs l with
  | none => (jk acc l, false)
  | some ls => (acc ++ ls, true)
end Go.Proofs.YtcamchdenjpmhaaDoor.Base
namespace Go.Proofs.YtcamchdenjpmhaaDoor.Base
open Go Go.RowKit Go.Proofs.YtcamchdenjpmhaaDoorW.PrintWords Go.Proofs.YtcamchdenjpmhaaDoorW.PrintMore

def low (c : UInt8) : UInt8 := if 65 ≤ c.toNat ∧ c.toNat ≤ 90 then UInt8.ofNat (c.toNat + 32) else c
def foldB (s : ByteArray) : ByteArray := B ((L s).map low)
def joinL (ls : List ByteArray) : List UInt8 := ls.flatMap fun s => UInt8.ofNat s.size :: L s
def join (ls : List ByteArray) : ByteArray := B (joinL ls ++ [0])
theorem joinL_cons (s : ByteArray) (t : List ByteArray) : joinL (s :: t) = UInt8.ofNat s.size :: (L s ++ joinL t) := by simp [joinL]
theorem joinL_append (a b : List ByteArray) : joinL (a ++ b) = joinL a ++ joinL b := by simp [joinL]
theorem L_join (ls : List ByteArray) : L (join ls) = joinL ls ++ [0] := L_B _
theorem size_join (ls : List ByteArray) : (join ls).size = (joinL ls).length + 1 := by rw [size_L, L_join]; simp
theorem joinL_len_ge (ls : List ByteArray) : ls.length ≤ (joinL ls).length := by
  induction ls with
  | nil => simp
  | cons s t ih => rw [joinL_cons]; simp; omega
def sameN (a b : ByteArray) : Bool := (names (L a)).isSome && ((names (L b)).isSome && (L (foldB a) == L (foldB b)))
/-- A name without its first labels. -/
def ancN (o : Option (List ByteArray)) (n : Int) : ByteArray × Int := match o with
  | none => (⟨#[]⟩, 32)
  | some ls => if n < 0 ∨ n > (ls.length : Int) then (⟨#[]⟩, 32) else (join (ls.drop n.toNat), 0)
/-- The order of two names by their labels from the right, given turned round. -/
def cmpR : List ByteArray → List ByteArray → Int
  | [], [] => 0
  | [], _ :: _ => -1
  | _ :: _, [] => 1
  | a :: x, b :: y => if Lib.compareBytes (L (foldB a)) (L (foldB b)) = 0 then cmpR x y else Lib.compareBytes (L (foldB a)) (L (foldB b))
/-- The order of two names. -/
def cmpN (a b : ByteArray) : Int := match names (L a), names (L b) with
  | some x, some y => cmpR x.reverse y.reverse
  | _, _ => 0
/-- The name that labels make. -/
def mkN (ls : List ByteArray) : ByteArray × Int := if 127 < ls.length then (⟨#[]⟩, 3) else if ∃ s ∈ ls, s.size < 1 ∨ 63 < s.size then (⟨#[]⟩, 2) else if 255 < (joinL ls).length + 1 then (⟨#[]⟩, 3) else (join ls, 0)
def GoodL (ls : List ByteArray) : Prop := ∀ s ∈ ls, 1 ≤ s.size ∧ s.size ≤ 63
theorem GoodL.drop {x : List ByteArray} (hx : GoodL x) (n : Nat) : GoodL (x.drop n) := fun s hs => hx s (List.mem_of_mem_drop hs)
theorem GoodL.take {x : List ByteArray} (hx : GoodL x) (n : Nat) : GoodL (x.take n) := fun s hs => hx s (List.mem_of_mem_take hs)
theorem GoodL.append {x y : List ByteArray} (hx : GoodL x) (hy : GoodL y) : GoodL (x ++ y) := fun s hs => (List.mem_append.1 hs).elim (hx s) (hy s)
/-- The name of good labels. -/
def mkG (ls : List ByteArray) : ByteArray × Int := if 255 < (joinL ls).length + 1 then (⟨#[]⟩, 3) else (join ls, 0)
/-- Is a name another one or below it: by their labels. -/
def underL (x y : List ByteArray) : Bool := decide (y.length ≤ x.length ∧ (x.drop (x.length - y.length)).map foldB = y.map foldB)
def underN (a b : ByteArray) : Bool := match names (L a), names (L b) with
  | some x, some y => underL x y
  | _, _ => false
/-- A name put below another one. -/
def tailN (a b c : ByteArray) : ByteArray × Int := match names (L a), names (L b), names (L c) with
  | some x, some y, some z => if underL x y = true ∧ x.length ≠ y.length then mkG (x.take (x.length - y.length) ++ z) else (⟨#[]⟩, 22)
  | _, _, _ => (⟨#[]⟩, 32)
end Go.Proofs.YtcamchdenjpmhaaDoor.Base
namespace Go.Proofs.YtcamchdenjpmhaaDoor.Base
open Go Go.RowKit Go.Proofs.YtcamchdenjpmhaaDoorW.PrintWords Go.Proofs.YtcamchdenjpmhaaDoorW.PrintMore

def Bytes (b : List Int) : Prop := ∀ x ∈ b, 0 ≤ x ∧ x ≤ 255
theorem Bytes.rd {b : List Int} (h : Bytes b) (i : Int) : 0 ≤ rd b i ∧ rd b i ≤ 255 := by
  unfold Go.Proofs.YtcamchdenjpmhaaDoorW.PrintWords.rd
  rw [List.getD_eq_getElem?_getD]
  by_cases hi : i.toNat < b.length
  · rw [List.getElem?_eq_getElem hi]
    exact h _ (List.getElem_mem _)
  · rw [List.getElem?_eq_none (by omega)]
    simp
theorem wraps_i64 (n : Int) (h₀ : 0 ≤ n) (h₁ : n < 2 ^ 63) : IntKind.i64.wrap n = n := by rw [IntKind.wrap_i64]; omega
theorem p63 : (2 : Int) ^ 63 = 9223372036854775808 := by decide
theorem i64_and63 (x : Int) (h0 : 0 ≤ x) (h1 : x ≤ 255) : bits .and .i64 x 63 = x % 64 := bits_mask .i64 63 (by decide) wraps_i64 6 (by decide) x h0 (by rw [p63]; omega)
theorem i64_or8 (x y : Int) (hx : 0 ≤ x) (hx2 : x % 256 = 0) (hx1 : x ≤ 100000) (h0 : 0 ≤ y) (h1 : y < 256) : bits .or .i64 x y = x + y := bits_join .i64 63 (by decide) wraps_i64 8 x y hx (by rw [show (2 : Int) ^ 8 = 256 from by decide]; exact hx2) (by rw [p63]; omega) h0 (by rw [show (2 : Int) ^ 8 = 256 from by decide]; exact h1) (by rw [p63]; omega)
theorem off_eq (h l : Int) (h0 : 192 ≤ h) (h1 : h ≤ 255) (l0 : 0 ≤ l) (l1 : l ≤ 255) : bits .or .i64 (wrap64 (bits .and .i64 h 63 * 256)) (wrap64 l) = (h - 192) * 256 + l := by
  rw [i64_and63 h (by omega) (by omega), w64 (x := h % 64 * 256) (by omega) (by omega), w64 (x := l) (by omega) (by omega), i64_or8 _ _ (by omega) (by omega) (by omega) (by omega) (by omega)]
  omega
/-- A label's bytes out of a message. -/
def lab (b : List Int) (at_ n : Int) : ByteArray := strOfNums ((b.take (at_ + 1 + n).toNat).drop (at_ + 1).toNat)
/-- A name within a message's bytes: its bytes, the place behind it, a code. start: where this part of it began; next: the place behind it, if it is known. -/
def dn (b : List Int) : Nat → Int → Int → Int → List ByteArray → ByteArray × Int × Int
  | 0, _, _, _, _ => (⟨#[]⟩, 0, 0)
  | f + 1, p, start, next, ls =>
    if p ≥ (b.length : Int) then (⟨#[]⟩, 0, 8) else
    if rd b p = 0 then (join ls, if next < 0 then p + 1 else next, 0) else
    if rd b p ≥ 192 then (if p + 1 ≥ (b.length : Int) then (⟨#[]⟩, 0, 8) else
      if (rd b p - 192) * 256 + rd b (p + 1) ≥ start then (⟨#[]⟩, 0, 9) else
      dn b f ((rd b p - 192) * 256 + rd b (p + 1)) ((rd b p - 192) * 256 + rd b (p + 1)) (if next < 0 then p + 2 else next) ls) else
    if rd b p > 63 then (⟨#[]⟩, 0, 2) else
    if p + 1 + rd b p > (b.length : Int) then (⟨#[]⟩, 0, 8) else
    if ((joinL ls).length : Int) + 2 + rd b p > 255 then (⟨#[]⟩, 0, 3) else
    dn b f (p + 1 + rd b p) start next (ls ++ [lab b p (rd b p)])
def decN (b : List Int) (p : Int) : ByteArray × Int × Int := if p < 0 ∨ p > (b.length : Int) then (⟨#[]⟩, 0, 32) else dn b (b.length + 300) p p (-1) []
theorem lab_size (b : List Int) (p n : Int) (h0 : 0 ≤ p) (h1 : 0 ≤ n) (h2 : p + 1 + n ≤ (b.length : Int)) : ((lab b p n).size : Int) = n := by
  unfold lab
  rw [size_L, L_strOfNums, List.length_map, List.length_drop, List.length_take]
  omega
theorem joinL_snoc (ls : List ByteArray) (s : ByteArray) : joinL (ls ++ [s]) = joinL ls ++ UInt8.ofNat s.size :: L s := by
  rw [joinL_append]
  simp [joinL]
end Go.Proofs.YtcamchdenjpmhaaDoor.Base
namespace Go.Proofs.YtcamchdenjpmhaaDoor.Base
open Go.RowKit Go.Proofs.YtcamchdenjpmhaaDoorW.PrintWords Go.Proofs.YtcamchdenjpmhaaDoorW.PrintLast
/-- How many bytes the name has with which the bytes begin, found from a position on; 0: none. -/
def nmP (x : List UInt8) : Nat → Nat → Nat
  | 0, _ => 0
  | d + 1, p => match x.drop p with
    | [] => 0
    | c :: _ => if c.toNat = 0 then (if 255 < p + 1 then 0 else p + 1) else if 63 < c.toNat then 0 else nmP x d (p + 1 + c.toNat)
theorem drop_at {x : List UInt8} {p : Nat} (h : p < x.length) : x.drop p = x[p] :: x.drop (p + 1) := List.drop_eq_getElem_cons h
theorem bt_get {x : ByteArray} {p : Nat} (h : p < (L x).length) : bt x (p : Int) = (((L x)[p]).toNat : Int) := by
  rw [bt_L, Int.toNat_natCast, List.getD_eq_getElem?_getD, List.getElem?_eq_getElem h]
  rfl
theorem nmP_big (x : List UInt8) : ∀ (d p : Nat), 255 ≤ p → nmP x d p = 0 := by
  intro d
  induction d with
  | zero => intro p _; rfl
  | succ d ih =>
    intro p hp
    rw [nmP]
    split
    · rfl
    · split
      · rw [if_pos (by omega)]
      · split
        · rfl
        · exact ih _ (by omega)
theorem nmP_le (x : List UInt8) : ∀ (d p : Nat), nmP x d p ≤ x.length ∧ nmP x d p ≤ 255 := by
  intro d
  induction d with
  | zero => intro p; exact ⟨Nat.zero_le _, Nat.zero_le _⟩
  | succ d ih =>
    intro p
    rw [nmP]
    split
    · exact ⟨Nat.zero_le _, Nat.zero_le _⟩
    · rename_i c r h
      split
      · split
        · exact ⟨Nat.zero_le _, Nat.zero_le _⟩
        · refine ⟨?_, by omega⟩
          have : (x.drop p).length ≥ 1 := by rw [h]; simp
          rw [List.length_drop] at this
          omega
      · split
        · exact ⟨Nat.zero_le _, Nat.zero_le _⟩
        · exact ih _
/-- The name's length at the beginning. -/
def nm (x : List UInt8) : Nat := nmP x (x.length + 1) 0
/-- The short text's length at the beginning; 0: none. -/
def tx : List UInt8 → Nat
  | [] => 0
  | c :: r => if r.length < c.toNat then 0 else c.toNat + 1
theorem toList_nil (x : ByteArray) : (x.toList = []) ↔ L x = [] := by rw [toL]
end Go.Proofs.YtcamchdenjpmhaaDoor.Base
namespace Go.Proofs.YtcamchdenjpmhaaDoor.Base
open Go.RowKit Go Go.Proofs.YtcamchdenjpmhaaDoorW.PrintWords

/-- What a name that was read is. -/
def GoodN (ls : List ByteArray) : Prop := (∀ s ∈ ls, 1 ≤ s.size ∧ s.size ≤ 63) ∧ (joinL ls).length + 1 ≤ 255
theorem dn_ok (b : List Int) (hb : Bytes b) : ∀ (m f : Nat) (p start next : Int) (ls : List ByteArray), 0 ≤ p → 0 ≤ start → -1 ≤ next → GoodN ls → start + 255 - (joinL ls).length ≤ m → m < f →
    ((dn b f p start next ls).2.2 = 0 → (∃ ls', (dn b f p start next ls).1 = join ls' ∧ GoodN ls') ∧ (0 ≤ next → (dn b f p start next ls).2.1 = next) ∧ (next < 0 → p < (dn b f p start next ls).2.1 ∧ (dn b f p start next ls).2.1 ≤ b.length)) ∧
    ((dn b f p start next ls).2.2 ≠ 0 → (dn b f p start next ls).1 = ⟨#[]⟩ ∧ (dn b f p start next ls).2.1 = 0) := by
  intro m
  induction m with
  | zero =>
    intro f p start next ls h0 hs hn hg hm hf
    have := hg.2
    omega
  | succ m ih =>
    intro f p start next ls h0 hs hn hg hm hf
    obtain ⟨f, rfl⟩ : ∃ g, f = g + 1 := ⟨f - 1, by omega⟩
    have hr := hb.rd p
    rw [dn]
    by_cases c1 : p ≥ (b.length : Int)
    · rw [if_pos c1]; exact ⟨fun h => absurd h (by decide), fun _ => ⟨rfl, rfl⟩⟩
    rw [if_neg c1]
    by_cases c2 : rd b p = 0
    · rw [if_pos c2]
      refine ⟨fun _ => ⟨⟨ls, rfl, hg⟩, fun h => ?_, fun h => ?_⟩, fun h => absurd rfl h⟩
      · show (if next < 0 then p + 1 else next) = next
        rw [if_neg (by omega)]
      · show p < (if next < 0 then p + 1 else next) ∧ (if next < 0 then p + 1 else next) ≤ _
        rw [if_pos h]
        omega
    rw [if_neg c2]
    by_cases c3 : rd b p ≥ 192
    · rw [if_pos c3]
      have hr1 := hb.rd (p + 1)
      by_cases c4 : p + 1 ≥ (b.length : Int)
      · rw [if_pos c4]; exact ⟨fun h => absurd h (by decide), fun _ => ⟨rfl, rfl⟩⟩
      rw [if_neg c4]
      by_cases c5 : (rd b p - 192) * 256 + rd b (p + 1) ≥ start
      · rw [if_pos c5]; exact ⟨fun h => absurd h (by decide), fun _ => ⟨rfl, rfl⟩⟩
      rw [if_neg c5]
      obtain ⟨i1, i2⟩ := ih f ((rd b p - 192) * 256 + rd b (p + 1)) ((rd b p - 192) * 256 + rd b (p + 1)) (if next < 0 then p + 2 else next) ls (by omega) (by omega) (by split <;> omega) hg (by omega) (by omega)
      refine ⟨fun h => ?_, i2⟩
      obtain ⟨j1, j2, j3⟩ := i1 h
      refine ⟨j1, fun hx => ?_, fun hx => ?_⟩
      · rw [if_neg (by omega)] at j2 ⊢
        exact j2 hx
      · rw [if_pos hx] at j2 ⊢
        rw [j2 (by omega)]
        omega
    rw [if_neg c3]
    by_cases c6 : rd b p > 63
    · rw [if_pos c6]; exact ⟨fun h => absurd h (by decide), fun _ => ⟨rfl, rfl⟩⟩
    rw [if_neg c6]
    by_cases c7 : p + 1 + rd b p > (b.length : Int)
    · rw [if_pos c7]; exact ⟨fun h => absurd h (by decide), fun _ => ⟨rfl, rfl⟩⟩
    rw [if_neg c7]
    by_cases c8 : ((joinL ls).length : Int) + 2 + rd b p > 255
    · rw [if_pos c8]; exact ⟨fun h => absurd h (by decide), fun _ => ⟨rfl, rfl⟩⟩
    rw [if_neg c8]
    have hsz := lab_size b p (rd b p) h0 hr.1 (by omega)
    have hlen : (joinL (ls ++ [lab b p (rd b p)])).length = (joinL ls).length + 1 + (lab b p (rd b p)).size := by
      rw [joinL_snoc, List.length_append, List.length_cons, ← size_L]
      omega
    obtain ⟨i1, i2⟩ := ih f (p + 1 + rd b p) start next (ls ++ [lab b p (rd b p)]) (by omega) hs hn ⟨fun s hx => by
      rcases List.mem_append.1 hx with hx | hx
      · exact hg.1 s hx
      · rw [List.mem_singleton] at hx
        subst hx
        omega, by omega⟩ (by omega) (by omega)
    refine ⟨fun h => ?_, i2⟩
    obtain ⟨j1, j2, j3⟩ := i1 h
    refine ⟨j1, j2, fun hx => ?_⟩
    have := j3 hx
    omega
theorem decN_ok (b : List Int) (hb : Bytes b) (p : Int) (h0 : 0 ≤ p) (h : (decN b p).2.2 = 0) : (∃ ls, (decN b p).1 = join ls ∧ GoodN ls) ∧ p < (decN b p).2.1 ∧ (decN b p).2.1 ≤ b.length := by
  unfold decN at h ⊢
  by_cases c : p < 0 ∨ p > (b.length : Int)
  · rw [if_pos c] at h; exact absurd h (by decide)
  · rw [if_neg c] at h ⊢
    obtain ⟨i1, _⟩ := dn_ok b hb (b.length + 256) (b.length + 300) p p (-1) [] h0 h0 (by omega) ⟨fun s hs => by simp at hs, by simp [joinL]⟩ (by simp [joinL]; omega) (by omega)
    obtain ⟨j1, _, j3⟩ := i1 h
    exact ⟨j1, j3 (by omega)⟩
theorem decN_bad (b : List Int) (hb : Bytes b) (p : Int) (h0 : 0 ≤ p) (h : (decN b p).2.2 ≠ 0) : (decN b p).1 = ⟨#[]⟩ ∧ (decN b p).2.1 = 0 := by
  unfold decN at h ⊢
  by_cases c : p < 0 ∨ p > (b.length : Int)
  · rw [if_pos c]; exact ⟨rfl, rfl⟩
  · rw [if_neg c] at h ⊢
    exact (dn_ok b hb (b.length + 256) (b.length + 300) p p (-1) [] h0 h0 (by omega) ⟨fun s hs => by simp at hs, by simp [joinL]⟩ (by simp [joinL]; omega) (by omega)).2 h
theorem join_size (ls : List ByteArray) (h : GoodN ls) : (join ls).size ≤ 255 := by rw [size_join]; exact h.2
/-- A name at the beginning of bytes is found there. -/
theorem nmP_join : ∀ (ls : List ByteArray) (pre rest : List UInt8) (d : Nat), (∀ s ∈ ls, 1 ≤ s.size ∧ s.size ≤ 63) → pre.length + (joinL ls).length + 1 ≤ 255 → (joinL ls).length < d → nmP (pre ++ (joinL ls ++ 0 :: rest)) d pre.length = pre.length + (joinL ls).length + 1 := by
  intro ls
  induction ls with
  | nil =>
    intro pre rest d _ hb hd
    obtain ⟨d, rfl⟩ : ∃ g, d = g + 1 := ⟨d - 1, by omega⟩
    rw [nmP, List.drop_left]
    simp [joinL] at hb ⊢
    omega
  | cons s ls ih =>
    intro pre rest d hl hb hd
    obtain ⟨d, rfl⟩ : ∃ g, d = g + 1 := ⟨d - 1, by omega⟩
    obtain ⟨h1, h2⟩ := hl s (List.mem_cons_self ..)
    have hn : (UInt8.ofNat s.size).toNat = s.size := by simp; omega
    rw [joinL_cons] at hb hd ⊢
    simp only [List.length_cons, List.length_append, ← size_L] at hb hd
    rw [nmP, List.drop_left]
    dsimp only [List.cons_append]
    rw [hn, if_neg (by omega), if_neg (by omega)]
    have := ih (pre ++ UInt8.ofNat s.size :: L s) rest d (fun x hx => hl x (List.mem_cons_of_mem _ hx)) (by simp only [List.length_append, List.length_cons, ← size_L]; omega) (by omega)
    simp only [List.length_append, List.length_cons, ← size_L, List.append_assoc, List.cons_append] at this ⊢
    rw [show pre.length + 1 + s.size = pre.length + (s.size + 1) by omega, this]
    omega
theorem nm_join (ls : List ByteArray) (h : GoodN ls) (rest : List UInt8) : nm (L (join ls) ++ rest) = (join ls).size := by
  unfold nm
  rw [L_join, size_join, List.append_assoc, List.singleton_append]
  have := nmP_join ls [] rest ((joinL ls ++ 0 :: rest).length + 1) h.1 (by have := h.2; simp; omega) (by simp; omega)
  simpa using this
/-- A cut of a message's bytes. -/
def cut (b : List Int) (i j : Int) : ByteArray := strOfNums ((b.take j.toNat).drop i.toNat)
theorem cut_size (b : List Int) (i j : Int) (h0 : 0 ≤ i) (h1 : i ≤ j) (h2 : j ≤ (b.length : Int)) : ((cut b i j).size : Int) = j - i := by
  unfold cut
  rw [size_L, L_strOfNums, List.length_map, List.length_drop, List.length_take]
  omega
theorem cut_nil (b : List Int) (i : Int) : cut b i i = ⟨#[]⟩ := by
  refine L_inj ?_
  unfold cut
  rw [L_strOfNums, List.drop_take, Nat.sub_self, List.take_zero]
  rfl
theorem cut_cut (b : List Int) (i j k : Int) (h0 : 0 ≤ i) (h1 : i ≤ j) (h2 : j ≤ k) : cut b i j ++ cut b j k = cut b i k := by
  refine L_inj ?_
  unfold cut
  rw [L_append, L_strOfNums, L_strOfNums, L_strOfNums, ← List.map_append]
  congr 1
  obtain ⟨i, rfl⟩ := Int.eq_ofNat_of_zero_le h0
  obtain ⟨j, rfl⟩ := Int.eq_ofNat_of_zero_le (Int.le_trans h0 h1)
  obtain ⟨k, rfl⟩ := Int.eq_ofNat_of_zero_le (Int.le_trans (Int.le_trans h0 h1) h2)
  simp only [Int.toNat_natCast]
  rw [List.drop_take, List.drop_take, List.drop_take]
  rw [show k - i = (j - i) + (k - j) by omega, List.take_add]
  congr 1
  rw [List.drop_drop]
  congr 2
  omega
theorem nil_add (x : ByteArray) : (⟨#[]⟩ : ByteArray) ++ x = x := L_inj (by rw [L_append]; rfl)
theorem add_nil_ (x : ByteArray) : x ++ (⟨#[]⟩ : ByteArray) = x := L_inj (by rw [L_append]; exact List.append_nil _)
theorem add_assoc_ (x y z : ByteArray) : x ++ y ++ z = x ++ (y ++ z) := L_inj (by simp only [L_append, List.append_assoc])
end Go.Proofs.YtcamchdenjpmhaaDoor.Base
namespace Go.Proofs.YtcamchdenjpmhaaDoor.Pure
open Go.RowKit Go.Proofs.YtcamchdenjpmhaaDoor.F Go.Proofs.YtcamchdenjpmhaaDoor.Base Go.Proofs.YtcamchdenjpmhaaDoorW.PrintWords Go.Proofs.YtcamchdenjpmhaaDoorW.PrintLast Go.Proofs.YtcamchdenjpmhaaDoorW.PrintMore
set_option linter.unusedVariables false
set_option linter.unusedSimpArgs false
theorem laws_eqByteS_l0 (l : List Int) (hl : l.length ≤ 4611686018427387904) : ∀ (d k : Nat) (i : Int), 0 ≤ i → i + d = l.length → d < k → laws_eqByteS.l0 k l l i = some true := by
  intro d
  induction d with
  | zero =>
    intro k i h0 h1 hk
    obtain ⟨k, rfl⟩ : ∃ m, k = m + 1 := ⟨k - 1, by omega⟩
    simp only [laws_eqByteS.l0]
    rw [if_neg (by omega)]
  | succ d ih =>
    intro k i h0 h1 hk
    obtain ⟨k, rfl⟩ : ∃ m, k = m + 1 := ⟨k - 1, by omega⟩
    simp only [laws_eqByteS.l0]
    rw [if_pos (by omega), if_pos h0, if_pos (by omega), if_pos trivial, w64 (by omega) (by omega)]
    exact ih k (i + 1) (by omega) (by omega) (by omega)
theorem laws_eqByteS_refl (l : List Int) (hl : l.length ≤ 4611686018427387904) (k : Nat) (hk : l.length < k) : laws_eqByteS.f k l l = some true := by
  unfold laws_eqByteS.f
  rw [if_pos rfl]
  exact laws_eqByteS_l0 l hl l.length k 0 (by omega) (by omega) hk

end Go.Proofs.YtcamchdenjpmhaaDoor.Pure
namespace Go.Proofs.YtcamchdenjpmhaaDoor.Pure
open Go.RowKit Go.Proofs.YtcamchdenjpmhaaDoor.F Go.Proofs.YtcamchdenjpmhaaDoor.Base Go.Proofs.YtcamchdenjpmhaaDoorW.PrintWords Go.Proofs.YtcamchdenjpmhaaDoorW.PrintLast Go.Proofs.YtcamchdenjpmhaaDoorW.PrintMore
set_option linter.unusedVariables false
set_option linter.unusedSimpArgs false
def bmarks (n : Nat) (m : Int) : List Int := (List.range n).map fun (j : Nat) => (m + (j : Int)) % 256
theorem bmarks_length (n : Nat) (m : Int) : (bmarks n m).length = n := by simp [bmarks]
theorem bmarks_succ (n : Nat) (m : Int) : bmarks (n + 1) m = bmarks n m ++ [(m + (n : Int)) % 256] := by simp [bmarks, List.range_succ]
theorem laws_markByteS_l0 (m : Int) (hm0 : 0 ≤ m) : ∀ (d k i : Nat) (r : List Int), r.length = d → d < k → m + i + d ≤ 1000000000000000 → laws_markByteS.l0 k (bmarks i m ++ r) (m + i) i = some (m + i + d, bmarks (i + d) m) := by
  intro d
  induction d with
  | zero =>
    intro k i r hr hk hb
    obtain ⟨k, rfl⟩ : ∃ m, k = m + 1 := ⟨k - 1, by omega⟩
    obtain rfl : r = [] := List.length_eq_zero_iff.1 hr
    simp only [laws_markByteS.l0, List.append_nil]
    rw [if_neg (by rw [bmarks_length]; omega)]
    simp
  | succ d ih =>
    intro k i r hr hk hb
    obtain ⟨k, rfl⟩ : ∃ m, k = m + 1 := ⟨k - 1, by omega⟩
    obtain ⟨c, r, rfl⟩ : ∃ c t, r = c :: t := by cases r with | nil => simp at hr | cons c t => exact ⟨c, t, rfl⟩
    simp only [List.length_cons] at hr
    simp only [laws_markByteS.l0]
    rw [if_pos (by simp [bmarks_length]; omega), if_pos (by omega), w64 (by omega) (by omega), w64 (by omega) (by omega)]
    have e : (bmarks i m ++ c :: r).set (i : Int).toNat ((m + i) % 256) = bmarks (i + 1) m ++ r := by
      rw [bmarks_succ, Int.toNat_natCast, List.set_append_right _ _ (by rw [bmarks_length]; exact Nat.le_refl _), bmarks_length]
      simp
    rw [e]
    have := ih k (i + 1) r (by omega) (by omega) (by omega)
    rw [show m + ((i + 1 : Nat) : Int) = m + (i : Int) + 1 from by omega, show ((i + 1 : Nat) : Int) = (i : Int) + 1 from by omega] at this
    rw [this]
    simp only [Option.some.injEq, Prod.mk.injEq]
    exact ⟨by omega, by rw [show i + 1 + d = i + (d + 1) from by omega]⟩
theorem laws_markByteS_eq (l : List Int) (m : Int) (hm0 : 0 ≤ m) (k : Nat) (hk : l.length < k) (hb : m + l.length ≤ 1000000000000000) : laws_markByteS.f k l m = some (m + l.length, bmarks l.length m) := by
  have := laws_markByteS_l0 m hm0 l.length k 0 l rfl hk (by omega)
  unfold laws_markByteS.f
  simpa [bmarks] using this

end Go.Proofs.YtcamchdenjpmhaaDoor.Pure
