/- Part 1 of 1 of the proof of FnExactReadType: what each Go function on its way computes, that the Go code does just this, and what the law says of it. No condition beyond the statement's own. -/
import Derived.Test.YtpbmnokmpihnjaaDoorWWords
import Derived.Test.YtpbmnokmpihnjaaDoorWLast
import Derived.Test.YtpbmnokmpihnjaaDoorWMore
import Derived.Test.YtpbmnokmpihnjaaDoorProg
import Derived.Below
import Derived.Deep.Draws
import Derived.Deep.AppendLies
import Derived.Maps.AppendAt
import Derived.OwnWalk
import Derived.Laws.BytesArg
import Derived.Laws.MakeOwn
import Derived.Laws.OwnMore
import Derived.Deep.OwnRows
import Derived.Tactics
import Derived.Lib.ConvBytes
import Derived.Laws.Slices
import Derived.WalkKit
import Derived.KernelRfl
import Derived.RowKit3
import Derived.Deep.LoopGhost
import Derived.Deep.QuietTactic
import Derived.BigQuiet
import Derived.WideLaws
import Derived.Deep.DeepCutAuto
import Derived.Deep.CutBlock
import Derived.Deep.RegionHeld3
import Derived.Laws.Rows
import Derived.Lib.AppendStr
import Derived.ArgAppend
import Derived.Laws.IdiomCopy
import Derived.OrdersHeld
import Derived.Laws.BitsLemmas
import Derived.RowKit
import Derived.Lib.Builder
import Derived.Lib.UnsafeStr
import Derived.Laws.Externs
import Derived.Lib.Walk
import Derived.Shelf.Strings.Builder1
import Derived.Shelf.Small.Strs
import Derived.RegionTactic
import Derived.BigRegion
import Derived.ChangeAlike
import Derived.Test.YtpbmnokmpihnjaaDoorWTab
import Derived.Test.YtpbmnokmpihnjaaDoorWFour
import Derived.Test.YtpbmnokmpihnjaaDoorWQPut
import Derived.Test.YtpbmnokmpihnjaaDoorWApart
import Derived.Test.YtpbmnokmpihnjaaDoorWArr
import Derived.Test.YtpbmnokmpihnjaaDoorWZeros
import Derived.Test.YtpbmnokmpihnjaaDoorWFoot
import Derived.Test.YtpbmnokmpihnjaaDoorWKept
import Derived.Test.YtpbmnokmpihnjaaDoorWShare
import Derived.Test.YtpbmnokmpihnjaaDoorWN
import Derived.Test.YtpbmnokmpihnjaaDoorWFootNe
import Derived.Test.YtpbmnokmpihnjaaDoorWAt
import Derived.Test.YtpbmnokmpihnjaaDoorWEqStruct
import Derived.Test.YtpbmnokmpihnjaaDoorWRepsOne
import Derived.Test.YtpbmnokmpihnjaaDoorWInv
import Derived.Test.YtpbmnokmpihnjaaDoorWInvWords
import Derived.Test.YtpbmnokmpihnjaaDoorWGuard
import Derived.Test.YtpbmnokmpihnjaaDoorWNEv
import Derived.Test.YtpbmnokmpihnjaaDoorRows
import Derived.ProofKit
import Derived.LaidMore
import Derived.OpenShut
import Derived.Maps.Own
import Derived.Maps.OwnSet
import Derived.StringKeys
import Derived.Maps.StringElems
import Derived.Stop.Joined
import Derived.Shelf.Strings.Prefix
import Derived.Lib.Bytes
import Derived.Lib.Bytealg
import Derived.Test.YtpbmnokmpihnjaaDoorTie
import Derived.Test.YtpbmnokmpihnjaaDoorCards
import Derived.OpenVars
import Derived.ShutString
import Derived.ChangeOld
import Derived.SizedLaws
namespace Go.Proofs.YtpbmnokmpihnjaaDoorW.XConv
open Go Go.RowKit Go.Proofs.YtpbmnokmpihnjaaDoorW.PrintWords Go.Proofs.YtpbmnokmpihnjaaDoorW.PrintMore

def Row8 (w : World) (g : Nat) (e : TypeId) (xs : List Int) : Prop :=
  ∃ (cur : Array Value) (fr : Nat × Nat), w.heap[g]? = some (.cells cur e fr) ∧ xs.length ≤ cur.size ∧ xs.length ≤ fr.1 ∧ ∀ j, j < xs.length → cur[j]? = some (.int .u8 (xs.getD j 0))
variable {w : World} {g : Nat} {e : TypeId} {xs : List Int}
theorem Row8.cell (h : Row8 w g e xs) (j : Nat) (hj : j < xs.length) : w.cell? ⟨g, j, none⟩ = some (.int .u8 (xs.getD j 0)) := by
  obtain ⟨cur, fr, hb, _, _, hc⟩ := h
  exact (cell_of_row w g j cur e fr hb).trans (hc j hj)
theorem Row8.frozen (h : Row8 w g e xs) (j : Nat) (hj : j < xs.length) : w.frozen? ⟨g, j, none⟩ = false := by
  obtain ⟨cur, fr, hb, _, hf, _⟩ := h
  simp only [World.frozen?, hb]
  have : ¬ (fr.1 ≤ j) := by omega
  simp [this]
theorem Row8.set (h : Row8 w g e xs) (j : Nat) (v : Int) : Row8 (w.setCell ⟨g, j, none⟩ (.int .u8 v)) g e (xs.set j v) := by
  obtain ⟨cur, fr, hb, hs, hf, hc⟩ := h
  refine ⟨cur.setIfInBounds j (.int .u8 v), fr, ?_, by simpa using hs, by simpa using hf, ?_⟩
  · have hlt : g < w.heap.size := (Array.getElem?_eq_some_iff.1 hb).1
    simp [World.setCell, Array.getElem?_modify, hb]
  · intro i hi
    rw [List.length_set] at hi
    rw [Array.getElem?_setIfInBounds]
    by_cases hij : j = i
    · subst hij
      rw [if_pos rfl, if_pos (by omega)]
      simp [List.getD_eq_getElem?_getD, hi]
    · rw [if_neg hij, hc i hi]
      simp [List.getD_eq_getElem?_getD, hij]
theorem Row8.conv (w : World) (e : TypeId) (s : ByteArray) : Row8 (Lib.bytesWorld w e s) w.heap.size e (bytesOf s) := by
  refine ⟨_, _, Lib.bytesWorld_at_new w e s, ?_, ?_, ?_⟩
  · rw [bytesOf_length]; simp [Lib.bytesCells]
  · rw [bytesOf_length]; simp [Lib.bytesCells]
  · intro j hj
    have h1 := Lib.bytesWorld_cell w e s j (by rw [bytesOf_length] at hj; exact hj)
    have h2 := cell_of_row (Lib.bytesWorld w e s) w.heap.size j _ e _ (Lib.bytesWorld_at_new w e s)
    rw [← h2, h1]
    rw [bytesOf_length] at hj
    have hj2 : j < s.data.toList.length := by rw [← data_length] at hj; exact hj
    have hj3 : (bytesOf s).getD j 0 = ((s.data.toList.getD j 0).toNat : Int) := by
      simp only [bytesOf, List.getD_eq_getElem?_getD, List.getElem?_map, List.getElem?_eq_getElem hj2]
      rfl
    rw [hj3]
theorem Row8.lt (h : Row8 w g e xs) : g < w.heap.size := by
  obtain ⟨cur, fr, hb, _⟩ := h
  exact (Array.getElem?_eq_some_iff.1 hb).1
theorem Row8.keep {W : World} (h : Row8 w g e xs) (hb : W.heap[g]? = w.heap[g]?) : Row8 W g e xs := by
  obtain ⟨cur, fr, h1, h2⟩ := h
  exact ⟨cur, fr, hb.trans h1, h2⟩
theorem Row8.drewN (h : Row8 w g e xs) (n : Nat) : Row8 (w.drewN n) g e xs := h.keep rfl
theorem Row8.drew (h : Row8 w g e xs) : Row8 w.drew g e xs := h.keep rfl
theorem Row8.below {W : World} (h : Row8 w g e xs) (hb : Below w.heap.size w W) : Row8 W g e xs := h.keep (hb.block g h.lt)
theorem Row8.reads (h : Row8 w g e xs) (hm : xs.length ≤ 9223372036854775807) {n : Nat} (hn : n = xs.length) : ReadsInt w .u8 (some ⟨g, 0, none⟩) n xs := by
  subst hn
  refine ⟨rfl, hm, fun _ => ⟨_, rfl, fun j hj => ?_⟩⟩
  rw [add_plain]
  exact h.cell j hj
end Go.Proofs.YtpbmnokmpihnjaaDoorW.XConv
namespace Go.Proofs.YtpbmnokmpihnjaaDoor.F
open Go Go.Shelf Go.RowKit Go.Proofs.YtpbmnokmpihnjaaDoorW.PrintWords Go.Proofs.YtpbmnokmpihnjaaDoorW.PrintLast Go.Proofs.YtpbmnokmpihnjaaDoorW.PrintMore
attribute [local go_sem] max2_int min2_int max_two min_two max_three min_three max_four min_four   -- for this text's walks alone
set_option linter.unusedVariables false
set_option linter.unusedSimpArgs false



def errW : Option Int → Value
  | none => .nilIface
  | some c => .iface 0 (.int .i64 c)
theorem errW_none : errW none = .nilIface := rfl
theorem errW_some (c : Int) : errW (some c) = .iface 0 (.int .i64 c) := rfl

theorem info5 : (Tryd.prog.info? 5).map (fun i => (i.zero, i.size, i.bytes)) = some (some (.int .u8 0), 1, 1) := by kernel_rfl
-- the values' own types

end Go.Proofs.YtpbmnokmpihnjaaDoor.F
namespace Go.Proofs.YtpbmnokmpihnjaaDoor.F
open Go Go.Shelf Go.RowKit Go.Proofs.YtpbmnokmpihnjaaDoorW.PrintWords Go.Proofs.YtpbmnokmpihnjaaDoorW.PrintLast Go.Proofs.YtpbmnokmpihnjaaDoorW.PrintMore
attribute [local go_sem] max2_int min2_int max_two min_two max_three min_three max_four min_four   -- for this text's walks alone
set_option linter.unusedVariables false
set_option linter.unusedSimpArgs false

/-! ### stands 4 -/
-- stands: the package variable 'mnemonics', as the card lays it
/-- The type of a mnemonic. -/
def mnemTable : List (List UInt8 × Int) := [([97], 1), ([97, 97, 97, 97], 28), ([97, 110, 121], 255), ([97, 120, 102, 114], 252), ([99, 97, 97], 257), ([99, 110, 97, 109, 101], 5), ([100, 110, 97, 109, 101], 39), ([104, 105, 110, 102, 111], 13), ([105, 120, 102, 114], 251), ([109, 120], 15), ([110, 97, 112, 116, 114], 35), ([110, 115], 2), ([110, 115, 101, 99], 47), ([111, 112, 116], 41), ([112, 116, 114], 12), ([115, 111, 97], 6), ([115, 114, 118], 33), ([116, 115, 105, 103], 250), ([116, 120, 116], 16)]
def mnemOf (s : List UInt8) : Option Int := (mnemTable.find? fun p => p.1 == s).map (·.2)
/-- The variable's block and its map's block lie there; whatever world holds these two blocks answers the look-ups. -/
def Glob (w : World) : Prop := ∃ (bm : Nat) (og om : Obj), w.heap[0]? = some og ∧ w.heap[bm]? = some om ∧
  (∀ W : World, W.heap[0]? = some og → W.cell? ⟨0, 0, none⟩ = some (.map (some bm))) ∧
  (∀ (W : World) (s : ByteArray), W.heap[bm]? = some om → s.size ≤ maxLen → (Instr.lookup 32 (.map (some bm)) (.string s) true).run Tryd.prog W = .ok (.tuple #[.int .i64 ((mnemOf s.data.toList).getD 0), .bool (mnemOf s.data.toList).isSome]) W)
theorem Glob.below {w W : World} (h : Glob w) (hb : Below w.heap.size w W) : Glob W := by
  obtain ⟨bm, og, om, h1, h2, h3⟩ := h
  exact ⟨bm, og, om, blk_below h1 hb, blk_below h2 hb, h3⟩
theorem Glob.alloc {w : World} (h : Glob w) (o : Obj) : Glob (w.alloc o) := h.below (below_alloc (Below.refl _ _) o)
theorem Glob.drew {w : World} (h : Glob w) : Glob w.drew := h
theorem Glob.drewN {w : World} (h : Glob w) (n : Nat) : Glob (w.drewN n) := h

end Go.Proofs.YtpbmnokmpihnjaaDoor.F
namespace Go.Proofs.YtpbmnokmpihnjaaDoor.XGlob
open Go Go.RowKit Go.ChangeShapes Go.WideShapes Go.ChangeAt Go.WideMaps Go.WideElems Go.Maps
open Go.Proofs.YtpbmnokmpihnjaaDoor.F
abbrev laidF {H : Type} : List (String × DataW H) := [("loop.example/s01858/impl.mnemonics", Rows.laid_loop_example_s01858_impl_mnemonics)]
theorem gForms : Tryd.prog.globalNamed "loop.example/s01858/impl.mnemonics" = some 0 := by kernel_rfl
theorem tForms : (Tryd.prog.globals[0]?).map (·.type) = some 32 := by kernel_rfl
theorem door_met (os : Os) (args : Array Value) : laidMetH Tryd.prog (laidF (H := Unit)) ((World.doorLaid Tryd.prog 200 os).forCall (fun _ _ => 0) ⟨#[], args, []⟩).memory :=
  laidMetH_of_parts3 (fuel := 8) (laidMet_of_run' 8 (by kernel_rfl) (by kernel_rfl)) (by kernel_rfl) (by kernel_rfl)
theorem mnems_at (s : List UInt8) : (Rows.laid_loop_example_s01858_impl_mnemonics (H := Unit)).atKey (.string s) .nil = (match mnemOf s with | none => .nil | some n => .lit (.int .i64 n)) := by
  have e0 : Rows.laid_loop_example_s01858_impl_mnemonics (H := Unit) = .map (mnemTable.map fun p => (Lit.string p.1, DataW.lit (.int .i64 p.2))) := rfl
  rw [e0]
  simp only [DataW.atKey]
  rw [List.find?_map]
  have e1 : ((fun p : Lit × DataW Unit => p.1.sameKey (.string s)) ∘ fun p : List UInt8 × Int => (Lit.string p.1, DataW.lit (.int .i64 p.2))) = fun p : List UInt8 × Int => p.1 == s := rfl
  rw [e1]
  unfold mnemOf
  cases mnemTable.find? (fun p => p.1 == s) <;> rfl
set_option maxRecDepth 100000 in
theorem glob_of_laid {W : World} (h : laidMetH Tryd.prog (laidF (H := Unit)) W) : Glob W := by
  rw [MakeChecks.laidMetH_plain _ _ _ (by kernel_rfl)] at h
  obtain ⟨ps, ⟨g0, t0, cs0, f0, p0, q0, hg0, ht0, hv0, hd0, _, _⟩, _, _⟩ := h
  obtain rfl := Option.some.inj (gForms.symm.trans hg0)
  obtain rfl := Option.some.inj (tForms.symm.trans ht0)
  rcases open_map Tryd.underlying32 hd0 with ⟨_, hx⟩ | ⟨bm, es, clock, m, rfl, hcs, hb, _, F, hx⟩
  · simp [Rows.laid_loop_example_s01858_impl_mnemonics] at hx
  simp only [Prod.mk.injEq] at hx
  have hcell : W.cell? ⟨0, 0, none⟩ = some (.map (some bm)) := by
    have := World.var?_cell hg0 hv0 0
    rw [Array.eq_one_of_toList hcs] at this
    simpa using this
  obtain ⟨og, hog⟩ : ∃ og, W.heap[0]? = some og := by
    cases hh : W.heap[0]? with
    | none => simp [World.cell?, hh] at hcell
    | some og => exact ⟨og, rfl⟩
  refine ⟨bm, og, _, hog, hb, fun W' hW' => ?_, fun W' k hW' hk => ?_⟩
  · rw [← hcell]
    exact World.cell?_of_block (hW'.trans hog.symm)
  · have hk2 := keyOf_string_mk (P := Tryd.prog) Tryd.underlying9 hk
    have zero : (zeroValue 2).run Tryd.prog W' = .ok (.int .i64 0) W' := by kernel_rfl
    rcases fit_look (w := W') true (string_keyed Tryd.underlying9) Tryd.underlying32 zero hW' F hk2 with ⟨hrun, _, hat⟩ | ⟨e0, y, _, _, hrun, hRv, hat, _⟩
    · have := hat .nil
      rw [← hx.1, mnems_at] at this
      cases hf : mnemOf k.data.toList with
      | none => simpa [hf] using hrun
      | some f => simp [hf] at this
    · have := hat .nil
      rw [← hx.1, mnems_at] at this
      obtain ⟨a, hv, hz, _⟩ := plainElem_int_inv Tryd.underlying2 (elemAt_plainElem_int Tryd.underlying2 hRv)
      rw [hz] at this
      rw [hv] at hrun
      cases hf : mnemOf k.data.toList with
      | none => simp [hf] at this
      | some f =>
        rw [hf] at this
        simp only [DataW.lit.injEq, Lit.int.injEq] at this
        obtain ⟨_, rfl⟩ := this
        simpa [hf] using hrun
end Go.Proofs.YtpbmnokmpihnjaaDoor.XGlob
namespace Go.Proofs.YtpbmnokmpihnjaaDoor.F
open Go Go.Shelf Go.RowKit Go.Proofs.YtpbmnokmpihnjaaDoorW.PrintWords Go.Proofs.YtpbmnokmpihnjaaDoorW.PrintLast Go.Proofs.YtpbmnokmpihnjaaDoorW.PrintMore
attribute [local go_sem] max2_int min2_int max_two min_two max_three min_three max_four min_four   -- for this text's walks alone
set_option linter.unusedVariables false
set_option linter.unusedSimpArgs false

/-! ### spec_l01Small: function 18 -/
def spec_l01Small.l0 : Nat → ByteArray → List Int → Int → Option (ByteArray)
  | 0, _, _, _ => none
  | k + 1, x0, x3, x4 => if x4 < (x0.size : Int) then (if 0 ≤ x4 then (if (bt x0 x4) ≥ 65 then (if (bt x0 x4) ≤ 90 then (if x3.length < 140737488355328 then (spec_l01Small.l0 k x0 (x3 ++ [((bt x0 x4) + 32) % 256]) (wrap64 (x4 + 1))) else (none)) else (if x3.length < 140737488355328 then (spec_l01Small.l0 k x0 (x3 ++ [bt x0 x4]) (wrap64 (x4 + 1))) else (none))) else (if x3.length < 140737488355328 then (spec_l01Small.l0 k x0 (x3 ++ [bt x0 x4]) (wrap64 (x4 + 1))) else (none))) else (none)) else (some (strOfNums x3))
def spec_l01Small.f (k : Nat) (a0 : ByteArray) : Option (ByteArray) := spec_l01Small.l0 k a0 (([] : List Int)) 0
theorem spec_l01Small.mono_l : ∀ k, (∀ y0 y1 y2, LeO (spec_l01Small.l0 k y0 y1 y2) (spec_l01Small.l0 (k + 1) y0 y1 y2))
  | 0 => fun _ _ _ r h => by simp [spec_l01Small.l0] at h
  | k + 1 => by
    have ih0 := spec_l01Small.mono_l k
    · intro y0 y1 y2
      unfold spec_l01Small.l0
      repeat' first
      | (with_reducible exact ih0 _ _ _)
      | (with_reducible exact LeO.refl _)
      | (with_reducible exact LeO.none _)
      | (with_reducible refine LeO.ite ?_ ?_)
      | (with_reducible refine LeO.bind ?_ (fun _ => ?_))
      | exact ih0 _ _ _
      | exact LeO.none _
      | refine LeO.ite ?_ ?_
      | refine LeO.bind ?_ (fun _ => ?_)
theorem spec_l01Small.mono : ∀ a0 k, LeO (spec_l01Small.f k a0) (spec_l01Small.f (k + 1) a0) := by
  intro a0 k
  have ih0 := spec_l01Small.mono_l k
  unfold spec_l01Small.f
  repeat' first
      | (with_reducible exact ih0 _ _ _)
      | (with_reducible exact LeO.refl _)
      | (with_reducible exact LeO.none _)
      | (with_reducible refine LeO.ite ?_ ?_)
      | (with_reducible refine LeO.bind ?_ (fun _ => ?_))
      | exact ih0 _ _ _
      | exact LeO.none _
      | refine LeO.ite ?_ ?_
      | refine LeO.bind ?_ (fun _ => ?_)
set_option maxHeartbeats 8000000 in
set_option maxRecDepth 100000 in
theorem spec_l01Small.calls (k : Nat) (a0 : ByteArray) (r : ByteArray) (w : World) (h : spec_l01Small.f k a0 = some r) :
    Calls Tryd.prog 18 #[.string a0] w fun e w' => e = .returned (.string r) ∧ Below w.heap.size w w' := by
  have HB := Aside0.mk (Below.refl w.heap.size w)
  have H : (spec_l01Small.l0 k a0 (([] : List Int)) 0) = some r := h
  clear h
  obtain ⟨y101, hy101⟩ : ∃ y_ : List Int, y_ = (([] : List Int)) := ⟨_, rfl⟩
  replace H : (spec_l01Small.l0 k a0 y101 0) = some r := by first | (rw [hy101]; with_reducible exact H) | (have H2_ := (Option.bind_some _ _).symm.trans H; rw [hy101]; with_reducible exact H2_) | (have H2_ := (Option.bind_some _ _).symm.trans H; with_reducible exact H2_) | with_reducible exact H | (rw [hy101]; exact H) | exact H
  have Ny101 := Aside0.mk hy101
  clear hy101
  have H' := Aside0.mk H
  clear H
  go_enter Tryd.func18, Tryd.ntmps18
  go_wp2_with (first | ((with_reducible refine gate_dst (N := 6) rfl ?_); refine Kd.R_lit (Kd.int .u8) _ 5 ?hg (N := 6) ?hd (xs := ([] : List Int)) (inner := []) (ok := fun _ => True) (okp := fun _ => True) ?hr ?hp (fun _ hk => hk) trivial (Below.refl _ _) (Nat.le_refl _) (by simp) ?_; (case hd => rfl); (case hg => rfl); (case hr => first | (go_simp; done) | (go_simp; rfl)); (case hp => exact (Reps.none _ _)); intro v102 w2 ho3 hb hg_ hnew_; clear hg_ hnew_; (first | rw [← Ny101.out] at ho3 | (simp only [Int.reduceToNat] at ho3; rw [← Ny101.out] at ho3)); have n0_ := Aside0.mk (Kd.R_lower ho3 (below_size (by repeat (first | (with_reducible first | exact HB.out | apply below_alloc | apply pw_below_drewN | apply below_drew1) | exact HB.out)))); have n1_ := Aside0.mk (below_step (by repeat (first | (with_reducible first | exact HB.out | apply below_alloc | apply pw_below_drewN | apply below_drew1) | exact HB.out)) hb); clear HB; have HO103 := n0_; have HB := n1_; clear n0_ n1_; clear hb ho3))
  go_loopg [3, 4] k (fun kq v3 v4 w' => ∃ (x3_1 : List Int) (x4_1 : Int), v4 = .int .i64 x4_1 ∧ Aside0 (spec_l01Small.l0 kq a0 x3_1 x4_1 = some r) ∧ Aside0 (kq ≤ k) ∧ Aside0 (Kd.R (Kd.int .u8) 5 w' w.heap.size (fun _ => True) v3 x3_1) ∧ Aside0 (Below w.heap.size w w'))
  case atStart => exact ⟨(y101), (0), (by first | rfl | (simp; done) | (simp [*]; done)), H', ⟨Nat.le_refl _⟩, ⟨by (with_reducible repeat (first | apply Kd.R_alloc | apply Kd.R_drewN | apply Kd.R_drew)); exact HO103.out⟩, ⟨by repeat (first | (with_reducible first | exact HB.out | apply below_alloc | apply pw_below_drewN | apply below_drew1) | exact HB.out)⟩⟩
  case round =>
    clear H'
    try clear c1
    try clear p2
    obtain ⟨x3_1, x4_1, rfl, HA, HK1, HO_3, HB⟩ := hrel
    cases gk with
    | zero => exact absurd HA.out (by simp [spec_l01Small.l0])
    | succ k1 =>
      have H := HA.out
      clear HA
      simp only [spec_l01Small.l0] at H
      by_cases c4 : x4_1 < (a0.size : Int)
      · rw [if_pos c4] at H
        have c4b0 : decide (x4_1 < (a0.size : Int)) = true := decide_eq_true c4
        clear c4
        by_cases c5 : 0 ≤ x4_1
        · rw [if_pos c5] at H
          have c5b0 : decide (0 ≤ x4_1) = true := decide_eq_true c5
          clear c5
          by_cases c7 : (bt a0 x4_1) ≥ 65
          · rw [if_pos c7] at H
            have c7b0 : decide (65 ≤ (bt a0 x4_1)) = true := decide_eq_true c7
            clear c7
            by_cases c8 : (bt a0 x4_1) ≤ 90
            · rw [if_pos c8] at H
              have c8b0 : decide ((bt a0 x4_1) ≤ 90) = true := decide_eq_true c8
              clear c8
              by_cases c9 : x3_1.length < 140737488355328
              · rw [if_pos c9] at H
                have LMc9 := Aside0.mk c9
                clear c9
                obtain ⟨y104, hy104⟩ : ∃ y_ : List Int, y_ = (x3_1 ++ [((bt a0 x4_1) + 32) % 256]) := ⟨_, rfl⟩
                replace H : (spec_l01Small.l0 k1 a0 y104 (wrap64 (x4_1 + 1))) = some r := by first | (rw [hy104]; with_reducible exact H) | (have H2_ := (Option.bind_some _ _).symm.trans H; rw [hy104]; with_reducible exact H2_) | (have H2_ := (Option.bind_some _ _).symm.trans H; with_reducible exact H2_) | with_reducible exact H | (rw [hy104]; exact H) | exact H
                have Ny104 := Aside0.mk hy104
                clear hy104
                have H' := Aside0.mk H
                clear H
                have p6 : 0 ≤ (x4_1 : Int) := of_decide_eq_true (by first | (with_reducible assumption) | assumption)
                have q6 : x4_1 < (a0.size : Int) := of_decide_eq_true (by first | (with_reducible assumption) | assumption)
                have hx6 := bt_at a0 x4_1
                replace p6 := eq_true p6
                replace q6 := eq_true q6
                go_wp2_with (first | ((with_reducible refine gate_builtin (b := .append) (xs := #[.tmp 24, .tmp 26]) rfl ?_); at_builtin; refine Kd.R_append (Kd.int .u8) (w0 := w) w.heap.size rfl (.tmp 24) (.tmp 26) 38 5 (.int .u8 0) 1 rfl Tryd.underlying38 info5 rfl (by decide) (by omega) u3 x3_1 (((bt a0 x4_1) + 32) % 256) [.int .u8 (((bt a0 x4_1) + 32) % 256)] (fun _ => True) (fun _ => False) rfl rfl ?aP (fun _ hk => hk.elim) ?aF ?aO ?aB ?aS ?aL ?_; (case aP => exact rfl); (case aB => exact (by repeat (first | (with_reducible first | exact HB.out | apply below_alloc | apply pw_below_drewN | apply below_drew1) | exact HB.out))); (case aF => exact (fun _ _ => trivial)); (case aO => exact (by (with_reducible repeat (first | apply Kd.R_alloc | apply Kd.R_drewN | apply Kd.R_drew)); exact HO_3.out)); (case aS => exact (below_size (by repeat (first | (with_reducible first | exact HB.out | apply below_alloc | apply pw_below_drewN | apply below_drew1) | exact HB.out)))); (case aL => have := LMc9.out; omega); intro v105 w10 ho hb hg hat; rw [← Ny104.out] at ho; have n0_ := Aside0.mk (hb); have n1_ := Aside0.mk (ho); clear HB; clear HO_3; have HB := n0_; have HO106 := n1_; clear n0_ n1_; clear ho hb hg hat))
                go_roundg k1
                case measure => have := HK1.out; omega
                case rel => exact ⟨(y104), (wrap64 (x4_1 + 1)), (by first | rfl | (simp; done) | (simp [*]; done)), H', ⟨by have := HK1.out; omega⟩, ⟨by (with_reducible repeat (first | apply Kd.R_alloc | apply Kd.R_drewN | apply Kd.R_drew)); exact HO106.out⟩, ⟨by repeat (first | (with_reducible first | exact HB.out | apply below_alloc | apply pw_below_drewN | apply below_drew1) | exact HB.out)⟩⟩
              · rw [if_neg c9] at H
                exact absurd H (by simp)
            · rw [if_neg c8] at H
              have c8b0 : decide ((bt a0 x4_1) ≤ 90) = false := decide_eq_false c8
              clear c8
              by_cases c11 : x3_1.length < 140737488355328
              · rw [if_pos c11] at H
                have LMc11 := Aside0.mk c11
                clear c11
                obtain ⟨y107, hy107⟩ : ∃ y_ : List Int, y_ = (x3_1 ++ [bt a0 x4_1]) := ⟨_, rfl⟩
                replace H : (spec_l01Small.l0 k1 a0 y107 (wrap64 (x4_1 + 1))) = some r := by first | (rw [hy107]; with_reducible exact H) | (have H2_ := (Option.bind_some _ _).symm.trans H; rw [hy107]; with_reducible exact H2_) | (have H2_ := (Option.bind_some _ _).symm.trans H; with_reducible exact H2_) | with_reducible exact H | (rw [hy107]; exact H) | exact H
                have Ny107 := Aside0.mk hy107
                clear hy107
                have H' := Aside0.mk H
                clear H
                have p6 : 0 ≤ (x4_1 : Int) := of_decide_eq_true (by first | (with_reducible assumption) | assumption)
                have q6 : x4_1 < (a0.size : Int) := of_decide_eq_true (by first | (with_reducible assumption) | assumption)
                have hx6 := bt_at a0 x4_1
                replace p6 := eq_true p6
                replace q6 := eq_true q6
                go_wp2_with (first | ((with_reducible refine gate_builtin (b := .append) (xs := #[.tmp 24, .tmp 26]) rfl ?_); at_builtin; refine Kd.R_append (Kd.int .u8) (w0 := w) w.heap.size rfl (.tmp 24) (.tmp 26) 38 5 (.int .u8 0) 1 rfl Tryd.underlying38 info5 rfl (by decide) (by omega) u3 x3_1 (bt a0 x4_1) [.int .u8 (bt a0 x4_1)] (fun _ => True) (fun _ => False) rfl rfl ?aP (fun _ hk => hk.elim) ?aF ?aO ?aB ?aS ?aL ?_; (case aP => exact rfl); (case aB => exact (by repeat (first | (with_reducible first | exact HB.out | apply below_alloc | apply pw_below_drewN | apply below_drew1) | exact HB.out))); (case aF => exact (fun _ _ => trivial)); (case aO => exact (by (with_reducible repeat (first | apply Kd.R_alloc | apply Kd.R_drewN | apply Kd.R_drew)); exact HO_3.out)); (case aS => exact (below_size (by repeat (first | (with_reducible first | exact HB.out | apply below_alloc | apply pw_below_drewN | apply below_drew1) | exact HB.out)))); (case aL => have := LMc11.out; omega); intro v108 w12 ho hb hg hat; rw [← Ny107.out] at ho; have n0_ := Aside0.mk (hb); have n1_ := Aside0.mk (ho); clear HB; clear HO_3; have HB := n0_; have HO109 := n1_; clear n0_ n1_; clear ho hb hg hat))
                go_roundg k1
                case measure => have := HK1.out; omega
                case rel => exact ⟨(y107), (wrap64 (x4_1 + 1)), (by first | rfl | (simp; done) | (simp [*]; done)), H', ⟨by have := HK1.out; omega⟩, ⟨by (with_reducible repeat (first | apply Kd.R_alloc | apply Kd.R_drewN | apply Kd.R_drew)); exact HO109.out⟩, ⟨by repeat (first | (with_reducible first | exact HB.out | apply below_alloc | apply pw_below_drewN | apply below_drew1) | exact HB.out)⟩⟩
              · rw [if_neg c11] at H
                exact absurd H (by simp)
          · rw [if_neg c7] at H
            have c7b0 : decide (65 ≤ (bt a0 x4_1)) = false := decide_eq_false c7
            clear c7
            by_cases c13 : x3_1.length < 140737488355328
            · rw [if_pos c13] at H
              have LMc13 := Aside0.mk c13
              clear c13
              obtain ⟨y110, hy110⟩ : ∃ y_ : List Int, y_ = (x3_1 ++ [bt a0 x4_1]) := ⟨_, rfl⟩
              replace H : (spec_l01Small.l0 k1 a0 y110 (wrap64 (x4_1 + 1))) = some r := by first | (rw [hy110]; with_reducible exact H) | (have H2_ := (Option.bind_some _ _).symm.trans H; rw [hy110]; with_reducible exact H2_) | (have H2_ := (Option.bind_some _ _).symm.trans H; with_reducible exact H2_) | with_reducible exact H | (rw [hy110]; exact H) | exact H
              have Ny110 := Aside0.mk hy110
              clear hy110
              have H' := Aside0.mk H
              clear H
              have p6 : 0 ≤ (x4_1 : Int) := of_decide_eq_true (by first | (with_reducible assumption) | assumption)
              have q6 : x4_1 < (a0.size : Int) := of_decide_eq_true (by first | (with_reducible assumption) | assumption)
              have hx6 := bt_at a0 x4_1
              replace p6 := eq_true p6
              replace q6 := eq_true q6
              go_wp2_with (first | ((with_reducible refine gate_builtin (b := .append) (xs := #[.tmp 24, .tmp 26]) rfl ?_); at_builtin; refine Kd.R_append (Kd.int .u8) (w0 := w) w.heap.size rfl (.tmp 24) (.tmp 26) 38 5 (.int .u8 0) 1 rfl Tryd.underlying38 info5 rfl (by decide) (by omega) u3 x3_1 (bt a0 x4_1) [.int .u8 (bt a0 x4_1)] (fun _ => True) (fun _ => False) rfl rfl ?aP (fun _ hk => hk.elim) ?aF ?aO ?aB ?aS ?aL ?_; (case aP => exact rfl); (case aB => exact (by repeat (first | (with_reducible first | exact HB.out | apply below_alloc | apply pw_below_drewN | apply below_drew1) | exact HB.out))); (case aF => exact (fun _ _ => trivial)); (case aO => exact (by (with_reducible repeat (first | apply Kd.R_alloc | apply Kd.R_drewN | apply Kd.R_drew)); exact HO_3.out)); (case aS => exact (below_size (by repeat (first | (with_reducible first | exact HB.out | apply below_alloc | apply pw_below_drewN | apply below_drew1) | exact HB.out)))); (case aL => have := LMc13.out; omega); intro v111 w14 ho hb hg hat; rw [← Ny110.out] at ho; have n0_ := Aside0.mk (hb); have n1_ := Aside0.mk (ho); clear HB; clear HO_3; have HB := n0_; have HO112 := n1_; clear n0_ n1_; clear ho hb hg hat))
              go_roundg k1
              case measure => have := HK1.out; omega
              case rel => exact ⟨(y110), (wrap64 (x4_1 + 1)), (by first | rfl | (simp; done) | (simp [*]; done)), H', ⟨by have := HK1.out; omega⟩, ⟨by (with_reducible repeat (first | apply Kd.R_alloc | apply Kd.R_drewN | apply Kd.R_drew)); exact HO112.out⟩, ⟨by repeat (first | (with_reducible first | exact HB.out | apply below_alloc | apply pw_below_drewN | apply below_drew1) | exact HB.out)⟩⟩
            · rw [if_neg c13] at H
              exact absurd H (by simp)
        · rw [if_neg c5] at H
          exact absurd H (by simp)
      · rw [if_neg c4] at H
        have c4b0 : decide (x4_1 < (a0.size : Int)) = false := decide_eq_false c4
        clear c4
        obtain rfl := Option.some.inj H
        have hcv15 := own_string (P := Tryd.prog) Tryd.underlying38 Tryd.underlying5 Tryd.underlying9 (Kd.own_of_R HO_3.out)
        go_wp2
        go_ret
        exact ⟨by first | rfl | (simp [errW_none, errW_some] <;> rfl) | (simp [*, errW_none, errW_some] <;> rfl), by repeat (first | (with_reducible first | exact HB.out | apply below_alloc | apply pw_below_drewN | apply below_drew1) | exact HB.out)⟩

end Go.Proofs.YtpbmnokmpihnjaaDoor.F
namespace Go.Proofs.YtpbmnokmpihnjaaDoor.F
open Go Go.Shelf Go.RowKit Go.Proofs.YtpbmnokmpihnjaaDoorW.PrintWords Go.Proofs.YtpbmnokmpihnjaaDoorW.PrintLast Go.Proofs.YtpbmnokmpihnjaaDoorW.PrintMore
attribute [local go_sem] max2_int min2_int max_two min_two max_three min_three max_four min_four   -- for this text's walks alone
set_option linter.unusedVariables false
set_option linter.unusedSimpArgs false

/-! ### spec_l03Mnemonic: function 19 -/
def spec_l03Mnemonic.f (a0 : Int) : Option (ByteArray) := if a0 = 1 then (some (⟨#[65]⟩ : ByteArray)) else (if a0 = 2 then (some (⟨#[78, 83]⟩ : ByteArray)) else (if a0 = 5 then (some (⟨#[67, 78, 65, 77, 69]⟩ : ByteArray)) else (if a0 = 6 then (some (⟨#[83, 79, 65]⟩ : ByteArray)) else (if a0 = 12 then (some (⟨#[80, 84, 82]⟩ : ByteArray)) else (if a0 = 13 then (some (⟨#[72, 73, 78, 70, 79]⟩ : ByteArray)) else (if a0 = 15 then (some (⟨#[77, 88]⟩ : ByteArray)) else (if a0 = 16 then (some (⟨#[84, 88, 84]⟩ : ByteArray)) else (if a0 = 28 then (some (⟨#[65, 65, 65, 65]⟩ : ByteArray)) else (if a0 = 33 then (some (⟨#[83, 82, 86]⟩ : ByteArray)) else (if a0 = 35 then (some (⟨#[78, 65, 80, 84, 82]⟩ : ByteArray)) else (if a0 = 39 then (some (⟨#[68, 78, 65, 77, 69]⟩ : ByteArray)) else (if a0 = 41 then (some (⟨#[79, 80, 84]⟩ : ByteArray)) else (if a0 = 47 then (some (⟨#[78, 83, 69, 67]⟩ : ByteArray)) else (if a0 = 250 then (some (⟨#[84, 83, 73, 71]⟩ : ByteArray)) else (if a0 = 251 then (some (⟨#[73, 88, 70, 82]⟩ : ByteArray)) else (if a0 = 252 then (some (⟨#[65, 88, 70, 82]⟩ : ByteArray)) else (if a0 = 255 then (some (⟨#[65, 78, 89]⟩ : ByteArray)) else (if a0 = 257 then (some (⟨#[67, 65, 65]⟩ : ByteArray)) else (some (⟨#[]⟩ : ByteArray))))))))))))))))))))
set_option maxHeartbeats 8000000 in
set_option maxRecDepth 100000 in
theorem spec_l03Mnemonic.calls (a0 : Int) (r : ByteArray) (w : World) (h : spec_l03Mnemonic.f a0 = some r) :
    Calls Tryd.prog 19 #[.int .i64 a0] w fun e w' => e = .returned (.string r) ∧ Drawn0 w w' := by
  have H : (if a0 = 1 then (some (⟨#[65]⟩ : ByteArray)) else (if a0 = 2 then (some (⟨#[78, 83]⟩ : ByteArray)) else (if a0 = 5 then (some (⟨#[67, 78, 65, 77, 69]⟩ : ByteArray)) else (if a0 = 6 then (some (⟨#[83, 79, 65]⟩ : ByteArray)) else (if a0 = 12 then (some (⟨#[80, 84, 82]⟩ : ByteArray)) else (if a0 = 13 then (some (⟨#[72, 73, 78, 70, 79]⟩ : ByteArray)) else (if a0 = 15 then (some (⟨#[77, 88]⟩ : ByteArray)) else (if a0 = 16 then (some (⟨#[84, 88, 84]⟩ : ByteArray)) else (if a0 = 28 then (some (⟨#[65, 65, 65, 65]⟩ : ByteArray)) else (if a0 = 33 then (some (⟨#[83, 82, 86]⟩ : ByteArray)) else (if a0 = 35 then (some (⟨#[78, 65, 80, 84, 82]⟩ : ByteArray)) else (if a0 = 39 then (some (⟨#[68, 78, 65, 77, 69]⟩ : ByteArray)) else (if a0 = 41 then (some (⟨#[79, 80, 84]⟩ : ByteArray)) else (if a0 = 47 then (some (⟨#[78, 83, 69, 67]⟩ : ByteArray)) else (if a0 = 250 then (some (⟨#[84, 83, 73, 71]⟩ : ByteArray)) else (if a0 = 251 then (some (⟨#[73, 88, 70, 82]⟩ : ByteArray)) else (if a0 = 252 then (some (⟨#[65, 88, 70, 82]⟩ : ByteArray)) else (if a0 = 255 then (some (⟨#[65, 78, 89]⟩ : ByteArray)) else (if a0 = 257 then (some (⟨#[67, 65, 65]⟩ : ByteArray)) else (some (⟨#[]⟩ : ByteArray))))))))))))))))))))) = some r := h
  clear h
  by_cases c2 : a0 = 1
  · rw [if_pos c2] at H
    have c2b0 : (a0 == 1) = true := beq_iff_eq.mpr c2
    have c2b1 : (a0 != 1) = false := bne_eq_false_iff_eq.mpr c2
    clear c2
    obtain rfl := Option.some.inj H
    go_enter Tryd.func19, Tryd.ntmps19
    go_wp2
    go_ret
    exact ⟨by first | rfl | (simp; done) | (simp [*]; done), by repeat (first | exact Drawn0.refl _ | apply Drawn0.step)⟩
  · rw [if_neg c2] at H
    have c2b0 : (a0 == 1) = false := beq_eq_false_iff_ne.mpr c2
    have c2b1 : (a0 != 1) = true := bne_iff_ne.mpr c2
    by_cases c3 : a0 = 2
    · rw [if_pos c3] at H
      have c3b0 : (a0 == 2) = true := beq_iff_eq.mpr c3
      have c3b1 : (a0 != 2) = false := bne_eq_false_iff_eq.mpr c3
      clear c3
      obtain rfl := Option.some.inj H
      go_enter Tryd.func19, Tryd.ntmps19
      go_wp2
      go_ret
      exact ⟨by first | rfl | (simp; done) | (simp [*]; done), by repeat (first | exact Drawn0.refl _ | apply Drawn0.step)⟩
    · rw [if_neg c3] at H
      have c3b0 : (a0 == 2) = false := beq_eq_false_iff_ne.mpr c3
      have c3b1 : (a0 != 2) = true := bne_iff_ne.mpr c3
      by_cases c4 : a0 = 5
      · rw [if_pos c4] at H
        have c4b0 : (a0 == 5) = true := beq_iff_eq.mpr c4
        have c4b1 : (a0 != 5) = false := bne_eq_false_iff_eq.mpr c4
        clear c4
        obtain rfl := Option.some.inj H
        go_enter Tryd.func19, Tryd.ntmps19
        go_wp2
        go_ret
        exact ⟨by first | rfl | (simp; done) | (simp [*]; done), by repeat (first | exact Drawn0.refl _ | apply Drawn0.step)⟩
      · rw [if_neg c4] at H
        have c4b0 : (a0 == 5) = false := beq_eq_false_iff_ne.mpr c4
        have c4b1 : (a0 != 5) = true := bne_iff_ne.mpr c4
        by_cases c5 : a0 = 6
        · rw [if_pos c5] at H
          have c5b0 : (a0 == 6) = true := beq_iff_eq.mpr c5
          have c5b1 : (a0 != 6) = false := bne_eq_false_iff_eq.mpr c5
          clear c5
          obtain rfl := Option.some.inj H
          go_enter Tryd.func19, Tryd.ntmps19
          go_wp2
          go_ret
          exact ⟨by first | rfl | (simp; done) | (simp [*]; done), by repeat (first | exact Drawn0.refl _ | apply Drawn0.step)⟩
        · rw [if_neg c5] at H
          have c5b0 : (a0 == 6) = false := beq_eq_false_iff_ne.mpr c5
          have c5b1 : (a0 != 6) = true := bne_iff_ne.mpr c5
          by_cases c6 : a0 = 12
          · rw [if_pos c6] at H
            have c6b0 : (a0 == 12) = true := beq_iff_eq.mpr c6
            have c6b1 : (a0 != 12) = false := bne_eq_false_iff_eq.mpr c6
            clear c6
            obtain rfl := Option.some.inj H
            go_enter Tryd.func19, Tryd.ntmps19
            go_wp2
            go_ret
            exact ⟨by first | rfl | (simp; done) | (simp [*]; done), by repeat (first | exact Drawn0.refl _ | apply Drawn0.step)⟩
          · rw [if_neg c6] at H
            have c6b0 : (a0 == 12) = false := beq_eq_false_iff_ne.mpr c6
            have c6b1 : (a0 != 12) = true := bne_iff_ne.mpr c6
            by_cases c7 : a0 = 13
            · rw [if_pos c7] at H
              have c7b0 : (a0 == 13) = true := beq_iff_eq.mpr c7
              have c7b1 : (a0 != 13) = false := bne_eq_false_iff_eq.mpr c7
              clear c7
              obtain rfl := Option.some.inj H
              go_enter Tryd.func19, Tryd.ntmps19
              go_wp2
              go_ret
              exact ⟨by first | rfl | (simp; done) | (simp [*]; done), by repeat (first | exact Drawn0.refl _ | apply Drawn0.step)⟩
            · rw [if_neg c7] at H
              have c7b0 : (a0 == 13) = false := beq_eq_false_iff_ne.mpr c7
              have c7b1 : (a0 != 13) = true := bne_iff_ne.mpr c7
              by_cases c8 : a0 = 15
              · rw [if_pos c8] at H
                have c8b0 : (a0 == 15) = true := beq_iff_eq.mpr c8
                have c8b1 : (a0 != 15) = false := bne_eq_false_iff_eq.mpr c8
                clear c8
                obtain rfl := Option.some.inj H
                go_enter Tryd.func19, Tryd.ntmps19
                go_wp2
                go_ret
                exact ⟨by first | rfl | (simp; done) | (simp [*]; done), by repeat (first | exact Drawn0.refl _ | apply Drawn0.step)⟩
              · rw [if_neg c8] at H
                have c8b0 : (a0 == 15) = false := beq_eq_false_iff_ne.mpr c8
                have c8b1 : (a0 != 15) = true := bne_iff_ne.mpr c8
                by_cases c9 : a0 = 16
                · rw [if_pos c9] at H
                  have c9b0 : (a0 == 16) = true := beq_iff_eq.mpr c9
                  have c9b1 : (a0 != 16) = false := bne_eq_false_iff_eq.mpr c9
                  clear c9
                  obtain rfl := Option.some.inj H
                  go_enter Tryd.func19, Tryd.ntmps19
                  go_wp2
                  go_ret
                  exact ⟨by first | rfl | (simp; done) | (simp [*]; done), by repeat (first | exact Drawn0.refl _ | apply Drawn0.step)⟩
                · rw [if_neg c9] at H
                  have c9b0 : (a0 == 16) = false := beq_eq_false_iff_ne.mpr c9
                  have c9b1 : (a0 != 16) = true := bne_iff_ne.mpr c9
                  by_cases c10 : a0 = 28
                  · rw [if_pos c10] at H
                    have c10b0 : (a0 == 28) = true := beq_iff_eq.mpr c10
                    have c10b1 : (a0 != 28) = false := bne_eq_false_iff_eq.mpr c10
                    clear c10
                    obtain rfl := Option.some.inj H
                    go_enter Tryd.func19, Tryd.ntmps19
                    go_wp2
                    go_ret
                    exact ⟨by first | rfl | (simp; done) | (simp [*]; done), by repeat (first | exact Drawn0.refl _ | apply Drawn0.step)⟩
                  · rw [if_neg c10] at H
                    have c10b0 : (a0 == 28) = false := beq_eq_false_iff_ne.mpr c10
                    have c10b1 : (a0 != 28) = true := bne_iff_ne.mpr c10
                    by_cases c11 : a0 = 33
                    · rw [if_pos c11] at H
                      have c11b0 : (a0 == 33) = true := beq_iff_eq.mpr c11
                      have c11b1 : (a0 != 33) = false := bne_eq_false_iff_eq.mpr c11
                      clear c11
                      obtain rfl := Option.some.inj H
                      go_enter Tryd.func19, Tryd.ntmps19
                      go_wp2
                      go_ret
                      exact ⟨by first | rfl | (simp; done) | (simp [*]; done), by repeat (first | exact Drawn0.refl _ | apply Drawn0.step)⟩
                    · rw [if_neg c11] at H
                      have c11b0 : (a0 == 33) = false := beq_eq_false_iff_ne.mpr c11
                      have c11b1 : (a0 != 33) = true := bne_iff_ne.mpr c11
                      by_cases c12 : a0 = 35
                      · rw [if_pos c12] at H
                        have c12b0 : (a0 == 35) = true := beq_iff_eq.mpr c12
                        have c12b1 : (a0 != 35) = false := bne_eq_false_iff_eq.mpr c12
                        clear c12
                        obtain rfl := Option.some.inj H
                        go_enter Tryd.func19, Tryd.ntmps19
                        go_wp2
                        go_ret
                        exact ⟨by first | rfl | (simp; done) | (simp [*]; done), by repeat (first | exact Drawn0.refl _ | apply Drawn0.step)⟩
                      · rw [if_neg c12] at H
                        have c12b0 : (a0 == 35) = false := beq_eq_false_iff_ne.mpr c12
                        have c12b1 : (a0 != 35) = true := bne_iff_ne.mpr c12
                        by_cases c13 : a0 = 39
                        · rw [if_pos c13] at H
                          have c13b0 : (a0 == 39) = true := beq_iff_eq.mpr c13
                          have c13b1 : (a0 != 39) = false := bne_eq_false_iff_eq.mpr c13
                          clear c13
                          obtain rfl := Option.some.inj H
                          go_enter Tryd.func19, Tryd.ntmps19
                          go_wp2
                          go_ret
                          exact ⟨by first | rfl | (simp; done) | (simp [*]; done), by repeat (first | exact Drawn0.refl _ | apply Drawn0.step)⟩
                        · rw [if_neg c13] at H
                          have c13b0 : (a0 == 39) = false := beq_eq_false_iff_ne.mpr c13
                          have c13b1 : (a0 != 39) = true := bne_iff_ne.mpr c13
                          by_cases c14 : a0 = 41
                          · rw [if_pos c14] at H
                            have c14b0 : (a0 == 41) = true := beq_iff_eq.mpr c14
                            have c14b1 : (a0 != 41) = false := bne_eq_false_iff_eq.mpr c14
                            clear c14
                            obtain rfl := Option.some.inj H
                            go_enter Tryd.func19, Tryd.ntmps19
                            go_wp2
                            go_ret
                            exact ⟨by first | rfl | (simp; done) | (simp [*]; done), by repeat (first | exact Drawn0.refl _ | apply Drawn0.step)⟩
                          · rw [if_neg c14] at H
                            have c14b0 : (a0 == 41) = false := beq_eq_false_iff_ne.mpr c14
                            have c14b1 : (a0 != 41) = true := bne_iff_ne.mpr c14
                            by_cases c15 : a0 = 47
                            · rw [if_pos c15] at H
                              have c15b0 : (a0 == 47) = true := beq_iff_eq.mpr c15
                              have c15b1 : (a0 != 47) = false := bne_eq_false_iff_eq.mpr c15
                              clear c15
                              obtain rfl := Option.some.inj H
                              go_enter Tryd.func19, Tryd.ntmps19
                              go_wp2
                              go_ret
                              exact ⟨by first | rfl | (simp; done) | (simp [*]; done), by repeat (first | exact Drawn0.refl _ | apply Drawn0.step)⟩
                            · rw [if_neg c15] at H
                              have c15b0 : (a0 == 47) = false := beq_eq_false_iff_ne.mpr c15
                              have c15b1 : (a0 != 47) = true := bne_iff_ne.mpr c15
                              by_cases c16 : a0 = 250
                              · rw [if_pos c16] at H
                                have c16b0 : (a0 == 250) = true := beq_iff_eq.mpr c16
                                have c16b1 : (a0 != 250) = false := bne_eq_false_iff_eq.mpr c16
                                clear c16
                                obtain rfl := Option.some.inj H
                                go_enter Tryd.func19, Tryd.ntmps19
                                go_wp2
                                go_ret
                                exact ⟨by first | rfl | (simp; done) | (simp [*]; done), by repeat (first | exact Drawn0.refl _ | apply Drawn0.step)⟩
                              · rw [if_neg c16] at H
                                have c16b0 : (a0 == 250) = false := beq_eq_false_iff_ne.mpr c16
                                have c16b1 : (a0 != 250) = true := bne_iff_ne.mpr c16
                                by_cases c17 : a0 = 251
                                · rw [if_pos c17] at H
                                  have c17b0 : (a0 == 251) = true := beq_iff_eq.mpr c17
                                  have c17b1 : (a0 != 251) = false := bne_eq_false_iff_eq.mpr c17
                                  clear c17
                                  obtain rfl := Option.some.inj H
                                  go_enter Tryd.func19, Tryd.ntmps19
                                  go_wp2
                                  go_ret
                                  exact ⟨by first | rfl | (simp; done) | (simp [*]; done), by repeat (first | exact Drawn0.refl _ | apply Drawn0.step)⟩
                                · rw [if_neg c17] at H
                                  have c17b0 : (a0 == 251) = false := beq_eq_false_iff_ne.mpr c17
                                  have c17b1 : (a0 != 251) = true := bne_iff_ne.mpr c17
                                  by_cases c18 : a0 = 252
                                  · rw [if_pos c18] at H
                                    have c18b0 : (a0 == 252) = true := beq_iff_eq.mpr c18
                                    have c18b1 : (a0 != 252) = false := bne_eq_false_iff_eq.mpr c18
                                    clear c18
                                    obtain rfl := Option.some.inj H
                                    go_enter Tryd.func19, Tryd.ntmps19
                                    go_wp2
                                    go_ret
                                    exact ⟨by first | rfl | (simp; done) | (simp [*]; done), by repeat (first | exact Drawn0.refl _ | apply Drawn0.step)⟩
                                  · rw [if_neg c18] at H
                                    have c18b0 : (a0 == 252) = false := beq_eq_false_iff_ne.mpr c18
                                    have c18b1 : (a0 != 252) = true := bne_iff_ne.mpr c18
                                    by_cases c19 : a0 = 255
                                    · rw [if_pos c19] at H
                                      have c19b0 : (a0 == 255) = true := beq_iff_eq.mpr c19
                                      have c19b1 : (a0 != 255) = false := bne_eq_false_iff_eq.mpr c19
                                      clear c19
                                      obtain rfl := Option.some.inj H
                                      go_enter Tryd.func19, Tryd.ntmps19
                                      go_wp2
                                      go_ret
                                      exact ⟨by first | rfl | (simp; done) | (simp [*]; done), by repeat (first | exact Drawn0.refl _ | apply Drawn0.step)⟩
                                    · rw [if_neg c19] at H
                                      have c19b0 : (a0 == 255) = false := beq_eq_false_iff_ne.mpr c19
                                      have c19b1 : (a0 != 255) = true := bne_iff_ne.mpr c19
                                      by_cases c20 : a0 = 257
                                      · rw [if_pos c20] at H
                                        have c20b0 : (a0 == 257) = true := beq_iff_eq.mpr c20
                                        have c20b1 : (a0 != 257) = false := bne_eq_false_iff_eq.mpr c20
                                        clear c20
                                        obtain rfl := Option.some.inj H
                                        go_enter Tryd.func19, Tryd.ntmps19
                                        go_wp2
                                        go_ret
                                        exact ⟨by first | rfl | (simp; done) | (simp [*]; done), by repeat (first | exact Drawn0.refl _ | apply Drawn0.step)⟩
                                      · rw [if_neg c20] at H
                                        have c20b0 : (a0 == 257) = false := beq_eq_false_iff_ne.mpr c20
                                        have c20b1 : (a0 != 257) = true := bne_iff_ne.mpr c20
                                        obtain rfl := Option.some.inj H
                                        go_enter Tryd.func19, Tryd.ntmps19
                                        go_wp2
                                        go_ret
                                        exact ⟨by first | rfl | (simp; done) | (simp [*]; done), by repeat (first | exact Drawn0.refl _ | apply Drawn0.step)⟩

end Go.Proofs.YtpbmnokmpihnjaaDoor.F
namespace Go.Proofs.YtpbmnokmpihnjaaDoor.F
open Go Go.Shelf Go.RowKit Go.Proofs.YtpbmnokmpihnjaaDoorW.PrintWords Go.Proofs.YtpbmnokmpihnjaaDoorW.PrintLast Go.Proofs.YtpbmnokmpihnjaaDoorW.PrintMore
attribute [local go_sem] max2_int min2_int max_two min_two max_three min_three max_four min_four   -- for this text's walks alone
set_option linter.unusedVariables false
set_option linter.unusedSimpArgs false

/-! ### spec_l01Digit: function 37 -/
def spec_l01Digit.f (a0 : Int) : Option (Bool) := if a0 ≥ 48 then (some (decide (a0 ≤ 57))) else (some false)
set_option maxHeartbeats 8000000 in
set_option maxRecDepth 100000 in
theorem spec_l01Digit.calls (a0 : Int) (r : Bool) (w : World) (h : spec_l01Digit.f a0 = some r) :
    Calls Tryd.prog 37 #[.int .u8 a0] w fun e w' => e = .returned (.bool r) ∧ Drawn0 w w' := by
  have H : (if a0 ≥ 48 then (some (decide (a0 ≤ 57))) else (some false)) = some r := h
  clear h
  by_cases c2 : a0 ≥ 48
  · rw [if_pos c2] at H
    have c2b0 : decide (48 ≤ a0) = true := decide_eq_true c2
    clear c2
    obtain rfl := Option.some.inj H
    go_enter Tryd.func37, Tryd.ntmps37
    go_wp2
    go_ret
    exact ⟨by first | rfl | (simp; done) | (simp [*]; done), by repeat (first | exact Drawn0.refl _ | apply Drawn0.step)⟩
  · rw [if_neg c2] at H
    have c2b0 : decide (48 ≤ a0) = false := decide_eq_false c2
    clear c2
    obtain rfl := Option.some.inj H
    go_enter Tryd.func37, Tryd.ntmps37
    go_wp2
    go_ret
    exact ⟨by first | rfl | (simp; done) | (simp [*]; done), by repeat (first | exact Drawn0.refl _ | apply Drawn0.step)⟩

end Go.Proofs.YtpbmnokmpihnjaaDoor.F
namespace Go.Proofs.YtpbmnokmpihnjaaDoor.F
open Go Go.Shelf Go.RowKit Go.Proofs.YtpbmnokmpihnjaaDoorW.PrintWords Go.Proofs.YtpbmnokmpihnjaaDoorW.PrintLast Go.Proofs.YtpbmnokmpihnjaaDoorW.PrintMore
attribute [local go_sem] max2_int min2_int max_two min_two max_three min_three max_four min_four   -- for this text's walks alone
set_option linter.unusedVariables false
set_option linter.unusedSimpArgs false

/-! ### spec_l03Number: function 20 -/
mutual
def spec_l03Number.j0 : Nat → ByteArray → Bool → Option (Int × Bool)
  | 0, _, _ => none
  | k + 1, x0, x16 => if x16 = true then (some (0, false)) else (spec_l03Number.l0 k x0 0 0)
def spec_l03Number.l0 : Nat → ByteArray → Int → Int → Option (Int × Bool)
  | 0, _, _, _ => none
  | k + 1, x0, x6, x7 => if x7 < (x0.size : Int) then (if 0 ≤ x7 then ((spec_l01Digit.f (bt x0 x7)).bind fun t101 => (if t101 = true then (spec_l03Number.l0 k x0 (wrap64 ((wrap64 (x6 * 10)) + (((bt x0 x7) - 48) % 256))) (wrap64 (x7 + 1))) else (some (0, false)))) else (none)) else (some (x6, true))
end
def spec_l03Number.f (k : Nat) (a0 : ByteArray) (a1 : Int) : Option (Int × Bool) := if (a0.size : Int) < 1 then (spec_l03Number.j0 k a0 true) else (spec_l03Number.j0 k a0 (decide ((a0.size : Int) > a1)))
theorem spec_l03Number.mono_l : ∀ k, (∀ y0 y1, LeO (spec_l03Number.j0 k y0 y1) (spec_l03Number.j0 (k + 1) y0 y1)) ∧ (∀ y0 y1 y2, LeO (spec_l03Number.l0 k y0 y1 y2) (spec_l03Number.l0 (k + 1) y0 y1 y2))
  | 0 => ⟨fun _ _ r h => by simp [spec_l03Number.j0] at h, fun _ _ _ r h => by simp [spec_l03Number.l0] at h⟩
  | k + 1 => by
    obtain ⟨ih0, ih1⟩ := spec_l03Number.mono_l k
    refine ⟨?_, ?_⟩
    · intro y0 y1
      unfold spec_l03Number.j0
      repeat' first
      | (with_reducible exact ih0 _ _)
      | (with_reducible exact ih1 _ _ _)
      | (with_reducible exact LeO.refl _)
      | (with_reducible exact LeO.none _)
      | (with_reducible refine LeO.ite ?_ ?_)
      | (with_reducible refine LeO.bind ?_ (fun _ => ?_))
      | exact ih0 _ _
      | exact ih1 _ _ _
      | exact LeO.none _
      | refine LeO.ite ?_ ?_
      | refine LeO.bind ?_ (fun _ => ?_)
    · intro y0 y1 y2
      unfold spec_l03Number.l0
      repeat' first
      | (with_reducible exact ih0 _ _)
      | (with_reducible exact ih1 _ _ _)
      | (with_reducible exact LeO.refl _)
      | (with_reducible exact LeO.none _)
      | (with_reducible refine LeO.ite ?_ ?_)
      | (with_reducible refine LeO.bind ?_ (fun _ => ?_))
      | exact ih0 _ _
      | exact ih1 _ _ _
      | exact LeO.none _
      | refine LeO.ite ?_ ?_
      | refine LeO.bind ?_ (fun _ => ?_)
theorem spec_l03Number.mono : ∀ a0 a1 k, LeO (spec_l03Number.f k a0 a1) (spec_l03Number.f (k + 1) a0 a1) := by
  intro a0 a1 k
  obtain ⟨ih0, ih1⟩ := spec_l03Number.mono_l k
  unfold spec_l03Number.f
  repeat' first
      | (with_reducible exact ih0 _ _)
      | (with_reducible exact ih1 _ _ _)
      | (with_reducible exact LeO.refl _)
      | (with_reducible exact LeO.none _)
      | (with_reducible refine LeO.ite ?_ ?_)
      | (with_reducible refine LeO.bind ?_ (fun _ => ?_))
      | exact ih0 _ _
      | exact ih1 _ _ _
      | exact LeO.none _
      | refine LeO.ite ?_ ?_
      | refine LeO.bind ?_ (fun _ => ?_)
set_option maxHeartbeats 8000000 in
set_option maxRecDepth 100000 in
theorem spec_l03Number.calls (k : Nat) (a0 : ByteArray) (a1 : Int) (r1 : Int) (r2 : Bool) (w : World) (h : spec_l03Number.f k a0 a1 = some (r1, r2)) :
    Calls Tryd.prog 20 #[.string a0, .int .i64 a1] w fun e w' => e = .returned (.tuple #[.int .i64 r1, .bool r2]) ∧ Drawn0 w w' := by
  have H : (if (a0.size : Int) < 1 then (spec_l03Number.j0 k a0 true) else (spec_l03Number.j0 k a0 (decide ((a0.size : Int) > a1)))) = some (r1, r2) := h
  clear h
  have HC3 := Aside0.mk H
  clear H
  go_enter Tryd.func20, Tryd.ntmps20
  go_upto_region 1 with (fail)
  go_cut [16] (fun v16 wc => ∃ (kq : Nat) (x16_2 : Bool), v16 = .bool x16_2 ∧ Aside0 (spec_l03Number.j0 kq a0 x16_2 = some (r1, r2)) ∧ Aside0 (kq ≤ k) ∧ Drawn0 w wc)
  case first =>
    have H := HC3.out
    clear HC3
    by_cases c4 : (a0.size : Int) < 1
    · rw [if_pos c4] at H
      have c4b0 : decide ((a0.size : Int) < 1) = true := decide_eq_true c4
      have c4b1 : decide (a0.size < 1) = true := decide_eq_true (by omega)
      clear c4
      (first | rw [c4b0] | (simp only [i64_w, i32_w]; rw [c4b0]) | skip)
      have H' := Aside0.mk H
      clear H
      go_wp2
      go_meet
      case rel => exact ⟨_, (true), (by first | rfl | (simp; done) | (simp [*]; done)), H', ⟨by first | omega | exact Nat.le_refl _⟩, by repeat (first | exact Drawn0.refl _ | apply Drawn0.step)⟩
    · rw [if_neg c4] at H
      have c4b0 : decide ((a0.size : Int) < 1) = false := decide_eq_false c4
      have c4b1 : decide (a0.size < 1) = false := decide_eq_false (by omega)
      clear c4
      (first | rw [c4b0] | (simp only [i64_w, i32_w]; rw [c4b0]) | skip)
      have H' := Aside0.mk H
      clear H
      go_wp2
      go_meet
      case rel => exact ⟨_, (decide ((a0.size : Int) > a1)), (by first | rfl | (simp; done) | (simp [*]; done)), H', ⟨by first | omega | exact Nat.le_refl _⟩, by repeat (first | exact Drawn0.refl _ | apply Drawn0.step)⟩
  case rest =>
    clear HC3
    try clear c2
    try clear p2
    try clear c4
    try clear c4b0
    try clear c4b1
    obtain ⟨kq, x16_2, rfl, HA, HJ2, ⟨mc2, rfl⟩⟩ := hcut
    cases kq with
    | zero => exact absurd HA.out (by simp [spec_l03Number.j0])
    | succ kj2 =>
      have H := HA.out
      clear HA
      simp only [spec_l03Number.j0] at H
      by_cases c5 : x16_2 = true
      · subst c5
        have H1 : (some (0, false)) = some (r1, r2) := by rw [if_pos rfl] at H; exact H
        clear H
        have H := H1
        clear H1
        simp only [Option.some.injEq, Prod.mk.injEq] at H
        obtain ⟨rfl, rfl⟩ := H
        go_wp2
        go_ret2
        exact ⟨by first | rfl | (simp; done) | (simp [*]; done), by repeat (first | exact Drawn0.refl _ | apply Drawn0.step)⟩
      · replace c5 := Bool.eq_false_iff.mpr c5
        subst c5
        have H1 : (spec_l03Number.l0 kj2 a0 0 0) = some (r1, r2) := by rw [if_neg (show ¬ (false = true) by decide)] at H; exact H
        clear H
        have H := H1
        clear H1
        have H' := Aside0.mk H
        clear H
        go_wp2
        go_loopg [6, 7] kj2 (fun kq v6 v7 w' => ∃ (x6_2 : Int) (x7_2 : Int), v6 = .int .i64 x6_2 ∧ v7 = .int .i64 x7_2 ∧ Aside0 (spec_l03Number.l0 kq a0 x6_2 x7_2 = some (r1, r2)) ∧ Aside0 (kq ≤ kj2) ∧ Drawn0 w w')
        case atStart => exact ⟨(0), (0), (by first | rfl | (simp; done) | (simp [*]; done)), (by first | rfl | (simp; done) | (simp [*]; done)), H', ⟨Nat.le_refl _⟩, by repeat (first | exact Drawn0.refl _ | apply Drawn0.step)⟩
        case round =>
          clear H'
          try clear c2
          try clear p2
          try clear c4
          try clear c4b0
          try clear c4b1
          try clear c5
          try clear p2
          obtain ⟨x6_2, x7_2, rfl, rfl, HA, HK2, ⟨m2, rfl⟩⟩ := hrel
          cases gk with
          | zero => exact absurd HA.out (by simp [spec_l03Number.l0])
          | succ k2 =>
            have H := HA.out
            clear HA
            simp only [spec_l03Number.l0] at H
            by_cases c6 : x7_2 < (a0.size : Int)
            · rw [if_pos c6] at H
              have c6b0 : decide (x7_2 < (a0.size : Int)) = true := decide_eq_true c6
              clear c6
              by_cases c7 : 0 ≤ x7_2
              · rw [if_pos c7] at H
                have c7b0 : decide (0 ≤ x7_2) = true := decide_eq_true c7
                clear c7
                replace H := Option.bind_eq_some_iff.mp H
                obtain ⟨t101, A90, H⟩ := H
                replace H : (if t101 = true then (spec_l03Number.l0 k2 a0 (wrap64 ((wrap64 (x6_2 * 10)) + (((bt a0 x7_2) - 48) % 256))) (wrap64 (x7_2 + 1))) else (some (0, false))) = some (r1, r2) := H
                have A9 := Aside0.mk A90
                clear A90
                by_cases c10 : t101 = true
                · subst c10
                  have H1 : (spec_l03Number.l0 k2 a0 (wrap64 ((wrap64 (x6_2 * 10)) + (((bt a0 x7_2) - 48) % 256))) (wrap64 (x7_2 + 1))) = some (r1, r2) := by rw [if_pos rfl] at H; exact H
                  clear H
                  have H := H1
                  clear H1
                  have H' := Aside0.mk H
                  clear H
                  have p8 : 0 ≤ (x7_2 : Int) := of_decide_eq_true (by first | (with_reducible assumption) | assumption)
                  have q8 : x7_2 < (a0.size : Int) := of_decide_eq_true (by first | (with_reducible assumption) | assumption)
                  have hx8 := bt_at a0 x7_2
                  replace p8 := eq_true p8
                  replace q8 := eq_true q8
                  go_wp2_with (first | ((with_reducible refine gate_callee (f := 37) rfl ?_); refine goesL_ (some 26) rfl rfl Tryd.func37 (by kernel_rfl) rfl #[.int .u8 (bt a0 x7_2)] rfl (by (try simp only [List.map_toArray, List.map_cons, List.map_nil]); first | done | rfl | (simp only [List.length_drop, List.length_take]; rfl)) ?_; (with_reducible refine (spec_l01Digit.calls (bt a0 x7_2) true _ A9.out).mono ?_); rintro e w' ⟨rfl, ⟨nd, rfl⟩⟩; refine ⟨_, rfl, ?_⟩; have p11 : 0 ≤ (x7_2 : Int) := of_decide_eq_true (by first | (with_reducible assumption) | assumption); have q11 : x7_2 < (a0.size : Int) := of_decide_eq_true (by first | (with_reducible assumption) | assumption); have hx11 := bt_at a0 x7_2; replace p11 := eq_true p11; replace q11 := eq_true q11))
                  go_roundg k2
                  case measure => have := HJ2.out; have := HK2.out; omega
                  case rel => exact ⟨(wrap64 ((wrap64 (x6_2 * 10)) + (((bt a0 x7_2) - 48) % 256))), (wrap64 (x7_2 + 1)), (by first | rfl | (simp; done) | (simp [*]; done)), (by first | rfl | (simp; done) | (simp [*]; done)), H', ⟨by have := HJ2.out; have := HK2.out; omega⟩, by repeat (first | exact Drawn0.refl _ | apply Drawn0.step)⟩
                · replace c10 := Bool.eq_false_iff.mpr c10
                  subst c10
                  have H1 : (some (0, false)) = some (r1, r2) := by rw [if_neg (show ¬ (false = true) by decide)] at H; exact H
                  clear H
                  have H := H1
                  clear H1
                  simp only [Option.some.injEq, Prod.mk.injEq] at H
                  obtain ⟨rfl, rfl⟩ := H
                  have p8 : 0 ≤ (x7_2 : Int) := of_decide_eq_true (by first | (with_reducible assumption) | assumption)
                  have q8 : x7_2 < (a0.size : Int) := of_decide_eq_true (by first | (with_reducible assumption) | assumption)
                  have hx8 := bt_at a0 x7_2
                  replace p8 := eq_true p8
                  replace q8 := eq_true q8
                  go_wp2_with (first | ((with_reducible refine gate_callee (f := 37) rfl ?_); refine goesL_ (some 26) rfl rfl Tryd.func37 (by kernel_rfl) rfl #[.int .u8 (bt a0 x7_2)] rfl (by (try simp only [List.map_toArray, List.map_cons, List.map_nil]); first | done | rfl | (simp only [List.length_drop, List.length_take]; rfl)) ?_; (with_reducible refine (spec_l01Digit.calls (bt a0 x7_2) false _ A9.out).mono ?_); rintro e w' ⟨rfl, ⟨nd, rfl⟩⟩; refine ⟨_, rfl, ?_⟩))
                  go_ret2
                  exact ⟨by first | rfl | (simp; done) | (simp [*]; done), by repeat (first | exact Drawn0.refl _ | apply Drawn0.step)⟩
              · rw [if_neg c7] at H
                exact absurd H (by simp)
            · rw [if_neg c6] at H
              have c6b0 : decide (x7_2 < (a0.size : Int)) = false := decide_eq_false c6
              clear c6
              simp only [Option.some.injEq, Prod.mk.injEq] at H
              obtain ⟨rfl, rfl⟩ := H
              go_wp2
              go_ret2
              exact ⟨by first | rfl | (simp; done) | (simp [*]; done), by repeat (first | exact Drawn0.refl _ | apply Drawn0.step)⟩

end Go.Proofs.YtpbmnokmpihnjaaDoor.F
namespace Go.Proofs.YtpbmnokmpihnjaaDoor.F
open Go Go.Shelf Go.RowKit Go.Proofs.YtpbmnokmpihnjaaDoorW.PrintWords Go.Proofs.YtpbmnokmpihnjaaDoorW.PrintLast Go.Proofs.YtpbmnokmpihnjaaDoorW.PrintMore
attribute [local go_sem] max2_int min2_int max_two min_two max_three min_three max_four min_four   -- for this text's walks alone
set_option linter.unusedVariables false
set_option linter.unusedSimpArgs false

/-! ### spec_ReadType: function 8 -/
mutual
def spec_ReadType.l0 : Nat → ByteArray → ByteArray → Int → Option (Int × Int)
  | 0, _, _, _ => none
  | k + 1, x0, x4, x5 => if x5 ≤ 257 then (if x0.toList = ([] : List UInt8) then (spec_ReadType.l0 k x0 x4 (wrap64 (x5 + 1))) else ((spec_l03Mnemonic.f x5).bind fun t102 => ((spec_l01Small.f k t102).bind fun t103 => (if t103.toList = x4.toList then (some (x5, 0)) else (spec_ReadType.l0 k x0 x4 (wrap64 (x5 + 1))))))) else (if (x4.size : Int) < 5 then (spec_ReadType.j1 k x4 true) else (if 0 ≤ 4 then (if 4 ≤ (x4.size : Int) then (spec_ReadType.j1 k x4 ((x4.extract 0 4).toList != ([116, 121, 112, 101] : List UInt8))) else (none)) else (none)))
def spec_ReadType.j1 : Nat → ByteArray → Bool → Option (Int × Int)
  | 0, _, _ => none
  | k + 1, x4, x34 => if x34 = true then (some (0, 6)) else (if 4 ≤ (x4.size : Int) then ((spec_l03Number.f k (x4.extract 4 x4.size) 5).bind fun bt104 => (if bt104.2 = true then (if bt104.1 > 65535 then (some (0, 6)) else (some (bt104.1, 0))) else (some (0, 6)))) else (none))
end
def spec_ReadType.f (k : Nat) (a0 : ByteArray) : Option (Int × Int) := (spec_l01Small.f k a0).bind fun t101 => (if (a0.size : Int) > 9 then (some (0, 6)) else (spec_ReadType.l0 k a0 t101 1))
theorem spec_ReadType.mono_l : ∀ k, (∀ y0 y1 y2, LeO (spec_ReadType.l0 k y0 y1 y2) (spec_ReadType.l0 (k + 1) y0 y1 y2)) ∧ (∀ y0 y1, LeO (spec_ReadType.j1 k y0 y1) (spec_ReadType.j1 (k + 1) y0 y1))
  | 0 => ⟨fun _ _ _ r h => by simp [spec_ReadType.l0] at h, fun _ _ r h => by simp [spec_ReadType.j1] at h⟩
  | k + 1 => by
    obtain ⟨ih0, ih1⟩ := spec_ReadType.mono_l k
    refine ⟨?_, ?_⟩
    · intro y0 y1 y2
      unfold spec_ReadType.l0
      repeat' first
      | (with_reducible exact ih0 _ _ _)
      | (with_reducible exact ih1 _ _)
      | (with_reducible exact spec_l01Small.mono _ _)
      | (with_reducible exact spec_l03Number.mono _ _ _)
      | (with_reducible exact LeO.refl _)
      | (with_reducible exact LeO.none _)
      | (with_reducible refine LeO.ite ?_ ?_)
      | (with_reducible refine LeO.bind ?_ (fun _ => ?_))
      | exact ih0 _ _ _
      | exact ih1 _ _
      | exact spec_l01Small.mono _ _
      | exact spec_l03Number.mono _ _ _
      | exact LeO.none _
      | refine LeO.ite ?_ ?_
      | refine LeO.bind ?_ (fun _ => ?_)
    · intro y0 y1
      unfold spec_ReadType.j1
      repeat' first
      | (with_reducible exact ih0 _ _ _)
      | (with_reducible exact ih1 _ _)
      | (with_reducible exact spec_l01Small.mono _ _)
      | (with_reducible exact spec_l03Number.mono _ _ _)
      | (with_reducible exact LeO.refl _)
      | (with_reducible exact LeO.none _)
      | (with_reducible refine LeO.ite ?_ ?_)
      | (with_reducible refine LeO.bind ?_ (fun _ => ?_))
      | exact ih0 _ _ _
      | exact ih1 _ _
      | exact spec_l01Small.mono _ _
      | exact spec_l03Number.mono _ _ _
      | exact LeO.none _
      | refine LeO.ite ?_ ?_
      | refine LeO.bind ?_ (fun _ => ?_)
theorem spec_ReadType.mono : ∀ a0 k, LeO (spec_ReadType.f k a0) (spec_ReadType.f (k + 1) a0) := by
  intro a0 k
  obtain ⟨ih0, ih1⟩ := spec_ReadType.mono_l k
  unfold spec_ReadType.f
  repeat' first
      | (with_reducible exact ih0 _ _ _)
      | (with_reducible exact ih1 _ _)
      | (with_reducible exact spec_l01Small.mono _ _)
      | (with_reducible exact spec_l03Number.mono _ _ _)
      | (with_reducible exact LeO.refl _)
      | (with_reducible exact LeO.none _)
      | (with_reducible refine LeO.ite ?_ ?_)
      | (with_reducible refine LeO.bind ?_ (fun _ => ?_))
      | exact ih0 _ _ _
      | exact ih1 _ _
      | exact spec_l01Small.mono _ _
      | exact spec_l03Number.mono _ _ _
      | exact LeO.none _
      | refine LeO.ite ?_ ?_
      | refine LeO.bind ?_ (fun _ => ?_)
set_option maxHeartbeats 8000000 in
set_option maxRecDepth 100000 in
theorem spec_ReadType.calls (k : Nat) (a0 : ByteArray) (r1 : Int) (r2 : Int) (w : World) (h : spec_ReadType.f k a0 = some (r1, r2)) :
    Calls Tryd.prog 8 #[.string a0] w fun e w' => e = .returned (.tuple #[.int .i64 r1, .int .i64 r2]) ∧ Below w.heap.size w w' := by
  have HB := Aside0.mk (Below.refl w.heap.size w)
  have H : ((spec_l01Small.f k a0).bind fun t101 => (if (a0.size : Int) > 9 then (some (0, 6)) else (spec_ReadType.l0 k a0 t101 1))) = some (r1, r2) := h
  clear h
  replace H := Option.bind_eq_some_iff.mp H
  obtain ⟨t101, A20, H⟩ := H
  replace H : (if (a0.size : Int) > 9 then (some (0, 6)) else (spec_ReadType.l0 k a0 t101 1)) = some (r1, r2) := H
  have A2 := Aside0.mk A20
  clear A20
  by_cases c3 : (a0.size : Int) > 9
  · rw [if_pos c3] at H
    have c3b0 : decide (9 < (a0.size : Int)) = true := decide_eq_true c3
    have c3b1 : decide (9 < a0.size) = true := decide_eq_true (by omega)
    clear c3
    simp only [Option.some.injEq, Prod.mk.injEq] at H
    obtain ⟨rfl, rfl⟩ := H
    go_enter Tryd.func8, Tryd.ntmps8
    go_wp2_with (first | ((with_reducible refine gate_callee (f := 18) rfl ?_); refine goesL_ (some 9) rfl rfl Tryd.func18 (by kernel_rfl) rfl #[.string a0] rfl (by (try simp only [List.map_toArray, List.map_cons, List.map_nil]); first | done | rfl | (simp only [List.length_drop, List.length_take]; rfl)) ?_; (with_reducible refine (spec_l01Small.calls k a0 t101 _ A2.out).mono ?_); rintro e w4 ⟨rfl, hb⟩; refine ⟨_, rfl, ?_⟩; have n0_ := Aside0.mk (below_step (by repeat (first | (with_reducible first | exact HB.out | apply below_alloc | apply pw_below_drewN | apply below_drew1) | exact HB.out)) hb); clear HB; have HB := n0_; clear n0_; (try clear hb); (try clear hb2); (try clear hk); (try clear hi)))
    go_ret2
    exact ⟨by first | rfl | (simp [errW_none, errW_some] <;> rfl) | (simp [*, errW_none, errW_some] <;> rfl), by repeat (first | (with_reducible first | exact HB.out | apply below_alloc | apply pw_below_drewN | apply below_drew1) | exact HB.out)⟩
  · rw [if_neg c3] at H
    have c3b0 : decide (9 < (a0.size : Int)) = false := decide_eq_false c3
    have c3b1 : decide (9 < a0.size) = false := decide_eq_false (by omega)
    clear c3
    have H' := Aside0.mk H
    clear H
    go_enter Tryd.func8, Tryd.ntmps8
    go_wp2_with (first | ((with_reducible refine gate_callee (f := 18) rfl ?_); refine goesL_ (some 9) rfl rfl Tryd.func18 (by kernel_rfl) rfl #[.string a0] rfl (by (try simp only [List.map_toArray, List.map_cons, List.map_nil]); first | done | rfl | (simp only [List.length_drop, List.length_take]; rfl)) ?_; (with_reducible refine (spec_l01Small.calls k a0 t101 _ A2.out).mono ?_); rintro e w5 ⟨rfl, hb⟩; refine ⟨_, rfl, ?_⟩; have n0_ := Aside0.mk (below_step (by repeat (first | (with_reducible first | exact HB.out | apply below_alloc | apply pw_below_drewN | apply below_drew1) | exact HB.out)) hb); clear HB; have HB := n0_; clear n0_; (try clear hb); (try clear hb2); (try clear hk); (try clear hi)))
    go_loopg [5] k (fun kq v5 w' => ∃ (x5_1 : Int), v5 = .int .i64 x5_1 ∧ Aside0 (spec_ReadType.l0 kq a0 t101 x5_1 = some (r1, r2)) ∧ Aside0 (kq ≤ k) ∧ Aside0 (Below w.heap.size w w'))
    case atStart => exact ⟨(1), (by first | rfl | (simp; done) | (simp [*]; done)), H', ⟨Nat.le_refl _⟩, ⟨by repeat (first | (with_reducible first | exact HB.out | apply below_alloc | apply pw_below_drewN | apply below_drew1) | exact HB.out)⟩⟩
    case round =>
      clear H'
      try clear c1
      try clear p2
      try clear c3
      try clear c3b0
      try clear c3b1
      obtain ⟨x5_1, rfl, HA, HK1, HB⟩ := hrel
      cases gk with
      | zero => exact absurd HA.out (by simp [spec_ReadType.l0])
      | succ k1 =>
        have H := HA.out
        clear HA
        simp only [spec_ReadType.l0] at H
        by_cases c6 : x5_1 ≤ 257
        · rw [if_pos c6] at H
          have c6b0 : decide (x5_1 ≤ 257) = true := decide_eq_true c6
          clear c6
          by_cases c7 : a0.toList = ([] : List UInt8)
          · rw [if_pos c7] at H
            have c7b0 : (a0.toList == ([] : List UInt8)) = true := beq_iff_eq.mpr c7
            have c7b1 : (a0.toList != ([] : List UInt8)) = false := bne_eq_false_iff_eq.mpr c7
            clear c7
            have H' := Aside0.mk H
            clear H
            go_wp2
            go_roundg k1
            case measure => have := HK1.out; omega
            case rel => exact ⟨(wrap64 (x5_1 + 1)), (by first | rfl | (simp; done) | (simp [*]; done)), H', ⟨by have := HK1.out; omega⟩, ⟨by repeat (first | (with_reducible first | exact HB.out | apply below_alloc | apply pw_below_drewN | apply below_drew1) | exact HB.out)⟩⟩
          · rw [if_neg c7] at H
            have c7b0 : (a0.toList == ([] : List UInt8)) = false := beq_eq_false_iff_ne.mpr c7
            have c7b1 : (a0.toList != ([] : List UInt8)) = true := bne_iff_ne.mpr c7
            replace H := Option.bind_eq_some_iff.mp H
            obtain ⟨t102, A80, H⟩ := H
            replace H : ((spec_l01Small.f k1 t102).bind fun t103 => (if t103.toList = t101.toList then (some (x5_1, 0)) else (spec_ReadType.l0 k1 a0 t101 (wrap64 (x5_1 + 1))))) = some (r1, r2) := H
            have A8 := Aside0.mk A80
            clear A80
            replace H := Option.bind_eq_some_iff.mp H
            obtain ⟨t103, A90, H⟩ := H
            replace H : (if t103.toList = t101.toList then (some (x5_1, 0)) else (spec_ReadType.l0 k1 a0 t101 (wrap64 (x5_1 + 1)))) = some (r1, r2) := H
            have A9 := Aside0.mk A90
            clear A90
            by_cases c10 : t103.toList = t101.toList
            · rw [if_pos c10] at H
              have c10b0 : (t103.toList == t101.toList) = true := beq_iff_eq.mpr c10
              have c10b1 : (t103.toList != t101.toList) = false := bne_eq_false_iff_eq.mpr c10
              clear c10
              simp only [Option.some.injEq, Prod.mk.injEq] at H
              obtain ⟨rfl, rfl⟩ := H
              go_wp2_with (first | (go_at_call 19; (with_reducible refine (spec_l03Mnemonic.calls x5_1 t102 _ A8.out).mono ?_); rintro e w' ⟨rfl, ⟨nd, rfl⟩⟩) | (go_at_call 18; (with_reducible refine (spec_l01Small.calls k1 t102 t103 _ A9.out).mono ?_); rintro e w11 ⟨rfl, hb⟩; have n0_ := Aside0.mk (below_step (by repeat (first | (with_reducible first | exact HB.out | apply below_alloc | apply pw_below_drewN | apply below_drew1) | exact HB.out)) hb); clear HB; have HB := n0_; clear n0_; (try clear hb); (try clear hb2); (try clear hk); (try clear hi)))
              go_ret2
              exact ⟨by first | rfl | (simp [errW_none, errW_some] <;> rfl) | (simp [*, errW_none, errW_some] <;> rfl), by repeat (first | (with_reducible first | exact HB.out | apply below_alloc | apply pw_below_drewN | apply below_drew1) | exact HB.out)⟩
            · rw [if_neg c10] at H
              have c10b0 : (t103.toList == t101.toList) = false := beq_eq_false_iff_ne.mpr c10
              have c10b1 : (t103.toList != t101.toList) = true := bne_iff_ne.mpr c10
              have H' := Aside0.mk H
              clear H
              go_wp2_with (first | (go_at_call 19; (with_reducible refine (spec_l03Mnemonic.calls x5_1 t102 _ A8.out).mono ?_); rintro e w' ⟨rfl, ⟨nd, rfl⟩⟩) | (go_at_call 18; (with_reducible refine (spec_l01Small.calls k1 t102 t103 _ A9.out).mono ?_); rintro e w12 ⟨rfl, hb⟩; have n0_ := Aside0.mk (below_step (by repeat (first | (with_reducible first | exact HB.out | apply below_alloc | apply pw_below_drewN | apply below_drew1) | exact HB.out)) hb); clear HB; have HB := n0_; clear n0_; (try clear hb); (try clear hb2); (try clear hk); (try clear hi)))
              go_roundg k1
              case measure => have := HK1.out; omega
              case rel => exact ⟨(wrap64 (x5_1 + 1)), (by first | rfl | (simp; done) | (simp [*]; done)), H', ⟨by have := HK1.out; omega⟩, ⟨by repeat (first | (with_reducible first | exact HB.out | apply below_alloc | apply pw_below_drewN | apply below_drew1) | exact HB.out)⟩⟩
        · rw [if_neg c6] at H
          have c6b0 : decide (x5_1 ≤ 257) = false := decide_eq_false c6
          clear c6
          have HC13 := Aside0.mk H
          clear H
          go_upto_region 9 with (fail)
          go_cut [34] (fun v34 wc => ∃ (kq : Nat) (x34_12 : Bool), v34 = .bool x34_12 ∧ Aside0 (spec_ReadType.j1 kq t101 x34_12 = some (r1, r2)) ∧ Aside0 (kq ≤ k1) ∧ Aside0 (Below w.heap.size w wc))
          case first =>
            have H := HC13.out
            clear HC13
            by_cases c14 : (t101.size : Int) < 5
            · rw [if_pos c14] at H
              have c14b0 : decide ((t101.size : Int) < 5) = true := decide_eq_true c14
              have c14b1 : decide (t101.size < 5) = true := decide_eq_true (by omega)
              clear c14
              (first | rw [c14b0] | (simp only [i64_w, i32_w]; rw [c14b0]) | skip)
              have H' := Aside0.mk H
              clear H
              go_wp2
              go_meet
              case rel => exact ⟨_, (true), (by first | rfl | (simp; done) | (simp [*]; done)), H', ⟨by have := HK1.out; first | omega | exact Nat.le_refl _⟩, ⟨by repeat (first | (with_reducible first | exact HB.out | apply below_alloc | apply pw_below_drewN | apply below_drew1) | exact HB.out)⟩⟩
            · rw [if_neg c14] at H
              have c14b0 : decide ((t101.size : Int) < 5) = false := decide_eq_false c14
              have c14b1 : decide (t101.size < 5) = false := decide_eq_false (by omega)
              clear c14
              (first | rw [c14b0] | (simp only [i64_w, i32_w]; rw [c14b0]) | skip)
              by_cases c15 : 0 ≤ 4
              · rw [if_pos c15] at H
                have c15b0 := eq_true c15
                have c15b1 : decide (0 ≤ 4) = true := decide_eq_true c15
                clear c15
                by_cases c16 : 4 ≤ (t101.size : Int)
                · rw [if_pos c16] at H
                  have c16b0 := eq_true c16
                  have c16b1 : decide (4 ≤ (t101.size : Int)) = true := decide_eq_true c16
                  clear c16
                  have H' := Aside0.mk H
                  clear H
                  go_wp2
                  go_meet
                  case rel => exact ⟨_, (((t101.extract 0 4).toList != ([116, 121, 112, 101] : List UInt8))), (by first | rfl | (simp; done) | (simp [*]; done)), H', ⟨by have := HK1.out; first | omega | exact Nat.le_refl _⟩, ⟨by repeat (first | (with_reducible first | exact HB.out | apply below_alloc | apply pw_below_drewN | apply below_drew1) | exact HB.out)⟩⟩
                · rw [if_neg c16] at H
                  exact absurd H (by simp)
              · rw [if_neg c15] at H
                exact absurd H (by simp)
          case rest =>
            clear HC13
            try clear c1
            try clear p2
            try clear c3
            try clear c3b0
            try clear c3b1
            try clear c6
            try clear c6b0
            try clear p6
            try clear c7
            try clear c7b0
            try clear c7b1
            try clear c8
            try clear c10
            try clear c10b0
            try clear c10b1
            try clear c14
            try clear c14b0
            try clear c14b1
            try clear c15
            try clear c15b0
            try clear c15b1
            try clear c16
            try clear c16b0
            try clear c16b1
            try clear p2
            obtain ⟨kq, x34_12, rfl, HA, HJ12, HB⟩ := hcut
            cases kq with
            | zero => exact absurd HA.out (by simp [spec_ReadType.j1])
            | succ kj12 =>
              have H := HA.out
              clear HA
              simp only [spec_ReadType.j1] at H
              by_cases c17 : x34_12 = true
              · subst c17
                have H1 : (some (0, 6)) = some (r1, r2) := by rw [if_pos rfl] at H; exact H
                clear H
                have H := H1
                clear H1
                simp only [Option.some.injEq, Prod.mk.injEq] at H
                obtain ⟨rfl, rfl⟩ := H
                go_wp2
                go_ret2
                exact ⟨by first | rfl | (simp [errW_none, errW_some] <;> rfl) | (simp [*, errW_none, errW_some] <;> rfl), by repeat (first | (with_reducible first | exact HB.out | apply below_alloc | apply pw_below_drewN | apply below_drew1) | exact HB.out)⟩
              · replace c17 := Bool.eq_false_iff.mpr c17
                subst c17
                have H1 : (if 4 ≤ (t101.size : Int) then ((spec_l03Number.f kj12 (t101.extract 4 t101.size) 5).bind fun bt104 => (if bt104.2 = true then (if bt104.1 > 65535 then (some (0, 6)) else (some (bt104.1, 0))) else (some (0, 6)))) else (none)) = some (r1, r2) := by rw [if_neg (show ¬ (false = true) by decide)] at H; exact H
                clear H
                have H := H1
                clear H1
                by_cases c18 : 4 ≤ (t101.size : Int)
                · rw [if_pos c18] at H
                  have c18b0 := eq_true c18
                  have c18b1 : decide (4 ≤ (t101.size : Int)) = true := decide_eq_true c18
                  clear c18
                  replace H := Option.bind_eq_some_iff.mp H
                  obtain ⟨⟨t104, t105⟩, A190, H⟩ := H
                  replace H : (if t105 = true then (if t104 > 65535 then (some (0, 6)) else (some (t104, 0))) else (some (0, 6))) = some (r1, r2) := H
                  have A19 := Aside0.mk A190
                  clear A190
                  by_cases c20 : t105 = true
                  · subst c20
                    have H1 : (if t104 > 65535 then (some (0, 6)) else (some (t104, 0))) = some (r1, r2) := by rw [if_pos rfl] at H; exact H
                    clear H
                    have H := H1
                    clear H1
                    by_cases c21 : t104 > 65535
                    · rw [if_pos c21] at H
                      have c21b0 : decide (65535 < t104) = true := decide_eq_true c21
                      clear c21
                      simp only [Option.some.injEq, Prod.mk.injEq] at H
                      obtain ⟨rfl, rfl⟩ := H
                      go_wp2_with (first | ((with_reducible refine gate_callee (f := 20) rfl ?_); refine goesL_ (some 38) rfl rfl Tryd.func20 (by kernel_rfl) rfl #[.string (t101.extract 4 t101.size), .int .i64 5] rfl (by (try simp only [List.map_toArray, List.map_cons, List.map_nil]); first | done | rfl | (simp only [List.length_drop, List.length_take]; rfl)) ?_; (with_reducible refine (spec_l03Number.calls kj12 (t101.extract 4 t101.size) 5 t104 true _ A19.out).mono ?_); rintro e w' ⟨rfl, ⟨nd, rfl⟩⟩; refine ⟨_, rfl, ?_⟩))
                      go_ret2
                      exact ⟨by first | rfl | (simp [errW_none, errW_some] <;> rfl) | (simp [*, errW_none, errW_some] <;> rfl), by repeat (first | (with_reducible first | exact HB.out | apply below_alloc | apply pw_below_drewN | apply below_drew1) | exact HB.out)⟩
                    · rw [if_neg c21] at H
                      have c21b0 : decide (65535 < t104) = false := decide_eq_false c21
                      clear c21
                      simp only [Option.some.injEq, Prod.mk.injEq] at H
                      obtain ⟨rfl, rfl⟩ := H
                      go_wp2_with (first | ((with_reducible refine gate_callee (f := 20) rfl ?_); refine goesL_ (some 38) rfl rfl Tryd.func20 (by kernel_rfl) rfl #[.string (t101.extract 4 t101.size), .int .i64 5] rfl (by (try simp only [List.map_toArray, List.map_cons, List.map_nil]); first | done | rfl | (simp only [List.length_drop, List.length_take]; rfl)) ?_; (with_reducible refine (spec_l03Number.calls kj12 (t101.extract 4 t101.size) 5 t104 true _ A19.out).mono ?_); rintro e w' ⟨rfl, ⟨nd, rfl⟩⟩; refine ⟨_, rfl, ?_⟩))
                      go_ret2
                      exact ⟨by first | rfl | (simp [errW_none, errW_some] <;> rfl) | (simp [*, errW_none, errW_some] <;> rfl), by repeat (first | (with_reducible first | exact HB.out | apply below_alloc | apply pw_below_drewN | apply below_drew1) | exact HB.out)⟩
                  · replace c20 := Bool.eq_false_iff.mpr c20
                    subst c20
                    have H1 : (some (0, 6)) = some (r1, r2) := by rw [if_neg (show ¬ (false = true) by decide)] at H; exact H
                    clear H
                    have H := H1
                    clear H1
                    simp only [Option.some.injEq, Prod.mk.injEq] at H
                    obtain ⟨rfl, rfl⟩ := H
                    go_wp2_with (first | ((with_reducible refine gate_callee (f := 20) rfl ?_); refine goesL_ (some 38) rfl rfl Tryd.func20 (by kernel_rfl) rfl #[.string (t101.extract 4 t101.size), .int .i64 5] rfl (by (try simp only [List.map_toArray, List.map_cons, List.map_nil]); first | done | rfl | (simp only [List.length_drop, List.length_take]; rfl)) ?_; (with_reducible refine (spec_l03Number.calls kj12 (t101.extract 4 t101.size) 5 t104 false _ A19.out).mono ?_); rintro e w' ⟨rfl, ⟨nd, rfl⟩⟩; refine ⟨_, rfl, ?_⟩))
                    go_ret2
                    exact ⟨by first | rfl | (simp [errW_none, errW_some] <;> rfl) | (simp [*, errW_none, errW_some] <;> rfl), by repeat (first | (with_reducible first | exact HB.out | apply below_alloc | apply pw_below_drewN | apply below_drew1) | exact HB.out)⟩
                · rw [if_neg c18] at H
                  exact absurd H (by simp)

end Go.Proofs.YtpbmnokmpihnjaaDoor.F
namespace Go.Proofs.YtpbmnokmpihnjaaDoor.F
open Go Go.Shelf Go.RowKit Go.Proofs.YtpbmnokmpihnjaaDoorW.PrintWords Go.Proofs.YtpbmnokmpihnjaaDoorW.PrintLast Go.Proofs.YtpbmnokmpihnjaaDoorW.PrintMore
attribute [local go_sem] max2_int min2_int max_two min_two max_three min_three max_four min_four   -- for this text's walks alone
set_option linter.unusedVariables false
set_option linter.unusedSimpArgs false

/-! ### impl_fold: function 21 -/
def low8 (x : Int) : Int := if 65 ≤ x ∧ x ≤ 90 then x + 32 else x
def impl_fold.f (a0 : ByteArray) : Option (ByteArray) := if a0.size ≤ 140737488355328 then some (strOfNums ((bytesOf a0).map low8)) else none
theorem impl_fold.step (s : ByteArray) (k : Nat) (hk : k < s.size) (v : Int) (hv : v = low8 (bt s (k : Int))) : (((bytesOf s).map low8).take k ++ (bytesOf s).drop k).set k v = ((bytesOf s).map low8).take (k + 1) ++ (bytesOf s).drop (k + 1) := by
  have hl := bytesOf_length s
  have hb : (bytesOf s)[k]'(by omega) = bt s (k : Int) := by
    rw [← rd_bytesOf]
    simp [rd, List.getD_eq_getElem?_getD, hl, hk]
  rw [List.set_append_right _ _ (by simp; omega), List.length_take, List.length_map, hl, Nat.min_eq_left (by omega), Nat.sub_self, List.drop_eq_getElem_cons (by omega), List.set_cons_zero, List.take_succ_eq_append_getElem (by simp; omega), List.append_assoc]
  simp [hb, hv]
theorem impl_fold.same (s : ByteArray) (k : Nat) (hk : k < s.size) (hv : low8 (bt s (k : Int)) = bt s (k : Int)) : ((bytesOf s).map low8).take k ++ (bytesOf s).drop k = ((bytesOf s).map low8).take (k + 1) ++ (bytesOf s).drop (k + 1) := by
  have hl := bytesOf_length s
  have hb : (bytesOf s)[k]'(by omega) = bt s (k : Int) := by
    rw [← rd_bytesOf]
    simp [rd, List.getD_eq_getElem?_getD, hl, hk]
  rw [List.drop_eq_getElem_cons (by omega), List.take_succ_eq_append_getElem (by simp; omega), List.append_assoc]
  simp [hb, hv]
theorem impl_fold.at_ (s : ByteArray) (k : Nat) (hk : k < s.size) : (((bytesOf s).map low8).take k ++ (bytesOf s).drop k).getD k 0 = bt s (k : Int) := by
  have hl := bytesOf_length s
  rw [← rd_bytesOf]
  simp [rd, List.getD_eq_getElem?_getD, List.getElem?_append_right, hl, hk, Nat.min_eq_left (Nat.le_of_lt hk)]
set_option maxHeartbeats 1000000 in
set_option maxRecDepth 100000 in
theorem impl_fold.calls (a0 : ByteArray) (r : ByteArray) (w : World) (h : impl_fold.f a0 = some r) :
    Calls Tryd.prog 21 #[.string a0] w fun e w' => e = .returned (.string r) ∧ Below w.heap.size w w' := by
  unfold impl_fold.f at h
  split at h
  case isFalse => cases h
  case isTrue hs =>
  obtain rfl := Option.some.inj h
  have hcv := fun W => Lib.run_convert_string_bytes (P := Tryd.prog) W 9 38 5 a0 Tryd.underlying9 Tryd.underlying38 Tryd.underlying5
  have hl := bytesOf_length a0
  go_enter Tryd.func21, Tryd.ntmps21
  go_wp2
  go_loopw [10] (fun i wr => ∃ k : Nat, k ≤ a0.size ∧ i = .int .i64 k ∧ Aside0 (Go.Proofs.YtpbmnokmpihnjaaDoorW.XConv.Row8 wr w.heap.size 5 (((bytesOf a0).map low8).take k ++ (bytesOf a0).drop k)) ∧ Aside0 (Below w.heap.size w wr)) (fun i _ => a0.size - (intOf i).toNat)
  case atStart => exact ⟨0, Nat.zero_le _, rfl, ⟨by simpa using Go.Proofs.YtpbmnokmpihnjaaDoorW.XConv.Row8.conv w 5 a0⟩, ⟨bytes_below (Below.refl _ _) (Nat.le_refl _) _ _⟩⟩
  case round =>
    obtain ⟨k, hk, rfl, HR, HB⟩ := hrel
    by_cases hlt : k < a0.size
    · have hlen : (((bytesOf a0).map low8).take k ++ (bytesOf a0).drop k).length = a0.size := by simp [hl]; omega
      have hcell := HR.out.cell k (by omega)
      rw [impl_fold.at_ a0 k hlt] at hcell
      have hfr := HR.out.frozen k (by omega)
      have Hlen := Aside0.mk hlen
      clear hlen hl
      have hbr := bt_range a0 (k : Int)
      have hlt2 : decide ((k : Int) < (a0.size : Int)) = true := decide_eq_true (by omega)
      have hblt : w.heap.size < (_ : World).heap.size := HR.out.lt
      generalize hc : bt a0 (k : Int) = c at *
      have Hc := Aside0.mk hc
      clear hc
      by_cases h1 : 65 ≤ c
      · by_cases h2 : c ≤ 90
        · go_wp2
          go_roundw
          case rel => exact ⟨k + 1, by omega, by go_num, ⟨by rw [← impl_fold.step a0 k hlt (c + 32) (by rw [Hc.out]; unfold low8; rw [if_pos ⟨h1, h2⟩])]; exact HR.out.set k (c + 32)⟩, ⟨HB.out.setCell (Nat.le_refl _) _⟩⟩
          case measure => simp [intOf]; omega
        · go_wp2
          go_roundw
          case rel => exact ⟨k + 1, by omega, by go_num, ⟨by rw [← impl_fold.same a0 k hlt (by rw [Hc.out]; unfold low8; rw [if_neg (by omega)])]; exact HR.out⟩, HB⟩
          case measure => simp [intOf]; omega
      · go_wp2
        go_roundw
        case rel => exact ⟨k + 1, by omega, by go_num, ⟨by rw [← impl_fold.same a0 k hlt (by rw [Hc.out]; unfold low8; rw [if_neg (by omega)])]; exact HR.out⟩, HB⟩
        case measure => simp [intOf]; omega
    · obtain rfl : k = a0.size := by omega
      have hR := HR.out
      rw [List.take_of_length_le (by simp [hl]), List.drop_of_length_le (by omega), List.append_nil] at hR
      have hcv2 := fun c => string_of_reads (P := Tryd.prog) (c := c) Tryd.underlying38 Tryd.underlying5 Tryd.underlying9 (hR.reads (n := a0.size) (by simp [hl]; omega) (by simp [hl]))
      have hlt2 : decide ((a0.size : Int) < (a0.size : Int)) = false := decide_eq_false (by omega)
      clear hl
      go_wp2
      go_ret
      exact ⟨rfl, HB.out⟩

end Go.Proofs.YtpbmnokmpihnjaaDoor.F
namespace Go.Proofs.YtpbmnokmpihnjaaDoor.F
open Go Go.Shelf Go.RowKit Go.Proofs.YtpbmnokmpihnjaaDoorW.PrintWords Go.Proofs.YtpbmnokmpihnjaaDoorW.PrintLast Go.Proofs.YtpbmnokmpihnjaaDoorW.PrintMore
attribute [local go_sem] max2_int min2_int max_two min_two max_three min_three max_four min_four   -- for this text's walks alone
set_option linter.unusedVariables false
set_option linter.unusedSimpArgs false

/-! ### strings_HasPrefix: function 22 -/
def pre_ren : Go.Shelf.Ren := ⟨fun | 99 => 22 | 206 => 38 | n => n, fun | 3 => 3 | 4 => 4 | 9 => 9 | n => n, fun n => n⟩
theorem pre_lays : Go.Proofs.Lays.n99 Tryd.prog pre_ren := {
  mixed := by kernel_rfl
  f99 := Tryd.func22.trans (congrArg some (by kernel_rfl))
  f206 := Tryd.func38.trans (congrArg some (by kernel_rfl))
  t3 := Tryd.underlying3
  a3 := Tryd.isAgg3
  z3 := Tryd.sizeOf3
  v3 := Tryd.zeroValue3
  t4 := Tryd.underlying4
  a4 := Tryd.isAgg4
  z4 := Tryd.sizeOf4
  v4 := Tryd.zeroValue4
  t9 := Tryd.underlying9
  a9 := Tryd.isAgg9
  z9 := Tryd.sizeOf9
  v9 := Tryd.zeroValue9 }
def strings_HasPrefix.f (a0 : ByteArray) (a1 : ByteArray) : Option (Bool) := some (Lib.hasPrefix a0.data.toList a1.data.toList)
theorem strings_HasPrefix.calls (a0 : ByteArray) (a1 : ByteArray) (r : Bool) (w : World) (h : strings_HasPrefix.f a0 a1 = some r) :
    Calls Tryd.prog 22 #[.string a0, .string a1] w fun e w' => e = .returned (.bool r) ∧ Drawn0 w w' := by
  obtain rfl := Option.some.inj h
  exact (Any.strings_HasPrefix pre_lays a0 a1 w).mono fun e w' ⟨he, hw⟩ => ⟨he, 0, by rw [hw]; rfl⟩

end Go.Proofs.YtpbmnokmpihnjaaDoor.F
namespace Go.Proofs.YtpbmnokmpihnjaaDoor.F
open Go Go.Shelf Go.RowKit Go.Proofs.YtpbmnokmpihnjaaDoorW.PrintWords Go.Proofs.YtpbmnokmpihnjaaDoorW.PrintLast Go.Proofs.YtpbmnokmpihnjaaDoorW.PrintMore
attribute [local go_sem] max2_int min2_int max_two min_two max_three min_three max_four min_four   -- for this text's walks alone
set_option linter.unusedVariables false
set_option linter.unusedSimpArgs false

/-! ### impl_decimal: function 23 -/
mutual
def impl_decimal.j0 : Nat → ByteArray → Bool → Option (Int)
  | 0, _, _ => none
  | k + 1, x0, x15 => if x15 = true then (some (-1)) else (impl_decimal.l0 k x0 0 0)
def impl_decimal.l0 : Nat → ByteArray → Int → Int → Option (Int)
  | 0, _, _, _ => none
  | k + 1, x0, x5, x6 => if x6 < (x0.size : Int) then (if 0 ≤ x6 then (if (bt x0 x6) < 48 then (some (-1)) else (if (bt x0 x6) > 57 then (some (-1)) else (impl_decimal.l0 k x0 (wrap64 ((wrap64 (x5 * 10)) + (((bt x0 x6) - 48) % 256))) (wrap64 (x6 + 1))))) else (none)) else (some x5)
end
def impl_decimal.f (k : Nat) (a0 : ByteArray) (a1 : Int) : Option (Int) := if (a0.size : Int) < 1 then (impl_decimal.j0 k a0 true) else (impl_decimal.j0 k a0 (decide ((a0.size : Int) > a1)))
theorem impl_decimal.mono_l : ∀ k, (∀ y0 y1, LeO (impl_decimal.j0 k y0 y1) (impl_decimal.j0 (k + 1) y0 y1)) ∧ (∀ y0 y1 y2, LeO (impl_decimal.l0 k y0 y1 y2) (impl_decimal.l0 (k + 1) y0 y1 y2))
  | 0 => ⟨fun _ _ r h => by simp [impl_decimal.j0] at h, fun _ _ _ r h => by simp [impl_decimal.l0] at h⟩
  | k + 1 => by
    obtain ⟨ih0, ih1⟩ := impl_decimal.mono_l k
    refine ⟨?_, ?_⟩
    · intro y0 y1
      unfold impl_decimal.j0
      repeat' first
      | (with_reducible exact ih0 _ _)
      | (with_reducible exact ih1 _ _ _)
      | (with_reducible exact LeO.refl _)
      | (with_reducible exact LeO.none _)
      | (with_reducible refine LeO.ite ?_ ?_)
      | (with_reducible refine LeO.bind ?_ (fun _ => ?_))
      | exact ih0 _ _
      | exact ih1 _ _ _
      | exact LeO.none _
      | refine LeO.ite ?_ ?_
      | refine LeO.bind ?_ (fun _ => ?_)
    · intro y0 y1 y2
      unfold impl_decimal.l0
      repeat' first
      | (with_reducible exact ih0 _ _)
      | (with_reducible exact ih1 _ _ _)
      | (with_reducible exact LeO.refl _)
      | (with_reducible exact LeO.none _)
      | (with_reducible refine LeO.ite ?_ ?_)
      | (with_reducible refine LeO.bind ?_ (fun _ => ?_))
      | exact ih0 _ _
      | exact ih1 _ _ _
      | exact LeO.none _
      | refine LeO.ite ?_ ?_
      | refine LeO.bind ?_ (fun _ => ?_)
theorem impl_decimal.mono : ∀ a0 a1 k, LeO (impl_decimal.f k a0 a1) (impl_decimal.f (k + 1) a0 a1) := by
  intro a0 a1 k
  obtain ⟨ih0, ih1⟩ := impl_decimal.mono_l k
  unfold impl_decimal.f
  repeat' first
      | (with_reducible exact ih0 _ _)
      | (with_reducible exact ih1 _ _ _)
      | (with_reducible exact LeO.refl _)
      | (with_reducible exact LeO.none _)
      | (with_reducible refine LeO.ite ?_ ?_)
      | (with_reducible refine LeO.bind ?_ (fun _ => ?_))
      | exact ih0 _ _
      | exact ih1 _ _ _
      | exact LeO.none _
      | refine LeO.ite ?_ ?_
      | refine LeO.bind ?_ (fun _ => ?_)
set_option maxHeartbeats 8000000 in
set_option maxRecDepth 100000 in
theorem impl_decimal.calls (k : Nat) (a0 : ByteArray) (a1 : Int) (r : Int) (w : World) (h : impl_decimal.f k a0 a1 = some r) :
    Calls Tryd.prog 23 #[.string a0, .int .i64 a1] w fun e w' => e = .returned (.int .i64 r) ∧ Drawn0 w w' := by
  have H : (if (a0.size : Int) < 1 then (impl_decimal.j0 k a0 true) else (impl_decimal.j0 k a0 (decide ((a0.size : Int) > a1)))) = some r := h
  clear h
  have HC3 := Aside0.mk H
  clear H
  go_enter Tryd.func23, Tryd.ntmps23
  go_upto_region 1 with (fail)
  go_cut [15] (fun v15 wc => ∃ (kq : Nat) (x15_2 : Bool), v15 = .bool x15_2 ∧ Aside0 (impl_decimal.j0 kq a0 x15_2 = some r) ∧ Aside0 (kq ≤ k) ∧ Drawn0 w wc)
  case first =>
    have H := HC3.out
    clear HC3
    by_cases c4 : (a0.size : Int) < 1
    · rw [if_pos c4] at H
      have c4b0 : decide ((a0.size : Int) < 1) = true := decide_eq_true c4
      have c4b1 : decide (a0.size < 1) = true := decide_eq_true (by omega)
      clear c4
      (first | rw [c4b0] | (simp only [i64_w, i32_w]; rw [c4b0]) | skip)
      have H' := Aside0.mk H
      clear H
      go_wp2
      go_meet
      case rel => exact ⟨_, (true), (by first | rfl | (simp; done) | (simp [*]; done)), H', ⟨by first | omega | exact Nat.le_refl _⟩, by repeat (first | exact Drawn0.refl _ | apply Drawn0.step)⟩
    · rw [if_neg c4] at H
      have c4b0 : decide ((a0.size : Int) < 1) = false := decide_eq_false c4
      have c4b1 : decide (a0.size < 1) = false := decide_eq_false (by omega)
      clear c4
      (first | rw [c4b0] | (simp only [i64_w, i32_w]; rw [c4b0]) | skip)
      have H' := Aside0.mk H
      clear H
      go_wp2
      go_meet
      case rel => exact ⟨_, (decide ((a0.size : Int) > a1)), (by first | rfl | (simp; done) | (simp [*]; done)), H', ⟨by first | omega | exact Nat.le_refl _⟩, by repeat (first | exact Drawn0.refl _ | apply Drawn0.step)⟩
  case rest =>
    clear HC3
    try clear c2
    try clear p2
    try clear c4
    try clear c4b0
    try clear c4b1
    obtain ⟨kq, x15_2, rfl, HA, HJ2, ⟨mc2, rfl⟩⟩ := hcut
    cases kq with
    | zero => exact absurd HA.out (by simp [impl_decimal.j0])
    | succ kj2 =>
      have H := HA.out
      clear HA
      simp only [impl_decimal.j0] at H
      by_cases c5 : x15_2 = true
      · subst c5
        have H1 : (some (-1)) = some r := by rw [if_pos rfl] at H; exact H
        clear H
        have H := H1
        clear H1
        obtain rfl := Option.some.inj H
        go_wp2
        go_ret
        exact ⟨by first | rfl | (simp; done) | (simp [*]; done), by repeat (first | exact Drawn0.refl _ | apply Drawn0.step)⟩
      · replace c5 := Bool.eq_false_iff.mpr c5
        subst c5
        have H1 : (impl_decimal.l0 kj2 a0 0 0) = some r := by rw [if_neg (show ¬ (false = true) by decide)] at H; exact H
        clear H
        have H := H1
        clear H1
        have H' := Aside0.mk H
        clear H
        go_wp2
        go_loopg [5, 6] kj2 (fun kq v5 v6 w' => ∃ (x5_2 : Int) (x6_2 : Int), v5 = .int .i64 x5_2 ∧ v6 = .int .i64 x6_2 ∧ Aside0 (impl_decimal.l0 kq a0 x5_2 x6_2 = some r) ∧ Aside0 (kq ≤ kj2) ∧ Drawn0 w w')
        case atStart => exact ⟨(0), (0), (by first | rfl | (simp; done) | (simp [*]; done)), (by first | rfl | (simp; done) | (simp [*]; done)), H', ⟨Nat.le_refl _⟩, by repeat (first | exact Drawn0.refl _ | apply Drawn0.step)⟩
        case round =>
          clear H'
          try clear c2
          try clear p2
          try clear c4
          try clear c4b0
          try clear c4b1
          try clear c5
          try clear p2
          obtain ⟨x5_2, x6_2, rfl, rfl, HA, HK2, ⟨m2, rfl⟩⟩ := hrel
          cases gk with
          | zero => exact absurd HA.out (by simp [impl_decimal.l0])
          | succ k2 =>
            have H := HA.out
            clear HA
            simp only [impl_decimal.l0] at H
            by_cases c6 : x6_2 < (a0.size : Int)
            · rw [if_pos c6] at H
              have c6b0 : decide (x6_2 < (a0.size : Int)) = true := decide_eq_true c6
              clear c6
              by_cases c7 : 0 ≤ x6_2
              · rw [if_pos c7] at H
                have c7b0 : decide (0 ≤ x6_2) = true := decide_eq_true c7
                clear c7
                by_cases c9 : (bt a0 x6_2) < 48
                · rw [if_pos c9] at H
                  have c9b0 : decide ((bt a0 x6_2) < 48) = true := decide_eq_true c9
                  clear c9
                  obtain rfl := Option.some.inj H
                  have p8 : 0 ≤ (x6_2 : Int) := of_decide_eq_true (by first | (with_reducible assumption) | assumption)
                  have q8 : x6_2 < (a0.size : Int) := of_decide_eq_true (by first | (with_reducible assumption) | assumption)
                  have hx8 := bt_at a0 x6_2
                  replace p8 := eq_true p8
                  replace q8 := eq_true q8
                  go_wp2
                  go_ret
                  exact ⟨by first | rfl | (simp; done) | (simp [*]; done), by repeat (first | exact Drawn0.refl _ | apply Drawn0.step)⟩
                · rw [if_neg c9] at H
                  have c9b0 : decide ((bt a0 x6_2) < 48) = false := decide_eq_false c9
                  clear c9
                  by_cases c11 : (bt a0 x6_2) > 57
                  · rw [if_pos c11] at H
                    have c11b0 : decide (57 < (bt a0 x6_2)) = true := decide_eq_true c11
                    clear c11
                    obtain rfl := Option.some.inj H
                    have p8 : 0 ≤ (x6_2 : Int) := of_decide_eq_true (by first | (with_reducible assumption) | assumption)
                    have q8 : x6_2 < (a0.size : Int) := of_decide_eq_true (by first | (with_reducible assumption) | assumption)
                    have hx8 := bt_at a0 x6_2
                    replace p8 := eq_true p8
                    replace q8 := eq_true q8
                    have p10 : 0 ≤ (x6_2 : Int) := of_decide_eq_true (by first | (with_reducible assumption) | assumption)
                    have q10 : x6_2 < (a0.size : Int) := of_decide_eq_true (by first | (with_reducible assumption) | assumption)
                    have hx10 := bt_at a0 x6_2
                    replace p10 := eq_true p10
                    replace q10 := eq_true q10
                    go_wp2
                    go_ret
                    exact ⟨by first | rfl | (simp; done) | (simp [*]; done), by repeat (first | exact Drawn0.refl _ | apply Drawn0.step)⟩
                  · rw [if_neg c11] at H
                    have c11b0 : decide (57 < (bt a0 x6_2)) = false := decide_eq_false c11
                    clear c11
                    have H' := Aside0.mk H
                    clear H
                    have p8 : 0 ≤ (x6_2 : Int) := of_decide_eq_true (by first | (with_reducible assumption) | assumption)
                    have q8 : x6_2 < (a0.size : Int) := of_decide_eq_true (by first | (with_reducible assumption) | assumption)
                    have hx8 := bt_at a0 x6_2
                    replace p8 := eq_true p8
                    replace q8 := eq_true q8
                    have p10 : 0 ≤ (x6_2 : Int) := of_decide_eq_true (by first | (with_reducible assumption) | assumption)
                    have q10 : x6_2 < (a0.size : Int) := of_decide_eq_true (by first | (with_reducible assumption) | assumption)
                    have hx10 := bt_at a0 x6_2
                    replace p10 := eq_true p10
                    replace q10 := eq_true q10
                    have p12 : 0 ≤ (x6_2 : Int) := of_decide_eq_true (by first | (with_reducible assumption) | assumption)
                    have q12 : x6_2 < (a0.size : Int) := of_decide_eq_true (by first | (with_reducible assumption) | assumption)
                    have hx12 := bt_at a0 x6_2
                    replace p12 := eq_true p12
                    replace q12 := eq_true q12
                    go_wp2
                    go_roundg k2
                    case measure => have := HJ2.out; have := HK2.out; omega
                    case rel => exact ⟨(wrap64 ((wrap64 (x5_2 * 10)) + (((bt a0 x6_2) - 48) % 256))), (wrap64 (x6_2 + 1)), (by first | rfl | (simp; done) | (simp [*]; done)), (by first | rfl | (simp; done) | (simp [*]; done)), H', ⟨by have := HJ2.out; have := HK2.out; omega⟩, by repeat (first | exact Drawn0.refl _ | apply Drawn0.step)⟩
              · rw [if_neg c7] at H
                exact absurd H (by simp)
            · rw [if_neg c6] at H
              have c6b0 : decide (x6_2 < (a0.size : Int)) = false := decide_eq_false c6
              clear c6
              obtain rfl := Option.some.inj H
              go_wp2
              go_ret
              exact ⟨by first | rfl | (simp; done) | (simp [*]; done), by repeat (first | exact Drawn0.refl _ | apply Drawn0.step)⟩

end Go.Proofs.YtpbmnokmpihnjaaDoor.F
namespace Go.Proofs.YtpbmnokmpihnjaaDoor.F
open Go Go.Shelf Go.RowKit Go.Proofs.YtpbmnokmpihnjaaDoorW.PrintWords Go.Proofs.YtpbmnokmpihnjaaDoorW.PrintLast Go.Proofs.YtpbmnokmpihnjaaDoorW.PrintMore
attribute [local go_sem] max2_int min2_int max_two min_two max_three min_three max_four min_four   -- for this text's walks alone
set_option linter.unusedVariables false
set_option linter.unusedSimpArgs false

/-! ### impl_ReadType: function 9 -/
def impl_ReadType.g (k : Nat) (t : ByteArray) : Option (Int × Int) :=
  if Lib.hasPrefix t.data.toList [116, 121, 112, 101] = true then (impl_decimal.f k (t.extract 4 t.size) 5).bind fun n => if 0 ≤ n then (if n ≤ 65535 then some (n, 0) else some (0, 6)) else some (0, 6) else some (0, 6)
def impl_ReadType.f (k : Nat) (a0 : ByteArray) : Option (Int × Int) :=
  if 140737488355328 < a0.size then none else (impl_fold.f a0).bind fun t => if 140737488355328 < t.size then none else match mnemOf t.data.toList with
    | some n => some (n, 0)
    | none => impl_ReadType.g k t
theorem impl_ReadType.mono : ∀ a0 k, LeO (impl_ReadType.f k a0) (impl_ReadType.f (k + 1) a0) := by
  intro a0 k
  unfold impl_ReadType.f
  refine LeO.ite (LeO.refl _) (LeO.bind (LeO.refl _) (fun t => LeO.ite (LeO.refl _) ?_))
  cases mnemOf t.data.toList with
  | some n => exact LeO.refl _
  | none =>
    show LeO (impl_ReadType.g k t) (impl_ReadType.g (k + 1) t)
    unfold impl_ReadType.g
    exact LeO.ite (LeO.bind (impl_decimal.mono _ _ _) (fun _ => LeO.refl _)) (LeO.refl _)
set_option maxHeartbeats 4000000 in
set_option maxRecDepth 100000 in
theorem impl_ReadType.calls (k : Nat) (a0 : ByteArray) (r1 : Int) (r2 : Int) (w : World) (h : impl_ReadType.f k a0 = some (r1, r2)) (hG : Glob w) :
    Calls Tryd.prog 9 #[.string a0] w fun e w' => e = .returned (.tuple #[.int .i64 r1, .int .i64 r2]) ∧ Below w.heap.size w w' := by
  unfold impl_ReadType.f at h
  split at h
  case isTrue => cases h
  case isFalse hs =>
  replace h := Option.bind_eq_some_iff.mp h
  obtain ⟨t, A1, h⟩ := h
  split at h
  case isTrue => cases h
  case isFalse hst =>
  have H1 := Aside0.mk A1
  have HG := Aside0.mk hG
  have hsz : t.size ≤ maxLen := by unfold maxLen; omega
  have HSZ := Aside0.mk hsz
  clear A1 hG hsz
  cases hm : mnemOf t.data.toList with
  | some n =>
    rw [hm] at h
    simp only [Option.some.injEq, Prod.mk.injEq] at h
    obtain ⟨rfl, rfl⟩ := h
    go_enter Tryd.func9, Tryd.ntmps9
    go_wp2_with (first | (go_at_call 21; refine (impl_fold.calls _ _ _ H1.out).mono ?_; rintro e w1 ⟨rfl, hb1⟩; have HB1 := Aside0.mk hb1; have hG1 := HG.out.below hb1; obtain ⟨bm, og, om, g1, g2, g3, g4⟩ := hG1; have hc0 := g3 _ g1; have hlk := g4 _ t g2 HSZ.out; rw [hm] at hlk; simp only [Option.getD_some, Option.isSome_some] at hlk; clear g1 g2 g3 g4 hb1))
    go_ret2
    exact ⟨rfl, HB1.out⟩
  | none =>
    rw [hm] at h
    simp only at h
    unfold impl_ReadType.g at h
    have hpre : ∃ b, Lib.hasPrefix t.data.toList [116, 121, 112, 101] = b := ⟨_, rfl⟩
    obtain ⟨b, hb⟩ := hpre
    rw [hb] at h
    have HP := Aside0.mk (show strings_HasPrefix.f t ⟨#[116, 121, 112, 101]⟩ = some b from congrArg some hb)
    cases b with
    | false =>
      rw [if_neg (by decide)] at h
      simp only [Option.some.injEq, Prod.mk.injEq] at h
      obtain ⟨rfl, rfl⟩ := h
      go_enter Tryd.func9, Tryd.ntmps9
      go_wp2_with (first | (go_at_call 21; refine (impl_fold.calls _ _ _ H1.out).mono ?_; rintro e w1 ⟨rfl, hb1⟩; have HB1 := Aside0.mk hb1; have hG1 := HG.out.below hb1; obtain ⟨bm, og, om, g1, g2, g3, g4⟩ := hG1; have hc0 := g3 _ g1; have hlk := g4 _ t g2 HSZ.out; rw [hm] at hlk; simp only [Option.getD_none, Option.isSome_none] at hlk; clear g1 g2 g3 g4 hb1) | (go_at_call 22; refine (strings_HasPrefix.calls _ _ _ _ HP.out).mono ?_; rintro e w2 ⟨rfl, m, rfl⟩))
      go_ret2
      exact ⟨rfl, pw_below_drewN HB1.out _⟩
    | true =>
      rw [if_pos rfl] at h
      replace h := Option.bind_eq_some_iff.mp h
      obtain ⟨n, A2, h⟩ := h
      have H2 := Aside0.mk A2
      have h4 : 4 ≤ t.size := by
        unfold Lib.hasPrefix at hb
        have := (List.isPrefixOf_iff_prefix.1 hb).length_le
        simpa using this
      have l1 : ((4 : Int) ≤ (t.size : Int)) = True := eq_true (by omega)
      have l2 : ((4 : Nat) ≤ t.size) = True := eq_true h4
      clear A2 hb
      by_cases c1 : 0 ≤ n
      · rw [if_pos c1] at h
        by_cases c2 : n ≤ 65535
        · rw [if_pos c2] at h
          simp only [Option.some.injEq, Prod.mk.injEq] at h
          obtain ⟨rfl, rfl⟩ := h
          have d1 : decide (0 ≤ n) = true := decide_eq_true c1
          have d2 : decide (n ≤ 65535) = true := decide_eq_true c2
          go_enter Tryd.func9, Tryd.ntmps9
          go_wp2_with (first | (go_at_call 21; refine (impl_fold.calls _ _ _ H1.out).mono ?_; rintro e w1 ⟨rfl, hb1⟩; have HB1 := Aside0.mk hb1; have hG1 := HG.out.below hb1; obtain ⟨bm, og, om, g1, g2, g3, g4⟩ := hG1; have hc0 := g3 _ g1; have hlk := g4 _ t g2 HSZ.out; rw [hm] at hlk; simp only [Option.getD_none, Option.isSome_none] at hlk; clear g1 g2 g3 g4 hb1) | (go_at_call 22; refine (strings_HasPrefix.calls _ _ _ _ HP.out).mono ?_; rintro e w2 ⟨rfl, m, rfl⟩) | (go_at_call 23; refine (impl_decimal.calls _ _ _ _ _ H2.out).mono ?_; rintro e w3 ⟨rfl, m2, rfl⟩))
          go_ret2
          exact ⟨rfl, by repeat (first | exact HB1.out | apply pw_below_drewN | apply below_drew1)⟩
        · rw [if_neg c2] at h
          simp only [Option.some.injEq, Prod.mk.injEq] at h
          obtain ⟨rfl, rfl⟩ := h
          have d1 : decide (0 ≤ n) = true := decide_eq_true c1
          have d2 : decide (n ≤ 65535) = false := decide_eq_false c2
          go_enter Tryd.func9, Tryd.ntmps9
          go_wp2_with (first | (go_at_call 21; refine (impl_fold.calls _ _ _ H1.out).mono ?_; rintro e w1 ⟨rfl, hb1⟩; have HB1 := Aside0.mk hb1; have hG1 := HG.out.below hb1; obtain ⟨bm, og, om, g1, g2, g3, g4⟩ := hG1; have hc0 := g3 _ g1; have hlk := g4 _ t g2 HSZ.out; rw [hm] at hlk; simp only [Option.getD_none, Option.isSome_none] at hlk; clear g1 g2 g3 g4 hb1) | (go_at_call 22; refine (strings_HasPrefix.calls _ _ _ _ HP.out).mono ?_; rintro e w2 ⟨rfl, m, rfl⟩) | (go_at_call 23; refine (impl_decimal.calls _ _ _ _ _ H2.out).mono ?_; rintro e w3 ⟨rfl, m2, rfl⟩))
          go_ret2
          exact ⟨rfl, by repeat (first | exact HB1.out | apply pw_below_drewN | apply below_drew1)⟩
      · rw [if_neg c1] at h
        simp only [Option.some.injEq, Prod.mk.injEq] at h
        obtain ⟨rfl, rfl⟩ := h
        have d1 : decide (0 ≤ n) = false := decide_eq_false c1
        go_enter Tryd.func9, Tryd.ntmps9
        go_wp2_with (first | (go_at_call 21; refine (impl_fold.calls _ _ _ H1.out).mono ?_; rintro e w1 ⟨rfl, hb1⟩; have HB1 := Aside0.mk hb1; have hG1 := HG.out.below hb1; obtain ⟨bm, og, om, g1, g2, g3, g4⟩ := hG1; have hc0 := g3 _ g1; have hlk := g4 _ t g2 HSZ.out; rw [hm] at hlk; simp only [Option.getD_none, Option.isSome_none] at hlk; clear g1 g2 g3 g4 hb1) | (go_at_call 22; refine (strings_HasPrefix.calls _ _ _ _ HP.out).mono ?_; rintro e w2 ⟨rfl, m, rfl⟩) | (go_at_call 23; refine (impl_decimal.calls _ _ _ _ _ H2.out).mono ?_; rintro e w3 ⟨rfl, m2, rfl⟩))
        go_ret2
        exact ⟨rfl, by repeat (first | exact HB1.out | apply pw_below_drewN | apply below_drew1)⟩

end Go.Proofs.YtpbmnokmpihnjaaDoor.F
namespace Go.Proofs.YtpbmnokmpihnjaaDoor.F
open Go Go.Shelf Go.RowKit Go.Proofs.YtpbmnokmpihnjaaDoorW.PrintWords Go.Proofs.YtpbmnokmpihnjaaDoorW.PrintLast Go.Proofs.YtpbmnokmpihnjaaDoorW.PrintMore
attribute [local go_sem] max2_int min2_int max_two min_two max_three min_three max_four min_four   -- for this text's walks alone
set_option linter.unusedVariables false
set_option linter.unusedSimpArgs false

/-! ### laws_FnExactReadType: function 3 -/
def laws_FnExactReadType.f (k : Nat) (a0 : ByteArray) : Option (Bool) := if (a0.size : Int) > 1048576 then (some true) else ((spec_ReadType.f k a0).bind fun bt101 => ((impl_ReadType.f k a0).bind fun bt103 => (if bt103.1 = bt101.1 then (if bt103.2 = bt101.2 then (some true) else (some false)) else (some false))))
theorem laws_FnExactReadType.mono : ∀ a0 k, LeO (laws_FnExactReadType.f k a0) (laws_FnExactReadType.f (k + 1) a0) := by
  intro a0 k
  unfold laws_FnExactReadType.f
  repeat' first
      | (with_reducible exact impl_ReadType.mono _ _)
      | (with_reducible exact spec_ReadType.mono _ _)
      | (with_reducible exact LeO.refl _)
      | (with_reducible exact LeO.none _)
      | (with_reducible refine LeO.ite ?_ ?_)
      | (with_reducible refine LeO.bind ?_ (fun _ => ?_))
      | exact impl_ReadType.mono _ _
      | exact spec_ReadType.mono _ _
      | exact LeO.none _
      | refine LeO.ite ?_ ?_
      | refine LeO.bind ?_ (fun _ => ?_)
set_option maxHeartbeats 8000000 in
set_option maxRecDepth 100000 in
theorem laws_FnExactReadType.calls (k : Nat) (a0 : ByteArray) (r : Bool) (w : World) (h : laws_FnExactReadType.f k a0 = some r) (hG : Glob w) :
    Calls Tryd.prog 3 #[.string a0] w fun e w' => e = .returned (.bool r) ∧ Below w.heap.size w w' := by
  have HG := Aside0.mk hG
  clear hG
  have HB := Aside0.mk (Below.refl w.heap.size w)
  have H : (if (a0.size : Int) > 1048576 then (some true) else ((spec_ReadType.f k a0).bind fun bt101 => ((impl_ReadType.f k a0).bind fun bt103 => (if bt103.1 = bt101.1 then (if bt103.2 = bt101.2 then (some true) else (some false)) else (some false))))) = some r := h
  clear h
  by_cases c2 : (a0.size : Int) > 1048576
  · rw [if_pos c2] at H
    have c2b0 : decide (1048576 < (a0.size : Int)) = true := decide_eq_true c2
    have c2b1 : decide (1048576 < a0.size) = true := decide_eq_true (by omega)
    clear c2
    obtain rfl := Option.some.inj H
    go_enter Tryd.func3, Tryd.ntmps3
    go_wp2
    go_ret
    exact ⟨by first | rfl | (simp [errW_none, errW_some] <;> rfl) | (simp [*, errW_none, errW_some] <;> rfl), by repeat (first | (with_reducible first | exact HB.out | apply below_alloc | apply pw_below_drewN | apply below_drew1) | exact HB.out)⟩
  · rw [if_neg c2] at H
    have c2b0 : decide (1048576 < (a0.size : Int)) = false := decide_eq_false c2
    have c2b1 : decide (1048576 < a0.size) = false := decide_eq_false (by omega)
    clear c2
    replace H := Option.bind_eq_some_iff.mp H
    obtain ⟨⟨t101, t102⟩, A30, H⟩ := H
    replace H : ((impl_ReadType.f k a0).bind fun bt103 => (if bt103.1 = t101 then (if bt103.2 = t102 then (some true) else (some false)) else (some false))) = some r := H
    have A3 := Aside0.mk A30
    clear A30
    replace H := Option.bind_eq_some_iff.mp H
    obtain ⟨⟨t103, t104⟩, A40, H⟩ := H
    replace H : (if t103 = t101 then (if t104 = t102 then (some true) else (some false)) else (some false)) = some r := H
    have A4 := Aside0.mk A40
    clear A40
    by_cases c5 : t103 = t101
    · rw [if_pos c5] at H
      have c5b0 : (t103 == t101) = true := beq_iff_eq.mpr c5
      have c5b1 : (t103 != t101) = false := bne_eq_false_iff_eq.mpr c5
      clear c5
      by_cases c6 : t104 = t102
      · rw [if_pos c6] at H
        have c6b0 : (t104 == t102) = true := beq_iff_eq.mpr c6
        have c6b1 : (t104 != t102) = false := bne_eq_false_iff_eq.mpr c6
        clear c6
        obtain rfl := Option.some.inj H
        go_enter Tryd.func3, Tryd.ntmps3
        go_wp2_with (first | ((with_reducible refine gate_callee (f := 8) rfl ?_); refine goesL_ (some 12) rfl rfl Tryd.func8 (by kernel_rfl) rfl #[.string a0] rfl (by (try simp only [List.map_toArray, List.map_cons, List.map_nil]); first | done | rfl | (simp only [List.length_drop, List.length_take]; rfl)) ?_; (with_reducible refine (spec_ReadType.calls k a0 t101 t102 _ A3.out).mono ?_); rintro e w7 ⟨rfl, hb⟩; refine ⟨_, rfl, ?_⟩; have n0_ := Aside0.mk (below_step (by repeat (first | (with_reducible first | exact HB.out | apply below_alloc | apply pw_below_drewN | apply below_drew1) | exact HB.out)) hb); clear HB; have HB := n0_; clear n0_; (try clear hb); (try clear hb2); (try clear hk); (try clear hi)) | ((with_reducible refine gate_callee (f := 9) rfl ?_); refine goesL_ (some 17) rfl rfl Tryd.func9 (by kernel_rfl) rfl #[.string a0] rfl (by (try simp only [List.map_toArray, List.map_cons, List.map_nil]); first | done | rfl | (simp only [List.length_drop, List.length_take]; rfl)) ?_; (with_reducible refine (impl_ReadType.calls k a0 t103 t104 _ A4.out (HG.out.below (by repeat (first | (with_reducible first | exact HB.out | apply below_alloc | apply pw_below_drewN | apply below_drew1) | exact HB.out)))).mono ?_); rintro e w8 ⟨rfl, hb⟩; refine ⟨_, rfl, ?_⟩; have n0_ := Aside0.mk (below_step (by repeat (first | (with_reducible first | exact HB.out | apply below_alloc | apply pw_below_drewN | apply below_drew1) | exact HB.out)) hb); clear HB; have HB := n0_; clear n0_; (try clear hb); (try clear hb2); (try clear hk); (try clear hi)))
        go_ret
        exact ⟨by first | rfl | (simp [errW_none, errW_some] <;> rfl) | (simp [*, errW_none, errW_some] <;> rfl), by repeat (first | (with_reducible first | exact HB.out | apply below_alloc | apply pw_below_drewN | apply below_drew1) | exact HB.out)⟩
      · rw [if_neg c6] at H
        have c6b0 : (t104 == t102) = false := beq_eq_false_iff_ne.mpr c6
        have c6b1 : (t104 != t102) = true := bne_iff_ne.mpr c6
        obtain rfl := Option.some.inj H
        go_enter Tryd.func3, Tryd.ntmps3
        go_wp2_with (first | ((with_reducible refine gate_callee (f := 8) rfl ?_); refine goesL_ (some 12) rfl rfl Tryd.func8 (by kernel_rfl) rfl #[.string a0] rfl (by (try simp only [List.map_toArray, List.map_cons, List.map_nil]); first | done | rfl | (simp only [List.length_drop, List.length_take]; rfl)) ?_; (with_reducible refine (spec_ReadType.calls k a0 t101 t102 _ A3.out).mono ?_); rintro e w9 ⟨rfl, hb⟩; refine ⟨_, rfl, ?_⟩; have n0_ := Aside0.mk (below_step (by repeat (first | (with_reducible first | exact HB.out | apply below_alloc | apply pw_below_drewN | apply below_drew1) | exact HB.out)) hb); clear HB; have HB := n0_; clear n0_; (try clear hb); (try clear hb2); (try clear hk); (try clear hi)) | ((with_reducible refine gate_callee (f := 9) rfl ?_); refine goesL_ (some 17) rfl rfl Tryd.func9 (by kernel_rfl) rfl #[.string a0] rfl (by (try simp only [List.map_toArray, List.map_cons, List.map_nil]); first | done | rfl | (simp only [List.length_drop, List.length_take]; rfl)) ?_; (with_reducible refine (impl_ReadType.calls k a0 t103 t104 _ A4.out (HG.out.below (by repeat (first | (with_reducible first | exact HB.out | apply below_alloc | apply pw_below_drewN | apply below_drew1) | exact HB.out)))).mono ?_); rintro e w10 ⟨rfl, hb⟩; refine ⟨_, rfl, ?_⟩; have n0_ := Aside0.mk (below_step (by repeat (first | (with_reducible first | exact HB.out | apply below_alloc | apply pw_below_drewN | apply below_drew1) | exact HB.out)) hb); clear HB; have HB := n0_; clear n0_; (try clear hb); (try clear hb2); (try clear hk); (try clear hi)))
        go_ret
        exact ⟨by first | rfl | (simp [errW_none, errW_some] <;> rfl) | (simp [*, errW_none, errW_some] <;> rfl), by repeat (first | (with_reducible first | exact HB.out | apply below_alloc | apply pw_below_drewN | apply below_drew1) | exact HB.out)⟩
    · rw [if_neg c5] at H
      have c5b0 : (t103 == t101) = false := beq_eq_false_iff_ne.mpr c5
      have c5b1 : (t103 != t101) = true := bne_iff_ne.mpr c5
      obtain rfl := Option.some.inj H
      go_enter Tryd.func3, Tryd.ntmps3
      go_wp2_with (first | ((with_reducible refine gate_callee (f := 8) rfl ?_); refine goesL_ (some 12) rfl rfl Tryd.func8 (by kernel_rfl) rfl #[.string a0] rfl (by (try simp only [List.map_toArray, List.map_cons, List.map_nil]); first | done | rfl | (simp only [List.length_drop, List.length_take]; rfl)) ?_; (with_reducible refine (spec_ReadType.calls k a0 t101 t102 _ A3.out).mono ?_); rintro e w11 ⟨rfl, hb⟩; refine ⟨_, rfl, ?_⟩; have n0_ := Aside0.mk (below_step (by repeat (first | (with_reducible first | exact HB.out | apply below_alloc | apply pw_below_drewN | apply below_drew1) | exact HB.out)) hb); clear HB; have HB := n0_; clear n0_; (try clear hb); (try clear hb2); (try clear hk); (try clear hi)) | ((with_reducible refine gate_callee (f := 9) rfl ?_); refine goesL_ (some 17) rfl rfl Tryd.func9 (by kernel_rfl) rfl #[.string a0] rfl (by (try simp only [List.map_toArray, List.map_cons, List.map_nil]); first | done | rfl | (simp only [List.length_drop, List.length_take]; rfl)) ?_; (with_reducible refine (impl_ReadType.calls k a0 t103 t104 _ A4.out (HG.out.below (by repeat (first | (with_reducible first | exact HB.out | apply below_alloc | apply pw_below_drewN | apply below_drew1) | exact HB.out)))).mono ?_); rintro e w12 ⟨rfl, hb⟩; refine ⟨_, rfl, ?_⟩; have n0_ := Aside0.mk (below_step (by repeat (first | (with_reducible first | exact HB.out | apply below_alloc | apply pw_below_drewN | apply below_drew1) | exact HB.out)) hb); clear HB; have HB := n0_; clear n0_; (try clear hb); (try clear hb2); (try clear hk); (try clear hi)))
      go_ret
      exact ⟨by first | rfl | (simp [errW_none, errW_some] <;> rfl) | (simp [*, errW_none, errW_some] <;> rfl), by repeat (first | (with_reducible first | exact HB.out | apply below_alloc | apply pw_below_drewN | apply below_drew1) | exact HB.out)⟩

/-- THE ONE PURE STATEMENT of laws_FnExactReadType: yours. -/
def laws_FnExactReadType.Pure : Prop := ∀ (a0 : ByteArray), a0.size ≤ 140737488351232 → ∃ k, laws_FnExactReadType.f k a0 = some true
theorem laws_FnExactReadType.walk (P : laws_FnExactReadType.Pure) (a0 : ByteArray) (w : World) (w0 : a0.size ≤ 140737488351232) (hG : Glob w) :
    Calls Tryd.prog 3 #[.string a0] w fun e w' => e = .returned (.bool true) ∧ Below w.heap.size w w' := by
  obtain ⟨k, h⟩ := P a0 w0
  refine (laws_FnExactReadType.calls k a0 true w h hG).mono ?_
  rintro e w' ⟨rfl, hd⟩
  exact ⟨rfl, hd⟩

end Go.Proofs.YtpbmnokmpihnjaaDoor.F
namespace Go.Proofs.YtpbmnokmpihnjaaDoor.Base
open Go.RowKit Go.Proofs.YtpbmnokmpihnjaaDoorW.PrintWords Go.Proofs.YtpbmnokmpihnjaaDoorW.PrintMore

theorem w64 {x : Int} (h0 : -9223372036854775808 ≤ x) (h1 : x ≤ 9223372036854775807) : wrap64 x = x := by
  unfold wrap64
  omega

def L (s : ByteArray) : List UInt8 := s.data.toList
def B (l : List UInt8) : ByteArray := ⟨l.toArray⟩
theorem L_B (l : List UInt8) : L (B l) = l := by simp [L, B]
theorem B_L (s : ByteArray) : B (L s) = s := by simp [L, B]
theorem L_inj {a b : ByteArray} (h : L a = L b) : a = b := by rw [← B_L a, ← B_L b, h]
theorem L_iff {a b : ByteArray} : L a = L b ↔ a = b := ⟨L_inj, fun h => by rw [h]⟩
theorem size_L (s : ByteArray) : s.size = (L s).length := by simp [L]
theorem toL (s : ByteArray) : s.toList = L s := Lib.toList_data s
theorem L_extract (s : ByteArray) (i j : Nat) : L (s.extract i j) = ((L s).drop i).take (j - i) := by
  simp [L, ByteArray.data_extract]
theorem L_append (a b : ByteArray) : L (a ++ b) = L a ++ L b := by
  simp [L, ByteArray.data_append]
theorem bt_L (s : ByteArray) (i : Int) : bt s i = (((L s).getD i.toNat 0).toNat : Int) := by
  unfold bt
  split
  · rename_i h
    have h' : i.toNat < (L s).length := by rw [← size_L]; exact h
    rw [List.getD_eq_getElem?_getD, List.getElem?_eq_getElem h']
    rfl
  · rename_i h
    have h' : (L s).length ≤ i.toNat := by rw [← size_L]; omega
    rw [List.getD_eq_getElem?_getD, List.getElem?_eq_none h']
    rfl
theorem bt_mid {x : ByteArray} {p : List UInt8} {c : UInt8} {r : List UInt8} (h : L x = p ++ c :: r) {i : Int} (hi : i = (p.length : Int)) : bt x i = (c.toNat : Int) := by
  rw [bt_L, h, hi]
  simp [List.getD_eq_getElem?_getD]
theorem bt_cons {x : ByteArray} {c : UInt8} {r : List UInt8} (h : L x = c :: r) : bt x 0 = (c.toNat : Int) := bt_mid (p := []) h rfl
theorem L_strOfNums (xs : List Int) : L (strOfNums xs) = xs.map fun n => UInt8.ofNat n.toNat := by simp [L, strOfNums]
theorem byte_le (c : UInt8) : (c.toNat : Int) ≤ 255 := by have := c.toNat_lt; omega
theorem byte_id (c : UInt8) : UInt8.ofNat ((c.toNat : Int)).toNat = c := by simp

theorem drop_len {α : Type} (p t : List α) (k : Nat) : (p ++ t).drop (p.length + k) = t.drop k := by
  rw [List.drop_append, List.drop_eq_nil_of_le (by omega), List.nil_append, Nat.add_sub_cancel_left]
theorem getD_len {α : Type} (p t : List α) (k : Nat) (d : α) : (p ++ t).getD (p.length + k) d = t.getD k d := by
  simp [List.getD_eq_getElem?_getD, List.getElem?_append_right]

/-- The labels of a name's bytes; none: they are no name (but for the limit on the whole). -/
def labs : List UInt8 → Option (List ByteArray)
  | [] => none
  | c :: r => if c.toNat = 0 then (if r = [] then some [] else none) else if 63 < c.toNat then none else if r.length < c.toNat then none else (labs (r.drop c.toNat)).map (B (r.take c.toNat) :: ·)
  termination_by l => l.length
  decreasing_by simp; omega

/-- The labels of a name. -/
def names (l : List UInt8) : Option (List ByteArray) := if l.length < 1 ∨ 255 < l.length then none else labs l

/-- What a cut in labels answers that had come to some. -/
def res (acc : List ByteArray) : Option (List ByteArray) → List ByteArray × Bool
  | none => ([], false)
  | some ls => (acc ++ ls, true)
theorem res_map (acc : List ByteArray) (b : ByteArray) (o : Option (List ByteArray)) : res acc (o.map (b :: ·)) = res (acc ++ [b]) o := by
  cases o <;> simp [res]

/-- What the other cut in labels leaves where it fails. -/
def jk (acc : List ByteArray) : List UInt8 → List ByteArray
  | [] => []
  | c :: r => if c.toNat = 0 then acc else if 63 < c.toNat then [] else if r.length < c.toNat then [] else jk (acc ++ [B (r.take c.toNat)]) (r.drop c.toNat)
  termination_by l => l.length
  decreasing_by simp; omega
def res2 (acc : List ByteArray) (l : List UInt8) : List ByteArray × Bool := match labs l with
  | none => (jk acc l, false)
  | some ls => (acc ++ ls, true)
theorem labs_count : ∀ (n : Nat) (l : List UInt8), l.length ≤ n → ∀ ls, labs l = some ls → ls.length + 1 ≤ l.length := by
  intro n
  induction n with
  | zero =>
    intro l hl ls h
    obtain rfl : l = [] := List.length_eq_zero_iff.1 (by omega)
    simp [labs] at h
  | succ n ih =>
    intro l hl ls h
    cases l with
    | nil => simp [labs] at h
    | cons c r =>
      simp only [List.length_cons] at hl ⊢
      rw [labs] at h
      by_cases h0 : c.toNat = 0
      · rw [if_pos h0] at h
        by_cases hr : r = []
        · rw [if_pos hr] at h
          obtain rfl := Option.some.inj h
          simp
        · rw [if_neg hr] at h
          cases h
      · rw [if_neg h0] at h
        by_cases h63 : 63 < c.toNat
        · rw [if_pos h63] at h
          cases h
        · rw [if_neg h63] at h
          by_cases hl2 : r.length < c.toNat
          · rw [if_pos hl2] at h
            cases h
          · rw [if_neg hl2] at h
            obtain ⟨t, ht, rfl⟩ := Option.map_eq_some_iff.1 h
            have := ih (r.drop c.toNat) (by simp; omega) t ht
            simp at this ⊢
            omega
theorem names_count {l : List UInt8} {ls : List ByteArray} (h : names l = some ls) : ls.length ≤ 254 := by
  unfold names at h
  split at h
  · cases h
  · have := labs_count _ l (Nat.le_refl _) ls h
    omega
end Go.Proofs.YtpbmnokmpihnjaaDoor.Base
namespace Go.Proofs.YtpbmnokmpihnjaaDoor.Base
open Go Go.RowKit Go.Proofs.YtpbmnokmpihnjaaDoorW.PrintWords Go.Proofs.YtpbmnokmpihnjaaDoorW.PrintMore

def low (c : UInt8) : UInt8 := if 65 ≤ c.toNat ∧ c.toNat ≤ 90 then UInt8.ofNat (c.toNat + 32) else c
theorem low_toNat (c : UInt8) : (low c).toNat = if 65 ≤ c.toNat ∧ c.toNat ≤ 90 then c.toNat + 32 else c.toNat := by
  unfold low
  split
  · rw [UInt8.toNat_ofNat']
    omega
  · rfl
theorem low_small {c : UInt8} (h : c.toNat ≤ 64) : low c = c := by
  unfold low
  rw [if_neg (by omega)]
theorem low_low (c : UInt8) : low (low c) = low c := by
  apply UInt8.toNat_inj.1
  rw [low_toNat (low c), low_toNat c]
  by_cases h : 65 ≤ c.toNat ∧ c.toNat ≤ 90
  · rw [if_pos h, if_neg (by omega)]
  · rw [if_neg h, if_neg h]
def foldB (s : ByteArray) : ByteArray := B ((L s).map low)
theorem L_foldB (s : ByteArray) : L (foldB s) = (L s).map low := L_B _
theorem foldB_size (s : ByteArray) : (foldB s).size = s.size := by rw [size_L, size_L, L_foldB, List.length_map]
theorem foldB_foldB (s : ByteArray) : foldB (foldB s) = foldB s := by
  apply L_inj
  rw [L_foldB, L_foldB, List.map_map]
  exact List.map_congr_left fun c _ => low_low c
def joinL (ls : List ByteArray) : List UInt8 := ls.flatMap fun s => UInt8.ofNat s.size :: L s
def join (ls : List ByteArray) : ByteArray := B (joinL ls ++ [0])
theorem joinL_cons (s : ByteArray) (t : List ByteArray) : joinL (s :: t) = UInt8.ofNat s.size :: (L s ++ joinL t) := by simp [joinL]
theorem joinL_append (a b : List ByteArray) : joinL (a ++ b) = joinL a ++ joinL b := by simp [joinL]
theorem L_join (ls : List ByteArray) : L (join ls) = joinL ls ++ [0] := L_B _
theorem size_join (ls : List ByteArray) : (join ls).size = (joinL ls).length + 1 := by rw [size_L, L_join]; simp
/-- A name's bytes are its labels joined, and each label has from 1 to 63 bytes. -/
theorem labs_join : ∀ (n : Nat) (l : List UInt8), l.length ≤ n → ∀ ls, labs l = some ls → l = joinL ls ++ [0] ∧ ∀ s ∈ ls, 1 ≤ s.size ∧ s.size ≤ 63 := by
  intro n
  induction n with
  | zero =>
    intro l hl ls h
    obtain rfl : l = [] := List.length_eq_zero_iff.1 (by omega)
    simp [labs] at h
  | succ n ih =>
    intro l hl ls h
    cases l with
    | nil => simp [labs] at h
    | cons c r =>
      simp only [List.length_cons] at hl
      rw [labs] at h
      by_cases h0 : c.toNat = 0
      · rw [if_pos h0] at h
        by_cases hr : r = []
        · rw [if_pos hr] at h
          obtain rfl := Option.some.inj h
          subst hr
          have : c = 0 := UInt8.toNat_inj.1 h0
          subst this
          exact ⟨by simp [joinL], by simp⟩
        · rw [if_neg hr] at h; cases h
      · rw [if_neg h0] at h
        by_cases h63 : 63 < c.toNat
        · rw [if_pos h63] at h; cases h
        · rw [if_neg h63] at h
          by_cases hl2 : r.length < c.toNat
          · rw [if_pos hl2] at h; cases h
          · rw [if_neg hl2] at h
            obtain ⟨t, ht, rfl⟩ := Option.map_eq_some_iff.1 h
            obtain ⟨h1, h2⟩ := ih (r.drop c.toNat) (by simp; omega) t ht
            have hs : (B (r.take c.toNat)).size = c.toNat := by rw [size_L, L_B, List.length_take]; omega
            refine ⟨?_, ?_⟩
            · rw [joinL_cons, hs, L_B, List.cons_append, List.append_assoc, ← h1, List.take_append_drop]
              simp
            · intro s hm
              rcases List.mem_cons.1 hm with rfl | hm
              · rw [hs]; omega
              · exact h2 s hm
theorem names_join {l : List UInt8} {ls : List ByteArray} (h : names l = some ls) : l = joinL ls ++ [0] ∧ (∀ s ∈ ls, 1 ≤ s.size ∧ s.size ≤ 63) ∧ l.length ≤ 255 := by
  unfold names at h
  split at h
  · cases h
  · obtain ⟨h1, h2⟩ := labs_join _ l (Nat.le_refl _) ls h
    exact ⟨h1, h2, by omega⟩
/-- Labels of good length, joined, are cut into just these labels. -/
theorem labs_of_join : ∀ (ls : List ByteArray), (∀ s ∈ ls, 1 ≤ s.size ∧ s.size ≤ 63) → labs (joinL ls ++ [0]) = some ls := by
  intro ls
  induction ls with
  | nil => intro _; simp [joinL, labs]
  | cons s t ih =>
    intro h
    have hs := h s (by simp)
    have ht := ih fun x hx => h x (by simp [hx])
    have hl := size_L s
    have hn : (UInt8.ofNat s.size).toNat = s.size := by rw [UInt8.toNat_ofNat']; omega
    rw [joinL_cons, List.cons_append, labs, hn, if_neg (by omega), if_neg (by omega), if_neg (by simp; omega)]
    have e1 : (L s ++ joinL t ++ [0]).drop s.size = joinL t ++ [0] := by rw [List.append_assoc, hl, List.drop_left]
    have e2 : (L s ++ joinL t ++ [0]).take s.size = L s := by rw [List.append_assoc, hl, List.take_left]
    rw [e1, e2, ht, B_L]
    rfl
theorem names_of_join {ls : List ByteArray} (h : ∀ s ∈ ls, 1 ≤ s.size ∧ s.size ≤ 63) (hn : (joinL ls).length + 1 ≤ 255) : names (joinL ls ++ [0]) = some ls := by
  unfold names
  rw [if_neg (by simp; omega), labs_of_join ls h]
theorem joinL_fold : ∀ (ls : List ByteArray), (∀ s ∈ ls, s.size ≤ 63) → (joinL ls).map low = joinL (ls.map foldB) := by
  intro ls
  induction ls with
  | nil => intro _; simp [joinL]
  | cons s t ih =>
    intro h
    have hs := h s (by simp)
    rw [joinL_cons, List.map_cons, List.map_append, ih fun x hx => h x (by simp [hx]), List.map_cons, joinL_cons, foldB_size, L_foldB, low_small (by rw [UInt8.toNat_ofNat']; omega)]
theorem fold_join {ls : List ByteArray} (h : ∀ s ∈ ls, s.size ≤ 63) : foldB (join ls) = join (ls.map foldB) := by
  apply L_inj
  rw [L_foldB, L_join, L_join, List.map_append, joinL_fold ls h]
  simp [low_small]
theorem join_names {a : ByteArray} {ls : List ByteArray} (h : names (L a) = some ls) : join ls = a := L_inj (by rw [L_join, ← (names_join h).1])
theorem mem_size {ls : List ByteArray} (h : ∀ s ∈ ls, 1 ≤ s.size ∧ s.size ≤ 63) : ∀ s ∈ ls, s.size ≤ 63 := fun s hs => (h s hs).2
theorem joinL_len_fold (ls : List ByteArray) : (joinL (ls.map foldB)).length = (joinL ls).length := by
  induction ls with
  | nil => rfl
  | cons s t ih => rw [List.map_cons, joinL_cons, joinL_cons]; simp [ih, L_foldB]
theorem joinL_len_drop (ls : List ByteArray) (n : Nat) : (joinL (ls.drop n)).length ≤ (joinL ls).length := by
  have h : joinL ls = joinL (ls.take n) ++ joinL (ls.drop n) := by rw [← joinL_append, List.take_append_drop]
  rw [h, List.length_append]; omega
theorem joinL_len_ge (ls : List ByteArray) : ls.length ≤ (joinL ls).length := by
  induction ls with
  | nil => simp
  | cons s t ih => rw [joinL_cons]; simp; omega
theorem mem_len_le {ls : List ByteArray} {s : ByteArray} (h : s ∈ ls) : s.size ≤ (joinL ls).length := by
  induction ls with
  | nil => cases h
  | cons x t ih =>
    rw [joinL_cons, size_L]
    rcases List.mem_cons.1 h with rfl | h
    · simp; omega
    · have := ih h
      rw [size_L] at this
      simp; omega
def sameN (a b : ByteArray) : Bool := (names (L a)).isSome && ((names (L b)).isSome && (L (foldB a) == L (foldB b)))
theorem foldB_ne {a : ByteArray} {ls : List ByteArray} (h : names (L a) = some ls) : L (foldB a) ≠ [] := by
  rw [L_foldB, (names_join h).1]
  simp
/-- A name without its first labels. -/
def ancN (o : Option (List ByteArray)) (n : Int) : ByteArray × Int := match o with
  | none => (⟨#[]⟩, 32)
  | some ls => if n < 0 ∨ n > (ls.length : Int) then (⟨#[]⟩, 32) else (join (ls.drop n.toNat), 0)
/-- The order of two names by their labels from the right, given turned round. -/
def cmpR : List ByteArray → List ByteArray → Int
  | [], [] => 0
  | [], _ :: _ => -1
  | _ :: _, [] => 1
  | a :: x, b :: y => if Lib.compareBytes (L (foldB a)) (L (foldB b)) = 0 then cmpR x y else Lib.compareBytes (L (foldB a)) (L (foldB b))
/-- The order of two names. -/
def cmpN (a b : ByteArray) : Int := match names (L a), names (L b) with
  | some x, some y => cmpR x.reverse y.reverse
  | _, _ => 0
theorem rev_drop (l : List ByteArray) (i : Nat) (h : i < l.length) : l.reverse.drop i = l.getD (l.length - (i + 1)) ByteArray.empty :: l.reverse.drop (i + 1) := by
  rw [List.drop_eq_getElem_cons (by simpa using h)]
  congr 1
  rw [List.getElem_reverse, List.getD_eq_getElem?_getD, List.getElem?_eq_getElem (by omega)]
  simp only [Option.getD_some]
  congr 1
  omega
/-- The name that labels make. -/
def mkN (ls : List ByteArray) : ByteArray × Int := if 127 < ls.length then (⟨#[]⟩, 3) else if ∃ s ∈ ls, s.size < 1 ∨ 63 < s.size then (⟨#[]⟩, 2) else if 255 < (joinL ls).length + 1 then (⟨#[]⟩, 3) else (join ls, 0)
def GoodL (ls : List ByteArray) : Prop := ∀ s ∈ ls, 1 ≤ s.size ∧ s.size ≤ 63
theorem join_inj {x y : List ByteArray} (hx : GoodL x) (hy : GoodL y) (h : join x = join y) : x = y := by
  have h2 : labs (L (join x)) = labs (L (join y)) := by rw [h]
  rw [L_join, L_join, labs_of_join x hx, labs_of_join y hy] at h2
  exact Option.some.inj h2
theorem GoodL.fold {x : List ByteArray} (hx : GoodL x) : GoodL (x.map foldB) := by
  intro s hs
  obtain ⟨t, ht, rfl⟩ := List.mem_map.1 hs
  rw [foldB_size]
  exact hx t ht
theorem GoodL.drop {x : List ByteArray} (hx : GoodL x) (n : Nat) : GoodL (x.drop n) := fun s hs => hx s (List.mem_of_mem_drop hs)
theorem GoodL.take {x : List ByteArray} (hx : GoodL x) (n : Nat) : GoodL (x.take n) := fun s hs => hx s (List.mem_of_mem_take hs)
theorem GoodL.append {x y : List ByteArray} (hx : GoodL x) (hy : GoodL y) : GoodL (x ++ y) := fun s hs => (List.mem_append.1 hs).elim (hx s) (hy s)
theorem foldB_join_iff {x y : List ByteArray} (hx : GoodL x) (hy : GoodL y) : foldB (join x) = foldB (join y) ↔ x.map foldB = y.map foldB := by
  rw [fold_join (mem_size hx), fold_join (mem_size hy)]
  exact ⟨join_inj hx.fold hy.fold, fun h => by rw [h]⟩
theorem names_good {a : ByteArray} {ls : List ByteArray} (h : names (L a) = some ls) : GoodL ls ∧ join ls = a ∧ (joinL ls).length + 1 ≤ 255 := by
  obtain ⟨h1, h2, h3⟩ := names_join h
  exact ⟨h2, join_names h, by rw [h1] at h3; simpa using h3⟩
theorem joinL_good_ge : ∀ {ls : List ByteArray}, GoodL ls → 2 * ls.length ≤ (joinL ls).length := by
  intro ls
  induction ls with
  | nil => intro _; simp
  | cons s t ih =>
    intro h
    have h1 := h s (by simp)
    have h2 := ih fun x hx => h x (by simp [hx])
    have := size_L s
    rw [joinL_cons]
    simp only [List.length_cons, List.length_append]
    omega
/-- The name of good labels. -/
def mkG (ls : List ByteArray) : ByteArray × Int := if 255 < (joinL ls).length + 1 then (⟨#[]⟩, 3) else (join ls, 0)
theorem mkN_good {ls : List ByteArray} (h : GoodL ls) : mkN ls = mkG ls := by
  have hl := joinL_good_ge h
  have hne : ¬ ∃ s ∈ ls, s.size < 1 ∨ 63 < s.size := by
    rintro ⟨s, hs, hb⟩
    have := h s hs
    omega
  unfold mkN mkG
  by_cases h1 : 127 < ls.length
  · rw [if_pos h1, if_pos (by omega)]
  · rw [if_neg h1, if_neg hne]
/-- Is a name another one or below it: by their labels. -/
def underL (x y : List ByteArray) : Bool := decide (y.length ≤ x.length ∧ (x.drop (x.length - y.length)).map foldB = y.map foldB)
def underN (a b : ByteArray) : Bool := match names (L a), names (L b) with
  | some x, some y => underL x y
  | _, _ => false
theorem sameN_iff {a b : ByteArray} {x y : List ByteArray} (hx : names (L a) = some x) (hy : names (L b) = some y) : sameN a b = decide (x.map foldB = y.map foldB) := by
  obtain ⟨gx, jx, _⟩ := names_good hx
  obtain ⟨gy, jy, _⟩ := names_good hy
  unfold sameN
  rw [hx, hy]
  simp only [Option.isSome_some, Bool.true_and]
  by_cases h : x.map foldB = y.map foldB
  · rw [decide_eq_true h, beq_iff_eq, ← jx, ← jy, (foldB_join_iff gx gy).2 h]
  · rw [decide_eq_false h, beq_eq_false_iff_ne]
    intro e
    rw [← jx, ← jy] at e
    exact h ((foldB_join_iff gx gy).1 (L_inj e))
/-- A name put below another one. -/
def tailN (a b c : ByteArray) : ByteArray × Int := match names (L a), names (L b), names (L c) with
  | some x, some y, some z => if underL x y = true ∧ x.length ≠ y.length then mkG (x.take (x.length - y.length) ++ z) else (⟨#[]⟩, 22)
  | _, _, _ => (⟨#[]⟩, 32)
end Go.Proofs.YtpbmnokmpihnjaaDoor.Base
namespace Go.Proofs.YtpbmnokmpihnjaaDoor.Base
open Go.RowKit Go.Proofs.YtpbmnokmpihnjaaDoorW.PrintWords Go.Proofs.YtpbmnokmpihnjaaDoorW.PrintLast
def dig (c : UInt8) : Bool := decide (48 ≤ c.toNat) && decide (c.toNat ≤ 57)
theorem dig_iff (c : UInt8) : dig c = true ↔ 48 ≤ (c.toNat : Int) ∧ (c.toNat : Int) ≤ 57 := by unfold dig; simp; omega
def dec (n : Int) : List UInt8 → Option Int
  | [] => some n
  | c :: r => if dig c then dec (n * 10 + ((c.toNat : Int) - 48)) r else none
def dnum (l : List UInt8) (m : Nat) : Option Int := if l.length < 1 ∨ m < l.length then none else dec 0 l
theorem dec_bound : ∀ (l : List UInt8) (n m : Int) (p : Nat), dec n l = some m → 0 ≤ n → n < 10 ^ p → 0 ≤ m ∧ m < 10 ^ (p + l.length) := by
  intro l
  induction l with
  | nil => intro n m p h h0 h1; cases h; exact ⟨h0, by simpa using h1⟩
  | cons c r ih =>
    intro n m p h h0 h1
    rw [dec] at h
    by_cases hd : dig c
    · rw [if_pos hd] at h
      have hc := (dig_iff c).1 hd
      have := ih _ m (p + 1) h (by omega) (by rw [Int.pow_succ]; omega)
      rw [List.length_cons, show p + (r.length + 1) = p + 1 + r.length from by omega]
      exact this
    · rw [if_neg hd] at h; cases h
theorem dec_all : ∀ (l : List UInt8) (n m : Int), dec n l = some m → ∀ c ∈ l, dig c = true := by
  intro l
  induction l with
  | nil => intro n m _ c hc; cases hc
  | cons c r ih =>
    intro n m h x hx
    rw [dec] at h
    by_cases hd : dig c
    · rw [if_pos hd] at h
      rcases List.mem_cons.1 hx with rfl | hx
      · exact hd
      · exact ih _ _ h x hx
    · rw [if_neg hd] at h; cases h
theorem dnum_bound {l : List UInt8} {m : Nat} {n : Int} (h : dnum l m = some n) (hm : m ≤ 10) : 0 ≤ n ∧ n ≤ 9999999999 := by
  unfold dnum at h
  split at h
  · cases h
  · rename_i hl
    have hb := dec_bound l 0 n 0 h (by decide) (by decide)
    refine ⟨hb.1, ?_⟩
    have h2 := hb.2
    have : (10 : Int) ^ (0 + l.length) ≤ 10000000000 := by
      rcases (by omega : l.length = 0 ∨ l.length = 1 ∨ l.length = 2 ∨ l.length = 3 ∨ l.length = 4 ∨ l.length = 5 ∨ l.length = 6 ∨ l.length = 7 ∨ l.length = 8 ∨ l.length = 9 ∨ l.length = 10) with e | e | e | e | e | e | e | e | e | e | e <;> rw [e] <;> decide
    omega
def unit (c : Nat) : Int := if c = 115 ∨ c = 83 then 1 else if c = 109 ∨ c = 77 then 60 else if c = 104 ∨ c = 72 then 3600 else if c = 100 ∨ c = 68 then 86400 else if c = 119 ∨ c = 87 then 604800 else 0
theorem unit_bound (c : Nat) : 0 ≤ unit c ∧ unit c ≤ 604800 := by unfold unit; repeat' split <;> omega
theorem unit_big (c : Nat) (h : unit c ≠ 0) : 65 ≤ c := by unfold unit at h; repeat' split at h <;> omega
/-- A text of numbers with units: the sum so far, the digits that stand open, whether a unit has been read. -/
def ttl (sum : Int) (pend : List UInt8) (started : Bool) : List UInt8 → Int × Int
  | [] => if pend = [] ∧ started = true then (if sum > 2147483647 then (0, 18) else (sum, 0)) else (0, 18)
  | c :: r => if dig c then ttl sum (pend ++ [c]) started r else match dnum pend 10 with
    | none => (0, 18)
    | some n => if unit c.toNat = 0 then (0, 18) else ttl (sum + n * unit c.toNat) [] true r
theorem ttl_digits : ∀ (l p : List UInt8) (s : Int) (b : Bool), (∀ c ∈ l, dig c = true) → p ++ l ≠ [] → ttl s p b l = (0, 18) := by
  intro l
  induction l with
  | nil => intro p s b _ h; rw [ttl, if_neg (fun e => h (by simp [e.1]))]
  | cons c r ih =>
    intro p s b h _
    rw [ttl, if_pos (h c (by simp))]
    exact ih _ _ _ (fun x hx => h x (by simp [hx])) (by simp)
def ttlAll (x : ByteArray) : Int × Int := if 60 < x.size then (0, 18) else match dnum (L x) 10 with | some n => if n ≤ 2147483647 then (n, 0) else (0, 18) | none => ttl 0 [] false (L x)
end Go.Proofs.YtpbmnokmpihnjaaDoor.Base
namespace Go.Proofs.YtpbmnokmpihnjaaDoor.Pure
open Go.RowKit Go.Proofs.YtpbmnokmpihnjaaDoor.F Go.Proofs.YtpbmnokmpihnjaaDoor.Base Go.Proofs.YtpbmnokmpihnjaaDoorW.PrintWords Go.Proofs.YtpbmnokmpihnjaaDoorW.PrintLast Go.Proofs.YtpbmnokmpihnjaaDoorW.PrintMore
set_option linter.unusedVariables false
set_option linter.unusedSimpArgs false
-- base: BaseTTL
theorem impl_decimal_l0 (x : ByteArray) (hx : x.size ≤ 10) : ∀ (l p : List UInt8) (n : Int) (k : Nat), L x = p ++ l → 0 ≤ n → n < 10 ^ p.length → l.length < k → impl_decimal.l0 k x n (p.length : Int) = some ((dec n l).getD (-1)) := by
  intro l
  induction l with
  | nil =>
    intro p n k h h0 h1 hk
    obtain ⟨k, rfl⟩ : ∃ m, k = m + 1 := ⟨k - 1, by simp at hk; omega⟩
    have hz : x.size = p.length := by rw [size_L, h]; simp
    rw [impl_decimal.l0, if_neg (by omega)]
    rfl
  | cons c r ih =>
    intro p n k h h0 h1 hk
    obtain ⟨k, rfl⟩ : ∃ m, k = m + 1 := ⟨k - 1, by simp at hk; omega⟩
    have hz : x.size = p.length + (r.length + 1) := by rw [size_L, h]; simp
    have hc := byte_le c
    have hp : (10 : Int) ^ p.length ≤ 1000000000 := by
      rcases (by omega : p.length = 0 ∨ p.length = 1 ∨ p.length = 2 ∨ p.length = 3 ∨ p.length = 4 ∨ p.length = 5 ∨ p.length = 6 ∨ p.length = 7 ∨ p.length = 8 ∨ p.length = 9) with e | e | e | e | e | e | e | e | e | e <;> rw [e] <;> decide
    rw [impl_decimal.l0, if_pos (by omega), if_pos (by omega), bt_mid h rfl, dec]
    by_cases hd : dig c
    · have hr := (dig_iff c).1 hd
      rw [if_pos hd, if_neg (by omega), if_neg (by omega), Int.emod_eq_of_lt (a := (c.toNat : Int) - 48) (b := 256) (by omega) (by omega), w64 (x := n * 10) (by omega) (by omega), w64 (x := n * 10 + ((c.toNat : Int) - 48)) (by omega) (by omega), w64 (x := (p.length : Int) + 1) (by omega) (by omega)]
      have e : (p.length : Int) + 1 = ((p ++ [c]).length : Int) := by simp
      rw [e]
      exact ih (p ++ [c]) _ k (by rw [h]; simp) (by omega) (by rw [List.length_append, List.length_singleton, Int.pow_succ]; omega) (by simp at hk; omega)
    · have hr : ¬ (48 ≤ (c.toNat : Int) ∧ (c.toNat : Int) ≤ 57) := fun e => hd ((dig_iff c).2 e)
      rw [if_neg hd]
      by_cases h1 : (c.toNat : Int) < 48
      · rw [if_pos h1]; rfl
      · rw [if_neg h1, if_pos (by omega)]; rfl
theorem impl_decimal_eq (x : ByteArray) (m : Int) (m' : Nat) (hm : m = (m' : Int)) (hm2 : m' ≤ 10) (k : Nat) (hk : 13 ≤ k) : impl_decimal.f k x m = some ((dnum (L x) m').getD (-1)) := by
  subst hm
  obtain ⟨k, rfl⟩ : ∃ j, k = j + 1 := ⟨k - 1, by omega⟩
  have hs := size_L x
  unfold impl_decimal.f dnum
  by_cases h1 : (x.size : Int) < 1
  · rw [if_pos h1, impl_decimal.j0, if_pos rfl, if_pos (by omega)]; rfl
  · rw [if_neg h1]
    by_cases h2 : (x.size : Int) > (m' : Int)
    · rw [decide_eq_true h2, impl_decimal.j0, if_pos rfl, if_pos (by omega)]; rfl
    · rw [decide_eq_false h2, impl_decimal.j0, if_neg (by decide), if_neg (by omega)]
      have := impl_decimal_l0 x (by omega) (L x) [] 0 k rfl (by decide) (by decide) (by omega)
      simpa using this

end Go.Proofs.YtpbmnokmpihnjaaDoor.Pure
namespace Go.Proofs.YtpbmnokmpihnjaaDoor.Pure
open Go.RowKit Go.Proofs.YtpbmnokmpihnjaaDoor.F Go.Proofs.YtpbmnokmpihnjaaDoor.Base Go.Proofs.YtpbmnokmpihnjaaDoorW.PrintWords Go.Proofs.YtpbmnokmpihnjaaDoorW.PrintLast Go.Proofs.YtpbmnokmpihnjaaDoorW.PrintMore
set_option linter.unusedVariables false
set_option linter.unusedSimpArgs false
-- base: BaseName
theorem impl_fold_eq (a : ByteArray) (ha : a.size ≤ 140737488355328) : impl_fold.f a = some (foldB a) := by
  unfold impl_fold.f
  rw [if_pos ha]
  congr 1
  apply L_inj
  rw [L_strOfNums, L_foldB, bytesOf, List.map_map, List.map_map]
  apply List.map_congr_left
  intro c _
  simp only [Function.comp, low8]
  unfold low
  by_cases h : 65 ≤ c.toNat ∧ c.toNat ≤ 90
  · rw [if_pos (by omega), if_pos h, show ((c.toNat : Int) + 32).toNat = c.toNat + 32 from by omega]
  · rw [if_neg (by omega), if_neg h]
    simp

end Go.Proofs.YtpbmnokmpihnjaaDoor.Pure
namespace Go.Proofs.YtpbmnokmpihnjaaDoor.Pure
open Go.RowKit Go.Proofs.YtpbmnokmpihnjaaDoor.F Go.Proofs.YtpbmnokmpihnjaaDoor.Base Go.Proofs.YtpbmnokmpihnjaaDoorW.PrintWords Go.Proofs.YtpbmnokmpihnjaaDoorW.PrintLast Go.Proofs.YtpbmnokmpihnjaaDoorW.PrintMore
set_option linter.unusedVariables false
set_option linter.unusedSimpArgs false
-- base: BaseName BaseTTL
/-- What a type's text answers, its letters small. -/
def rtype (l : List UInt8) : Int × Int := match mnemOf l with
  | some n => (n, 0)
  | none => if Lib.hasPrefix l [116, 121, 112, 101] = true then (match dnum (l.drop 4) 5 with | some n => if n ≤ 65535 then (n, 0) else (0, 6) | none => (0, 6)) else (0, 6)
theorem foldB_size (a : ByteArray) : (foldB a).size = a.size := by rw [size_L, size_L, L_foldB, List.length_map]
theorem impl_ReadType_eq (a : ByteArray) (ha : a.size ≤ 1048576) (k : Nat) (hk : 13 ≤ k) : impl_ReadType.f k a = some (rtype (L (foldB a))) := by
  have hsz := foldB_size a
  unfold impl_ReadType.f rtype
  rw [if_neg (by omega), impl_fold_eq a (by omega), Option.bind_some, if_neg (by omega), show (foldB a).data.toList = L (foldB a) from rfl]
  cases hm : mnemOf (L (foldB a)) with
  | some n => rfl
  | none =>
    simp only
    unfold impl_ReadType.g
    rw [show (foldB a).data.toList = L (foldB a) from rfl]
    by_cases hp : Lib.hasPrefix (L (foldB a)) [116, 121, 112, 101] = true
    · have hx : L ((foldB a).extract 4 (foldB a).size) = (L (foldB a)).drop 4 := by rw [L_extract, List.take_of_length_le (by rw [List.length_drop, ← size_L]; omega)]
      rw [if_pos hp, if_pos hp, impl_decimal_eq _ 5 5 rfl (by omega) k hk, Option.bind_some, hx]
      cases hd : dnum ((L (foldB a)).drop 4) 5 with
      | none => rfl
      | some n =>
        have hb := dnum_bound hd (by omega)
        simp only [Option.getD_some]
        rw [if_pos hb.1]
        by_cases h6 : n ≤ 65535
        · rw [if_pos h6, if_pos h6]
        · rw [if_neg h6, if_neg h6]
    · rw [if_neg hp, if_neg hp]

end Go.Proofs.YtpbmnokmpihnjaaDoor.Pure
namespace Go.Proofs.YtpbmnokmpihnjaaDoor.Pure
open Go.RowKit Go.Proofs.YtpbmnokmpihnjaaDoor.F Go.Proofs.YtpbmnokmpihnjaaDoor.Base Go.Proofs.YtpbmnokmpihnjaaDoorW.PrintWords Go.Proofs.YtpbmnokmpihnjaaDoorW.PrintLast Go.Proofs.YtpbmnokmpihnjaaDoorW.PrintMore
set_option linter.unusedVariables false
set_option linter.unusedSimpArgs false
-- base: BaseName
theorem spec_l01Small_l0 (x : ByteArray) (hx0 : x.size ≤ 1048576) : ∀ (n k : Nat) (acc : List Int) (p r : List UInt8), L x = p ++ r → r.length ≤ n → n < k → acc.length + r.length ≤ 1048576 → spec_l01Small.l0 k x acc (p.length : Int) = some (strOfNums (acc ++ r.map fun c => ((low c).toNat : Int))) := by
  intro n
  induction n with
  | zero =>
    intro k acc p r hx hn hk hb
    obtain ⟨k, rfl⟩ : ∃ m, k = m + 1 := ⟨k - 1, by omega⟩
    obtain rfl : r = [] := List.length_eq_zero_iff.1 (by omega)
    have hs := size_L x
    rw [hx] at hs
    simp only [List.append_nil] at hs
    rw [spec_l01Small.l0, if_neg (by omega)]
    simp
  | succ n ih =>
    intro k acc p r hx hn hk hb
    obtain ⟨k, rfl⟩ : ∃ m, k = m + 1 := ⟨k - 1, by omega⟩
    have hs := size_L x
    rw [hx] at hs
    rw [spec_l01Small.l0]
    cases r with
    | nil =>
      simp only [List.append_nil] at hs
      rw [if_neg (by omega)]
      simp
    | cons c r =>
      simp only [List.length_append, List.length_cons] at hs hn hb
      have hc := byte_le c
      rw [if_pos (by omega), if_pos (by omega), bt_mid hx rfl, w64 (by omega) (by omega)]
      have key : ∀ v : Int, v = ((low c).toNat : Int) → (if acc.length < 140737488355328 then spec_l01Small.l0 k x (acc ++ [v]) ((p.length : Int) + 1) else none) = some (strOfNums (acc ++ (c :: r).map fun c => ((low c).toNat : Int))) := by
        intro v hv
        rw [if_pos (by omega), show (p.length : Int) + 1 = ((p ++ [c]).length : Int) by simp, ih k _ (p ++ [c]) r (by rw [hx]; simp) (by omega) (by omega) (by simp; omega), hv]
        simp
      have hlow := low_toNat c
      by_cases h1 : (c.toNat : Int) ≥ 65
      · rw [if_pos h1]
        by_cases h2 : (c.toNat : Int) ≤ 90
        · rw [if_pos h2]
          rw [if_pos (by omega)] at hlow
          exact key _ (by omega)
        · rw [if_neg h2]
          rw [if_neg (by omega)] at hlow
          exact key _ (by omega)
      · rw [if_neg h1]
        rw [if_neg (by omega)] at hlow
        exact key _ (by omega)
theorem spec_l01Small_eq (a : ByteArray) (ha : a.size ≤ 1048576) (k : Nat) (hk : a.size < k) : spec_l01Small.f k a = some (foldB a) := by
  have hs := size_L a
  unfold spec_l01Small.f
  have h := spec_l01Small_l0 a ha (L a).length k [] [] (L a) rfl (Nat.le_refl _) (by omega) (by simp; omega)
  rw [show (([] : List UInt8).length : Int) = 0 from rfl] at h
  rw [h]
  congr 1
  apply L_inj
  rw [L_strOfNums, L_foldB]
  simp

end Go.Proofs.YtpbmnokmpihnjaaDoor.Pure
namespace Go.Proofs.YtpbmnokmpihnjaaDoor.Pure
open Go.RowKit Go.Proofs.YtpbmnokmpihnjaaDoor.F Go.Proofs.YtpbmnokmpihnjaaDoor.Base Go.Proofs.YtpbmnokmpihnjaaDoorW.PrintWords Go.Proofs.YtpbmnokmpihnjaaDoorW.PrintLast Go.Proofs.YtpbmnokmpihnjaaDoorW.PrintMore
set_option linter.unusedVariables false
set_option linter.unusedSimpArgs false
-- base: BaseTTL
theorem spec_l01Digit_dig (c : UInt8) : spec_l01Digit.f (c.toNat : Int) = some (dig c) := by
  unfold spec_l01Digit.f
  by_cases hd : dig c
  · have hr := (dig_iff c).1 hd
    rw [if_pos (by omega), hd, decide_eq_true (by omega)]
  · have hr : ¬ (48 ≤ (c.toNat : Int) ∧ (c.toNat : Int) ≤ 57) := fun e => hd ((dig_iff c).2 e)
    rw [Bool.not_eq_true] at hd
    rw [hd]
    by_cases h : (c.toNat : Int) ≥ 48
    · rw [if_pos h, decide_eq_false (by omega)]
    · rw [if_neg h]

end Go.Proofs.YtpbmnokmpihnjaaDoor.Pure
namespace Go.Proofs.YtpbmnokmpihnjaaDoor.Pure
open Go.RowKit Go.Proofs.YtpbmnokmpihnjaaDoor.F Go.Proofs.YtpbmnokmpihnjaaDoor.Base Go.Proofs.YtpbmnokmpihnjaaDoorW.PrintWords Go.Proofs.YtpbmnokmpihnjaaDoorW.PrintLast Go.Proofs.YtpbmnokmpihnjaaDoorW.PrintMore
set_option linter.unusedVariables false
set_option linter.unusedSimpArgs false
-- base: BaseTTL
theorem spec_l03Number_l0 (x : ByteArray) (hx : x.size ≤ 10) : ∀ (l p : List UInt8) (n : Int) (k : Nat), L x = p ++ l → 0 ≤ n → n < 10 ^ p.length → l.length < k → spec_l03Number.l0 k x n (p.length : Int) = some ((dec n l).getD 0, (dec n l).isSome) := by
  intro l
  induction l with
  | nil =>
    intro p n k h h0 h1 hk
    obtain ⟨k, rfl⟩ : ∃ m, k = m + 1 := ⟨k - 1, by simp at hk; omega⟩
    have hz : x.size = p.length := by rw [size_L, h]; simp
    rw [spec_l03Number.l0, if_neg (by omega)]
    rfl
  | cons c r ih =>
    intro p n k h h0 h1 hk
    obtain ⟨k, rfl⟩ : ∃ m, k = m + 1 := ⟨k - 1, by simp at hk; omega⟩
    have hz : x.size = p.length + (r.length + 1) := by rw [size_L, h]; simp
    have hc := byte_le c
    have hp : (10 : Int) ^ p.length ≤ 1000000000 := by
      rcases (by omega : p.length = 0 ∨ p.length = 1 ∨ p.length = 2 ∨ p.length = 3 ∨ p.length = 4 ∨ p.length = 5 ∨ p.length = 6 ∨ p.length = 7 ∨ p.length = 8 ∨ p.length = 9) with e | e | e | e | e | e | e | e | e | e <;> rw [e] <;> decide
    rw [spec_l03Number.l0, if_pos (by omega), if_pos (by omega), bt_mid h rfl, spec_l01Digit_dig, Option.bind_some, dec]
    by_cases hd : dig c
    · have hr := (dig_iff c).1 hd
      rw [if_pos hd, if_pos hd, Int.emod_eq_of_lt (a := (c.toNat : Int) - 48) (b := 256) (by omega) (by omega), w64 (x := n * 10) (by omega) (by omega), w64 (x := n * 10 + ((c.toNat : Int) - 48)) (by omega) (by omega), w64 (x := (p.length : Int) + 1) (by omega) (by omega)]
      have e : (p.length : Int) + 1 = ((p ++ [c]).length : Int) := by simp
      rw [e]
      exact ih (p ++ [c]) _ k (by rw [h]; simp) (by omega) (by rw [List.length_append, List.length_singleton, Int.pow_succ]; omega) (by simp at hk; omega)
    · rw [if_neg hd, if_neg hd]; rfl
theorem spec_l03Number_eq (x : ByteArray) (m : Int) (m' : Nat) (hm : m = (m' : Int)) (hm2 : m' ≤ 10) (k : Nat) (hk : 13 ≤ k) : spec_l03Number.f k x m = some ((dnum (L x) m').getD 0, (dnum (L x) m').isSome) := by
  subst hm
  obtain ⟨k, rfl⟩ : ∃ j, k = j + 1 := ⟨k - 1, by omega⟩
  have hs := size_L x
  unfold spec_l03Number.f dnum
  by_cases h1 : (x.size : Int) < 1
  · rw [if_pos h1, spec_l03Number.j0, if_pos rfl, if_pos (by omega)]; rfl
  · rw [if_neg h1]
    by_cases h2 : (x.size : Int) > (m' : Int)
    · rw [decide_eq_true h2, spec_l03Number.j0, if_pos rfl, if_pos (by omega)]; rfl
    · rw [decide_eq_false h2, spec_l03Number.j0, if_neg (by decide), if_neg (by omega)]
      have := spec_l03Number_l0 x (by omega) (L x) [] 0 k rfl (by decide) (by decide) (by omega)
      simpa using this

end Go.Proofs.YtpbmnokmpihnjaaDoor.Pure
namespace Go.Proofs.YtpbmnokmpihnjaaDoor.Pure
open Go.RowKit Go.Proofs.YtpbmnokmpihnjaaDoor.F Go.Proofs.YtpbmnokmpihnjaaDoor.Base Go.Proofs.YtpbmnokmpihnjaaDoorW.PrintWords Go.Proofs.YtpbmnokmpihnjaaDoorW.PrintLast Go.Proofs.YtpbmnokmpihnjaaDoorW.PrintMore
set_option linter.unusedVariables false
set_option linter.unusedSimpArgs false
-- base: BaseName BaseTTL
def mnB (t : Int) : ByteArray := (spec_l03Mnemonic.f t).getD ⟨#[]⟩
theorem mnB_some (t : Int) : spec_l03Mnemonic.f t = some (mnB t) := by
  have h : (spec_l03Mnemonic.f t).isSome = true := by
    unfold spec_l03Mnemonic.f
    simp only [apply_ite Option.isSome, Option.isSome_some, ite_self]
  obtain ⟨x, hx⟩ := Option.isSome_iff_exists.1 h
  unfold mnB
  rw [hx]
  rfl
theorem mn_A : ∀ p ∈ mnemTable, L (foldB (mnB p.2)) = p.1 ∧ 1 ≤ p.2 ∧ p.2 ≤ 257 ∧ mnemOf p.1 = some p.2 ∧ p.1 ≠ [] ∧ p.1.length ≤ 5 := by decide +kernel
theorem mn_B0 : ∀ n : Fin 257, (mnB ((n.val : Int) + 1)).size ≤ 5 ∧ (L (foldB (mnB ((n.val : Int) + 1))) = [] ∨ (L (foldB (mnB ((n.val : Int) + 1))), (n.val : Int) + 1) ∈ mnemTable) := by decide +kernel
theorem mn_B (t : Int) (h0 : 1 ≤ t) (h1 : t ≤ 257) : (mnB t).size ≤ 5 ∧ (L (foldB (mnB t)) = [] ∨ (L (foldB (mnB t)), t) ∈ mnemTable) := by
  have h := mn_B0 ⟨(t - 1).toNat, by omega⟩
  have e : (((t - 1).toNat : Nat) : Int) + 1 = t := by omega
  simp only [e] at h
  exact h
theorem mn_some {l : List UInt8} {t : Int} (h : mnemOf l = some t) : (l, t) ∈ mnemTable := by
  unfold mnemOf at h
  cases hf : mnemTable.find? (fun p => p.1 == l) with
  | none => rw [hf] at h; cases h
  | some p =>
    rw [hf] at h
    have h1 := List.mem_of_find?_eq_some hf
    have h2 := List.find?_some hf
    simp only [beq_iff_eq] at h2
    have h3 : p.2 = t := Option.some.inj h
    rw [← h2, ← h3]
    exact h1
theorem mn_iff (l : List UInt8) (hl : l ≠ []) (t : Int) (h0 : 1 ≤ t) (h1 : t ≤ 257) : L (foldB (mnB t)) = l ↔ mnemOf l = some t := by
  constructor
  · intro h
    rcases (mn_B t h0 h1).2 with h2 | h2
    · exact absurd (h.symm.trans h2) hl
    · rw [h] at h2
      exact (mn_A _ h2).2.2.2.1
  · intro h
    exact (mn_A _ (mn_some h)).1
/-- What is left where no mnemonic is met. -/
def rrest (l : List UInt8) : Int × Int := if Lib.hasPrefix l [116, 121, 112, 101] = true then (match dnum (l.drop 4) 5 with | some n => if n ≤ 65535 then (n, 0) else (0, 6) | none => (0, 6)) else (0, 6)
theorem pre4 (l : List UInt8) : Lib.hasPrefix l [116, 121, 112, 101] = (l.take 4 == [116, 121, 112, 101]) := by
  unfold Lib.hasPrefix
  rw [Bool.eq_iff_iff, List.isPrefixOf_iff_prefix, beq_iff_eq, List.prefix_iff_eq_take]
  exact eq_comm
theorem spec_ReadType_rest (t : ByteArray) (ht : t.size ≤ 1048576) (k : Nat) (hk : 20 ≤ k) :
    (if (t.size : Int) < 5 then (spec_ReadType.j1 k t true) else (if 0 ≤ 4 then (if 4 ≤ (t.size : Int) then (spec_ReadType.j1 k t ((t.extract 0 4).toList != ([116, 121, 112, 101] : List UInt8))) else (none)) else (none))) = some (rrest (L t)) := by
  obtain ⟨k, rfl⟩ : ∃ m, k = m + 1 := ⟨k - 1, by omega⟩
  have hs := size_L t
  unfold rrest
  by_cases h5 : (t.size : Int) < 5
  · rw [if_pos h5, spec_ReadType.j1, if_pos rfl]
    by_cases hp : Lib.hasPrefix (L t) [116, 121, 112, 101] = true
    · rw [if_pos hp]
      have hl : ((L t).drop 4).length = 0 := by rw [List.length_drop]; omega
      have hd : dnum ((L t).drop 4) 5 = none := by unfold dnum; rw [if_pos (by omega)]
      rw [hd]
    · rw [if_neg hp]
  · have hx : L (t.extract 0 4) = (L t).take 4 := by rw [L_extract]; rfl
    have hx2 : L (t.extract 4 t.size) = (L t).drop 4 := by rw [L_extract, List.take_of_length_le (by rw [List.length_drop, ← size_L]; omega)]
    rw [if_neg h5, if_pos (by omega), if_pos (by omega), toL, hx, pre4]
    by_cases hp : ((L t).take 4 == [116, 121, 112, 101]) = true
    · rw [if_pos hp, show ((L t).take 4 != ([116, 121, 112, 101] : List UInt8)) = false from by rw [bne, hp]; rfl, spec_ReadType.j1, if_neg (by decide), if_pos (by omega), spec_l03Number_eq _ 5 5 rfl (by omega) k (by omega), Option.bind_some, hx2]
      cases hd : dnum ((L t).drop 4) 5 with
      | none => rfl
      | some n =>
        simp only [Option.getD_some, Option.isSome_some]
        rw [if_pos trivial]
        by_cases h6 : n ≤ 65535
        · rw [if_pos h6, if_neg (by omega)]
        · rw [if_neg h6, if_pos (by omega)]
    · rw [if_neg hp, show ((L t).take 4 != ([116, 121, 112, 101] : List UInt8)) = true from by rw [bne]; simpa using hp, spec_ReadType.j1, if_pos rfl]
theorem spec_ReadType_l0 (a : ByteArray) (ha : a.size ≤ 9) : ∀ (d : Nat) (k : Nat) (i : Int), 1 ≤ i → i + d = 258 → 40 + d ≤ k →
    spec_ReadType.l0 k a (foldB a) i = some (match mnemOf (L (foldB a)) with | some t => if i ≤ t then (t, 0) else rrest (L (foldB a)) | none => rrest (L (foldB a))) := by
  have hsz := foldB_size a
  have hsl := size_L (foldB a)
  have hsa := size_L a
  intro d
  induction d with
  | zero =>
    intro k i h0 h1 hk
    obtain ⟨k, rfl⟩ : ∃ m, k = m + 1 := ⟨k - 1, by omega⟩
    rw [spec_ReadType.l0, if_neg (by omega), spec_ReadType_rest _ (by omega) k (by omega)]
    cases hm : mnemOf (L (foldB a)) with
    | none => rfl
    | some t =>
      have := (mn_A _ (mn_some hm)).2.2.1
      simp only at this ⊢
      rw [if_neg (by omega)]
  | succ d ih =>
    intro k i h0 h1 hk
    obtain ⟨k, rfl⟩ : ∃ m, k = m + 1 := ⟨k - 1, by omega⟩
    have hB := mn_B i h0 (by omega)
    rw [spec_ReadType.l0, if_pos (by omega), toL, w64 (by omega) (by omega), ih k (i + 1) (by omega) (by omega) (by omega)]
    by_cases he : L a = []
    · have hf : L (foldB a) = [] := by rw [L_foldB, he]; rfl
      have hn : mnemOf (L (foldB a)) = none := by rw [hf]; rfl
      rw [if_pos he, hn]
    · have hf : L (foldB a) ≠ [] := by
        intro e
        rw [e, List.length_nil] at hsl
        exact he (List.eq_nil_of_length_eq_zero (by omega))
      rw [if_neg he, mnB_some, Option.bind_some, spec_l01Small_eq _ (by omega) k (by omega), Option.bind_some, toL, toL]
      have hi := mn_iff (L (foldB a)) hf i h0 (by omega)
      by_cases hq : L (foldB (mnB i)) = L (foldB a)
      · rw [if_pos hq, hi.1 hq]
        simp only
        rw [if_pos (Int.le_refl _)]
      · rw [if_neg hq]
        cases hm : mnemOf (L (foldB a)) with
        | none => rfl
        | some t =>
          have hne : t ≠ i := fun e => hq (hi.2 (by rw [hm, e]))
          simp only
          by_cases hle : i ≤ t
          · rw [if_pos hle, if_pos (by omega)]
          · rw [if_neg hle, if_neg (by omega)]
theorem spec_ReadType_eq (a : ByteArray) (ha : a.size ≤ 1048576) (k : Nat) (hk : 1048577 ≤ k) : spec_ReadType.f k a = some (rtype (L (foldB a))) := by
  have hsz := foldB_size a
  have hsl := size_L (foldB a)
  unfold spec_ReadType.f
  rw [spec_l01Small_eq a ha k (by omega), Option.bind_some]
  by_cases h9 : (a.size : Int) > 9
  · rw [if_pos h9]
    congr 1
    unfold rtype
    cases hm : mnemOf (L (foldB a)) with
    | some t =>
      have := (mn_A _ (mn_some hm)).2.2.2.2.2
      simp only at this
      omega
    | none =>
      have hd : dnum ((L (foldB a)).drop 4) 5 = none := by unfold dnum; rw [if_pos (by rw [List.length_drop]; omega)]
      simp only [hd]
      split <;> rfl
  · rw [if_neg h9, spec_ReadType_l0 a (by omega) 257 k 1 (by omega) (by omega) (by omega)]
    congr 1
    unfold rtype rrest
    cases hm : mnemOf (L (foldB a)) with
    | some t =>
      have := (mn_A _ (mn_some hm)).2.1
      simp only at this ⊢
      rw [if_pos this]
    | none => rfl

end Go.Proofs.YtpbmnokmpihnjaaDoor.Pure
namespace Go.Proofs.YtpbmnokmpihnjaaDoor.Pure
open Go.RowKit Go.Proofs.YtpbmnokmpihnjaaDoor.F Go.Proofs.YtpbmnokmpihnjaaDoor.Base Go.Proofs.YtpbmnokmpihnjaaDoorW.PrintWords Go.Proofs.YtpbmnokmpihnjaaDoorW.PrintLast Go.Proofs.YtpbmnokmpihnjaaDoorW.PrintMore
set_option linter.unusedVariables false
set_option linter.unusedSimpArgs false
theorem FnExactReadType : laws_FnExactReadType.Pure := by
  intro a _
  refine ⟨1048578, ?_⟩
  unfold laws_FnExactReadType.f
  by_cases h : (a.size : Int) > 1048576
  · rw [if_pos h]
  · rw [if_neg h, spec_ReadType_eq a (by omega) _ (by omega), Option.bind_some, impl_ReadType_eq a (by omega) _ (by omega), Option.bind_some, if_pos rfl, if_pos rfl]

end Go.Proofs.YtpbmnokmpihnjaaDoor.Pure
namespace Go.Proofs.YtpbmnokmpihnjaaDoor.fnExactReadType
open Go.ChangeShapes Go.WideShapes Go.ChangeAt Go.RowKit
open Go.ChangeMaps (open_string shut_string)
set_option linter.unusedVariables false
theorem laidOut : laidOutB Tryd.prog = true := by kernel_rfl
theorem own : ownKnob Tryd.prog.godebug = none := by kernel_rfl
set_option maxRecDepth 100000 in
theorem lifted (os : Os) (started : os.Started) (H : Type) (enc : TypeId × Value → H) :
    ReturnsInHanded {} Tryd.checked os 3 .any (fun w args => (Rows.fnExactReadTypeSpec.pre enc Tryd.prog Tryd.f3 [] false w args ∧ laidMetH Tryd.prog (XGlob.laidF (H := Unit)) w) ∧ sizedMet enc Tryd.prog Tryd.f3 (OpenSpec.ofChange Rows.fnExactReadTypeSpec) false w args) (Rows.fnExactReadTypeSpec.post enc Tryd.prog Tryd.f3 false true false false) := by
  refine returnsInHanded_of_change_and (C := Tryd.checked) (X := fun w _ => laidMetH Tryd.prog (XGlob.laidF (H := Unit)) w) (fun _ _ _ hh h => h.of_heap hh) own started (by kernel_rfl) Tryd.func3
    (ChangeSpec.witness_shaped (enc := enc) (C := Tryd.checked) (os := os) (X := fun w _ => laidMetH Tryd.prog (XGlob.laidF (H := Unit)) w) false (World.doorLaid Tryd.prog 200 os) #[.string ByteArray.empty] 8 rfl (World.shaped_of_RefB (by kernel_rfl) (by kernel_rfl)) (by kernel_rfl) (by kernel_rfl) (by kernel_rfl) (XGlob.door_met os _)) ?_
  intro W base args ds gs before hval0 hW hcnd hsz0 hL _
  have hsz : (DataW.weightsEach Tryd.prog (Tryd.f3.params.toList ++ Rows.fnExactReadTypeSpec.plain.varTypes Tryd.prog) (ds ++ gs)).all (· ≤ reachBytes) = true := hsz0
  have hval : ∀ (j : Nat) t v, Tryd.f3.params[j]? = some t → args[j]? = some v → Value.okWide Tryd.prog W .any base t v := hval0
  have hW' := hW
  obtain ⟨p, q, hA0, hV, rfl, hfz, hnd⟩ := hW
  have hA : DataW.TrodAll enc Tryd.prog W 0 (fun _ => true) true Tryd.f3.params.toList args.toList ds p := hA0
  rw [Tryd.params3] at hA hval hsz
  obtain ⟨v0, vs0, d0, ds0, p0, q0, hargs, rfl, rfl, h0, r0⟩ := trodAll_cons hA
  obtain ⟨rfl, rfl, rfl⟩ := trodAll_nil r0
  obtain rfl : args = #[v0] := by cases args; simp_all
  have hV2 := hV
  obtain ⟨gg, tt, cs, fuel, dg, pg, rfl, hg1, hg2, hg3, hg4, rfl⟩ := trodVars_one hV
  obtain ⟨a0, rfl, rfl, rfl, y0⟩ := open_string Tryd.underlying9 (hval 0 9 v0 rfl rfl) h0
  have w0 : a0.size ≤ 140737488351232 := by
    have z := sized_string hsz (j := 0) (t := 9) rfl rfl
    rw [Array.length_toList] at z
    exact z
  clear hA0 hval0 hsz0 hsz
  refine (F.laws_FnExactReadType.walk Pure.FnExactReadType a0 W w0 (XGlob.glob_of_laid hL)).mono fun e W' ⟨he, bel⟩ => ?_
  subst he
  exact ⟨_, rfl, _, _, _, [], _, _, hW', trodAll_mk1 (shut_bool Tryd.underlying4 _), (trodAll_cons_mk (shut_string Tryd.underlying9 y0) trodAll_mk0), bel.trodVars laidOut (by kernel_rfl) hV2, bel.frame _, fun h => by cases h⟩
theorem over : Rows.fnExactReadTypeRow.holds Tryd.pinned (OpenSpec.ofChange Rows.fnExactReadTypeSpec) :=
  OpenClaim.holds_of_wide 3 Tryd.f3 rfl rfl rfl rfl rfl rfl rfl ⟨rfl, rfl, rfl, rfl, rfl⟩ rfl rfl rfl rfl rfl (by kernel_rfl) Tryd.func3 (by kernel_rfl)
    (of_decide_eq_true (by kernel_rfl)) (by unfold Func.isWrapper; first | (rw [if_pos (by decide +kernel)]; kernel_rfl) | (rw [if_neg (by decide +kernel)]; exact ⟨rfl, rfl⟩))
    (fun os started H enc _ => lifted os started H enc)
end Go.Proofs.YtpbmnokmpihnjaaDoor.fnExactReadType
namespace Go.Proofs.YtpbmnokmpihnjaaDoor
open Go
/-- The tied card. -/
theorem fnExactReadType_holds : Rows.FnExactReadTypeCardSaid :=
  Claim7.holds_tied_plain_at .later [] [.mapped] true (true, "0c3c9cb146b177f44a51dfa5635be47c0b127b4c17230ec61a3e13e6212fc6c1") true
    fnExactReadType.over (fun _ h => by cases h) (by kernel_rfl) (fun _ h => by cases h) fnExactReadType_row_tie rfl ⟨rfl, rfl⟩ (by kernel_rfl) rfl
    (fun f fn hf hfn => by
      obtain rfl : f = 3 := Option.some.inj ((show Tryd.prog.funcNamed "loop.example/s01858/laws.FnExactReadType" = some 3 by kernel_rfl).symm.trans hf) |>.symm
      obtain rfl : fn = Tryd.f3 := (Option.some.inj (Tryd.func3.symm.trans hfn)).symm
      exact ⟨by kernel_rfl, fun j t ht => by
        rw [Tryd.params3] at ht
        have hm : t ∈ [9] := by simpa using Array.mem_of_getElem? ht
        have hall : ([9].all fun u => !Tryd.prog.wantsStandIn u) = true := by kernel_rfl
        exact (show Tryd.prog.wantsStandIn t = false by simpa using List.all_eq_true.1 hall t hm)⟩)
    (by kernel_rfl)
#print axioms fnExactReadType_holds
end Go.Proofs.YtpbmnokmpihnjaaDoor
