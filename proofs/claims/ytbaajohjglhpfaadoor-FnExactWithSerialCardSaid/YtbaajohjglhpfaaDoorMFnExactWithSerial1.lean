/- Part 1 of 2 of the proof of FnExactWithSerial: what each Go function on its way computes, that the Go code does just this, and what the law says of it. No condition beyond the statement's own. -/
import Derived.Test.YtbaajohjglhpfaaDoorWWords
import Derived.Test.YtbaajohjglhpfaaDoorWLast
import Derived.Test.YtbaajohjglhpfaaDoorWMore
import Derived.Test.YtbaajohjglhpfaaDoorProg
import Derived.Below
import Derived.Deep.Draws
import Derived.Deep.AppendLies
import Derived.Maps.AppendAt
import Derived.OwnWalk
import Derived.Laws.BytesArg
import Derived.Laws.MakeOwn
import Derived.Laws.OwnMore
import Derived.Deep.OwnRows
import Derived.Tactics
import Derived.Lib.ConvBytes
import Derived.Laws.Slices
import Derived.WalkKit
import Derived.KernelRfl
import Derived.RowKit3
import Derived.Deep.LoopGhost
import Derived.Deep.QuietTactic
import Derived.BigQuiet
import Derived.WideLaws
import Derived.Deep.DeepCutAuto
import Derived.Deep.CutBlock
import Derived.Deep.RegionHeld3
import Derived.Laws.Rows
import Derived.Lib.AppendStr
import Derived.ArgAppend
import Derived.Laws.IdiomCopy
import Derived.OrdersHeld
import Derived.Laws.BitsLemmas
import Derived.RowKit
import Derived.Lib.Builder
import Derived.Lib.UnsafeStr
import Derived.Laws.Externs
import Derived.Lib.Walk
import Derived.Shelf.Strings.Builder1
import Derived.Shelf.Small.Strs
import Derived.RegionTactic
import Derived.BigRegion
import Derived.ChangeAlike
import Derived.Test.YtbaajohjglhpfaaDoorWTab
import Derived.Test.YtbaajohjglhpfaaDoorWFour
import Derived.Test.YtbaajohjglhpfaaDoorWQPut
import Derived.Test.YtbaajohjglhpfaaDoorWApart
import Derived.Test.YtbaajohjglhpfaaDoorWArr
import Derived.Test.YtbaajohjglhpfaaDoorWZeros
import Derived.Test.YtbaajohjglhpfaaDoorWFoot
import Derived.Test.YtbaajohjglhpfaaDoorWKept
import Derived.Test.YtbaajohjglhpfaaDoorWShare
import Derived.Test.YtbaajohjglhpfaaDoorWN
import Derived.Test.YtbaajohjglhpfaaDoorWFootNe
import Derived.Test.YtbaajohjglhpfaaDoorWAt
import Derived.Test.YtbaajohjglhpfaaDoorWEqStruct
import Derived.Test.YtbaajohjglhpfaaDoorWRepsOne
import Derived.Test.YtbaajohjglhpfaaDoorWInv
import Derived.Test.YtbaajohjglhpfaaDoorWInvWords
import Derived.Test.YtbaajohjglhpfaaDoorWGuard
import Derived.Test.YtbaajohjglhpfaaDoorWNEv
import Derived.Test.YtbaajohjglhpfaaDoorRows
import Derived.ProofKit
import Derived.LaidMore
import Derived.OpenShut
import Derived.Maps.Own
import Derived.Maps.StringElems
import Derived.Stop.Joined
import Derived.Shelf.Bin.BEPutUint32
import Derived.Lib.LazyBuf
namespace Go.Proofs.YtbaajohjglhpfaaDoorW.XConv
open Go Go.RowKit Go.Proofs.YtbaajohjglhpfaaDoorW.PrintWords Go.Proofs.YtbaajohjglhpfaaDoorW.PrintMore

def Row8 (w : World) (g : Nat) (e : TypeId) (xs : List Int) : Prop :=
  ∃ (cur : Array Value) (fr : Nat × Nat), w.heap[g]? = some (.cells cur e fr) ∧ xs.length ≤ cur.size ∧ xs.length ≤ fr.1 ∧ ∀ j, j < xs.length → cur[j]? = some (.int .u8 (xs.getD j 0))
variable {w : World} {g : Nat} {e : TypeId} {xs : List Int}
theorem Row8.cell (h : Row8 w g e xs) (j : Nat) (hj : j < xs.length) : w.cell? ⟨g, j, none⟩ = some (.int .u8 (xs.getD j 0)) := by
  obtain ⟨cur, fr, hb, _, _, hc⟩ := h
  exact (cell_of_row w g j cur e fr hb).trans (hc j hj)
theorem Row8.frozen (h : Row8 w g e xs) (j : Nat) (hj : j < xs.length) : w.frozen? ⟨g, j, none⟩ = false := by
  obtain ⟨cur, fr, hb, _, hf, _⟩ := h
  simp only [World.frozen?, hb]
  have : ¬ (fr.1 ≤ j) := by omega
  simp [this]
theorem Row8.set (h : Row8 w g e xs) (j : Nat) (v : Int) : Row8 (w.setCell ⟨g, j, none⟩ (.int .u8 v)) g e (xs.set j v) := by
  obtain ⟨cur, fr, hb, hs, hf, hc⟩ := h
  refine ⟨cur.setIfInBounds j (.int .u8 v), fr, ?_, by simpa using hs, by simpa using hf, ?_⟩
  · have hlt : g < w.heap.size := (Array.getElem?_eq_some_iff.1 hb).1
    simp [World.setCell, Array.getElem?_modify, hb]
  · intro i hi
    rw [List.length_set] at hi
    rw [Array.getElem?_setIfInBounds]
    by_cases hij : j = i
    · subst hij
      rw [if_pos rfl, if_pos (by omega)]
      simp [List.getD_eq_getElem?_getD, hi]
    · rw [if_neg hij, hc i hi]
      simp [List.getD_eq_getElem?_getD, hij]
theorem Row8.conv (w : World) (e : TypeId) (s : ByteArray) : Row8 (Lib.bytesWorld w e s) w.heap.size e (bytesOf s) := by
  refine ⟨_, _, Lib.bytesWorld_at_new w e s, ?_, ?_, ?_⟩
  · rw [bytesOf_length]; simp [Lib.bytesCells]
  · rw [bytesOf_length]; simp [Lib.bytesCells]
  · intro j hj
    have h1 := Lib.bytesWorld_cell w e s j (by rw [bytesOf_length] at hj; exact hj)
    have h2 := cell_of_row (Lib.bytesWorld w e s) w.heap.size j _ e _ (Lib.bytesWorld_at_new w e s)
    rw [← h2, h1]
    rw [bytesOf_length] at hj
    have hj2 : j < s.data.toList.length := by rw [← data_length] at hj; exact hj
    have hj3 : (bytesOf s).getD j 0 = ((s.data.toList.getD j 0).toNat : Int) := by
      simp only [bytesOf, List.getD_eq_getElem?_getD, List.getElem?_map, List.getElem?_eq_getElem hj2]
      rfl
    rw [hj3]
theorem Row8.lt (h : Row8 w g e xs) : g < w.heap.size := by
  obtain ⟨cur, fr, hb, _⟩ := h
  exact (Array.getElem?_eq_some_iff.1 hb).1
theorem Row8.keep {W : World} (h : Row8 w g e xs) (hb : W.heap[g]? = w.heap[g]?) : Row8 W g e xs := by
  obtain ⟨cur, fr, h1, h2⟩ := h
  exact ⟨cur, fr, hb.trans h1, h2⟩
theorem Row8.drewN (h : Row8 w g e xs) (n : Nat) : Row8 (w.drewN n) g e xs := h.keep rfl
theorem Row8.drew (h : Row8 w g e xs) : Row8 w.drew g e xs := h.keep rfl
theorem Row8.below {W : World} (h : Row8 w g e xs) (hb : Below w.heap.size w W) : Row8 W g e xs := h.keep (hb.block g h.lt)
theorem Row8.reads (h : Row8 w g e xs) (hm : xs.length ≤ 9223372036854775807) {n : Nat} (hn : n = xs.length) : ReadsInt w .u8 (some ⟨g, 0, none⟩) n xs := by
  subst hn
  refine ⟨rfl, hm, fun _ => ⟨_, rfl, fun j hj => ?_⟩⟩
  rw [add_plain]
  exact h.cell j hj
end Go.Proofs.YtbaajohjglhpfaaDoorW.XConv
namespace Go.Proofs.YtbaajohjglhpfaaDoor.F
open Go Go.Shelf Go.RowKit Go.Proofs.YtbaajohjglhpfaaDoorW.PrintWords Go.Proofs.YtbaajohjglhpfaaDoorW.PrintLast Go.Proofs.YtbaajohjglhpfaaDoorW.PrintMore
attribute [local go_sem] max2_int min2_int max_two min_two max_three min_three max_four min_four   -- for this text's walks alone
set_option linter.unusedVariables false
set_option linter.unusedSimpArgs false



def errW : Option Int → Value
  | none => .nilIface
  | some c => .iface 0 (.int .i64 c)
theorem errW_none : errW none = .nilIface := rfl
theorem errW_some (c : Int) : errW (some c) = .iface 0 (.int .i64 c) := rfl

theorem info2 : (Tryd.prog.info? 2).map (fun i => (i.zero, i.size, i.bytes)) = some (some (.int .i64 0), 1, 8) := by kernel_rfl
theorem info5 : (Tryd.prog.info? 5).map (fun i => (i.zero, i.size, i.bytes)) = some (some (.int .u8 0), 1, 1) := by kernel_rfl
theorem info9 : (Tryd.prog.info? 9).map (fun i => (i.zero, i.size, i.bytes)) = some (some (.string ⟨#[]⟩), 1, 16) := by kernel_rfl
theorem info46 : (Tryd.prog.info? 46).map (fun i => (i.zero, i.size, i.bytes)) = some (some (.agg #[(.int .i64 0), (.int .i64 0)]), 2, 16) := by kernel_rfl
-- the values' own types
def rd_L1 (xs : List (List ByteArray)) (i : Int) : (List ByteArray) := xs.getD i.toNat ([] : List ByteArray)
theorem at_L1 {w : World} {A : Option Addr} {n : Nat} {xs : List (List ByteArray)} (h : Kd.C (Kd.slice 9 Kd.string) w A n xs) (i : Int) (h0 : 0 ≤ i) (h1 : i < n) : ∃ ad A0 c0, A = some ad ∧ w.cell? (ad.add i.toNat) = some (.slice A0 (rd_L1 xs i).length c0) ∧ (rd_L1 xs i).length ≤ c0 ∧ Kd.string.C w A0 (rd_L1 xs i).length (rd_L1 xs i) := by
  obtain ⟨ad, c, e, _, hK, hc0⟩ := Kd.C_get h ([] : List ByteArray) i h0 h1
  have hc : ∀ j u, c[j]? = some u → w.cell? (ad.add (i.toNat * 1 + j)) = some u := hc0
  obtain ⟨A0, c0, rfl, l0, g0⟩ := hK
  exact ⟨ad, A0, c0, e, by have hq := hc 0 _ rfl; rwa [Nat.mul_one, Nat.add_zero] at hq, l0, g0⟩

/-! #### struct type 46 -/
structure S46 where
  f0 : Int
  f1 : Int
def z46 : S46 := ⟨(0 : Int), (0 : Int)⟩
def k46 : Kd S46 := Kd.iso (Kd.pair (Kd.int .i64) (Kd.int .i64)) (fun x : S46 => (x.f0, x.f1))
theorem k46_open {w : World} {x : S46} {cs : List Value} (h : k46.K w x cs) : cs = [.int .i64 x.f0, .int .i64 x.f1] := by
  obtain ⟨_, _, rfl, rfl, rfl⟩ := h
  exact rfl
theorem k46_openM {w : World} {base : Nat} {ok : Nat → Prop} {x : S46} {cs : List Value} (h : k46.M w base ok x cs) : cs = [.int .i64 x.f0, .int .i64 x.f1] := by
  obtain ⟨_, _, rfl, rfl, rfl⟩ := h
  exact rfl
theorem k46_mk (w : World) (x : S46)  : k46.K w x [.int .i64 x.f0, .int .i64 x.f1] := ⟨[.int .i64 x.f0], [.int .i64 x.f1], rfl, rfl, rfl⟩
theorem k46_mkM (w : World) (base : Nat) (ok : Nat → Prop) (x : S46)  : k46.M w base ok x [.int .i64 x.f0, .int .i64 x.f1] := ⟨[.int .i64 x.f0], [.int .i64 x.f1], rfl, rfl, rfl⟩
def rd_T46 (xs : List S46) (i : Int) : S46 := xs.getD i.toNat z46
theorem at_T46 {w : World} {A : Option Addr} {n : Nat} {xs : List S46} (h : Kd.C k46 w A n xs) (i : Int) (h0 : 0 ≤ i) (h1 : i < n) : ∃ ad , A = some ad ∧ w.cell? (ad.add (i.toNat * 2)) = some (.int .i64 (rd_T46 xs i).f0) ∧ w.cell? ⟨(ad.add (i.toNat * 2)).block, (ad.add (i.toNat * 2)).off + 1, none⟩ = some (.int .i64 (rd_T46 xs i).f1) := by
  obtain ⟨ad, c, e, _, hK, hc0⟩ := Kd.C_get h z46 i h0 h1
  have hc : ∀ j u, c[j]? = some u → w.cell? (ad.add (i.toNat * 2 + j)) = some u := hc0
  obtain rfl := k46_open hK
  exact ⟨ad, e, hc 0 _ rfl, by rw [← add_field _ _ 1 (by omega)]; exact hc 1 _ rfl⟩

def rd_L5 (xs : List (List S46)) (i : Int) : (List S46) := xs.getD i.toNat ([] : List S46)
theorem at_L5 {w : World} {A : Option Addr} {n : Nat} {xs : List (List S46)} (h : Kd.C (Kd.slice 46 k46) w A n xs) (i : Int) (h0 : 0 ≤ i) (h1 : i < n) : ∃ ad A0 c0, A = some ad ∧ w.cell? (ad.add i.toNat) = some (.slice A0 (rd_L5 xs i).length c0) ∧ (rd_L5 xs i).length ≤ c0 ∧ k46.C w A0 (rd_L5 xs i).length (rd_L5 xs i) := by
  obtain ⟨ad, c, e, _, hK, hc0⟩ := Kd.C_get h ([] : List S46) i h0 h1
  have hc : ∀ j u, c[j]? = some u → w.cell? (ad.add (i.toNat * 1 + j)) = some u := hc0
  obtain ⟨A0, c0, rfl, l0, g0⟩ := hK
  exact ⟨ad, A0, c0, e, by have hq := hc 0 _ rfl; rwa [Nat.mul_one, Nat.add_zero] at hq, l0, g0⟩

end Go.Proofs.YtbaajohjglhpfaaDoor.F
namespace Go.Proofs.YtbaajohjglhpfaaDoor.F
open Go Go.Shelf Go.RowKit Go.Proofs.YtbaajohjglhpfaaDoorW.PrintWords Go.Proofs.YtbaajohjglhpfaaDoorW.PrintLast Go.Proofs.YtbaajohjglhpfaaDoorW.PrintMore
attribute [local go_sem] max2_int min2_int max_two min_two max_three min_three max_four min_four   -- for this text's walks alone
set_option linter.unusedVariables false
set_option linter.unusedSimpArgs false

/-! ### stands 3 -/
-- stands: the package variable 'forms', as the card lays it
/-- The form of a type's data. -/
def formOf (t : Int) : Option ByteArray :=
  if t = 1 then some ⟨#[52]⟩ else if t = 2 then some ⟨#[110]⟩ else if t = 5 then some ⟨#[110]⟩ else if t = 6 then some ⟨#[110, 110, 103, 103, 103, 103, 113]⟩
  else if t = 12 then some ⟨#[110]⟩ else if t = 13 then some ⟨#[116, 116]⟩ else if t = 15 then some ⟨#[50, 110]⟩ else if t = 16 then some ⟨#[84]⟩ else if t = 28 then some ⟨#[103, 103, 103, 103]⟩
  else if t = 33 then some ⟨#[50, 50, 50, 110]⟩ else if t = 35 then some ⟨#[50, 50, 116, 116, 116, 110]⟩ else if t = 39 then some ⟨#[110]⟩ else if t = 47 then some ⟨#[110, 109]⟩ else if t = 257 then some ⟨#[49, 99, 42]⟩ else none
/-- The variable's block and its map's block lie there; whatever world holds these two blocks answers the look-ups. -/
def Glob (w : World) : Prop := ∃ (bm : Nat) (og om : Obj), w.heap[0]? = some og ∧ w.heap[bm]? = some om ∧
  (∀ W : World, W.heap[0]? = some og → W.cell? ⟨0, 0, none⟩ = some (.map (some bm))) ∧
  (∀ (W : World) (k : Int), W.heap[bm]? = some om → (Lit.int .i64 k).wf = true → (Instr.lookup 54 (.map (some bm)) (.int .i64 k) true).run Tryd.prog W = .ok (.tuple #[.string ((formOf k).getD ⟨#[]⟩), .bool (formOf k).isSome]) W)
theorem Glob.below {w W : World} (h : Glob w) (hb : Below w.heap.size w W) : Glob W := by
  obtain ⟨bm, og, om, h1, h2, h3⟩ := h
  exact ⟨bm, og, om, blk_below h1 hb, blk_below h2 hb, h3⟩
theorem Glob.alloc {w : World} (h : Glob w) (o : Obj) : Glob (w.alloc o) := h.below (below_alloc (Below.refl _ _) o)
theorem Glob.drew {w : World} (h : Glob w) : Glob w.drew := h
theorem Glob.drewN {w : World} (h : Glob w) (n : Nat) : Glob (w.drewN n) := h

end Go.Proofs.YtbaajohjglhpfaaDoor.F
namespace Go.Proofs.YtbaajohjglhpfaaDoor.XGlob
open Go Go.RowKit Go.ChangeShapes Go.WideShapes Go.ChangeAt Go.WideMaps Go.WideElems Go.Maps
open Go.Proofs.YtbaajohjglhpfaaDoor.F
abbrev laidF {H : Type} : List (String × DataW H) := [("loop.example/s01858/impl.forms", Rows.laid_loop_example_s01858_impl_forms)]
theorem gForms : Tryd.prog.globalNamed "loop.example/s01858/impl.forms" = some 0 := by kernel_rfl
theorem tForms : (Tryd.prog.globals[0]?).map (·.type) = some 54 := by kernel_rfl
theorem door_met (os : Os) (args : Array Value) : laidMetH Tryd.prog (laidF (H := Unit)) ((World.doorLaid Tryd.prog 84 os).forCall (fun _ _ => 0) ⟨#[], args, []⟩).memory :=
  laidMetH_of_parts3 (fuel := 8) (laidMet_of_run' 8 (by kernel_rfl) (by kernel_rfl)) (by kernel_rfl) (by kernel_rfl)
theorem forms_at (k : Int) : (Rows.laid_loop_example_s01858_impl_forms (H := Unit)).atKey (.int .i64 k) .nil = (match formOf k with | none => .nil | some f => .lit (.string f.data.toList)) := by
  have e1 : ∀ n : Int, (Lit.int .i64 n).sameKey (Lit.int .i64 k) = decide (k = n) := fun n => decide_eq_decide.mpr ⟨fun h => h.2.symm, fun h => ⟨rfl, h.symm⟩⟩
  unfold Rows.laid_loop_example_s01858_impl_forms formOf
  simp only [DataW.atKey, List.find?, e1]
  by_cases c1 : k = 1
  · subst c1; rfl
  by_cases c2 : k = 2
  · subst c2; rfl
  by_cases c5 : k = 5
  · subst c5; rfl
  by_cases c6 : k = 6
  · subst c6; rfl
  by_cases c12 : k = 12
  · subst c12; rfl
  by_cases c13 : k = 13
  · subst c13; rfl
  by_cases c15 : k = 15
  · subst c15; rfl
  by_cases c16 : k = 16
  · subst c16; rfl
  by_cases c28 : k = 28
  · subst c28; rfl
  by_cases c33 : k = 33
  · subst c33; rfl
  by_cases c35 : k = 35
  · subst c35; rfl
  by_cases c39 : k = 39
  · subst c39; rfl
  by_cases c47 : k = 47
  · subst c47; rfl
  by_cases c257 : k = 257
  · subst c257; rfl
  rw [decide_eq_false c1, decide_eq_false c2, decide_eq_false c5, decide_eq_false c6, decide_eq_false c12, decide_eq_false c13, decide_eq_false c15, decide_eq_false c16, decide_eq_false c28, decide_eq_false c33, decide_eq_false c35, decide_eq_false c39, decide_eq_false c47, decide_eq_false c257]
  rw [if_neg c1, if_neg c2, if_neg c5, if_neg c6, if_neg c12, if_neg c13, if_neg c15, if_neg c16, if_neg c28, if_neg c33, if_neg c35, if_neg c39, if_neg c47, if_neg c257]
theorem glob_of_laid {W : World} (h : laidMetH Tryd.prog (laidF (H := Unit)) W) : Glob W := by
  rw [MakeChecks.laidMetH_plain _ _ _ (by kernel_rfl)] at h
  obtain ⟨ps, ⟨g0, t0, cs0, f0, p0, q0, hg0, ht0, hv0, hd0, _, _⟩, _, _⟩ := h
  obtain rfl := Option.some.inj (gForms.symm.trans hg0)
  obtain rfl := Option.some.inj (tForms.symm.trans ht0)
  rcases open_map Tryd.underlying54 hd0 with ⟨_, hx⟩ | ⟨bm, es, clock, m, rfl, hcs, hb, _, F, hx⟩
  · simp [Rows.laid_loop_example_s01858_impl_forms] at hx
  simp only [Prod.mk.injEq] at hx
  have hcell : W.cell? ⟨0, 0, none⟩ = some (.map (some bm)) := by
    have := World.var?_cell hg0 hv0 0
    rw [Array.eq_one_of_toList hcs] at this
    simpa using this
  obtain ⟨og, hog⟩ : ∃ og, W.heap[0]? = some og := by
    cases hh : W.heap[0]? with
    | none => simp [World.cell?, hh] at hcell
    | some og => exact ⟨og, rfl⟩
  refine ⟨bm, og, _, hog, hb, fun W' hW' => ?_, fun W' k hW' hk => ?_⟩
  · rw [← hcell]
    exact World.cell?_of_block (hW'.trans hog.symm)
  · have hk2 := keyOf_int_mk (P := Tryd.prog) Tryd.underlying2 hk
    have zero : (zeroValue 9).run Tryd.prog W' = .ok (.string ⟨#[]⟩) W' := by kernel_rfl
    rcases fit_look (w := W') true (int_keyed Tryd.underlying2) Tryd.underlying54 zero hW' F hk2 with ⟨hrun, _, hat⟩ | ⟨e0, y, _, _, hrun, hRv, hat, _⟩
    · have := hat .nil
      rw [← hx.1, forms_at] at this
      cases hf : formOf k with
      | none => simpa [hf] using hrun
      | some f => simp [hf] at this
    · have := hat .nil
      rw [← hx.1, forms_at] at this
      obtain ⟨s, hv, hz, _⟩ := plainElem_string_inv Tryd.underlying9 (elemAt_plainElem_string Tryd.underlying9 hRv)
      rw [hz] at this
      rw [hv] at hrun
      cases hf : formOf k with
      | none => simp [hf] at this
      | some f =>
        have e : f = s := by
          rw [hf] at this
          simp only [DataW.lit.injEq, Lit.string.injEq] at this
          cases f
          cases s
          simp only [ByteArray.mk.injEq]
          exact Array.ext' this
        subst e
        simpa [hf] using hrun
end Go.Proofs.YtbaajohjglhpfaaDoor.XGlob
namespace Go.Proofs.YtbaajohjglhpfaaDoor.F
open Go Go.Shelf Go.RowKit Go.Proofs.YtbaajohjglhpfaaDoorW.PrintWords Go.Proofs.YtbaajohjglhpfaaDoorW.PrintLast Go.Proofs.YtbaajohjglhpfaaDoorW.PrintMore
attribute [local go_sem] max2_int min2_int max_two min_two max_three min_three max_four min_four   -- for this text's walks alone
set_option linter.unusedVariables false
set_option linter.unusedSimpArgs false

/-! ### spec_l02NameAt: function 36 -/
mutual
def spec_l02NameAt.l0 : Nat → ByteArray → Int → Option (ByteArray)
  | 0, _, _ => none
  | k + 1, x0, x3 => if x3 < (x0.size : Int) then (spec_l02NameAt.j1 k x0 x3 (decide (x3 < 255))) else (spec_l02NameAt.j1 k x0 x3 false)
def spec_l02NameAt.j1 : Nat → ByteArray → Int → Bool → Option (ByteArray)
  | 0, _, _, _ => none
  | k + 1, x0, x3, x12 => if x12 = true then (if 0 ≤ x3 then (if x3 < (x0.size : Int) then (if (wrap64 (bt x0 x3)) = 0 then (if 0 ≤ (wrap64 (x3 + 1)) then (if (wrap64 (x3 + 1)) ≤ (x0.size : Int) then (some (x0.extract 0 ((wrap64 (x3 + 1)) : Int).toNat)) else (none)) else (none)) else (if (wrap64 (bt x0 x3)) > 63 then (some (⟨#[]⟩ : ByteArray)) else (spec_l02NameAt.l0 k x0 (wrap64 ((wrap64 (x3 + (wrap64 (bt x0 x3)))) + 1))))) else (none)) else (none)) else (some (⟨#[]⟩ : ByteArray))
end
def spec_l02NameAt.f (k : Nat) (a0 : ByteArray) : Option (ByteArray) := spec_l02NameAt.l0 k a0 0
theorem spec_l02NameAt.mono_l : ∀ k, (∀ y0 y1, LeO (spec_l02NameAt.l0 k y0 y1) (spec_l02NameAt.l0 (k + 1) y0 y1)) ∧ (∀ y0 y1 y2, LeO (spec_l02NameAt.j1 k y0 y1 y2) (spec_l02NameAt.j1 (k + 1) y0 y1 y2))
  | 0 => ⟨fun _ _ r h => by simp [spec_l02NameAt.l0] at h, fun _ _ _ r h => by simp [spec_l02NameAt.j1] at h⟩
  | k + 1 => by
    obtain ⟨ih0, ih1⟩ := spec_l02NameAt.mono_l k
    refine ⟨?_, ?_⟩
    · intro y0 y1
      unfold spec_l02NameAt.l0
      repeat' first
      | (with_reducible exact ih0 _ _)
      | (with_reducible exact ih1 _ _ _)
      | (with_reducible exact LeO.refl _)
      | (with_reducible exact LeO.none _)
      | (with_reducible refine LeO.ite ?_ ?_)
      | (with_reducible refine LeO.bind ?_ (fun _ => ?_))
      | exact ih0 _ _
      | exact ih1 _ _ _
      | exact LeO.none _
      | refine LeO.ite ?_ ?_
      | refine LeO.bind ?_ (fun _ => ?_)
    · intro y0 y1 y2
      unfold spec_l02NameAt.j1
      repeat' first
      | (with_reducible exact ih0 _ _)
      | (with_reducible exact ih1 _ _ _)
      | (with_reducible exact LeO.refl _)
      | (with_reducible exact LeO.none _)
      | (with_reducible refine LeO.ite ?_ ?_)
      | (with_reducible refine LeO.bind ?_ (fun _ => ?_))
      | exact ih0 _ _
      | exact ih1 _ _ _
      | exact LeO.none _
      | refine LeO.ite ?_ ?_
      | refine LeO.bind ?_ (fun _ => ?_)
theorem spec_l02NameAt.mono : ∀ a0 k, LeO (spec_l02NameAt.f k a0) (spec_l02NameAt.f (k + 1) a0) := by
  intro a0 k
  obtain ⟨ih0, ih1⟩ := spec_l02NameAt.mono_l k
  unfold spec_l02NameAt.f
  repeat' first
      | (with_reducible exact ih0 _ _)
      | (with_reducible exact ih1 _ _ _)
      | (with_reducible exact LeO.refl _)
      | (with_reducible exact LeO.none _)
      | (with_reducible refine LeO.ite ?_ ?_)
      | (with_reducible refine LeO.bind ?_ (fun _ => ?_))
      | exact ih0 _ _
      | exact ih1 _ _ _
      | exact LeO.none _
      | refine LeO.ite ?_ ?_
      | refine LeO.bind ?_ (fun _ => ?_)
set_option maxHeartbeats 8000000 in
set_option maxRecDepth 100000 in
theorem spec_l02NameAt.calls (k : Nat) (a0 : ByteArray) (r : ByteArray) (w : World) (h : spec_l02NameAt.f k a0 = some r) :
    Calls Tryd.prog 36 #[.string a0] w fun e w' => e = .returned (.string r) ∧ Drawn0 w w' := by
  have H : (spec_l02NameAt.l0 k a0 0) = some r := h
  clear h
  have H' := Aside0.mk H
  clear H
  go_enter Tryd.func36, Tryd.ntmps36
  go_wp2
  go_loopg [3] k (fun kq v3 w' => ∃ (x3_1 : Int), v3 = .int .i64 x3_1 ∧ Aside0 (spec_l02NameAt.l0 kq a0 x3_1 = some r) ∧ Aside0 (kq ≤ k) ∧ Drawn0 w w')
  case atStart => exact ⟨(0), (by first | rfl | (simp; done) | (simp [*]; done)), H', ⟨Nat.le_refl _⟩, by repeat (first | exact Drawn0.refl _ | apply Drawn0.step)⟩
  case round =>
    clear H'
    obtain ⟨x3_1, rfl, HA, HK1, ⟨m1, rfl⟩⟩ := hrel
    cases gk with
    | zero => exact absurd HA.out (by simp [spec_l02NameAt.l0])
    | succ k1 =>
      have H := HA.out
      clear HA
      simp only [spec_l02NameAt.l0] at H
      have HC2 := Aside0.mk H
      clear H
      go_upto_region 2 with (fail)
      go_cut [12] (fun v12 wc => ∃ (kq : Nat) (x12_1 : Bool), v12 = .bool x12_1 ∧ Aside0 (spec_l02NameAt.j1 kq a0 x3_1 x12_1 = some r) ∧ Aside0 (kq ≤ k1) ∧ Drawn0 w wc)
      case first =>
        have H := HC2.out
        clear HC2
        by_cases c3 : x3_1 < (a0.size : Int)
        · rw [if_pos c3] at H
          have c3b0 : decide (x3_1 < (a0.size : Int)) = true := decide_eq_true c3
          clear c3
          (first | rw [c3b0] | (simp only [i64_w, i32_w]; rw [c3b0]) | skip)
          have H' := Aside0.mk H
          clear H
          go_wp2
          go_meet
          case rel => exact ⟨_, (decide (x3_1 < 255)), (by first | rfl | (simp; done) | (simp [*]; done)), H', ⟨by have := HK1.out; first | omega | exact Nat.le_refl _⟩, by repeat (first | exact Drawn0.refl _ | apply Drawn0.step)⟩
        · rw [if_neg c3] at H
          have c3b0 : decide (x3_1 < (a0.size : Int)) = false := decide_eq_false c3
          clear c3
          (first | rw [c3b0] | (simp only [i64_w, i32_w]; rw [c3b0]) | skip)
          have H' := Aside0.mk H
          clear H
          go_wp2
          go_meet
          case rel => exact ⟨_, (false), (by first | rfl | (simp; done) | (simp [*]; done)), H', ⟨by have := HK1.out; first | omega | exact Nat.le_refl _⟩, by repeat (first | exact Drawn0.refl _ | apply Drawn0.step)⟩
      case rest =>
        clear HC2
        try clear p2
        try clear c3
        try clear c3b0
        obtain ⟨kq, x12_1, rfl, HA, HJ1, ⟨mc1, rfl⟩⟩ := hcut
        cases kq with
        | zero => exact absurd HA.out (by simp [spec_l02NameAt.j1])
        | succ kj1 =>
          have H := HA.out
          clear HA
          simp only [spec_l02NameAt.j1] at H
          by_cases c4 : x12_1 = true
          · subst c4
            have H1 : (if 0 ≤ x3_1 then (if x3_1 < (a0.size : Int) then (if (wrap64 (bt a0 x3_1)) = 0 then (if 0 ≤ (wrap64 (x3_1 + 1)) then (if (wrap64 (x3_1 + 1)) ≤ (a0.size : Int) then (some (a0.extract 0 ((wrap64 (x3_1 + 1)) : Int).toNat)) else (none)) else (none)) else (if (wrap64 (bt a0 x3_1)) > 63 then (some (⟨#[]⟩ : ByteArray)) else (spec_l02NameAt.l0 kj1 a0 (wrap64 ((wrap64 (x3_1 + (wrap64 (bt a0 x3_1)))) + 1))))) else (none)) else (none)) = some r := by rw [if_pos rfl] at H; exact H
            clear H
            have H := H1
            clear H1
            by_cases c5 : 0 ≤ x3_1
            · rw [if_pos c5] at H
              have c5b0 : decide (0 ≤ x3_1) = true := decide_eq_true c5
              clear c5
              by_cases c6 : x3_1 < (a0.size : Int)
              · rw [if_pos c6] at H
                have c6b0 : decide (x3_1 < (a0.size : Int)) = true := decide_eq_true c6
                clear c6
                by_cases c8 : (wrap64 (bt a0 x3_1)) = 0
                · rw [if_pos c8] at H
                  have c8b0 : ((wrap64 (bt a0 x3_1)) == 0) = true := beq_iff_eq.mpr c8
                  have c8b1 : ((wrap64 (bt a0 x3_1)) != 0) = false := bne_eq_false_iff_eq.mpr c8
                  clear c8
                  obtain ⟨ji9, hji9⟩ : ∃ j_ : Int, (wrap64 (x3_1 + 1)) = j_ := ⟨_, rfl⟩
                  replace H : (if 0 ≤ (ji9) then (if (ji9) ≤ (a0.size : Int) then (some (a0.extract 0 ((ji9) : Int).toNat)) else (none)) else (none)) = some r := by first | (rw [hji9] at H; exact H) | (simp only [hji9] at H ⊢; exact H)
                  have hji9w : (IntKind.i64.wrap (x3_1 + 1)) = ji9 := (i64_w _).trans hji9
                  by_cases c10 : 0 ≤ (ji9)
                  · rw [if_pos c10] at H
                    have c10b0 := eq_true c10
                    have c10b1 : decide (0 ≤ (ji9)) = true := decide_eq_true c10
                    clear c10
                    by_cases c11 : (ji9) ≤ (a0.size : Int)
                    · rw [if_pos c11] at H
                      have c11b0 := eq_true c11
                      have c11b1 : decide ((ji9) ≤ (a0.size : Int)) = true := decide_eq_true c11
                      clear c11
                      obtain rfl := Option.some.inj H
                      have p7 : 0 ≤ (x3_1 : Int) := of_decide_eq_true (by first | (with_reducible assumption) | assumption)
                      have q7 : x3_1 < (a0.size : Int) := of_decide_eq_true (by first | (with_reducible assumption) | assumption)
                      have hx7 := bt_at a0 x3_1
                      replace p7 := eq_true p7
                      replace q7 := eq_true q7
                      go_wp2
                      go_ret
                      exact ⟨by first | rfl | (simp; done) | (simp only [← hji9] <;> (first | rfl | simp)) | (simp [*]; done), by repeat (first | exact Drawn0.refl _ | apply Drawn0.step)⟩
                    · rw [if_neg c11] at H
                      exact absurd H (by simp)
                  · rw [if_neg c10] at H
                    exact absurd H (by simp)
                · rw [if_neg c8] at H
                  have c8b0 : ((wrap64 (bt a0 x3_1)) == 0) = false := beq_eq_false_iff_ne.mpr c8
                  have c8b1 : ((wrap64 (bt a0 x3_1)) != 0) = true := bne_iff_ne.mpr c8
                  by_cases c12 : (wrap64 (bt a0 x3_1)) > 63
                  · rw [if_pos c12] at H
                    have c12b0 : decide (63 < (wrap64 (bt a0 x3_1))) = true := decide_eq_true c12
                    clear c12
                    obtain rfl := Option.some.inj H
                    have p7 : 0 ≤ (x3_1 : Int) := of_decide_eq_true (by first | (with_reducible assumption) | assumption)
                    have q7 : x3_1 < (a0.size : Int) := of_decide_eq_true (by first | (with_reducible assumption) | assumption)
                    have hx7 := bt_at a0 x3_1
                    replace p7 := eq_true p7
                    replace q7 := eq_true q7
                    go_wp2
                    go_ret
                    exact ⟨by first | rfl | (simp; done) | (simp [*]; done), by repeat (first | exact Drawn0.refl _ | apply Drawn0.step)⟩
                  · rw [if_neg c12] at H
                    have c12b0 : decide (63 < (wrap64 (bt a0 x3_1))) = false := decide_eq_false c12
                    clear c12
                    have H' := Aside0.mk H
                    clear H
                    have p7 : 0 ≤ (x3_1 : Int) := of_decide_eq_true (by first | (with_reducible assumption) | assumption)
                    have q7 : x3_1 < (a0.size : Int) := of_decide_eq_true (by first | (with_reducible assumption) | assumption)
                    have hx7 := bt_at a0 x3_1
                    replace p7 := eq_true p7
                    replace q7 := eq_true q7
                    go_wp2
                    go_roundg kj1
                    case measure => have := HK1.out; have := HJ1.out; omega
                    case rel => exact ⟨(wrap64 ((wrap64 (x3_1 + (wrap64 (bt a0 x3_1)))) + 1)), (by first | rfl | (simp; done) | (simp [*]; done)), H', ⟨by have := HK1.out; have := HJ1.out; omega⟩, by repeat (first | exact Drawn0.refl _ | apply Drawn0.step)⟩
              · rw [if_neg c6] at H
                exact absurd H (by simp)
            · rw [if_neg c5] at H
              exact absurd H (by simp)
          · replace c4 := Bool.eq_false_iff.mpr c4
            subst c4
            have H1 : (some (⟨#[]⟩ : ByteArray)) = some r := by rw [if_neg (show ¬ (false = true) by decide)] at H; exact H
            clear H
            have H := H1
            clear H1
            obtain rfl := Option.some.inj H
            go_wp2
            go_ret
            exact ⟨by first | rfl | (simp; done) | (simp [*]; done), by repeat (first | exact Drawn0.refl _ | apply Drawn0.step)⟩

end Go.Proofs.YtbaajohjglhpfaaDoor.F
namespace Go.Proofs.YtbaajohjglhpfaaDoor.F
open Go Go.Shelf Go.RowKit Go.Proofs.YtbaajohjglhpfaaDoorW.PrintWords Go.Proofs.YtbaajohjglhpfaaDoorW.PrintLast Go.Proofs.YtbaajohjglhpfaaDoorW.PrintMore
attribute [local go_sem] max2_int min2_int max_two min_two max_three min_three max_four min_four   -- for this text's walks alone
set_option linter.unusedVariables false
set_option linter.unusedSimpArgs false

/-! ### spec_l02Text: function 37 -/
def spec_l02Text.f (a0 : ByteArray) : Option (ByteArray) := if a0.toList = ([] : List UInt8) then (some (⟨#[]⟩ : ByteArray)) else (if 0 < (a0.size : Int) then (if (a0.size : Int) < (wrap64 ((wrap64 (bt a0 0)) + 1)) then (some (⟨#[]⟩ : ByteArray)) else (if 0 ≤ (wrap64 ((wrap64 (bt a0 0)) + 1)) then (if (wrap64 ((wrap64 (bt a0 0)) + 1)) ≤ (a0.size : Int) then (some (a0.extract 0 ((wrap64 ((wrap64 (bt a0 0)) + 1)) : Int).toNat)) else (none)) else (none))) else (none))
set_option maxHeartbeats 8000000 in
set_option maxRecDepth 100000 in
theorem spec_l02Text.calls (a0 : ByteArray) (r : ByteArray) (w : World) (h : spec_l02Text.f a0 = some r) :
    Calls Tryd.prog 37 #[.string a0] w fun e w' => e = .returned (.string r) ∧ Drawn0 w w' := by
  have H : (if a0.toList = ([] : List UInt8) then (some (⟨#[]⟩ : ByteArray)) else (if 0 < (a0.size : Int) then (if (a0.size : Int) < (wrap64 ((wrap64 (bt a0 0)) + 1)) then (some (⟨#[]⟩ : ByteArray)) else (if 0 ≤ (wrap64 ((wrap64 (bt a0 0)) + 1)) then (if (wrap64 ((wrap64 (bt a0 0)) + 1)) ≤ (a0.size : Int) then (some (a0.extract 0 ((wrap64 ((wrap64 (bt a0 0)) + 1)) : Int).toNat)) else (none)) else (none))) else (none))) = some r := h
  clear h
  by_cases c2 : a0.toList = ([] : List UInt8)
  · rw [if_pos c2] at H
    have c2b0 : (a0.toList == ([] : List UInt8)) = true := beq_iff_eq.mpr c2
    have c2b1 : (a0.toList != ([] : List UInt8)) = false := bne_eq_false_iff_eq.mpr c2
    clear c2
    obtain rfl := Option.some.inj H
    go_enter Tryd.func37, Tryd.ntmps37
    go_wp2
    go_ret
    exact ⟨by first | rfl | (simp; done) | (simp [*]; done), by repeat (first | exact Drawn0.refl _ | apply Drawn0.step)⟩
  · rw [if_neg c2] at H
    have c2b0 : (a0.toList == ([] : List UInt8)) = false := beq_eq_false_iff_ne.mpr c2
    have c2b1 : (a0.toList != ([] : List UInt8)) = true := bne_iff_ne.mpr c2
    by_cases c3 : 0 < (a0.size : Int)
    · rw [if_pos c3] at H
      have c3b0 : decide (0 < (a0.size : Int)) = true := decide_eq_true c3
      have c3b1 : decide (0 < a0.size) = true := decide_eq_true (by omega)
      clear c3
      by_cases c5 : (a0.size : Int) < (wrap64 ((wrap64 (bt a0 0)) + 1))
      · rw [if_pos c5] at H
        have c5b0 : decide ((a0.size : Int) < (wrap64 ((wrap64 (bt a0 0)) + 1))) = true := decide_eq_true c5
        clear c5
        obtain rfl := Option.some.inj H
        have p4 : 0 ≤ (0 : Int) := (by omega)
        have q4 : 0 < a0.size := (by have : (0 : Int) < (a0.size : Int) := of_decide_eq_true (by first | (with_reducible assumption) | assumption); omega)
        have hx4 : ∀ h : 0 < a0.size, ((a0[0]'h).toNat : Int) = bt a0 0 := bt_at a0 0
        clear p4
        have qi4 : (0 < (a0.size : Int)) = True := eq_true (of_decide_eq_true (by first | (with_reducible assumption) | assumption))
        replace q4 := eq_true q4
        go_enter Tryd.func37, Tryd.ntmps37
        go_wp2
        go_ret
        exact ⟨by first | rfl | (simp; done) | (simp [*]; done), by repeat (first | exact Drawn0.refl _ | apply Drawn0.step)⟩
      · rw [if_neg c5] at H
        have c5b0 : decide ((a0.size : Int) < (wrap64 ((wrap64 (bt a0 0)) + 1))) = false := decide_eq_false c5
        clear c5
        obtain ⟨ji7, hji7⟩ : ∃ j_ : Int, (wrap64 ((wrap64 (bt a0 0)) + 1)) = j_ := ⟨_, rfl⟩
        replace H : (if 0 ≤ (ji7) then (if (ji7) ≤ (a0.size : Int) then (some (a0.extract 0 ((ji7) : Int).toNat)) else (none)) else (none)) = some r := by first | (rw [hji7] at H; exact H) | (simp only [hji7] at H ⊢; exact H)
        (try rw [hji7] at c5b0)
        have hji7w : (IntKind.i64.wrap ((wrap64 (bt a0 0)) + 1)) = ji7 := (i64_w _).trans hji7
        by_cases c8 : 0 ≤ (ji7)
        · rw [if_pos c8] at H
          have c8b0 := eq_true c8
          have c8b1 : decide (0 ≤ (ji7)) = true := decide_eq_true c8
          clear c8
          by_cases c9 : (ji7) ≤ (a0.size : Int)
          · rw [if_pos c9] at H
            have c9b0 := eq_true c9
            have c9b1 : decide ((ji7) ≤ (a0.size : Int)) = true := decide_eq_true c9
            clear c9
            obtain rfl := Option.some.inj H
            have p4 : 0 ≤ (0 : Int) := (by omega)
            have q4 : 0 < a0.size := (by have : (0 : Int) < (a0.size : Int) := of_decide_eq_true (by first | (with_reducible assumption) | assumption); omega)
            have hx4 : ∀ h : 0 < a0.size, ((a0[0]'h).toNat : Int) = bt a0 0 := bt_at a0 0
            clear p4
            have qi4 : (0 < (a0.size : Int)) = True := eq_true (of_decide_eq_true (by first | (with_reducible assumption) | assumption))
            replace q4 := eq_true q4
            have p6 : 0 ≤ (0 : Int) := (by omega)
            have q6 : 0 < a0.size := (by have : (0 : Int) < (a0.size : Int) := of_decide_eq_true (by first | (with_reducible assumption) | assumption); omega)
            have hx6 : ∀ h : 0 < a0.size, ((a0[0]'h).toNat : Int) = bt a0 0 := bt_at a0 0
            clear p6
            have qi6 : (0 < (a0.size : Int)) = True := eq_true (of_decide_eq_true (by first | (with_reducible assumption) | assumption))
            replace q6 := eq_true q6
            go_enter Tryd.func37, Tryd.ntmps37
            go_wp2
            go_ret
            exact ⟨by first | rfl | (simp; done) | (simp only [← hji7] <;> (first | rfl | simp)) | (simp [*]; done), by repeat (first | exact Drawn0.refl _ | apply Drawn0.step)⟩
          · rw [if_neg c9] at H
            exact absurd H (by simp)
        · rw [if_neg c8] at H
          exact absurd H (by simp)
    · rw [if_neg c3] at H
      exact absurd H (by simp)

end Go.Proofs.YtbaajohjglhpfaaDoor.F
namespace Go.Proofs.YtbaajohjglhpfaaDoor.F
open Go Go.Shelf Go.RowKit Go.Proofs.YtbaajohjglhpfaaDoorW.PrintWords Go.Proofs.YtbaajohjglhpfaaDoorW.PrintLast Go.Proofs.YtbaajohjglhpfaaDoorW.PrintMore
attribute [local go_sem] max2_int min2_int max_two min_two max_three min_three max_four min_four   -- for this text's walks alone
set_option linter.unusedVariables false
set_option linter.unusedSimpArgs false

/-! ### spec_l02Alnum: function 38 -/
def spec_l02Alnum.f (a0 : Int) : Option (Bool) := if a0 ≥ 48 then (if a0 ≤ 57 then (some true) else (if a0 ≥ 97 then (if a0 ≤ 122 then (some true) else (if a0 ≥ 65 then (some (decide (a0 ≤ 90))) else (some false))) else (if a0 ≥ 65 then (some (decide (a0 ≤ 90))) else (some false)))) else (if a0 ≥ 97 then (if a0 ≤ 122 then (some true) else (if a0 ≥ 65 then (some (decide (a0 ≤ 90))) else (some false))) else (if a0 ≥ 65 then (some (decide (a0 ≤ 90))) else (some false)))
set_option maxHeartbeats 8000000 in
set_option maxRecDepth 100000 in
theorem spec_l02Alnum.calls (a0 : Int) (r : Bool) (w : World) (h : spec_l02Alnum.f a0 = some r) :
    Calls Tryd.prog 38 #[.int .u8 a0] w fun e w' => e = .returned (.bool r) ∧ Drawn0 w w' := by
  have H : (if a0 ≥ 48 then (if a0 ≤ 57 then (some true) else (if a0 ≥ 97 then (if a0 ≤ 122 then (some true) else (if a0 ≥ 65 then (some (decide (a0 ≤ 90))) else (some false))) else (if a0 ≥ 65 then (some (decide (a0 ≤ 90))) else (some false)))) else (if a0 ≥ 97 then (if a0 ≤ 122 then (some true) else (if a0 ≥ 65 then (some (decide (a0 ≤ 90))) else (some false))) else (if a0 ≥ 65 then (some (decide (a0 ≤ 90))) else (some false)))) = some r := h
  clear h
  by_cases c2 : a0 ≥ 48
  · rw [if_pos c2] at H
    have c2b0 : decide (48 ≤ a0) = true := decide_eq_true c2
    clear c2
    by_cases c3 : a0 ≤ 57
    · rw [if_pos c3] at H
      have c3b0 : decide (a0 ≤ 57) = true := decide_eq_true c3
      clear c3
      obtain rfl := Option.some.inj H
      go_enter Tryd.func38, Tryd.ntmps38
      go_wp2
      go_ret
      exact ⟨by first | rfl | (simp; done) | (simp [*]; done), by repeat (first | exact Drawn0.refl _ | apply Drawn0.step)⟩
    · rw [if_neg c3] at H
      have c3b0 : decide (a0 ≤ 57) = false := decide_eq_false c3
      clear c3
      by_cases c4 : a0 ≥ 97
      · rw [if_pos c4] at H
        have c4b0 : decide (97 ≤ a0) = true := decide_eq_true c4
        clear c4
        by_cases c5 : a0 ≤ 122
        · rw [if_pos c5] at H
          have c5b0 : decide (a0 ≤ 122) = true := decide_eq_true c5
          clear c5
          obtain rfl := Option.some.inj H
          go_enter Tryd.func38, Tryd.ntmps38
          go_wp2
          go_ret
          exact ⟨by first | rfl | (simp; done) | (simp [*]; done), by repeat (first | exact Drawn0.refl _ | apply Drawn0.step)⟩
        · rw [if_neg c5] at H
          have c5b0 : decide (a0 ≤ 122) = false := decide_eq_false c5
          clear c5
          by_cases c6 : a0 ≥ 65
          · rw [if_pos c6] at H
            have c6b0 : decide (65 ≤ a0) = true := decide_eq_true c6
            clear c6
            obtain rfl := Option.some.inj H
            go_enter Tryd.func38, Tryd.ntmps38
            go_wp2
            go_ret
            exact ⟨by first | rfl | (simp; done) | (simp [*]; done), by repeat (first | exact Drawn0.refl _ | apply Drawn0.step)⟩
          · rw [if_neg c6] at H
            have c6b0 : decide (65 ≤ a0) = false := decide_eq_false c6
            clear c6
            obtain rfl := Option.some.inj H
            go_enter Tryd.func38, Tryd.ntmps38
            go_wp2
            go_ret
            exact ⟨by first | rfl | (simp; done) | (simp [*]; done), by repeat (first | exact Drawn0.refl _ | apply Drawn0.step)⟩
      · rw [if_neg c4] at H
        have c4b0 : decide (97 ≤ a0) = false := decide_eq_false c4
        clear c4
        by_cases c7 : a0 ≥ 65
        · rw [if_pos c7] at H
          have c7b0 : decide (65 ≤ a0) = true := decide_eq_true c7
          clear c7
          obtain rfl := Option.some.inj H
          go_enter Tryd.func38, Tryd.ntmps38
          go_wp2
          go_ret
          exact ⟨by first | rfl | (simp; done) | (simp [*]; done), by repeat (first | exact Drawn0.refl _ | apply Drawn0.step)⟩
        · rw [if_neg c7] at H
          have c7b0 : decide (65 ≤ a0) = false := decide_eq_false c7
          clear c7
          obtain rfl := Option.some.inj H
          go_enter Tryd.func38, Tryd.ntmps38
          go_wp2
          go_ret
          exact ⟨by first | rfl | (simp; done) | (simp [*]; done), by repeat (first | exact Drawn0.refl _ | apply Drawn0.step)⟩
  · rw [if_neg c2] at H
    have c2b0 : decide (48 ≤ a0) = false := decide_eq_false c2
    clear c2
    by_cases c8 : a0 ≥ 97
    · rw [if_pos c8] at H
      have c8b0 : decide (97 ≤ a0) = true := decide_eq_true c8
      clear c8
      by_cases c9 : a0 ≤ 122
      · rw [if_pos c9] at H
        have c9b0 : decide (a0 ≤ 122) = true := decide_eq_true c9
        clear c9
        obtain rfl := Option.some.inj H
        go_enter Tryd.func38, Tryd.ntmps38
        go_wp2
        go_ret
        exact ⟨by first | rfl | (simp; done) | (simp [*]; done), by repeat (first | exact Drawn0.refl _ | apply Drawn0.step)⟩
      · rw [if_neg c9] at H
        have c9b0 : decide (a0 ≤ 122) = false := decide_eq_false c9
        clear c9
        by_cases c10 : a0 ≥ 65
        · rw [if_pos c10] at H
          have c10b0 : decide (65 ≤ a0) = true := decide_eq_true c10
          clear c10
          obtain rfl := Option.some.inj H
          go_enter Tryd.func38, Tryd.ntmps38
          go_wp2
          go_ret
          exact ⟨by first | rfl | (simp; done) | (simp [*]; done), by repeat (first | exact Drawn0.refl _ | apply Drawn0.step)⟩
        · rw [if_neg c10] at H
          have c10b0 : decide (65 ≤ a0) = false := decide_eq_false c10
          clear c10
          obtain rfl := Option.some.inj H
          go_enter Tryd.func38, Tryd.ntmps38
          go_wp2
          go_ret
          exact ⟨by first | rfl | (simp; done) | (simp [*]; done), by repeat (first | exact Drawn0.refl _ | apply Drawn0.step)⟩
    · rw [if_neg c8] at H
      have c8b0 : decide (97 ≤ a0) = false := decide_eq_false c8
      clear c8
      by_cases c11 : a0 ≥ 65
      · rw [if_pos c11] at H
        have c11b0 : decide (65 ≤ a0) = true := decide_eq_true c11
        clear c11
        obtain rfl := Option.some.inj H
        go_enter Tryd.func38, Tryd.ntmps38
        go_wp2
        go_ret
        exact ⟨by first | rfl | (simp; done) | (simp [*]; done), by repeat (first | exact Drawn0.refl _ | apply Drawn0.step)⟩
      · rw [if_neg c11] at H
        have c11b0 : decide (65 ≤ a0) = false := decide_eq_false c11
        clear c11
        obtain rfl := Option.some.inj H
        go_enter Tryd.func38, Tryd.ntmps38
        go_wp2
        go_ret
        exact ⟨by first | rfl | (simp; done) | (simp [*]; done), by repeat (first | exact Drawn0.refl _ | apply Drawn0.step)⟩

end Go.Proofs.YtbaajohjglhpfaaDoor.F
namespace Go.Proofs.YtbaajohjglhpfaaDoor.F
open Go Go.Shelf Go.RowKit Go.Proofs.YtbaajohjglhpfaaDoorW.PrintWords Go.Proofs.YtbaajohjglhpfaaDoorW.PrintLast Go.Proofs.YtbaajohjglhpfaaDoorW.PrintMore
attribute [local go_sem] max2_int min2_int max_two min_two max_three min_three max_four min_four   -- for this text's walks alone
set_option linter.unusedVariables false
set_option linter.unusedSimpArgs false

/-! ### spec_l02Map: function 39 -/
def spec_l02Map.l0 : Nat → ByteArray → Int → Option (Bool)
  | 0, _, _ => none
  | k + 1, x0, x3 => if x0.toList = ([] : List UInt8) then (some true) else (if (x0.size : Int) < 2 then (some false) else (if 0 < (x0.size : Int) then (if 1 < (x0.size : Int) then (if (wrap64 (bt x0 0)) ≤ x3 then (some false) else (if (wrap64 (bt x0 1)) < 1 then (some false) else (if (wrap64 (bt x0 1)) > 32 then (some false) else (if (x0.size : Int) < (wrap64 ((wrap64 (bt x0 1)) + 2)) then (some false) else (if 0 ≤ (wrap64 ((wrap64 (bt x0 1)) + 1)) then (if (wrap64 ((wrap64 (bt x0 1)) + 1)) < (x0.size : Int) then (if (bt x0 (wrap64 ((wrap64 (bt x0 1)) + 1))) = 0 then (some false) else (if 0 ≤ (wrap64 ((wrap64 (bt x0 1)) + 2)) then (if (wrap64 ((wrap64 (bt x0 1)) + 2)) ≤ (x0.size : Int) then (spec_l02Map.l0 k (x0.extract ((wrap64 ((wrap64 (bt x0 1)) + 2)) : Int).toNat x0.size) (wrap64 (bt x0 0))) else (none)) else (none))) else (none)) else (none)))))) else (none)) else (none)))
def spec_l02Map.f (k : Nat) (a0 : ByteArray) : Option (Bool) := spec_l02Map.l0 k a0 (-1)
theorem spec_l02Map.mono_l : ∀ k, (∀ y0 y1, LeO (spec_l02Map.l0 k y0 y1) (spec_l02Map.l0 (k + 1) y0 y1))
  | 0 => fun _ _ r h => by simp [spec_l02Map.l0] at h
  | k + 1 => by
    have ih0 := spec_l02Map.mono_l k
    · intro y0 y1
      unfold spec_l02Map.l0
      repeat' first
      | (with_reducible exact ih0 _ _)
      | (with_reducible exact LeO.refl _)
      | (with_reducible exact LeO.none _)
      | (with_reducible refine LeO.ite ?_ ?_)
      | (with_reducible refine LeO.bind ?_ (fun _ => ?_))
      | exact ih0 _ _
      | exact LeO.none _
      | refine LeO.ite ?_ ?_
      | refine LeO.bind ?_ (fun _ => ?_)
theorem spec_l02Map.mono : ∀ a0 k, LeO (spec_l02Map.f k a0) (spec_l02Map.f (k + 1) a0) := by
  intro a0 k
  have ih0 := spec_l02Map.mono_l k
  unfold spec_l02Map.f
  repeat' first
      | (with_reducible exact ih0 _ _)
      | (with_reducible exact LeO.refl _)
      | (with_reducible exact LeO.none _)
      | (with_reducible refine LeO.ite ?_ ?_)
      | (with_reducible refine LeO.bind ?_ (fun _ => ?_))
      | exact ih0 _ _
      | exact LeO.none _
      | refine LeO.ite ?_ ?_
      | refine LeO.bind ?_ (fun _ => ?_)
set_option maxHeartbeats 8000000 in
set_option maxRecDepth 100000 in
theorem spec_l02Map.calls (k : Nat) (a0 : ByteArray) (r : Bool) (w : World) (h : spec_l02Map.f k a0 = some r) :
    Calls Tryd.prog 39 #[.string a0] w fun e w' => e = .returned (.bool r) ∧ Drawn0 w w' := by
  have H : (spec_l02Map.l0 k a0 (-1)) = some r := h
  clear h
  have H' := Aside0.mk H
  clear H
  go_enter Tryd.func39, Tryd.ntmps39
  go_wp2
  go_loopg [0, 3] k (fun kq v0 v3 w' => ∃ (x0_1 : ByteArray) (x3_1 : Int), v0 = .string x0_1 ∧ v3 = .int .i64 x3_1 ∧ Aside0 (spec_l02Map.l0 kq x0_1 x3_1 = some r) ∧ Aside0 (kq ≤ k) ∧ Drawn0 w w')
  case atStart => exact ⟨(a0), ((-1)), (by first | rfl | (simp; done) | (simp [*]; done)), (by first | rfl | (simp; done) | (simp [*]; done)), H', ⟨Nat.le_refl _⟩, by repeat (first | exact Drawn0.refl _ | apply Drawn0.step)⟩
  case round =>
    clear H'
    obtain ⟨x0_1, x3_1, rfl, rfl, HA, HK1, ⟨m1, rfl⟩⟩ := hrel
    cases gk with
    | zero => exact absurd HA.out (by simp [spec_l02Map.l0])
    | succ k1 =>
      have H := HA.out
      clear HA
      simp only [spec_l02Map.l0] at H
      by_cases c2 : x0_1.toList = ([] : List UInt8)
      · rw [if_pos c2] at H
        have c2b0 : (x0_1.toList == ([] : List UInt8)) = true := beq_iff_eq.mpr c2
        have c2b1 : (x0_1.toList != ([] : List UInt8)) = false := bne_eq_false_iff_eq.mpr c2
        clear c2
        obtain rfl := Option.some.inj H
        go_wp2
        go_ret
        exact ⟨by first | rfl | (simp; done) | (simp [*]; done), by repeat (first | exact Drawn0.refl _ | apply Drawn0.step)⟩
      · rw [if_neg c2] at H
        have c2b0 : (x0_1.toList == ([] : List UInt8)) = false := beq_eq_false_iff_ne.mpr c2
        have c2b1 : (x0_1.toList != ([] : List UInt8)) = true := bne_iff_ne.mpr c2
        by_cases c3 : (x0_1.size : Int) < 2
        · rw [if_pos c3] at H
          have c3b0 : decide ((x0_1.size : Int) < 2) = true := decide_eq_true c3
          have c3b1 : decide (x0_1.size < 2) = true := decide_eq_true (by omega)
          clear c3
          obtain rfl := Option.some.inj H
          go_wp2
          go_ret
          exact ⟨by first | rfl | (simp; done) | (simp [*]; done), by repeat (first | exact Drawn0.refl _ | apply Drawn0.step)⟩
        · rw [if_neg c3] at H
          have c3b0 : decide ((x0_1.size : Int) < 2) = false := decide_eq_false c3
          have c3b1 : decide (x0_1.size < 2) = false := decide_eq_false (by omega)
          clear c3
          by_cases c4 : 0 < (x0_1.size : Int)
          · rw [if_pos c4] at H
            have c4b0 : decide (0 < (x0_1.size : Int)) = true := decide_eq_true c4
            have c4b1 : decide (0 < x0_1.size) = true := decide_eq_true (by omega)
            clear c4
            by_cases c6 : 1 < (x0_1.size : Int)
            · rw [if_pos c6] at H
              have c6b0 : decide (1 < (x0_1.size : Int)) = true := decide_eq_true c6
              have c6b1 : decide (1 < x0_1.size) = true := decide_eq_true (by omega)
              clear c6
              by_cases c8 : (wrap64 (bt x0_1 0)) ≤ x3_1
              · rw [if_pos c8] at H
                have c8b0 : decide ((wrap64 (bt x0_1 0)) ≤ x3_1) = true := decide_eq_true c8
                clear c8
                obtain rfl := Option.some.inj H
                have p5 : 0 ≤ (0 : Int) := (by omega)
                have q5 : 0 < x0_1.size := (by have : (0 : Int) < (x0_1.size : Int) := of_decide_eq_true (by first | (with_reducible assumption) | assumption); omega)
                have hx5 : ∀ h : 0 < x0_1.size, ((x0_1[0]'h).toNat : Int) = bt x0_1 0 := bt_at x0_1 0
                clear p5
                have qi5 : (0 < (x0_1.size : Int)) = True := eq_true (of_decide_eq_true (by first | (with_reducible assumption) | assumption))
                replace q5 := eq_true q5
                have p7 : 0 ≤ (1 : Int) := (by omega)
                have q7 : 1 < x0_1.size := (by have : (1 : Int) < (x0_1.size : Int) := of_decide_eq_true (by first | (with_reducible assumption) | assumption); omega)
                have hx7 : ∀ h : 1 < x0_1.size, ((x0_1[1]'h).toNat : Int) = bt x0_1 1 := bt_at x0_1 1
                clear p7
                have qi7 : (1 < (x0_1.size : Int)) = True := eq_true (of_decide_eq_true (by first | (with_reducible assumption) | assumption))
                replace q7 := eq_true q7
                go_wp2
                go_ret
                exact ⟨by first | rfl | (simp; done) | (simp [*]; done), by repeat (first | exact Drawn0.refl _ | apply Drawn0.step)⟩
              · rw [if_neg c8] at H
                have c8b0 : decide ((wrap64 (bt x0_1 0)) ≤ x3_1) = false := decide_eq_false c8
                clear c8
                by_cases c9 : (wrap64 (bt x0_1 1)) < 1
                · rw [if_pos c9] at H
                  have c9b0 : decide ((wrap64 (bt x0_1 1)) < 1) = true := decide_eq_true c9
                  clear c9
                  obtain rfl := Option.some.inj H
                  have p5 : 0 ≤ (0 : Int) := (by omega)
                  have q5 : 0 < x0_1.size := (by have : (0 : Int) < (x0_1.size : Int) := of_decide_eq_true (by first | (with_reducible assumption) | assumption); omega)
                  have hx5 : ∀ h : 0 < x0_1.size, ((x0_1[0]'h).toNat : Int) = bt x0_1 0 := bt_at x0_1 0
                  clear p5
                  have qi5 : (0 < (x0_1.size : Int)) = True := eq_true (of_decide_eq_true (by first | (with_reducible assumption) | assumption))
                  replace q5 := eq_true q5
                  have p7 : 0 ≤ (1 : Int) := (by omega)
                  have q7 : 1 < x0_1.size := (by have : (1 : Int) < (x0_1.size : Int) := of_decide_eq_true (by first | (with_reducible assumption) | assumption); omega)
                  have hx7 : ∀ h : 1 < x0_1.size, ((x0_1[1]'h).toNat : Int) = bt x0_1 1 := bt_at x0_1 1
                  clear p7
                  have qi7 : (1 < (x0_1.size : Int)) = True := eq_true (of_decide_eq_true (by first | (with_reducible assumption) | assumption))
                  replace q7 := eq_true q7
                  go_wp2
                  go_ret
                  exact ⟨by first | rfl | (simp; done) | (simp [*]; done), by repeat (first | exact Drawn0.refl _ | apply Drawn0.step)⟩
                · rw [if_neg c9] at H
                  have c9b0 : decide ((wrap64 (bt x0_1 1)) < 1) = false := decide_eq_false c9
                  clear c9
                  by_cases c10 : (wrap64 (bt x0_1 1)) > 32
                  · rw [if_pos c10] at H
                    have c10b0 : decide (32 < (wrap64 (bt x0_1 1))) = true := decide_eq_true c10
                    clear c10
                    obtain rfl := Option.some.inj H
                    have p5 : 0 ≤ (0 : Int) := (by omega)
                    have q5 : 0 < x0_1.size := (by have : (0 : Int) < (x0_1.size : Int) := of_decide_eq_true (by first | (with_reducible assumption) | assumption); omega)
                    have hx5 : ∀ h : 0 < x0_1.size, ((x0_1[0]'h).toNat : Int) = bt x0_1 0 := bt_at x0_1 0
                    clear p5
                    have qi5 : (0 < (x0_1.size : Int)) = True := eq_true (of_decide_eq_true (by first | (with_reducible assumption) | assumption))
                    replace q5 := eq_true q5
                    have p7 : 0 ≤ (1 : Int) := (by omega)
                    have q7 : 1 < x0_1.size := (by have : (1 : Int) < (x0_1.size : Int) := of_decide_eq_true (by first | (with_reducible assumption) | assumption); omega)
                    have hx7 : ∀ h : 1 < x0_1.size, ((x0_1[1]'h).toNat : Int) = bt x0_1 1 := bt_at x0_1 1
                    clear p7
                    have qi7 : (1 < (x0_1.size : Int)) = True := eq_true (of_decide_eq_true (by first | (with_reducible assumption) | assumption))
                    replace q7 := eq_true q7
                    go_wp2
                    go_ret
                    exact ⟨by first | rfl | (simp; done) | (simp [*]; done), by repeat (first | exact Drawn0.refl _ | apply Drawn0.step)⟩
                  · rw [if_neg c10] at H
                    have c10b0 : decide (32 < (wrap64 (bt x0_1 1))) = false := decide_eq_false c10
                    clear c10
                    by_cases c11 : (x0_1.size : Int) < (wrap64 ((wrap64 (bt x0_1 1)) + 2))
                    · rw [if_pos c11] at H
                      have c11b0 : decide ((x0_1.size : Int) < (wrap64 ((wrap64 (bt x0_1 1)) + 2))) = true := decide_eq_true c11
                      clear c11
                      obtain rfl := Option.some.inj H
                      have p5 : 0 ≤ (0 : Int) := (by omega)
                      have q5 : 0 < x0_1.size := (by have : (0 : Int) < (x0_1.size : Int) := of_decide_eq_true (by first | (with_reducible assumption) | assumption); omega)
                      have hx5 : ∀ h : 0 < x0_1.size, ((x0_1[0]'h).toNat : Int) = bt x0_1 0 := bt_at x0_1 0
                      clear p5
                      have qi5 : (0 < (x0_1.size : Int)) = True := eq_true (of_decide_eq_true (by first | (with_reducible assumption) | assumption))
                      replace q5 := eq_true q5
                      have p7 : 0 ≤ (1 : Int) := (by omega)
                      have q7 : 1 < x0_1.size := (by have : (1 : Int) < (x0_1.size : Int) := of_decide_eq_true (by first | (with_reducible assumption) | assumption); omega)
                      have hx7 : ∀ h : 1 < x0_1.size, ((x0_1[1]'h).toNat : Int) = bt x0_1 1 := bt_at x0_1 1
                      clear p7
                      have qi7 : (1 < (x0_1.size : Int)) = True := eq_true (of_decide_eq_true (by first | (with_reducible assumption) | assumption))
                      replace q7 := eq_true q7
                      go_wp2
                      go_ret
                      exact ⟨by first | rfl | (simp; done) | (simp [*]; done), by repeat (first | exact Drawn0.refl _ | apply Drawn0.step)⟩
                    · rw [if_neg c11] at H
                      have c11b0 : decide ((x0_1.size : Int) < (wrap64 ((wrap64 (bt x0_1 1)) + 2))) = false := decide_eq_false c11
                      clear c11
                      obtain ⟨ji12, hji12⟩ : ∃ j_ : Int, (wrap64 ((wrap64 (bt x0_1 1)) + 1)) = j_ := ⟨_, rfl⟩
                      replace H : (if 0 ≤ (ji12) then (if (ji12) < (x0_1.size : Int) then (if (bt x0_1 (ji12)) = 0 then (some false) else (if 0 ≤ (wrap64 ((wrap64 (bt x0_1 1)) + 2)) then (if (wrap64 ((wrap64 (bt x0_1 1)) + 2)) ≤ (x0_1.size : Int) then (spec_l02Map.l0 k1 (x0_1.extract ((wrap64 ((wrap64 (bt x0_1 1)) + 2)) : Int).toNat x0_1.size) (wrap64 (bt x0_1 0))) else (none)) else (none))) else (none)) else (none)) = some r := by first | (rw [hji12] at H; exact H) | (simp only [hji12] at H ⊢; exact H)
                      have hji12w : (IntKind.i64.wrap ((wrap64 (bt x0_1 1)) + 1)) = ji12 := (i64_w _).trans hji12
                      by_cases c13 : 0 ≤ (ji12)
                      · rw [if_pos c13] at H
                        have c13b0 : decide (0 ≤ (ji12)) = true := decide_eq_true c13
                        clear c13
                        by_cases c14 : (ji12) < (x0_1.size : Int)
                        · rw [if_pos c14] at H
                          have c14b0 : decide ((ji12) < (x0_1.size : Int)) = true := decide_eq_true c14
                          clear c14
                          by_cases c16 : (bt x0_1 (ji12)) = 0
                          · rw [if_pos c16] at H
                            have c16b0 : ((bt x0_1 (ji12)) == 0) = true := beq_iff_eq.mpr c16
                            have c16b1 : ((bt x0_1 (ji12)) != 0) = false := bne_eq_false_iff_eq.mpr c16
                            clear c16
                            obtain rfl := Option.some.inj H
                            have p5 : 0 ≤ (0 : Int) := (by omega)
                            have q5 : 0 < x0_1.size := (by have : (0 : Int) < (x0_1.size : Int) := of_decide_eq_true (by first | (with_reducible assumption) | assumption); omega)
                            have hx5 : ∀ h : 0 < x0_1.size, ((x0_1[0]'h).toNat : Int) = bt x0_1 0 := bt_at x0_1 0
                            clear p5
                            have qi5 : (0 < (x0_1.size : Int)) = True := eq_true (of_decide_eq_true (by first | (with_reducible assumption) | assumption))
                            replace q5 := eq_true q5
                            have p7 : 0 ≤ (1 : Int) := (by omega)
                            have q7 : 1 < x0_1.size := (by have : (1 : Int) < (x0_1.size : Int) := of_decide_eq_true (by first | (with_reducible assumption) | assumption); omega)
                            have hx7 : ∀ h : 1 < x0_1.size, ((x0_1[1]'h).toNat : Int) = bt x0_1 1 := bt_at x0_1 1
                            clear p7
                            have qi7 : (1 < (x0_1.size : Int)) = True := eq_true (of_decide_eq_true (by first | (with_reducible assumption) | assumption))
                            replace q7 := eq_true q7
                            have p15 : 0 ≤ ((ji12) : Int) := of_decide_eq_true (by first | (with_reducible assumption) | assumption)
                            have q15 : (ji12) < (x0_1.size : Int) := of_decide_eq_true (by first | (with_reducible assumption) | assumption)
                            have hx15 := bt_at x0_1 (ji12)
                            replace p15 := eq_true p15
                            replace q15 := eq_true q15
                            go_wp2
                            go_ret
                            exact ⟨by first | rfl | (simp; done) | (simp only [← hji12] <;> (first | rfl | simp)) | (simp [*]; done), by repeat (first | exact Drawn0.refl _ | apply Drawn0.step)⟩
                          · rw [if_neg c16] at H
                            have c16b0 : ((bt x0_1 (ji12)) == 0) = false := beq_eq_false_iff_ne.mpr c16
                            have c16b1 : ((bt x0_1 (ji12)) != 0) = true := bne_iff_ne.mpr c16
                            obtain ⟨ji17, hji17⟩ : ∃ j_ : Int, (wrap64 ((wrap64 (bt x0_1 1)) + 2)) = j_ := ⟨_, rfl⟩
                            replace H : (if 0 ≤ (ji17) then (if (ji17) ≤ (x0_1.size : Int) then (spec_l02Map.l0 k1 (x0_1.extract ((ji17) : Int).toNat x0_1.size) (wrap64 (bt x0_1 0))) else (none)) else (none)) = some r := by first | (rw [hji17] at H; exact H) | (simp only [hji17] at H ⊢; exact H)
                            (try rw [hji17] at c11b0)
                            have hji17w : (IntKind.i64.wrap ((wrap64 (bt x0_1 1)) + 2)) = ji17 := (i64_w _).trans hji17
                            by_cases c18 : 0 ≤ (ji17)
                            · rw [if_pos c18] at H
                              have c18b0 := eq_true c18
                              have c18b1 : decide (0 ≤ (ji17)) = true := decide_eq_true c18
                              clear c18
                              by_cases c19 : (ji17) ≤ (x0_1.size : Int)
                              · rw [if_pos c19] at H
                                have c19b0 := eq_true c19
                                have c19b1 : decide ((ji17) ≤ (x0_1.size : Int)) = true := decide_eq_true c19
                                clear c19
                                have H' := Aside0.mk H
                                clear H
                                have p5 : 0 ≤ (0 : Int) := (by omega)
                                have q5 : 0 < x0_1.size := (by have : (0 : Int) < (x0_1.size : Int) := of_decide_eq_true (by first | (with_reducible assumption) | assumption); omega)
                                have hx5 : ∀ h : 0 < x0_1.size, ((x0_1[0]'h).toNat : Int) = bt x0_1 0 := bt_at x0_1 0
                                clear p5
                                have qi5 : (0 < (x0_1.size : Int)) = True := eq_true (of_decide_eq_true (by first | (with_reducible assumption) | assumption))
                                replace q5 := eq_true q5
                                have p7 : 0 ≤ (1 : Int) := (by omega)
                                have q7 : 1 < x0_1.size := (by have : (1 : Int) < (x0_1.size : Int) := of_decide_eq_true (by first | (with_reducible assumption) | assumption); omega)
                                have hx7 : ∀ h : 1 < x0_1.size, ((x0_1[1]'h).toNat : Int) = bt x0_1 1 := bt_at x0_1 1
                                clear p7
                                have qi7 : (1 < (x0_1.size : Int)) = True := eq_true (of_decide_eq_true (by first | (with_reducible assumption) | assumption))
                                replace q7 := eq_true q7
                                have p15 : 0 ≤ ((ji12) : Int) := of_decide_eq_true (by first | (with_reducible assumption) | assumption)
                                have q15 : (ji12) < (x0_1.size : Int) := of_decide_eq_true (by first | (with_reducible assumption) | assumption)
                                have hx15 := bt_at x0_1 (ji12)
                                replace p15 := eq_true p15
                                replace q15 := eq_true q15
                                go_wp2
                                go_roundg k1
                                case measure => have := HK1.out; omega
                                case rel => exact ⟨(x0_1.extract ((ji17) : Int).toNat x0_1.size), (wrap64 (bt x0_1 0)), (by first | rfl | (simp; done) | (simp only [← hji17] <;> (first | rfl | simp)) | (simp [*]; done)), (by first | rfl | (simp; done) | (simp [*]; done)), H', ⟨by have := HK1.out; omega⟩, by repeat (first | exact Drawn0.refl _ | apply Drawn0.step)⟩
                              · rw [if_neg c19] at H
                                exact absurd H (by simp)
                            · rw [if_neg c18] at H
                              exact absurd H (by simp)
                        · rw [if_neg c14] at H
                          exact absurd H (by simp)
                      · rw [if_neg c13] at H
                        exact absurd H (by simp)
            · rw [if_neg c6] at H
              exact absurd H (by simp)
          · rw [if_neg c4] at H
            exact absurd H (by simp)

end Go.Proofs.YtbaajohjglhpfaaDoor.F
namespace Go.Proofs.YtbaajohjglhpfaaDoor.F
open Go Go.Shelf Go.RowKit Go.Proofs.YtbaajohjglhpfaaDoorW.PrintWords Go.Proofs.YtbaajohjglhpfaaDoorW.PrintLast Go.Proofs.YtbaajohjglhpfaaDoorW.PrintMore
attribute [local go_sem] max2_int min2_int max_two min_two max_three min_three max_four min_four   -- for this text's walks alone
set_option linter.unusedVariables false
set_option linter.unusedSimpArgs false

/-! ### spec_l02Parts: function 24 -/
def spec_l02Parts.run : Nat → ByteArray → ByteArray → Option ByteArray
  | 0, _, _ => none
  | k + 1, d, p => if d.size < p.size then none else (spec_l02Text.f (d.extract p.size d.size)).bind fun t => if t.size = 0 then some p else if p.size + t.size ≤ 9223372036854775807 then spec_l02Parts.run k d (p ++ t) else none
def spec_l02Parts.tag (K : Nat) : List Int → Option Bool
  | [] => some true
  | c :: r => (spec_l02Alnum.f c).bind fun b => if b = true then spec_l02Parts.tag K r else some false
def spec_l02Parts.pre (K : Nat) (c : Int) (d : ByteArray) : Option (Option ByteArray) :=
  if c = 110 then (spec_l02NameAt.f K d).bind fun p => some (some p)
  else if c = 98 then some (some (if d.size = 0 then ⟨#[]⟩ else d.extract 0 1))
  else if c = 116 then (spec_l02Text.f d).bind fun p => some (some p)
  else if c = 115 then (spec_l02Parts.run K d ⟨#[]⟩).bind fun p => some (some p)
  else if c = 99 then (spec_l02Text.f d).bind fun p => if p.size < 2 then some none else if 16 < p.size then some none else (spec_l02Parts.tag K ((bytesOf p).drop 1)).bind fun b => some (if b = true then some d else none)
  else if c = 109 then (spec_l02Map.f K d).bind fun b => some (if b = true then some d else none)
  else if c = 42 then some (some d) else none
def spec_l02Parts.go (K : Nat) : List UInt8 → ByteArray → List ByteArray → Option (List ByteArray × Bool)
  | [], d, out => some (out, d.toList.isEmpty)
  | c :: r, d, out => (spec_l02Parts.pre K (c.toNat : Int) d).bind fun o => match o with
    | none => some ([], false)
    | some p => if p.size = 0 ∧ (c.toNat : Int) ≠ 109 ∧ (c.toNat : Int) ≠ 42 then some ([], false) else if d.size < p.size then none else if 8796093022208 ≤ out.length then none else spec_l02Parts.go K r (d.extract p.size d.size) (out ++ [p])
def spec_l02Parts.f (k : Nat) (a0 : ByteArray) (a1 : ByteArray) : Option (List ByteArray × Bool) := if 140737488355328 < a0.size then none else spec_l02Parts.go k a0.data.toList a1 []
theorem spec_l02Parts.nil_iff (p : ByteArray) : (p.toList = []) ↔ p.size = 0 := by
  rw [Lib.toList_data]
  constructor
  · intro h
    have : p.data.size = 0 := by rw [← Array.length_toList, h]; rfl
    exact this
  · intro h
    exact List.eq_nil_of_length_eq_zero (by simpa using h)
theorem spec_l02Parts.nil_dec (p : ByteArray) : p.toList.isEmpty = decide (p.size = 0) := by
  rw [Bool.eq_iff_iff, List.isEmpty_iff, decide_eq_true_iff]
  exact spec_l02Parts.nil_iff p
set_option maxHeartbeats 8000000 in
set_option maxRecDepth 100000 in
theorem spec_l02Parts.calls (k : Nat) (a0 : ByteArray) (a1 : ByteArray) (r1 : List ByteArray) (r2 : Bool) (w : World) (h : spec_l02Parts.f k a0 a1 = some (r1, r2)) :
    Calls Tryd.prog 24 #[.string a0, .string a1] w fun e w' => ∃ v0_ : Value, e = .returned (.tuple #[v0_, .bool r2]) ∧ Kd.R Kd.string 9 w' w.heap.size (fun _ => True) v0_ r1 ∧ Below w.heap.size w w' := by
  unfold spec_l02Parts.f at h
  split at h
  case isTrue => cases h
  case isFalse hs =>
  have HB := Aside0.mk (Below.refl w.heap.size w)
  have HH := Aside0.mk h
  have HS : Aside0 (a0.size ≤ 140737488355328) := ⟨by omega⟩
  clear h hs
  go_enter Tryd.func24, Tryd.ntmps24
  go_wp2_with (first | ((with_reducible refine gate_dst (N := 10) rfl ?_); (try (refine gate_guard (by rfl) ?_; dsimp only)); refine Kd.R_lit Kd.string _ 9 ?hg (N := 10) ?hd (xs := ([] : List ByteArray)) (inner := []) (ok := fun _ => True) (okp := fun _ => True) ?hr ?hp (fun _ hk => hk) trivial (Below.refl _ _) (Nat.le_refl _) (by simp) ?_; (case hd => rfl); (case hg => rfl); (case hr => first | (go_simp; done) | (go_simp; rfl)); (case hp => exact (Reps.none _ _)); intro v102 w3 ho4 hb hg_ hnew_; clear hg_ hnew_; have n0_ := Aside0.mk (Kd.R_lower ho4 (below_size HB.out)); have n1_ := Aside0.mk (below_step HB.out hb); clear HB; have HO := n0_; have HB := n1_; clear n0_ n1_; clear hb ho4))
  go_loopg [1, 6, 7] (a0.size + 1) (fun kq v1 v6 v7 w' => ∃ (d : ByteArray) (out : List ByteArray) (i : Nat), v1 = .string d ∧ v7 = .int .i64 (i : Int) ∧ Aside0 (kq + i = a0.size + 1) ∧ Aside0 (i ≤ a0.size) ∧ Aside0 (spec_l02Parts.go k (a0.data.toList.drop i) d out = some (r1, r2)) ∧ Aside0 (Kd.R Kd.string 9 w' w.heap.size (fun _ => True) v6 out) ∧ Aside0 (Below w.heap.size w w'))
  case atStart => exact ⟨a1, [], 0, rfl, rfl, ⟨rfl⟩, ⟨Nat.zero_le _⟩, HH, HO, HB⟩
  case round =>
    clear HO HB HH
    obtain ⟨d, out, i, rfl, rfl, HK, HI, HA, HO, HB⟩ := hrel
    by_cases hi : i < a0.size
    · have hlen : i < a0.data.toList.length := by simpa using hi
      have hdrop : a0.data.toList.drop i = a0[i] :: a0.data.toList.drop (i + 1) := by
        rw [List.drop_eq_getElem_cons hlen]
        rfl
      have hO := HA.out
      rw [hdrop, spec_l02Parts.go] at hO
      clear HA
      have q3 : ((i : Int) < (a0.size : Int)) = True := eq_true (by omega)
      have q4 : (i < a0.size) = True := eq_true (by omega)
      generalize hcc : ((a0[i]'hi).toNat : Int) = c at hO
      have hx4 : ∀ h : i < a0.size, ((a0[i]'h).toNat : Int) = c := fun _ => hcc
      have HII := Aside0.mk hi
      have hov : wrap64 ((i : Int) + 1) = (i : Int) + 1 := by have := HS.out; unfold wrap64; omega
      have HOO := Aside0.mk hO
      clear hdrop hlen hcc hO hi
      go_upto_block 2 with fail
      go_cut [8] (fun v8' wc => ∃ (p : ByteArray), v8' = .string p ∧ Aside0 ((if p.size = 0 ∧ c ≠ 109 ∧ c ≠ 42 then some ([], false) else if d.size < p.size then none else if 8796093022208 ≤ out.length then none else spec_l02Parts.go k (a0.data.toList.drop (i + 1)) (d.extract p.size d.size) (out ++ [p])) = some (r1, r2)) ∧ Aside0 (Kd.R Kd.string 9 wc w.heap.size (fun _ => True) u6 out) ∧ Aside0 (Below w.heap.size w wc))
      case first =>
        have hO := HOO.out
        clear HOO
        by_cases h110 : c = 110
        · subst h110
          have e1 : spec_l02Parts.pre k 110 d = (spec_l02NameAt.f k d).bind fun p => some (some p) := by unfold spec_l02Parts.pre; simp
          rw [e1, Option.bind_assoc] at hO
          obtain ⟨p, hp, hO⟩ := Option.bind_eq_some_iff.mp hO
          rw [Option.bind_some] at hO
          have HP := Aside0.mk hp
          have HO2 := Aside0.mk hO
          clear hp hO e1
          go_wp2_with (first | (go_at_call 36; refine (spec_l02NameAt.calls k _ p _ HP.out).mono ?_; rintro e w1 ⟨rfl, m, rfl⟩))
          go_meet
          case rel => exact ⟨p, by rfl, HO2, ⟨Kd.R_drewN HO.out _⟩, ⟨pw_below_drewN HB.out _⟩⟩
        by_cases h98 : c = 98
        · subst h98
          have e1 : spec_l02Parts.pre k 98 d = some (some (if d.size = 0 then ⟨#[]⟩ else d.extract 0 1)) := by unfold spec_l02Parts.pre; simp
          rw [e1, Option.bind_some] at hO
          have hde := spec_l02Parts.nil_dec d
          clear e1
          by_cases hd0 : d.size = 0
          · rw [if_pos hd0] at hO
            rw [decide_eq_true hd0] at hde
            have HO2 := Aside0.mk hO
            clear hO hd0
            go_wp2
            go_meet
            case rel => exact ⟨⟨#[]⟩, by rfl, HO2, HO, HB⟩
          · rw [if_neg hd0] at hO
            rw [decide_eq_false hd0] at hde
            have HO2 := Aside0.mk hO
            have h1 : (1 ≤ (d.size : Int)) = True := eq_true (by omega)
            have h2 : (1 ≤ d.size) = True := eq_true (by omega)
            clear hO hd0
            go_wp2
            go_meet
            case rel => exact ⟨d.extract 0 1, by rfl, HO2, HO, HB⟩
        by_cases h116 : c = 116
        · subst h116
          have e1 : spec_l02Parts.pre k 116 d = (spec_l02Text.f d).bind fun p => some (some p) := by unfold spec_l02Parts.pre; simp
          rw [e1, Option.bind_assoc] at hO
          obtain ⟨p, hp, hO⟩ := Option.bind_eq_some_iff.mp hO
          rw [Option.bind_some] at hO
          have HP := Aside0.mk hp
          have HO2 := Aside0.mk hO
          clear hp hO e1
          go_wp2_with (first | (go_at_call 37; refine (spec_l02Text.calls _ p _ HP.out).mono ?_; rintro e w1 ⟨rfl, m, rfl⟩))
          go_meet
          case rel => exact ⟨p, by rfl, HO2, ⟨Kd.R_drewN HO.out _⟩, ⟨pw_below_drewN HB.out _⟩⟩
        by_cases h42 : c = 42
        · subst h42
          have e1 : spec_l02Parts.pre k 42 d = some (some d) := by unfold spec_l02Parts.pre; simp
          rw [e1, Option.bind_some] at hO
          have HO2 := Aside0.mk hO
          clear hO e1
          go_wp2
          go_meet
          case rel => exact ⟨d, by rfl, HO2, HO, HB⟩
        by_cases h109 : c = 109
        · subst h109
          have e1 : spec_l02Parts.pre k 109 d = (spec_l02Map.f k d).bind fun b => some (if b = true then some d else none) := by unfold spec_l02Parts.pre; simp
          rw [e1, Option.bind_assoc] at hO
          obtain ⟨b, hb, hO⟩ := Option.bind_eq_some_iff.mp hO
          rw [Option.bind_some] at hO
          have HP := Aside0.mk hb
          clear hb e1
          cases b with
          | true =>
            rw [if_pos rfl] at hO
            have HO2 := Aside0.mk hO
            clear hO
            go_wp2_with (first | (go_at_call 39; refine (spec_l02Map.calls k _ true _ HP.out).mono ?_; rintro e w1 ⟨rfl, m, rfl⟩))
            go_meet
            case rel => exact ⟨d, by rfl, HO2, ⟨Kd.R_drewN HO.out _⟩, ⟨pw_below_drewN HB.out _⟩⟩
          | false =>
            rw [if_neg (by decide)] at hO
            simp only [Option.some.injEq, Prod.mk.injEq] at hO
            obtain ⟨rfl, rfl⟩ := hO
            go_wp2_with (first | (go_at_call 39; refine (spec_l02Map.calls k _ false _ HP.out).mono ?_; rintro e w1 ⟨rfl, m, rfl⟩))
            go_ret2
            exact ⟨_, rfl, Kd.R_nil _ _ _ _ _, pw_below_drewN HB.out _⟩
        by_cases h115 : c = 115
        · subst h115
          have e1 : spec_l02Parts.pre k 115 d = (spec_l02Parts.run k d ⟨#[]⟩).bind fun p => some (some p) := by unfold spec_l02Parts.pre; simp
          rw [e1, Option.bind_assoc] at hO
          obtain ⟨pf, hp, hO⟩ := Option.bind_eq_some_iff.mp hO
          rw [Option.bind_some] at hO
          have HP := Aside0.mk hp
          have HO2 := Aside0.mk hO
          clear hp hO e1
          go_wp2
          go_loopg [8] k (fun kq v8 w' => ∃ (p : ByteArray), v8 = .string p ∧ Aside0 (spec_l02Parts.run kq d p = some pf) ∧ Aside0 (Kd.R Kd.string 9 w' w.heap.size (fun _ => True) u6 out) ∧ Aside0 (Below w.heap.size w w'))
          case atStart => exact ⟨⟨#[]⟩, rfl, HP, HO, HB⟩
          case round =>
            clear HP HO HB
            obtain ⟨p, rfl, HP, HO, HB⟩ := hrel
            cases gk with
            | zero => exact absurd HP.out (by simp [spec_l02Parts.run])
            | succ k1 =>
            have hP := HP.out
            rw [spec_l02Parts.run] at hP
            clear HP
            by_cases hds : d.size < p.size
            · rw [if_pos hds] at hP; cases hP
            · rw [if_neg hds] at hP
              obtain ⟨t, ht, hP⟩ := Option.bind_eq_some_iff.mp hP
              have hsl : ((p.size : Int) ≤ (d.size : Int)) = True := eq_true (by omega)
              have HT := Aside0.mk ht
              have hte := spec_l02Parts.nil_dec t
              clear ht hds
              by_cases ht0 : t.size = 0
              · rw [if_pos ht0] at hP
                rw [decide_eq_true ht0] at hte
                obtain rfl := Option.some.inj hP
                clear ht0 hP
                go_wp2_with (first | (go_at_call 37; refine (spec_l02Text.calls _ t _ HT.out).mono ?_; rintro e w1 ⟨rfl, m, rfl⟩))
                go_meet
                case rel => exact ⟨p, by rfl, HO2, ⟨Kd.R_drewN HO.out _⟩, ⟨pw_below_drewN HB.out _⟩⟩
              · rw [if_neg ht0] at hP
                rw [decide_eq_false ht0] at hte
                by_cases hcat : p.size + t.size ≤ 9223372036854775807
                · rw [if_pos hcat] at hP
                  have HP2 := Aside0.mk hP
                  have hcat1 : (p.size + t.size ≤ 9223372036854775807) = True := eq_true hcat
                  have hcat2 : (9223372036854775807 < p.size + t.size) = False := eq_false (Nat.not_lt.2 hcat)
                  clear hP ht0 hcat
                  go_wp2_with (first | (go_at_call 37; refine (spec_l02Text.calls _ t _ HT.out).mono ?_; rintro e w1 ⟨rfl, m, rfl⟩))
                  go_roundg k1
                  case measure => omega
                  case rel => exact ⟨p ++ t, by rfl, HP2, ⟨by repeat (first | exact HO.out | apply Kd.R_drewN)⟩, ⟨by repeat (first | exact HB.out | apply pw_below_drewN)⟩⟩
                · rw [if_neg hcat] at hP; cases hP
        by_cases h99 : c = 99
        · subst h99
          have e1 : spec_l02Parts.pre k 99 d = (spec_l02Text.f d).bind fun p => if p.size < 2 then some none else if 16 < p.size then some none else (spec_l02Parts.tag k ((bytesOf p).drop 1)).bind fun b => some (if b = true then some d else none) := by unfold spec_l02Parts.pre; simp
          rw [e1, Option.bind_assoc] at hO
          obtain ⟨p, hp, hO⟩ := Option.bind_eq_some_iff.mp hO
          have HP := Aside0.mk hp
          clear hp e1
          by_cases hp2 : p.size < 2
          · rw [if_pos hp2, Option.bind_some] at hO
            simp only [Option.some.injEq, Prod.mk.injEq] at hO
            obtain ⟨rfl, rfl⟩ := hO
            have t1 : ((p.size : Int) < 2) = True := eq_true (by omega)
            have t2 : (p.size < 2) = True := eq_true (by omega)
            clear hp2
            go_wp2_with (first | (go_at_call 37; refine (spec_l02Text.calls _ p _ HP.out).mono ?_; rintro e w1 ⟨rfl, m, rfl⟩))
            go_ret2
            exact ⟨_, rfl, Kd.R_nil _ _ _ _ _, pw_below_drewN HB.out _⟩
          · rw [if_neg hp2] at hO
            by_cases hp16 : 16 < p.size
            · rw [if_pos hp16, Option.bind_some] at hO
              simp only [Option.some.injEq, Prod.mk.injEq] at hO
              obtain ⟨rfl, rfl⟩ := hO
              have t1 : ((p.size : Int) < 2) = False := eq_false (by omega)
              have t2 : (p.size < 2) = False := eq_false (by omega)
              have t3 : (16 < (p.size : Int)) = True := eq_true (by omega)
              have t4 : (16 < p.size) = True := eq_true (by omega)
              clear hp2 hp16
              go_wp2_with (first | (go_at_call 37; refine (spec_l02Text.calls _ p _ HP.out).mono ?_; rintro e w1 ⟨rfl, m, rfl⟩))
              go_ret2
              exact ⟨_, rfl, Kd.R_nil _ _ _ _ _, pw_below_drewN HB.out _⟩
            · rw [if_neg hp16, Option.bind_assoc] at hO
              obtain ⟨b, hb, hO⟩ := Option.bind_eq_some_iff.mp hO
              rw [Option.bind_some] at hO
              have HT := Aside0.mk hb
              have HO2 := Aside0.mk hO
              have HPZ : Aside0 (2 ≤ p.size ∧ p.size ≤ 16) := ⟨by omega⟩
              have t1 : ((p.size : Int) < 2) = False := eq_false (by omega)
              have t2 : (p.size < 2) = False := eq_false (by omega)
              have t3 : (16 < (p.size : Int)) = False := eq_false (by omega)
              have t4 : (16 < p.size) = False := eq_false (by omega)
              clear hb hO hp2 hp16
              go_wp2_with (first | (go_at_call 37; refine (spec_l02Text.calls _ p _ HP.out).mono ?_; rintro e w1 ⟨rfl, m, rfl⟩))
              clear t1 t2 t3 t4
              go_loopg [9] p.size (fun kq v9 w' => ∃ j : Nat, v9 = .int .i64 (j : Int) ∧ Aside0 (kq + j = p.size + 1) ∧ Aside0 (1 ≤ j ∧ j ≤ p.size) ∧ Aside0 (spec_l02Parts.tag k ((bytesOf p).drop j) = some b) ∧ Aside0 (Kd.R Kd.string 9 w' w.heap.size (fun _ => True) u6 out) ∧ Aside0 (Below w.heap.size w w'))
              case atStart => exact ⟨1, rfl, ⟨by have := HPZ.out; omega⟩, ⟨by have := HPZ.out; omega⟩, HT, ⟨Kd.R_drewN HO.out _⟩, ⟨pw_below_drewN HB.out _⟩⟩
              case round =>
                clear HT HO HB
                obtain ⟨j, rfl, HKJ, HJ, HT, HO, HB⟩ := hrel
                have hlb := bytesOf_length p
                by_cases hjp : j < p.size
                · cases gk with
                  | zero => exact absurd HKJ.out (by omega)
                  | succ k1 =>
                  have hT := HT.out
                  have hel : (bytesOf p)[j]'(by omega) = bt p (j : Int) := by
                    rw [← rd_bytesOf]
                    simp [rd, List.getD_eq_getElem?_getD, hlb, hjp]
                  rw [List.drop_eq_getElem_cons (by omega), spec_l02Parts.tag, hel] at hT
                  obtain ⟨bb, hbb, hT⟩ := Option.bind_eq_some_iff.mp hT
                  have HBB := Aside0.mk hbb
                  have q3 : ((j : Int) < (p.size : Int)) = True := eq_true (by omega)
                  have q4 : (j < p.size) = True := eq_true (by omega)
                  have hx4 : ∀ h : j < p.size, ((p[j]'h).toNat : Int) = bt p (j : Int) := fun h => bt_at p (j : Int) h
                  have hov : wrap64 ((j : Int) + 1) = (j : Int) + 1 := by have := HJ.out; have := HPZ.out; unfold wrap64; omega
                  have HJP := Aside0.mk hjp
                  clear HT hbb hel hlb hjp
                  cases bb with
                  | true =>
                    rw [if_pos rfl] at hT
                    have HT := Aside0.mk hT
                    clear hT
                    go_wp2_with (first | (go_at_call 38; refine (spec_l02Alnum.calls _ true _ HBB.out).mono ?_; rintro e w1 ⟨rfl, m, rfl⟩))
                    go_roundg k1
                    case measure => omega
                    case rel => exact ⟨j + 1, by go_num, ⟨by have := HKJ.out; omega⟩, ⟨by have := HJP.out; omega⟩, HT, ⟨Kd.R_drewN HO.out _⟩, ⟨pw_below_drewN HB.out _⟩⟩
                  | false =>
                    rw [if_neg (by decide)] at hT
                    obtain rfl := Option.some.inj hT
                    have hO := HO2.out
                    rw [if_neg (by decide)] at hO
                    simp only [Option.some.injEq, Prod.mk.injEq] at hO
                    obtain ⟨rfl, rfl⟩ := hO
                    clear hT HO2
                    go_wp2_with (first | (go_at_call 38; refine (spec_l02Alnum.calls _ false _ HBB.out).mono ?_; rintro e w1 ⟨rfl, m, rfl⟩))
                    go_ret2
                    exact ⟨_, rfl, Kd.R_nil _ _ _ _ _, pw_below_drewN HB.out _⟩
                · obtain rfl : j = p.size := by have := HJ.out; omega
                  have hT := HT.out
                  rw [List.drop_of_length_le (by omega), spec_l02Parts.tag] at hT
                  obtain rfl := Option.some.inj hT
                  have hO := HO2.out
                  rw [if_pos rfl] at hO
                  have HO3 := Aside0.mk hO
                  clear hO hT HT HO2 hlb hjp
                  go_wp2
                  go_meet
                  case rel => exact ⟨d, by rfl, HO3, HO, HB⟩
        exfalso
        have e1 : spec_l02Parts.pre k c d = none := by unfold spec_l02Parts.pre; simp [h110, h98, h116, h42, h109, h115, h99]
        rw [e1] at hO
        cases hO
      case rest =>
        clear HOO
        obtain ⟨p, rfl, HP, HO3, HB3⟩ := hcut
        have hP := HP.out
        clear HP
        have hpe := spec_l02Parts.nil_dec p
        by_cases hp0 : p.size = 0 ∧ c ≠ 109 ∧ c ≠ 42
        · rw [if_pos hp0] at hP
          simp only [Option.some.injEq, Prod.mk.injEq] at hP
          obtain ⟨rfl, rfl⟩ := hP
          obtain ⟨p0, c1, c2⟩ := hp0
          rw [decide_eq_true p0] at hpe
          have c1b : (c != 109) = true := bne_iff_ne.mpr c1
          have c2b : (c != 42) = true := bne_iff_ne.mpr c2
          clear c1 c2 p0
          go_wp2
          go_ret2
          exact ⟨_, rfl, Kd.R_nil _ _ _ _ _, HB3.out⟩
        · rw [if_neg hp0] at hP
          by_cases hds : d.size < p.size
          · rw [if_pos hds] at hP; cases hP
          · rw [if_neg hds] at hP
            by_cases hol : 8796093022208 ≤ out.length
            · rw [if_pos hol] at hP; cases hP
            · rw [if_neg hol] at hP
              have HP := Aside0.mk hP
              have HOL := Aside0.mk hol
              have hsl : ((p.size : Int) ≤ (d.size : Int)) = True := eq_true (by omega)
              clear hP hol hds
              by_cases hps : p.size = 0
              · rw [decide_eq_true hps] at hpe
                by_cases c1 : c = 109
                · have c1b : (c != 109) = false := by rw [c1]; rfl
                  clear c1 hp0 hps
                  go_wp2_with (first | ((with_reducible refine gate_builtin (b := .append) (xs := #[.tmp 96, .tmp 98]) rfl ?_); (try (refine gate_guard (by rfl) ?_; dsimp only)); at_builtin; refine Kd.R_append Kd.string (w0 := w) w.heap.size rfl (.tmp 96) (.tmp 98) 37 9 (.string ⟨#[]⟩) 16 rfl Tryd.underlying37 info9 rfl (by decide) (by omega) u6 out p [.string p] (fun _ => True) (fun _ => False) rfl rfl ?aP (fun _ hk => hk.elim) ?aF ?aO ?aB ?aS ?aL ?_; (case aP => exact rfl); (case aB => exact HB3.out); (case aF => exact (fun _ _ => trivial)); (case aO => exact HO3.out); (case aS => exact HB3.out.size); (case aL => have := HOL.out; omega); intro v106 w16 ho hb hg hat; have HB4 := Aside0.mk hb; have HO4 := Aside0.mk ho; clear ho hb hg hat))
                  go_roundg (a0.size - i)
                  case measure => have := HII.out; have := HK.out; omega
                  case rel => exact ⟨d.extract p.size d.size, out ++ [p], i + 1, by rfl, by go_num, ⟨by have := HII.out; omega⟩, ⟨by have := HII.out; omega⟩, HP, HO4, HB4⟩
                · have c1b : (c != 109) = true := bne_iff_ne.mpr c1
                  have c2b : (c != 42) = false := bne_eq_false_iff_eq.mpr (by
                    by_cases c2 : c = 42
                    · exact c2
                    · exact absurd ⟨hps, c1, c2⟩ hp0)
                  clear c1 hp0 hps
                  go_wp2_with (first | ((with_reducible refine gate_builtin (b := .append) (xs := #[.tmp 96, .tmp 98]) rfl ?_); (try (refine gate_guard (by rfl) ?_; dsimp only)); at_builtin; refine Kd.R_append Kd.string (w0 := w) w.heap.size rfl (.tmp 96) (.tmp 98) 37 9 (.string ⟨#[]⟩) 16 rfl Tryd.underlying37 info9 rfl (by decide) (by omega) u6 out p [.string p] (fun _ => True) (fun _ => False) rfl rfl ?aP (fun _ hk => hk.elim) ?aF ?aO ?aB ?aS ?aL ?_; (case aP => exact rfl); (case aB => exact HB3.out); (case aF => exact (fun _ _ => trivial)); (case aO => exact HO3.out); (case aS => exact HB3.out.size); (case aL => have := HOL.out; omega); intro v106 w16 ho hb hg hat; have HB4 := Aside0.mk hb; have HO4 := Aside0.mk ho; clear ho hb hg hat))
                  go_roundg (a0.size - i)
                  case measure => have := HII.out; have := HK.out; omega
                  case rel => exact ⟨d.extract p.size d.size, out ++ [p], i + 1, by rfl, by go_num, ⟨by have := HII.out; omega⟩, ⟨by have := HII.out; omega⟩, HP, HO4, HB4⟩
              · rw [decide_eq_false hps] at hpe
                clear hp0 hps
                go_wp2_with (first | ((with_reducible refine gate_builtin (b := .append) (xs := #[.tmp 96, .tmp 98]) rfl ?_); (try (refine gate_guard (by rfl) ?_; dsimp only)); at_builtin; refine Kd.R_append Kd.string (w0 := w) w.heap.size rfl (.tmp 96) (.tmp 98) 37 9 (.string ⟨#[]⟩) 16 rfl Tryd.underlying37 info9 rfl (by decide) (by omega) u6 out p [.string p] (fun _ => True) (fun _ => False) rfl rfl ?aP (fun _ hk => hk.elim) ?aF ?aO ?aB ?aS ?aL ?_; (case aP => exact rfl); (case aB => exact HB3.out); (case aF => exact (fun _ _ => trivial)); (case aO => exact HO3.out); (case aS => exact HB3.out.size); (case aL => have := HOL.out; omega); intro v106 w16 ho hb hg hat; have HB4 := Aside0.mk hb; have HO4 := Aside0.mk ho; clear ho hb hg hat))
                go_roundg (a0.size - i)
                case measure => have := HII.out; have := HK.out; omega
                case rel => exact ⟨d.extract p.size d.size, out ++ [p], i + 1, by rfl, by go_num, ⟨by have := HII.out; omega⟩, ⟨by have := HII.out; omega⟩, HP, HO4, HB4⟩
    · obtain rfl : i = a0.size := by have := HI.out; omega
      have hO := HA.out
      rw [List.drop_of_length_le (by simp), spec_l02Parts.go] at hO
      simp only [Option.some.injEq, Prod.mk.injEq] at hO
      obtain ⟨rfl, rfl⟩ := hO
      clear HA
      go_wp2
      go_ret2
      exact ⟨_, rfl, HO.out, HB.out⟩
theorem spec_l02Parts.run_mono : ∀ (k : Nat) (d p : ByteArray), LeO (spec_l02Parts.run k d p) (spec_l02Parts.run (k + 1) d p) := by
  intro k
  induction k with
  | zero => intro d p; exact LeO.none _
  | succ k ih =>
    intro d p
    rw [spec_l02Parts.run, spec_l02Parts.run]
    refine LeO.ite (LeO.refl _) (LeO.bind (LeO.refl _) (fun t => LeO.ite (LeO.refl _) (LeO.ite (ih _ _) (LeO.refl _))))
theorem spec_l02Parts.tag_mono (K : Nat) : ∀ l : List Int, LeO (spec_l02Parts.tag K l) (spec_l02Parts.tag (K + 1) l) := by
  intro l
  induction l with
  | nil => exact LeO.refl _
  | cons c r ih =>
    rw [spec_l02Parts.tag, spec_l02Parts.tag]
    exact LeO.bind (LeO.refl _) (fun b => LeO.ite ih (LeO.refl _))
theorem spec_l02Parts.pre_mono (K : Nat) (c : Int) (d : ByteArray) : LeO (spec_l02Parts.pre K c d) (spec_l02Parts.pre (K + 1) c d) := by
  unfold spec_l02Parts.pre
  repeat' first
      | (with_reducible exact spec_l02NameAt.mono _ _)
      | (with_reducible exact spec_l02Map.mono _ _)
      | (with_reducible exact spec_l02Parts.run_mono _ _ _)
      | (with_reducible exact spec_l02Parts.tag_mono _ _)
      | (with_reducible exact LeO.refl _)
      | (with_reducible refine LeO.ite ?_ ?_)
      | (with_reducible refine LeO.bind ?_ (fun _ => ?_))
theorem spec_l02Parts.go_mono (K : Nat) : ∀ (l : List UInt8) (d : ByteArray) (out : List ByteArray), LeO (spec_l02Parts.go K l d out) (spec_l02Parts.go (K + 1) l d out) := by
  intro l
  induction l with
  | nil => intro d out; exact LeO.refl _
  | cons c r ih =>
    intro d out
    rw [spec_l02Parts.go, spec_l02Parts.go]
    refine LeO.bind (spec_l02Parts.pre_mono _ _ _) (fun o => ?_)
    cases o with
    | none => exact LeO.refl _
    | some p => exact LeO.ite (LeO.refl _) (LeO.ite (LeO.refl _) (LeO.ite (LeO.refl _) (ih _ _)))
theorem spec_l02Parts.mono : ∀ a0 a1 k, LeO (spec_l02Parts.f k a0 a1) (spec_l02Parts.f (k + 1) a0 a1) := by
  intro a0 a1 k
  unfold spec_l02Parts.f
  exact LeO.ite (LeO.refl _) (spec_l02Parts.go_mono _ _ _ _)

end Go.Proofs.YtbaajohjglhpfaaDoor.F
namespace Go.Proofs.YtbaajohjglhpfaaDoor.F
open Go Go.Shelf Go.RowKit Go.Proofs.YtbaajohjglhpfaaDoorW.PrintWords Go.Proofs.YtbaajohjglhpfaaDoorW.PrintLast Go.Proofs.YtbaajohjglhpfaaDoorW.PrintMore
attribute [local go_sem] max2_int min2_int max_two min_two max_three min_three max_four min_four   -- for this text's walks alone
set_option linter.unusedVariables false
set_option linter.unusedSimpArgs false

/-! ### spec_l02Form: function 25 -/
def spec_l02Form.j0 : Nat → Int → Bool → Option (ByteArray)
  | 0, _, _ => none
  | k + 1, x3, x6 => if x6 = true then (some (⟨#[110]⟩ : ByteArray)) else (if x3 = 6 then (some (⟨#[110, 110, 98, 98, 98, 98, 98, 98, 98, 98, 98, 98, 98, 98, 98, 98, 98, 98, 98, 98, 98, 98]⟩ : ByteArray)) else (if x3 = 13 then (some (⟨#[116, 116]⟩ : ByteArray)) else (if x3 = 15 then (some (⟨#[98, 98, 110]⟩ : ByteArray)) else (if x3 = 16 then (some (⟨#[115]⟩ : ByteArray)) else (if x3 = 28 then (some (⟨#[98, 98, 98, 98, 98, 98, 98, 98, 98, 98, 98, 98, 98, 98, 98, 98]⟩ : ByteArray)) else (if x3 = 33 then (some (⟨#[98, 98, 98, 98, 98, 98, 110]⟩ : ByteArray)) else (if x3 = 35 then (some (⟨#[98, 98, 98, 98, 116, 116, 116, 110]⟩ : ByteArray)) else (if x3 = 47 then (some (⟨#[110, 109]⟩ : ByteArray)) else (if x3 = 257 then (some (⟨#[98, 99]⟩ : ByteArray)) else (some (⟨#[42]⟩ : ByteArray)))))))))))
def spec_l02Form.f (k : Nat) (a0 : Int) : Option (ByteArray) := if a0 = 1 then (some (⟨#[98, 98, 98, 98]⟩ : ByteArray)) else (if a0 = 2 then (spec_l02Form.j0 k a0 (a0 == 2)) else (if a0 = 5 then (spec_l02Form.j0 k a0 (a0 == 5)) else (if a0 = 12 then (spec_l02Form.j0 k a0 (a0 == 12)) else (spec_l02Form.j0 k a0 (a0 == 39)))))
theorem spec_l02Form.mono_l : ∀ k, (∀ y0 y1, LeO (spec_l02Form.j0 k y0 y1) (spec_l02Form.j0 (k + 1) y0 y1))
  | 0 => fun _ _ r h => by simp [spec_l02Form.j0] at h
  | k + 1 => by
    have ih0 := spec_l02Form.mono_l k
    · intro y0 y1
      unfold spec_l02Form.j0
      repeat' first
      | (with_reducible exact ih0 _ _)
      | (with_reducible exact LeO.refl _)
      | (with_reducible exact LeO.none _)
      | (with_reducible refine LeO.ite ?_ ?_)
      | (with_reducible refine LeO.bind ?_ (fun _ => ?_))
      | exact ih0 _ _
      | exact LeO.none _
      | refine LeO.ite ?_ ?_
      | refine LeO.bind ?_ (fun _ => ?_)
theorem spec_l02Form.mono : ∀ a0 k, LeO (spec_l02Form.f k a0) (spec_l02Form.f (k + 1) a0) := by
  intro a0 k
  have ih0 := spec_l02Form.mono_l k
  unfold spec_l02Form.f
  repeat' first
      | (with_reducible exact ih0 _ _)
      | (with_reducible exact LeO.refl _)
      | (with_reducible exact LeO.none _)
      | (with_reducible refine LeO.ite ?_ ?_)
      | (with_reducible refine LeO.bind ?_ (fun _ => ?_))
      | exact ih0 _ _
      | exact LeO.none _
      | refine LeO.ite ?_ ?_
      | refine LeO.bind ?_ (fun _ => ?_)
set_option maxHeartbeats 8000000 in
set_option maxRecDepth 100000 in
theorem spec_l02Form.calls (k : Nat) (a0 : Int) (r : ByteArray) (w : World) (h : spec_l02Form.f k a0 = some r) :
    Calls Tryd.prog 25 #[.int .i64 a0] w fun e w' => e = .returned (.string r) ∧ Drawn0 w w' := by
  have H : (if a0 = 1 then (some (⟨#[98, 98, 98, 98]⟩ : ByteArray)) else (if a0 = 2 then (spec_l02Form.j0 k a0 (a0 == 2)) else (if a0 = 5 then (spec_l02Form.j0 k a0 (a0 == 5)) else (if a0 = 12 then (spec_l02Form.j0 k a0 (a0 == 12)) else (spec_l02Form.j0 k a0 (a0 == 39)))))) = some r := h
  clear h
  by_cases c2 : a0 = 1
  · rw [if_pos c2] at H
    have c2b0 : (a0 == 1) = true := beq_iff_eq.mpr c2
    have c2b1 : (a0 != 1) = false := bne_eq_false_iff_eq.mpr c2
    clear c2
    obtain rfl := Option.some.inj H
    go_enter Tryd.func25, Tryd.ntmps25
    go_wp2
    go_ret
    exact ⟨by first | rfl | (simp; done) | (simp [*]; done), by repeat (first | exact Drawn0.refl _ | apply Drawn0.step)⟩
  · rw [if_neg c2] at H
    have c2b0 : (a0 == 1) = false := beq_eq_false_iff_ne.mpr c2
    have c2b1 : (a0 != 1) = true := bne_iff_ne.mpr c2
    have HC3 := Aside0.mk H
    clear H
    go_enter Tryd.func25, Tryd.ntmps25
    go_upto_if 6 with (fail)
    go_cut [6] (fun v6 wc => ∃ (kq : Nat) (x6_2 : Bool), v6 = .bool x6_2 ∧ Aside0 (spec_l02Form.j0 kq a0 x6_2 = some r) ∧ Aside0 (kq ≤ k) ∧ Drawn0 w wc)
    case first =>
      have H := HC3.out
      clear HC3
      by_cases c4 : a0 = 2
      · rw [if_pos c4] at H
        have c4b0 : (a0 == 2) = true := beq_iff_eq.mpr c4
        have c4b1 : (a0 != 2) = false := bne_eq_false_iff_eq.mpr c4
        clear c4
        (first | rw [c4b0] | (simp only [i64_w, i32_w]; rw [c4b0]) | skip)
        have H' := Aside0.mk H
        clear H
        go_wp2
        go_meet
        case rel => exact ⟨_, ((a0 == 2)), (by first | rfl | (simp; done) | (simp [*]; done)), H', ⟨by first | omega | exact Nat.le_refl _⟩, by repeat (first | exact Drawn0.refl _ | apply Drawn0.step)⟩
      · rw [if_neg c4] at H
        have c4b0 : (a0 == 2) = false := beq_eq_false_iff_ne.mpr c4
        have c4b1 : (a0 != 2) = true := bne_iff_ne.mpr c4
        (first | rw [c4b0] | (simp only [i64_w, i32_w]; rw [c4b0]) | skip)
        by_cases c5 : a0 = 5
        · rw [if_pos c5] at H
          have c5b0 : (a0 == 5) = true := beq_iff_eq.mpr c5
          have c5b1 : (a0 != 5) = false := bne_eq_false_iff_eq.mpr c5
          clear c5
          have H' := Aside0.mk H
          clear H
          go_wp2
          go_meet
          case rel => exact ⟨_, ((a0 == 5)), (by first | rfl | (simp; done) | (simp [*]; done)), H', ⟨by first | omega | exact Nat.le_refl _⟩, by repeat (first | exact Drawn0.refl _ | apply Drawn0.step)⟩
        · rw [if_neg c5] at H
          have c5b0 : (a0 == 5) = false := beq_eq_false_iff_ne.mpr c5
          have c5b1 : (a0 != 5) = true := bne_iff_ne.mpr c5
          by_cases c6 : a0 = 12
          · rw [if_pos c6] at H
            have c6b0 : (a0 == 12) = true := beq_iff_eq.mpr c6
            have c6b1 : (a0 != 12) = false := bne_eq_false_iff_eq.mpr c6
            clear c6
            have H' := Aside0.mk H
            clear H
            go_wp2
            go_meet
            case rel => exact ⟨_, ((a0 == 12)), (by first | rfl | (simp; done) | (simp [*]; done)), H', ⟨by first | omega | exact Nat.le_refl _⟩, by repeat (first | exact Drawn0.refl _ | apply Drawn0.step)⟩
          · rw [if_neg c6] at H
            have c6b0 : (a0 == 12) = false := beq_eq_false_iff_ne.mpr c6
            have c6b1 : (a0 != 12) = true := bne_iff_ne.mpr c6
            have H' := Aside0.mk H
            clear H
            go_wp2
            go_meet
            case rel => exact ⟨_, ((a0 == 39)), (by first | rfl | (simp; done) | (simp [*]; done)), H', ⟨by first | omega | exact Nat.le_refl _⟩, by repeat (first | exact Drawn0.refl _ | apply Drawn0.step)⟩
    case rest =>
      clear HC3
      try clear c2
      try clear c2b0
      try clear c2b1
      try clear p2
      try clear c4
      try clear c4b0
      try clear c4b1
      try clear c5
      try clear c5b0
      try clear c5b1
      try clear c6
      try clear c6b0
      try clear c6b1
      obtain ⟨kq, x6_2, rfl, HA, HJ2, ⟨mc2, rfl⟩⟩ := hcut
      cases kq with
      | zero => exact absurd HA.out (by simp [spec_l02Form.j0])
      | succ kj2 =>
        have H := HA.out
        clear HA
        simp only [spec_l02Form.j0] at H
        by_cases c7 : x6_2 = true
        · subst c7
          have H1 : (some (⟨#[110]⟩ : ByteArray)) = some r := by rw [if_pos rfl] at H; exact H
          clear H
          have H := H1
          clear H1
          obtain rfl := Option.some.inj H
          go_wp2
          go_ret
          exact ⟨by first | rfl | (simp; done) | (simp [*]; done), by repeat (first | exact Drawn0.refl _ | apply Drawn0.step)⟩
        · replace c7 := Bool.eq_false_iff.mpr c7
          subst c7
          have H1 : (if a0 = 6 then (some (⟨#[110, 110, 98, 98, 98, 98, 98, 98, 98, 98, 98, 98, 98, 98, 98, 98, 98, 98, 98, 98, 98, 98]⟩ : ByteArray)) else (if a0 = 13 then (some (⟨#[116, 116]⟩ : ByteArray)) else (if a0 = 15 then (some (⟨#[98, 98, 110]⟩ : ByteArray)) else (if a0 = 16 then (some (⟨#[115]⟩ : ByteArray)) else (if a0 = 28 then (some (⟨#[98, 98, 98, 98, 98, 98, 98, 98, 98, 98, 98, 98, 98, 98, 98, 98]⟩ : ByteArray)) else (if a0 = 33 then (some (⟨#[98, 98, 98, 98, 98, 98, 110]⟩ : ByteArray)) else (if a0 = 35 then (some (⟨#[98, 98, 98, 98, 116, 116, 116, 110]⟩ : ByteArray)) else (if a0 = 47 then (some (⟨#[110, 109]⟩ : ByteArray)) else (if a0 = 257 then (some (⟨#[98, 99]⟩ : ByteArray)) else (some (⟨#[42]⟩ : ByteArray))))))))))) = some r := by rw [if_neg (show ¬ (false = true) by decide)] at H; exact H
          clear H
          have H := H1
          clear H1
          by_cases c8 : a0 = 6
          · rw [if_pos c8] at H
            have c8b0 : (a0 == 6) = true := beq_iff_eq.mpr c8
            have c8b1 : (a0 != 6) = false := bne_eq_false_iff_eq.mpr c8
            clear c8
            obtain rfl := Option.some.inj H
            go_wp2
            go_ret
            exact ⟨by first | rfl | (simp; done) | (simp [*]; done), by repeat (first | exact Drawn0.refl _ | apply Drawn0.step)⟩
          · rw [if_neg c8] at H
            have c8b0 : (a0 == 6) = false := beq_eq_false_iff_ne.mpr c8
            have c8b1 : (a0 != 6) = true := bne_iff_ne.mpr c8
            by_cases c9 : a0 = 13
            · rw [if_pos c9] at H
              have c9b0 : (a0 == 13) = true := beq_iff_eq.mpr c9
              have c9b1 : (a0 != 13) = false := bne_eq_false_iff_eq.mpr c9
              clear c9
              obtain rfl := Option.some.inj H
              go_wp2
              go_ret
              exact ⟨by first | rfl | (simp; done) | (simp [*]; done), by repeat (first | exact Drawn0.refl _ | apply Drawn0.step)⟩
            · rw [if_neg c9] at H
              have c9b0 : (a0 == 13) = false := beq_eq_false_iff_ne.mpr c9
              have c9b1 : (a0 != 13) = true := bne_iff_ne.mpr c9
              by_cases c10 : a0 = 15
              · rw [if_pos c10] at H
                have c10b0 : (a0 == 15) = true := beq_iff_eq.mpr c10
                have c10b1 : (a0 != 15) = false := bne_eq_false_iff_eq.mpr c10
                clear c10
                obtain rfl := Option.some.inj H
                go_wp2
                go_ret
                exact ⟨by first | rfl | (simp; done) | (simp [*]; done), by repeat (first | exact Drawn0.refl _ | apply Drawn0.step)⟩
              · rw [if_neg c10] at H
                have c10b0 : (a0 == 15) = false := beq_eq_false_iff_ne.mpr c10
                have c10b1 : (a0 != 15) = true := bne_iff_ne.mpr c10
                by_cases c11 : a0 = 16
                · rw [if_pos c11] at H
                  have c11b0 : (a0 == 16) = true := beq_iff_eq.mpr c11
                  have c11b1 : (a0 != 16) = false := bne_eq_false_iff_eq.mpr c11
                  clear c11
                  obtain rfl := Option.some.inj H
                  go_wp2
                  go_ret
                  exact ⟨by first | rfl | (simp; done) | (simp [*]; done), by repeat (first | exact Drawn0.refl _ | apply Drawn0.step)⟩
                · rw [if_neg c11] at H
                  have c11b0 : (a0 == 16) = false := beq_eq_false_iff_ne.mpr c11
                  have c11b1 : (a0 != 16) = true := bne_iff_ne.mpr c11
                  by_cases c12 : a0 = 28
                  · rw [if_pos c12] at H
                    have c12b0 : (a0 == 28) = true := beq_iff_eq.mpr c12
                    have c12b1 : (a0 != 28) = false := bne_eq_false_iff_eq.mpr c12
                    clear c12
                    obtain rfl := Option.some.inj H
                    go_wp2
                    go_ret
                    exact ⟨by first | rfl | (simp; done) | (simp [*]; done), by repeat (first | exact Drawn0.refl _ | apply Drawn0.step)⟩
                  · rw [if_neg c12] at H
                    have c12b0 : (a0 == 28) = false := beq_eq_false_iff_ne.mpr c12
                    have c12b1 : (a0 != 28) = true := bne_iff_ne.mpr c12
                    by_cases c13 : a0 = 33
                    · rw [if_pos c13] at H
                      have c13b0 : (a0 == 33) = true := beq_iff_eq.mpr c13
                      have c13b1 : (a0 != 33) = false := bne_eq_false_iff_eq.mpr c13
                      clear c13
                      obtain rfl := Option.some.inj H
                      go_wp2
                      go_ret
                      exact ⟨by first | rfl | (simp; done) | (simp [*]; done), by repeat (first | exact Drawn0.refl _ | apply Drawn0.step)⟩
                    · rw [if_neg c13] at H
                      have c13b0 : (a0 == 33) = false := beq_eq_false_iff_ne.mpr c13
                      have c13b1 : (a0 != 33) = true := bne_iff_ne.mpr c13
                      by_cases c14 : a0 = 35
                      · rw [if_pos c14] at H
                        have c14b0 : (a0 == 35) = true := beq_iff_eq.mpr c14
                        have c14b1 : (a0 != 35) = false := bne_eq_false_iff_eq.mpr c14
                        clear c14
                        obtain rfl := Option.some.inj H
                        go_wp2
                        go_ret
                        exact ⟨by first | rfl | (simp; done) | (simp [*]; done), by repeat (first | exact Drawn0.refl _ | apply Drawn0.step)⟩
                      · rw [if_neg c14] at H
                        have c14b0 : (a0 == 35) = false := beq_eq_false_iff_ne.mpr c14
                        have c14b1 : (a0 != 35) = true := bne_iff_ne.mpr c14
                        by_cases c15 : a0 = 47
                        · rw [if_pos c15] at H
                          have c15b0 : (a0 == 47) = true := beq_iff_eq.mpr c15
                          have c15b1 : (a0 != 47) = false := bne_eq_false_iff_eq.mpr c15
                          clear c15
                          obtain rfl := Option.some.inj H
                          go_wp2
                          go_ret
                          exact ⟨by first | rfl | (simp; done) | (simp [*]; done), by repeat (first | exact Drawn0.refl _ | apply Drawn0.step)⟩
                        · rw [if_neg c15] at H
                          have c15b0 : (a0 == 47) = false := beq_eq_false_iff_ne.mpr c15
                          have c15b1 : (a0 != 47) = true := bne_iff_ne.mpr c15
                          by_cases c16 : a0 = 257
                          · rw [if_pos c16] at H
                            have c16b0 : (a0 == 257) = true := beq_iff_eq.mpr c16
                            have c16b1 : (a0 != 257) = false := bne_eq_false_iff_eq.mpr c16
                            clear c16
                            obtain rfl := Option.some.inj H
                            go_wp2
                            go_ret
                            exact ⟨by first | rfl | (simp; done) | (simp [*]; done), by repeat (first | exact Drawn0.refl _ | apply Drawn0.step)⟩
                          · rw [if_neg c16] at H
                            have c16b0 : (a0 == 257) = false := beq_eq_false_iff_ne.mpr c16
                            have c16b1 : (a0 != 257) = true := bne_iff_ne.mpr c16
                            obtain rfl := Option.some.inj H
                            go_wp2
                            go_ret
                            exact ⟨by first | rfl | (simp; done) | (simp [*]; done), by repeat (first | exact Drawn0.refl _ | apply Drawn0.step)⟩

end Go.Proofs.YtbaajohjglhpfaaDoor.F
namespace Go.Proofs.YtbaajohjglhpfaaDoor.F
open Go Go.Shelf Go.RowKit Go.Proofs.YtbaajohjglhpfaaDoorW.PrintWords Go.Proofs.YtbaajohjglhpfaaDoorW.PrintLast Go.Proofs.YtbaajohjglhpfaaDoorW.PrintMore
attribute [local go_sem] max2_int min2_int max_two min_two max_three min_three max_four min_four   -- for this text's walks alone
set_option linter.unusedVariables false
set_option linter.unusedSimpArgs false

/-! ### spec_CheckData: function 9 -/
def spec_CheckData.j0 : Nat → Int → ByteArray → Bool → Option (Int)
  | 0, _, _, _ => none
  | k + 1, x0, x1, x12 => if x12 = true then (some 6) else (if (x1.size : Int) > 65535 then (some 7) else ((spec_l02Form.f k x0).bind fun t101 => ((spec_l02Parts.f k t101 x1).bind fun bt102 => (if bt102.2 = true then (some 0) else (some 7)))))
def spec_CheckData.f (k : Nat) (a0 : Int) (a1 : ByteArray) : Option (Int) := if a0 < 0 then (spec_CheckData.j0 k a0 a1 true) else (spec_CheckData.j0 k a0 a1 (decide (a0 > 65535)))
theorem spec_CheckData.mono_l : ∀ k, (∀ y0 y1 y2, LeO (spec_CheckData.j0 k y0 y1 y2) (spec_CheckData.j0 (k + 1) y0 y1 y2))
  | 0 => fun _ _ _ r h => by simp [spec_CheckData.j0] at h
  | k + 1 => by
    have ih0 := spec_CheckData.mono_l k
    · intro y0 y1 y2
      unfold spec_CheckData.j0
      repeat' first
      | (with_reducible exact ih0 _ _ _)
      | (with_reducible exact spec_l02Form.mono _ _)
      | (with_reducible exact spec_l02Parts.mono _ _ _)
      | (with_reducible exact LeO.refl _)
      | (with_reducible exact LeO.none _)
      | (with_reducible refine LeO.ite ?_ ?_)
      | (with_reducible refine LeO.bind ?_ (fun _ => ?_))
      | exact ih0 _ _ _
      | exact spec_l02Form.mono _ _
      | exact spec_l02Parts.mono _ _ _
      | exact LeO.none _
      | refine LeO.ite ?_ ?_
      | refine LeO.bind ?_ (fun _ => ?_)
theorem spec_CheckData.mono : ∀ a0 a1 k, LeO (spec_CheckData.f k a0 a1) (spec_CheckData.f (k + 1) a0 a1) := by
  intro a0 a1 k
  have ih0 := spec_CheckData.mono_l k
  unfold spec_CheckData.f
  repeat' first
      | (with_reducible exact ih0 _ _ _)
      | (with_reducible exact spec_l02Form.mono _ _)
      | (with_reducible exact spec_l02Parts.mono _ _ _)
      | (with_reducible exact LeO.refl _)
      | (with_reducible exact LeO.none _)
      | (with_reducible refine LeO.ite ?_ ?_)
      | (with_reducible refine LeO.bind ?_ (fun _ => ?_))
      | exact ih0 _ _ _
      | exact spec_l02Form.mono _ _
      | exact spec_l02Parts.mono _ _ _
      | exact LeO.none _
      | refine LeO.ite ?_ ?_
      | refine LeO.bind ?_ (fun _ => ?_)
set_option maxHeartbeats 8000000 in
set_option maxRecDepth 100000 in
theorem spec_CheckData.calls (k : Nat) (a0 : Int) (a1 : ByteArray) (r : Int) (w : World) (h : spec_CheckData.f k a0 a1 = some r) :
    Calls Tryd.prog 9 #[.int .i64 a0, .string a1] w fun e w' => e = .returned (.int .i64 r) ∧ Below w.heap.size w w' := by
  have HB := Aside0.mk (Below.refl w.heap.size w)
  have H : (if a0 < 0 then (spec_CheckData.j0 k a0 a1 true) else (spec_CheckData.j0 k a0 a1 (decide (a0 > 65535)))) = some r := h
  clear h
  have HC3 := Aside0.mk H
  clear H
  go_enter Tryd.func9, Tryd.ntmps9
  go_upto_region 1 with (fail)
  go_cut [12] (fun v12 wc => ∃ (kq : Nat) (x12_2 : Bool), v12 = .bool x12_2 ∧ Aside0 (spec_CheckData.j0 kq a0 a1 x12_2 = some r) ∧ Aside0 (kq ≤ k) ∧ Aside0 (Below w.heap.size w wc))
  case first =>
    have H := HC3.out
    clear HC3
    by_cases c4 : a0 < 0
    · rw [if_pos c4] at H
      have c4b0 : decide (a0 < 0) = true := decide_eq_true c4
      clear c4
      (first | rw [c4b0] | (simp only [i64_w, i32_w]; rw [c4b0]) | skip)
      have H' := Aside0.mk H
      clear H
      go_wp2
      go_meet
      case rel => exact ⟨_, (true), (by first | rfl | (simp; done) | (simp [*]; done)), H', ⟨by first | omega | exact Nat.le_refl _⟩, ⟨by repeat (first | (with_reducible first | exact HB.out | apply below_alloc | apply pw_below_drewN | apply below_drew1) | exact HB.out)⟩⟩
    · rw [if_neg c4] at H
      have c4b0 : decide (a0 < 0) = false := decide_eq_false c4
      clear c4
      (first | rw [c4b0] | (simp only [i64_w, i32_w]; rw [c4b0]) | skip)
      have H' := Aside0.mk H
      clear H
      go_wp2
      go_meet
      case rel => exact ⟨_, (decide (a0 > 65535)), (by first | rfl | (simp; done) | (simp [*]; done)), H', ⟨by first | omega | exact Nat.le_refl _⟩, ⟨by repeat (first | (with_reducible first | exact HB.out | apply below_alloc | apply pw_below_drewN | apply below_drew1) | exact HB.out)⟩⟩
  case rest =>
    clear HC3
    try clear p2
    try clear c4
    try clear c4b0
    obtain ⟨kq, x12_2, rfl, HA, HJ2, HB⟩ := hcut
    cases kq with
    | zero => exact absurd HA.out (by simp [spec_CheckData.j0])
    | succ kj2 =>
      have H := HA.out
      clear HA
      simp only [spec_CheckData.j0] at H
      by_cases c5 : x12_2 = true
      · subst c5
        have H1 : (some 6) = some r := by rw [if_pos rfl] at H; exact H
        clear H
        have H := H1
        clear H1
        obtain rfl := Option.some.inj H
        go_wp2
        go_ret
        exact ⟨by first | rfl | (simp [errW_none, errW_some] <;> rfl) | (simp [*, errW_none, errW_some] <;> rfl), by repeat (first | (with_reducible first | exact HB.out | apply below_alloc | apply pw_below_drewN | apply below_drew1) | exact HB.out)⟩
      · replace c5 := Bool.eq_false_iff.mpr c5
        subst c5
        have H1 : (if (a1.size : Int) > 65535 then (some 7) else ((spec_l02Form.f kj2 a0).bind fun t101 => ((spec_l02Parts.f kj2 t101 a1).bind fun bt102 => (if bt102.2 = true then (some 0) else (some 7))))) = some r := by rw [if_neg (show ¬ (false = true) by decide)] at H; exact H
        clear H
        have H := H1
        clear H1
        by_cases c6 : (a1.size : Int) > 65535
        · rw [if_pos c6] at H
          have c6b0 : decide (65535 < (a1.size : Int)) = true := decide_eq_true c6
          have c6b1 : decide (65535 < a1.size) = true := decide_eq_true (by omega)
          clear c6
          obtain rfl := Option.some.inj H
          go_wp2
          go_ret
          exact ⟨by first | rfl | (simp [errW_none, errW_some] <;> rfl) | (simp [*, errW_none, errW_some] <;> rfl), by repeat (first | (with_reducible first | exact HB.out | apply below_alloc | apply pw_below_drewN | apply below_drew1) | exact HB.out)⟩
        · rw [if_neg c6] at H
          have c6b0 : decide (65535 < (a1.size : Int)) = false := decide_eq_false c6
          have c6b1 : decide (65535 < a1.size) = false := decide_eq_false (by omega)
          clear c6
          replace H := Option.bind_eq_some_iff.mp H
          obtain ⟨t101, A70, H⟩ := H
          replace H : ((spec_l02Parts.f kj2 t101 a1).bind fun bt102 => (if bt102.2 = true then (some 0) else (some 7))) = some r := H
          have A7 := Aside0.mk A70
          clear A70
          replace H := Option.bind_eq_some_iff.mp H
          obtain ⟨⟨t102, t103⟩, A80, H⟩ := H
          replace H : (if t103 = true then (some 0) else (some 7)) = some r := H
          have A8 := Aside0.mk A80
          clear A80
          by_cases c9 : t103 = true
          · subst c9
            have H1 : (some 0) = some r := by rw [if_pos rfl] at H; exact H
            clear H
            have H := H1
            clear H1
            obtain rfl := Option.some.inj H
            go_wp2_with (first | ((with_reducible refine gate_callee (f := 25) rfl ?_); refine goesL_ (some 18) rfl rfl Tryd.func25 (by kernel_rfl) rfl #[.int .i64 a0] rfl (by (try simp only [List.map_toArray, List.map_cons, List.map_nil]); first | done | rfl | (simp only [List.length_drop, List.length_take]; rfl)) ?_; (with_reducible refine (spec_l02Form.calls kj2 a0 t101 _ A7.out).mono ?_); rintro e w' ⟨rfl, ⟨nd, rfl⟩⟩; refine ⟨_, rfl, ?_⟩) | ((with_reducible refine gate_callee (f := 24) rfl ?_); refine goesL_ (some 20) rfl rfl Tryd.func24 (by kernel_rfl) rfl #[.string t101, .string a1] rfl (by (try simp only [List.map_toArray, List.map_cons, List.map_nil]); first | done | rfl | (simp only [List.length_drop, List.length_take]; rfl)) ?_; (with_reducible refine (spec_l02Parts.calls kj2 t101 a1 t102 true _ A8.out).mono ?_); rintro e w10 ⟨v104, rfl, ho0, hb⟩; refine ⟨_, rfl, ?_⟩; have n0_ := Aside0.mk (Kd.R_lower ho0 (below_size (by repeat (first | (with_reducible first | exact HB.out | apply below_alloc | apply pw_below_drewN | apply below_drew1) | exact HB.out)))); have n1_ := Aside0.mk (below_step (by repeat (first | (with_reducible first | exact HB.out | apply below_alloc | apply pw_below_drewN | apply below_drew1) | exact HB.out)) hb); clear HB; have HO105 := n0_; have HB := n1_; clear n0_ n1_; (try clear hb); (try clear hb2); (try clear hk); (try clear hi); (try clear ho0)))
            go_ret
            exact ⟨by first | rfl | (simp [errW_none, errW_some] <;> rfl) | (simp [*, errW_none, errW_some] <;> rfl), by repeat (first | (with_reducible first | exact HB.out | apply below_alloc | apply pw_below_drewN | apply below_drew1) | exact HB.out)⟩
          · replace c9 := Bool.eq_false_iff.mpr c9
            subst c9
            have H1 : (some 7) = some r := by rw [if_neg (show ¬ (false = true) by decide)] at H; exact H
            clear H
            have H := H1
            clear H1
            obtain rfl := Option.some.inj H
            go_wp2_with (first | ((with_reducible refine gate_callee (f := 25) rfl ?_); refine goesL_ (some 18) rfl rfl Tryd.func25 (by kernel_rfl) rfl #[.int .i64 a0] rfl (by (try simp only [List.map_toArray, List.map_cons, List.map_nil]); first | done | rfl | (simp only [List.length_drop, List.length_take]; rfl)) ?_; (with_reducible refine (spec_l02Form.calls kj2 a0 t101 _ A7.out).mono ?_); rintro e w' ⟨rfl, ⟨nd, rfl⟩⟩; refine ⟨_, rfl, ?_⟩) | ((with_reducible refine gate_callee (f := 24) rfl ?_); refine goesL_ (some 20) rfl rfl Tryd.func24 (by kernel_rfl) rfl #[.string t101, .string a1] rfl (by (try simp only [List.map_toArray, List.map_cons, List.map_nil]); first | done | rfl | (simp only [List.length_drop, List.length_take]; rfl)) ?_; (with_reducible refine (spec_l02Parts.calls kj2 t101 a1 t102 false _ A8.out).mono ?_); rintro e w11 ⟨v104, rfl, ho0, hb⟩; refine ⟨_, rfl, ?_⟩; have n0_ := Aside0.mk (Kd.R_lower ho0 (below_size (by repeat (first | (with_reducible first | exact HB.out | apply below_alloc | apply pw_below_drewN | apply below_drew1) | exact HB.out)))); have n1_ := Aside0.mk (below_step (by repeat (first | (with_reducible first | exact HB.out | apply below_alloc | apply pw_below_drewN | apply below_drew1) | exact HB.out)) hb); clear HB; have HO105 := n0_; have HB := n1_; clear n0_ n1_; (try clear hb); (try clear hb2); (try clear hk); (try clear hi); (try clear ho0)))
            go_ret
            exact ⟨by first | rfl | (simp [errW_none, errW_some] <;> rfl) | (simp [*, errW_none, errW_some] <;> rfl), by repeat (first | (with_reducible first | exact HB.out | apply below_alloc | apply pw_below_drewN | apply below_drew1) | exact HB.out)⟩

end Go.Proofs.YtbaajohjglhpfaaDoor.F
namespace Go.Proofs.YtbaajohjglhpfaaDoor.F
open Go Go.Shelf Go.RowKit Go.Proofs.YtbaajohjglhpfaaDoorW.PrintWords Go.Proofs.YtbaajohjglhpfaaDoorW.PrintLast Go.Proofs.YtbaajohjglhpfaaDoorW.PrintMore
attribute [local go_sem] max2_int min2_int max_two min_two max_three min_three max_four min_four   -- for this text's walks alone
set_option linter.unusedVariables false
set_option linter.unusedSimpArgs false

/-! ### spec_l02Put: function 29 -/
def spec_l02Put.l0 : Nat → Int → List Int → Int → Option (ByteArray)
  | 0, _, _, _ => none
  | k + 1, x0, x5, x6 => if x6 ≥ 0 then (if 0 ≤ (IntKind.u64.wrap (wrap64 (8 * x6))) then (if x5.length < 140737488355328 then (spec_l02Put.l0 k x0 (x5 ++ [(shr .i64 x0 (IntKind.u64.wrap (wrap64 (8 * x6)))) % 256]) (wrap64 (x6 - 1))) else (none)) else (none)) else (some (strOfNums x5))
def spec_l02Put.f (k : Nat) (a0 : Int) (a1 : Int) : Option (ByteArray) := spec_l02Put.l0 k a0 (([] : List Int)) (wrap64 (a1 - 1))
theorem spec_l02Put.mono_l : ∀ k, (∀ y0 y1 y2, LeO (spec_l02Put.l0 k y0 y1 y2) (spec_l02Put.l0 (k + 1) y0 y1 y2))
  | 0 => fun _ _ _ r h => by simp [spec_l02Put.l0] at h
  | k + 1 => by
    have ih0 := spec_l02Put.mono_l k
    · intro y0 y1 y2
      unfold spec_l02Put.l0
      repeat' first
      | (with_reducible exact ih0 _ _ _)
      | (with_reducible exact LeO.refl _)
      | (with_reducible exact LeO.none _)
      | (with_reducible refine LeO.ite ?_ ?_)
      | (with_reducible refine LeO.bind ?_ (fun _ => ?_))
      | exact ih0 _ _ _
      | exact LeO.none _
      | refine LeO.ite ?_ ?_
      | refine LeO.bind ?_ (fun _ => ?_)
theorem spec_l02Put.mono : ∀ a0 a1 k, LeO (spec_l02Put.f k a0 a1) (spec_l02Put.f (k + 1) a0 a1) := by
  intro a0 a1 k
  have ih0 := spec_l02Put.mono_l k
  unfold spec_l02Put.f
  repeat' first
      | (with_reducible exact ih0 _ _ _)
      | (with_reducible exact LeO.refl _)
      | (with_reducible exact LeO.none _)
      | (with_reducible refine LeO.ite ?_ ?_)
      | (with_reducible refine LeO.bind ?_ (fun _ => ?_))
      | exact ih0 _ _ _
      | exact LeO.none _
      | refine LeO.ite ?_ ?_
      | refine LeO.bind ?_ (fun _ => ?_)
set_option maxHeartbeats 8000000 in
set_option maxRecDepth 100000 in
theorem spec_l02Put.calls (k : Nat) (a0 : Int) (a1 : Int) (r : ByteArray) (w : World) (h : spec_l02Put.f k a0 a1 = some r) :
    Calls Tryd.prog 29 #[.int .i64 a0, .int .i64 a1] w fun e w' => e = .returned (.string r) ∧ Below w.heap.size w w' := by
  have HB := Aside0.mk (Below.refl w.heap.size w)
  have H : (spec_l02Put.l0 k a0 (([] : List Int)) (wrap64 (a1 - 1))) = some r := h
  clear h
  obtain ⟨y101, hy101⟩ : ∃ y_ : List Int, y_ = (([] : List Int)) := ⟨_, rfl⟩
  replace H : (spec_l02Put.l0 k a0 y101 (wrap64 (a1 - 1))) = some r := by first | (rw [hy101]; with_reducible exact H) | (have H2_ := (Option.bind_some _ _).symm.trans H; rw [hy101]; with_reducible exact H2_) | (have H2_ := (Option.bind_some _ _).symm.trans H; with_reducible exact H2_) | with_reducible exact H | (rw [hy101]; exact H) | exact H
  have Ny101 := Aside0.mk hy101
  clear hy101
  have H' := Aside0.mk H
  clear H
  go_enter Tryd.func29, Tryd.ntmps29
  go_wp2_with (first | ((with_reducible refine gate_dst (N := 7) rfl ?_); refine Kd.R_lit (Kd.int .u8) _ 5 ?hg (N := 7) ?hd (xs := ([] : List Int)) (inner := []) (ok := fun _ => True) (okp := fun _ => True) ?hr ?hp (fun _ hk => hk) trivial (Below.refl _ _) (Nat.le_refl _) (by simp) ?_; (case hd => rfl); (case hg => rfl); (case hr => first | (go_simp; done) | (go_simp; rfl)); (case hp => exact (Reps.none _ _)); intro v102 w3 ho4 hb hg_ hnew_; clear hg_ hnew_; (first | rw [← Ny101.out] at ho4 | (simp only [Int.reduceToNat] at ho4; rw [← Ny101.out] at ho4)); have n0_ := Aside0.mk (Kd.R_lower ho4 (below_size (by repeat (first | (with_reducible first | exact HB.out | apply below_alloc | apply pw_below_drewN | apply below_drew1) | exact HB.out)))); have n1_ := Aside0.mk (below_step (by repeat (first | (with_reducible first | exact HB.out | apply below_alloc | apply pw_below_drewN | apply below_drew1) | exact HB.out)) hb); clear HB; have HO103 := n0_; have HB := n1_; clear n0_ n1_; clear hb ho4))
  go_loopg [5, 6] k (fun kq v5 v6 w' => ∃ (x5_1 : List Int) (x6_1 : Int), v6 = .int .i64 x6_1 ∧ Aside0 (spec_l02Put.l0 kq a0 x5_1 x6_1 = some r) ∧ Aside0 (kq ≤ k) ∧ Aside0 (Kd.R (Kd.int .u8) 5 w' w.heap.size (fun _ => True) v5 x5_1) ∧ Aside0 (Below w.heap.size w w'))
  case atStart => exact ⟨(y101), (wrap64 (a1 - 1)), (by first | rfl | (simp; done) | (simp [*]; done)), H', ⟨Nat.le_refl _⟩, ⟨by (with_reducible repeat (first | apply Kd.R_alloc | apply Kd.R_drewN | apply Kd.R_drew)); exact HO103.out⟩, ⟨by repeat (first | (with_reducible first | exact HB.out | apply below_alloc | apply pw_below_drewN | apply below_drew1) | exact HB.out)⟩⟩
  case round =>
    clear H'
    try clear c2
    try clear p2
    obtain ⟨x5_1, x6_1, rfl, HA, HK1, HO_5, HB⟩ := hrel
    cases gk with
    | zero => exact absurd HA.out (by simp [spec_l02Put.l0])
    | succ k1 =>
      have H := HA.out
      clear HA
      simp only [spec_l02Put.l0] at H
      by_cases c5 : x6_1 ≥ 0
      · rw [if_pos c5] at H
        have c5b0 : decide (0 ≤ x6_1) = true := decide_eq_true c5
        clear c5
        obtain ⟨ji6, hji6⟩ : ∃ j_ : Int, (IntKind.u64.wrap (wrap64 (8 * x6_1))) = j_ := ⟨_, rfl⟩
        replace H : (if 0 ≤ (ji6) then (if x5_1.length < 140737488355328 then (spec_l02Put.l0 k1 a0 (x5_1 ++ [(shr .i64 a0 (ji6)) % 256]) (wrap64 (x6_1 - 1))) else (none)) else (none)) = some r := by first | (rw [hji6] at H; exact H) | (simp only [hji6] at H ⊢; exact H)
        by_cases c7 : 0 ≤ (ji6)
        · rw [if_pos c7] at H
          have c7b0 := eq_true c7
          have c7b1 : decide (0 ≤ (ji6)) = true := decide_eq_true c7
          clear c7
          obtain ⟨ji8, hji8⟩ : ∃ j_ : Int, (shr .i64 a0 (ji6)) = j_ := ⟨_, rfl⟩
          replace H : (if x5_1.length < 140737488355328 then (spec_l02Put.l0 k1 a0 (x5_1 ++ [(ji8) % 256]) (wrap64 (x6_1 - 1))) else (none)) = some r := by first | (rw [hji8] at H; exact H) | (simp only [hji8] at H ⊢; exact H)
          have hji8_ : (a0 / 2 ^ min (ji6).toNat 64) = ji8 := hji8
          have hji8z : (ji6) ≤ 64 → (a0 / 2 ^ (ji6).toNat) = ji8 := shr_small hji8
          by_cases c9 : x5_1.length < 140737488355328
          · rw [if_pos c9] at H
            have LMc9 := Aside0.mk c9
            clear c9
            obtain ⟨y104, hy104⟩ : ∃ y_ : List Int, y_ = (x5_1 ++ [(ji8) % 256]) := ⟨_, rfl⟩
            replace H : (spec_l02Put.l0 k1 a0 y104 (wrap64 (x6_1 - 1))) = some r := by first | (rw [hy104]; with_reducible exact H) | (have H2_ := (Option.bind_some _ _).symm.trans H; rw [hy104]; with_reducible exact H2_) | (have H2_ := (Option.bind_some _ _).symm.trans H; with_reducible exact H2_) | with_reducible exact H | (rw [hy104]; exact H) | exact H
            have Ny104 := Aside0.mk hy104
            clear hy104
            have H' := Aside0.mk H
            clear H
            go_wp2_with (first | ((with_reducible refine gate_builtin (b := .append) (xs := #[.tmp 14, .tmp 21]) rfl ?_); at_builtin; refine Kd.R_append (Kd.int .u8) (w0 := w) w.heap.size rfl (.tmp 14) (.tmp 21) 49 5 (.int .u8 0) 1 rfl Tryd.underlying49 info5 rfl (by decide) (by omega) u5 x5_1 ((ji8) % 256) [.int .u8 ((ji8) % 256)] (fun _ => True) (fun _ => False) rfl rfl ?aP (fun _ hk => hk.elim) ?aF ?aO ?aB ?aS ?aL ?_; (case aP => exact rfl); (case aB => exact (by repeat (first | (with_reducible first | exact HB.out | apply below_alloc | apply pw_below_drewN | apply below_drew1) | exact HB.out))); (case aF => exact (fun _ _ => trivial)); (case aO => exact (by (with_reducible repeat (first | apply Kd.R_alloc | apply Kd.R_drewN | apply Kd.R_drew)); exact HO_5.out)); (case aS => exact (below_size (by repeat (first | (with_reducible first | exact HB.out | apply below_alloc | apply pw_below_drewN | apply below_drew1) | exact HB.out)))); (case aL => have := LMc9.out; omega); intro v105 w10 ho hb hg hat; rw [← Ny104.out] at ho; have n0_ := Aside0.mk (hb); have n1_ := Aside0.mk (ho); clear HB; clear HO_5; have HB := n0_; have HO106 := n1_; clear n0_ n1_; clear ho hb hg hat))
            go_roundg k1
            case measure => have := HK1.out; omega
            case rel => exact ⟨(y104), (wrap64 (x6_1 - 1)), (by first | rfl | (simp; done) | (simp [*]; done)), H', ⟨by have := HK1.out; omega⟩, ⟨by (with_reducible repeat (first | apply Kd.R_alloc | apply Kd.R_drewN | apply Kd.R_drew)); exact HO106.out⟩, ⟨by repeat (first | (with_reducible first | exact HB.out | apply below_alloc | apply pw_below_drewN | apply below_drew1) | exact HB.out)⟩⟩
          · rw [if_neg c9] at H
            exact absurd H (by simp)
        · rw [if_neg c7] at H
          exact absurd H (by simp)
      · rw [if_neg c5] at H
        have c5b0 : decide (0 ≤ x6_1) = false := decide_eq_false c5
        clear c5
        obtain rfl := Option.some.inj H
        have hcv11 := own_string (P := Tryd.prog) Tryd.underlying49 Tryd.underlying5 Tryd.underlying9 (Kd.own_of_R HO_5.out)
        go_wp2
        go_ret
        exact ⟨by first | rfl | (simp [errW_none, errW_some] <;> rfl) | (simp [*, errW_none, errW_some] <;> rfl), by repeat (first | (with_reducible first | exact HB.out | apply below_alloc | apply pw_below_drewN | apply below_drew1) | exact HB.out)⟩

end Go.Proofs.YtbaajohjglhpfaaDoor.F
namespace Go.Proofs.YtbaajohjglhpfaaDoor.F
open Go Go.Shelf Go.RowKit Go.Proofs.YtbaajohjglhpfaaDoorW.PrintWords Go.Proofs.YtbaajohjglhpfaaDoorW.PrintLast Go.Proofs.YtbaajohjglhpfaaDoorW.PrintMore
attribute [local go_sem] max2_int min2_int max_two min_two max_three min_three max_four min_four   -- for this text's walks alone
set_option linter.unusedVariables false
set_option linter.unusedSimpArgs false

/-! ### spec_WithSerial: function 13 -/
def spec_WithSerial.f (k : Nat) (a0 : ByteArray) (a1 : Int) : Option (ByteArray × Int) := (spec_CheckData.f k 6 a0).bind fun t101 => (if t101 = 0 then (if a1 < 0 then (some ((⟨#[]⟩ : ByteArray), 32)) else (if a1 > 4294967295 then (some ((⟨#[]⟩ : ByteArray), 32)) else (if 0 ≤ (wrap64 ((a0.size : Int) - 20)) then (if (wrap64 ((a0.size : Int) - 20)) ≤ (a0.size : Int) then ((spec_l02Put.f k a1 4).bind fun t102 => (if (a0.extract 0 ((wrap64 ((a0.size : Int) - 20)) : Int).toNat).size + t102.size ≤ 9223372036854775807 then (if 0 ≤ (wrap64 ((a0.size : Int) - 16)) then (if (wrap64 ((a0.size : Int) - 16)) ≤ (a0.size : Int) then (if ((a0.extract 0 ((wrap64 ((a0.size : Int) - 20)) : Int).toNat) ++ t102).size + (a0.extract ((wrap64 ((a0.size : Int) - 16)) : Int).toNat a0.size).size ≤ 9223372036854775807 then (some (((a0.extract 0 ((wrap64 ((a0.size : Int) - 20)) : Int).toNat) ++ t102) ++ (a0.extract ((wrap64 ((a0.size : Int) - 16)) : Int).toNat a0.size), 0)) else (none)) else (none)) else (none)) else (none))) else (none)) else (none)))) else (some ((⟨#[]⟩ : ByteArray), 7)))
theorem spec_WithSerial.mono : ∀ a0 a1 k, LeO (spec_WithSerial.f k a0 a1) (spec_WithSerial.f (k + 1) a0 a1) := by
  intro a0 a1 k
  unfold spec_WithSerial.f
  repeat' first
      | (with_reducible exact spec_CheckData.mono _ _ _)
      | (with_reducible exact spec_l02Put.mono _ _ _)
      | (with_reducible exact LeO.refl _)
      | (with_reducible exact LeO.none _)
      | (with_reducible refine LeO.ite ?_ ?_)
      | (with_reducible refine LeO.bind ?_ (fun _ => ?_))
      | exact spec_CheckData.mono _ _ _
      | exact spec_l02Put.mono _ _ _
      | exact LeO.none _
      | refine LeO.ite ?_ ?_
      | refine LeO.bind ?_ (fun _ => ?_)
def spec_WithSerial.T5 : Bool × List (List Nat × List Nat) := (true, [([], []), ([], []), ([1], [1]), ([2], [2]), ([0, 3], [0, 3]), ([], []), ([5], [5]), ([4, 6], [4, 6]), ([], []), ([], []), ([9], [9]), ([10], [10]), ([8, 11], [8, 11]), ([7, 12], [7, 12]), ([13, 6, 0, 1, 2, 3, 4, 5, 6, 7, 8, 9, 10, 11, 12, 13], [13]), ([14, 0, 1, 2, 3, 4, 5, 6, 7, 8, 9, 10, 11, 12, 13, 14], [])])
def spec_WithSerial.B5 : List Nat := [0, 0, 2, 6, 15, 0, 32, 127, 0, 0, 512, 1536, 3840, 8191, 16383, 32767]
theorem spec_WithSerial.tab5 : rtab .any (opsOf Tryd.f13 5) = spec_WithSerial.T5 := by kernel_rfl
theorem spec_WithSerial.bits5 : waitsOk spec_WithSerial.T5.2 spec_WithSerial.B5 = true := by kernel_rfl
set_option maxHeartbeats 8000000 in
set_option maxRecDepth 100000 in
theorem spec_WithSerial.calls (k : Nat) (a0 : ByteArray) (a1 : Int) (r1 : ByteArray) (r2 : Int) (w : World) (h : spec_WithSerial.f k a0 a1 = some (r1, r2)) :
    Calls Tryd.prog 13 #[.string a0, .int .i64 a1] w fun e w' => e = .returned (.tuple #[.string r1, .int .i64 r2]) ∧ Below w.heap.size w w' := by
  have HB := Aside0.mk (Below.refl w.heap.size w)
  have H : ((spec_CheckData.f k 6 a0).bind fun t101 => (if t101 = 0 then (if a1 < 0 then (some ((⟨#[]⟩ : ByteArray), 32)) else (if a1 > 4294967295 then (some ((⟨#[]⟩ : ByteArray), 32)) else (if 0 ≤ (wrap64 ((a0.size : Int) - 20)) then (if (wrap64 ((a0.size : Int) - 20)) ≤ (a0.size : Int) then ((spec_l02Put.f k a1 4).bind fun t102 => (if (a0.extract 0 ((wrap64 ((a0.size : Int) - 20)) : Int).toNat).size + t102.size ≤ 9223372036854775807 then (if 0 ≤ (wrap64 ((a0.size : Int) - 16)) then (if (wrap64 ((a0.size : Int) - 16)) ≤ (a0.size : Int) then (if ((a0.extract 0 ((wrap64 ((a0.size : Int) - 20)) : Int).toNat) ++ t102).size + (a0.extract ((wrap64 ((a0.size : Int) - 16)) : Int).toNat a0.size).size ≤ 9223372036854775807 then (some (((a0.extract 0 ((wrap64 ((a0.size : Int) - 20)) : Int).toNat) ++ t102) ++ (a0.extract ((wrap64 ((a0.size : Int) - 16)) : Int).toNat a0.size), 0)) else (none)) else (none)) else (none)) else (none))) else (none)) else (none)))) else (some ((⟨#[]⟩ : ByteArray), 7)))) = some (r1, r2) := h
  clear h
  replace H := Option.bind_eq_some_iff.mp H
  obtain ⟨t101, A30, H⟩ := H
  replace H : (if t101 = 0 then (if a1 < 0 then (some ((⟨#[]⟩ : ByteArray), 32)) else (if a1 > 4294967295 then (some ((⟨#[]⟩ : ByteArray), 32)) else (if 0 ≤ (wrap64 ((a0.size : Int) - 20)) then (if (wrap64 ((a0.size : Int) - 20)) ≤ (a0.size : Int) then ((spec_l02Put.f k a1 4).bind fun t102 => (if (a0.extract 0 ((wrap64 ((a0.size : Int) - 20)) : Int).toNat).size + t102.size ≤ 9223372036854775807 then (if 0 ≤ (wrap64 ((a0.size : Int) - 16)) then (if (wrap64 ((a0.size : Int) - 16)) ≤ (a0.size : Int) then (if ((a0.extract 0 ((wrap64 ((a0.size : Int) - 20)) : Int).toNat) ++ t102).size + (a0.extract ((wrap64 ((a0.size : Int) - 16)) : Int).toNat a0.size).size ≤ 9223372036854775807 then (some (((a0.extract 0 ((wrap64 ((a0.size : Int) - 20)) : Int).toNat) ++ t102) ++ (a0.extract ((wrap64 ((a0.size : Int) - 16)) : Int).toNat a0.size), 0)) else (none)) else (none)) else (none)) else (none))) else (none)) else (none)))) else (some ((⟨#[]⟩ : ByteArray), 7))) = some (r1, r2) := H
  have A3 := Aside0.mk A30
  clear A30
  by_cases c4 : t101 = 0
  · rw [if_pos c4] at H
    have c4b0 : (t101 == 0) = true := beq_iff_eq.mpr c4
    have c4b1 : (t101 != 0) = false := bne_eq_false_iff_eq.mpr c4
    clear c4
    by_cases c5 : a1 < 0
    · rw [if_pos c5] at H
      have c5b0 : decide (a1 < 0) = true := decide_eq_true c5
      clear c5
      simp only [Option.some.injEq, Prod.mk.injEq] at H
      obtain ⟨rfl, rfl⟩ := H
      go_enter Tryd.func13, Tryd.ntmps13
      go_wp2_with (first | ((with_reducible refine gate_callee (f := 9) rfl ?_); refine goesL_ (some 7) rfl rfl Tryd.func9 (by kernel_rfl) rfl #[.int .i64 6, .string a0] rfl (by (try simp only [List.map_toArray, List.map_cons, List.map_nil]); first | done | rfl | (simp only [List.length_drop, List.length_take]; rfl)) ?_; (with_reducible refine (spec_CheckData.calls k 6 a0 t101 _ A3.out).mono ?_); rintro e w6 ⟨rfl, hb⟩; refine ⟨_, rfl, ?_⟩; have n0_ := Aside0.mk (below_step (by repeat (first | (with_reducible first | exact HB.out | apply below_alloc | apply pw_below_drewN | apply below_drew1) | exact HB.out)) hb); clear HB; have HB := n0_; clear n0_; (try clear hb); (try clear hb2); (try clear hk); (try clear hi)))
      go_ret2
      exact ⟨by first | rfl | (simp [errW_none, errW_some] <;> rfl) | (simp [*, errW_none, errW_some] <;> rfl), by repeat (first | (with_reducible first | exact HB.out | apply below_alloc | apply pw_below_drewN | apply below_drew1) | exact HB.out)⟩
    · rw [if_neg c5] at H
      have c5b0 : decide (a1 < 0) = false := decide_eq_false c5
      clear c5
      by_cases c7 : a1 > 4294967295
      · rw [if_pos c7] at H
        have c7b0 : decide (4294967295 < a1) = true := decide_eq_true c7
        clear c7
        simp only [Option.some.injEq, Prod.mk.injEq] at H
        obtain ⟨rfl, rfl⟩ := H
        go_enter Tryd.func13, Tryd.ntmps13
        go_wp2_with (first | ((with_reducible refine gate_callee (f := 9) rfl ?_); refine goesL_ (some 7) rfl rfl Tryd.func9 (by kernel_rfl) rfl #[.int .i64 6, .string a0] rfl (by (try simp only [List.map_toArray, List.map_cons, List.map_nil]); first | done | rfl | (simp only [List.length_drop, List.length_take]; rfl)) ?_; (with_reducible refine (spec_CheckData.calls k 6 a0 t101 _ A3.out).mono ?_); rintro e w8 ⟨rfl, hb⟩; refine ⟨_, rfl, ?_⟩; have n0_ := Aside0.mk (below_step (by repeat (first | (with_reducible first | exact HB.out | apply below_alloc | apply pw_below_drewN | apply below_drew1) | exact HB.out)) hb); clear HB; have HB := n0_; clear n0_; (try clear hb); (try clear hb2); (try clear hk); (try clear hi)))
        go_ret2
        exact ⟨by first | rfl | (simp [errW_none, errW_some] <;> rfl) | (simp [*, errW_none, errW_some] <;> rfl), by repeat (first | (with_reducible first | exact HB.out | apply below_alloc | apply pw_below_drewN | apply below_drew1) | exact HB.out)⟩
      · rw [if_neg c7] at H
        have c7b0 : decide (4294967295 < a1) = false := decide_eq_false c7
        clear c7
        obtain ⟨ji9, hji9⟩ : ∃ j_ : Int, (wrap64 ((a0.size : Int) - 20)) = j_ := ⟨_, rfl⟩
        replace H : (if 0 ≤ (ji9) then (if (ji9) ≤ (a0.size : Int) then ((spec_l02Put.f k a1 4).bind fun t102 => (if (a0.extract 0 ((ji9) : Int).toNat).size + t102.size ≤ 9223372036854775807 then (if 0 ≤ (wrap64 ((a0.size : Int) - 16)) then (if (wrap64 ((a0.size : Int) - 16)) ≤ (a0.size : Int) then (if ((a0.extract 0 ((ji9) : Int).toNat) ++ t102).size + (a0.extract ((wrap64 ((a0.size : Int) - 16)) : Int).toNat a0.size).size ≤ 9223372036854775807 then (some (((a0.extract 0 ((ji9) : Int).toNat) ++ t102) ++ (a0.extract ((wrap64 ((a0.size : Int) - 16)) : Int).toNat a0.size), 0)) else (none)) else (none)) else (none)) else (none))) else (none)) else (none)) = some (r1, r2) := by first | (rw [hji9] at H; exact H) | (simp only [hji9] at H ⊢; exact H)
        (try rw [hji9] at A3)
        have hji9w : (IntKind.i64.wrap ((a0.size : Int) - 20)) = ji9 := (i64_w _).trans hji9
        by_cases c10 : 0 ≤ (ji9)
        · rw [if_pos c10] at H
          have c10b0 := eq_true c10
          have c10b1 : decide (0 ≤ (ji9)) = true := decide_eq_true c10
          clear c10
          by_cases c11 : (ji9) ≤ (a0.size : Int)
          · rw [if_pos c11] at H
            have c11b0 := eq_true c11
            have c11b1 : decide ((ji9) ≤ (a0.size : Int)) = true := decide_eq_true c11
            clear c11
            replace H := Option.bind_eq_some_iff.mp H
            obtain ⟨t102, A120, H⟩ := H
            replace H : (if (a0.extract 0 ((ji9) : Int).toNat).size + t102.size ≤ 9223372036854775807 then (if 0 ≤ (wrap64 ((a0.size : Int) - 16)) then (if (wrap64 ((a0.size : Int) - 16)) ≤ (a0.size : Int) then (if ((a0.extract 0 ((ji9) : Int).toNat) ++ t102).size + (a0.extract ((wrap64 ((a0.size : Int) - 16)) : Int).toNat a0.size).size ≤ 9223372036854775807 then (some (((a0.extract 0 ((ji9) : Int).toNat) ++ t102) ++ (a0.extract ((wrap64 ((a0.size : Int) - 16)) : Int).toNat a0.size), 0)) else (none)) else (none)) else (none)) else (none)) = some (r1, r2) := H
            have A12 := Aside0.mk A120
            clear A120
            by_cases c13 : (a0.extract 0 ((ji9) : Int).toNat).size + t102.size ≤ 9223372036854775807
            · rw [if_pos c13] at H
              have c13b0 := eq_true c13
              have c13b1 : decide ((a0.extract 0 ((ji9) : Int).toNat).size + t102.size ≤ 9223372036854775807) = true := decide_eq_true c13
              try have c13b2 : (9223372036854775807 < (a0.extract 0 ((ji9) : Int).toNat).size + t102.size) = False := eq_false (Nat.not_lt.2 c13)
              have c13b3 : (9223372036854775807 < ji9.toNat + t102.size) = False := eq_false (by have h1_ := of_eq_true c11b0; have h2_ := c13; simp only [ByteArray.size_append, ByteArray.size_extract] at h2_; omega)
              obtain ⟨ji14, hji14⟩ : ∃ j_ : Int, (wrap64 ((a0.size : Int) - 16)) = j_ := ⟨_, rfl⟩
              replace H : (if 0 ≤ (ji14) then (if (ji14) ≤ (a0.size : Int) then (if ((a0.extract 0 ((ji9) : Int).toNat) ++ t102).size + (a0.extract ((ji14) : Int).toNat a0.size).size ≤ 9223372036854775807 then (some (((a0.extract 0 ((ji9) : Int).toNat) ++ t102) ++ (a0.extract ((ji14) : Int).toNat a0.size), 0)) else (none)) else (none)) else (none)) = some (r1, r2) := by first | (rw [hji14] at H; exact H) | (simp only [hji14] at H ⊢; exact H)
              (try rw [hji14] at A3)
              (try rw [hji14] at A12)
              have hji14w : (IntKind.i64.wrap ((a0.size : Int) - 16)) = ji14 := (i64_w _).trans hji14
              by_cases c15 : 0 ≤ (ji14)
              · rw [if_pos c15] at H
                have c15b0 := eq_true c15
                have c15b1 : decide (0 ≤ (ji14)) = true := decide_eq_true c15
                clear c15
                by_cases c16 : (ji14) ≤ (a0.size : Int)
                · rw [if_pos c16] at H
                  have c16b0 := eq_true c16
                  have c16b1 : decide ((ji14) ≤ (a0.size : Int)) = true := decide_eq_true c16
                  clear c16
                  by_cases c17 : ((a0.extract 0 ((ji9) : Int).toNat) ++ t102).size + (a0.extract ((ji14) : Int).toNat a0.size).size ≤ 9223372036854775807
                  · rw [if_pos c17] at H
                    have c17b0 := eq_true c17
                    have c17b1 : decide (((a0.extract 0 ((ji9) : Int).toNat) ++ t102).size + (a0.extract ((ji14) : Int).toNat a0.size).size ≤ 9223372036854775807) = true := decide_eq_true c17
                    try have c17b2 : (9223372036854775807 < ((a0.extract 0 ((ji9) : Int).toNat) ++ t102).size + (a0.extract ((ji14) : Int).toNat a0.size).size) = False := eq_false (Nat.not_lt.2 c17)
                    have c17b3 : (9223372036854775807 < ji9.toNat + t102.size + (a0.size - ji14.toNat)) = False := eq_false (by have h1_ := of_eq_true c11b0; have h2_ := c17; have h3_ := of_eq_true c16b0; simp only [ByteArray.size_append, ByteArray.size_extract] at h2_; omega)
                    simp only [Option.some.injEq, Prod.mk.injEq] at H
                    obtain ⟨rfl, rfl⟩ := H
                    go_enter Tryd.func13, Tryd.ntmps13
                    try go_wp2_with (first | ((with_reducible refine gate_callee (f := 9) rfl ?_); refine goesL_ (some 7) rfl rfl Tryd.func9 (by kernel_rfl) rfl #[.int .i64 6, .string a0] rfl (by (try simp only [List.map_toArray, List.map_cons, List.map_nil]); first | done | rfl | (simp only [List.length_drop, List.length_take]; rfl)) ?_; (with_reducible refine (spec_CheckData.calls k 6 a0 t101 _ A3.out).mono ?_); rintro e w18 ⟨rfl, hb⟩; refine ⟨_, rfl, ?_⟩; have n0_ := Aside0.mk (below_step (by repeat (first | (with_reducible first | exact HB.out | apply below_alloc | apply pw_below_drewN | apply below_drew1) | exact HB.out)) hb); clear HB; have HB := n0_; clear n0_; (try clear hb); (try clear hb2); (try clear hk); (try clear hi)))
                    have n0_ := Aside0.mk (below_drew1 HB.out)
                    clear HB
                    have HB := n0_
                    clear n0_
                    refine start_ (n := 16) (S := fun w' => True) (ds := []) #[false, false, false, false, false, false, false, false, false, false, false, false, false, false, false, false] (by kernel_rfl) rfl rfl trivial (fun hHeld => ?_); refine with_tabW spec_WithSerial.tab5 spec_WithSerial.bits5 (fun HT_ HW_ => ?_)
                    generalize w18.drew = w19 at HB hHeld ⊢
                    refine pure_ (i := 0) (N := some 15) (v := ?_) (a' := ?_) #[true, false, false, false, false, false, false, false, false, false, false, false, false, false, false, false] rfl rfl (any_of HT_.out (by kernel_rfl)) (fun _ _ _ h => h) (Or.inl ⟨by rfl, ?_⟩) ?_ ?_
                    rotate_left
                    · intro w'
                      go_simp
                      with_reducible rfl
                    rotate_left
                    · simp only [Act.put, List.setIfInBounds_toArray, List.set_cons_zero, List.set_cons_succ, i64_w, i32_w]
                      rfl
                    refine pure_ (i := 1) (N := some 16) (v := ?_) (a' := ?_) #[true, true, false, false, false, false, false, false, false, false, false, false, false, false, false, false] rfl rfl (any_of HT_.out (by kernel_rfl)) (fun _ _ _ h => h) (Or.inl ⟨by rfl, ?_⟩) ?_ ?_
                    rotate_left
                    · intro w'
                      go_simp
                      with_reducible rfl
                    rotate_left
                    · simp only [Act.put, List.setIfInBounds_toArray, List.set_cons_zero, List.set_cons_succ, i64_w, i32_w]
                      rfl
                    refine pure_ (i := 2) (N := some 17) (v := ?_) (a' := ?_) #[true, true, true, false, false, false, false, false, false, false, false, false, false, false, false, false] rfl rfl (any_of HT_.out (by kernel_rfl)) (fun _ _ _ h => h) (Or.inl ⟨by rfl, ?_⟩) ?_ ?_
                    rotate_left
                    · intro w'
                      go_simp
                      with_reducible rfl
                    rotate_left
                    · simp only [Act.put, List.setIfInBounds_toArray, List.set_cons_zero, List.set_cons_succ, i64_w, i32_w]
                      rfl
                    refine pure_ (i := 3) (N := some 18) (v := ?_) (a' := ?_) #[true, true, true, true, false, false, false, false, false, false, false, false, false, false, false, false] rfl rfl (any_of HT_.out (by kernel_rfl)) (fun _ _ _ h => h) (Or.inl ⟨by rfl, ?_⟩) ?_ ?_
                    rotate_left
                    · intro w'
                      go_simp
                      with_reducible rfl
                    rotate_left
                    · simp only [Act.put, List.setIfInBounds_toArray, List.set_cons_zero, List.set_cons_succ, i64_w, i32_w]
                      rfl
                    refine pure_ (i := 4) (N := some 19) (v := ?_) (a' := ?_) #[true, true, true, true, true, false, false, false, false, false, false, false, false, false, false, false] rfl rfl (any_of HT_.out (by kernel_rfl)) (fun _ _ _ h => h) (Or.inl ⟨by rfl, ?_⟩) ?_ ?_
                    rotate_left
                    · intro w'
                      go_simp
                      with_reducible rfl
                    rotate_left
                    · simp only [Act.put, List.setIfInBounds_toArray, List.set_cons_zero, List.set_cons_succ, i64_w, i32_w]
                      rfl
                    refine pure_ (i := 5) (N := some 20) (v := ?_) (a' := ?_) #[true, true, true, true, true, true, false, false, false, false, false, false, false, false, false, false] rfl rfl (any_of HT_.out (by kernel_rfl)) (fun _ _ _ h => h) (Or.inl ⟨by rfl, ?_⟩) ?_ ?_
                    rotate_left
                    · intro w'
                      go_simp
                      with_reducible rfl
                    rotate_left
                    · simp only [Act.put, List.setIfInBounds_toArray, List.set_cons_zero, List.set_cons_succ, i64_w, i32_w]
                      rfl
                    refine pure_ (i := 8) (N := some 23) (v := ?_) (a' := ?_) #[true, true, true, true, true, true, false, false, true, false, false, false, false, false, false, false] rfl rfl (any_of HT_.out (by kernel_rfl)) (fun _ _ _ h => h) (Or.inl ⟨by rfl, ?_⟩) ?_ ?_
                    rotate_left
                    · intro w'
                      go_simp
                      with_reducible rfl
                    rotate_left
                    · simp only [Act.put, List.setIfInBounds_toArray, List.set_cons_zero, List.set_cons_succ, i64_w, i32_w]
                      rfl
                    refine pure_ (i := 9) (N := some 24) (v := ?_) (a' := ?_) #[true, true, true, true, true, true, false, false, true, true, false, false, false, false, false, false] rfl rfl (any_of HT_.out (by kernel_rfl)) (fun _ _ _ h => h) (Or.inl ⟨by rfl, ?_⟩) ?_ ?_
                    rotate_left
                    · intro w'
                      go_simp
                      with_reducible rfl
                    rotate_left
                    · simp only [Act.put, List.setIfInBounds_toArray, List.set_cons_zero, List.set_cons_succ, i64_w, i32_w]
                      rfl
                    refine pure_ (i := 10) (N := some 25) (v := ?_) (a' := ?_) #[true, true, true, true, true, true, false, false, true, true, true, false, false, false, false, false] rfl rfl (any_of HT_.out (by kernel_rfl)) (fun _ _ _ h => h) (Or.inl ⟨by rfl, ?_⟩) ?_ ?_
                    rotate_left
                    · intro w'
                      go_simp
                      with_reducible rfl
                    rotate_left
                    · simp only [Act.put, List.setIfInBounds_toArray, List.set_cons_zero, List.set_cons_succ, i64_w, i32_w]
                      rfl
                    refine pure_ (i := 11) (N := some 26) (v := ?_) (a' := ?_) #[true, true, true, true, true, true, false, false, true, true, true, true, false, false, false, false] rfl rfl (any_of HT_.out (by kernel_rfl)) (fun _ _ _ h => h) (Or.inl ⟨by rfl, ?_⟩) ?_ ?_
                    rotate_left
                    · intro w'
                      go_simp
                      with_reducible rfl
                    rotate_left
                    · simp only [Act.put, List.setIfInBounds_toArray, List.set_cons_zero, List.set_cons_succ, i64_w, i32_w]
                      rfl
                    refine pure_ (i := 12) (N := some 27) (v := ?_) (a' := ?_) #[true, true, true, true, true, true, false, false, true, true, true, true, true, false, false, false] rfl rfl (any_of HT_.out (by kernel_rfl)) (fun _ _ _ h => h) (Or.inl ⟨by rfl, ?_⟩) ?_ ?_
                    rotate_left
                    · intro w'
                      go_simp
                      with_reducible rfl
                    rotate_left
                    · simp only [Act.put, List.setIfInBounds_toArray, List.set_cons_zero, List.set_cons_succ, i64_w, i32_w]
                      rfl
                    refine one_ (i := 6) (N := some 21) #[true, true, true, true, true, true, true, false, true, true, true, true, true, false, false, false] rfl rfl (one_of HT_.out (by kernel_rfl)) (by decide) (fun K hK => ?_)
                    refine goes_ Tryd.func29 (by kernel_rfl) rfl #[.int .i64 a1, .int .i64 4] (by rfl) rfl rfl (by (try simp only [List.map_toArray, List.map_cons, List.map_nil]); first | done | rfl | (simp only [List.length_drop, List.length_take]; rfl)) ?_
                    with_reducible refine (spec_l02Put.calls k a1 4 t102 _ A12.out).mono ?_
                    rintro e w20 ⟨rfl, hb⟩
                    refine ⟨_, rfl, ?_⟩
                    have n0_ := Aside0.mk (below_step (by repeat (first | (with_reducible first | exact HB.out | apply below_alloc | apply pw_below_drewN | apply below_drew1) | exact HB.out)) hb)
                    clear HB
                    have HB := n0_
                    clear n0_
                    (try clear hb)
                    (try clear hb2)
                    (try clear hk)
                    (try clear hi)
                    refine hK.out _ _ trivial (fun hHeld => ?_)
                    clear hK K
                    refine norm_ (a' := ?_) ?_ ?_
                    rotate_left
                    · show Act.put _ (some 21) _ = _
                      simp only [Act.put, List.setIfInBounds_toArray, List.set_cons_zero, List.set_cons_succ, i64_w, i32_w]
                      rfl
                    refine pure_ (i := 7) (N := some 22) (v := ?_) (a' := ?_) #[true, true, true, true, true, true, true, true, true, true, true, true, true, false, false, false] rfl rfl (any_of HT_.out (by kernel_rfl)) (fun _ _ _ h => h) (Or.inl ⟨by rfl, ?_⟩) ?_ ?_
                    rotate_left
                    · intro w'
                      go_simp
                      with_reducible rfl
                    rotate_left
                    · simp only [Act.put, List.setIfInBounds_toArray, List.set_cons_zero, List.set_cons_succ, i64_w, i32_w]
                      rfl
                    refine pure_ (i := 13) (N := some 28) (v := ?_) (a' := ?_) #[true, true, true, true, true, true, true, true, true, true, true, true, true, true, false, false] rfl rfl (any_of HT_.out (by kernel_rfl)) (fun _ _ _ h => h) (Or.inl ⟨by rfl, ?_⟩) ?_ ?_
                    rotate_left
                    · intro w'
                      go_simp
                      with_reducible rfl
                    rotate_left
                    · simp only [Act.put, List.setIfInBounds_toArray, List.set_cons_zero, List.set_cons_succ, i64_w, i32_w]
                      rfl
                    refine pure_ (i := 14) (N := some 4) (v := ?_) (a' := ?_) #[true, true, true, true, true, true, true, true, true, true, true, true, true, true, true, false] rfl rfl (any_of HT_.out (by kernel_rfl)) (fun _ _ _ h => h) (Or.inl ⟨by rfl, ?_⟩) ?_ ?_
                    rotate_left
                    · intro w'
                      go_simp
                      with_reducible rfl
                    rotate_left
                    · simp only [Act.put, List.setIfInBounds_toArray, List.set_cons_zero, List.set_cons_succ, i64_w, i32_w]
                      rfl
                    refine pure_ (i := 15) (N := some 5) (v := ?_) (a' := ?_) #[true, true, true, true, true, true, true, true, true, true, true, true, true, true, true, true] rfl rfl (any_of HT_.out (by kernel_rfl)) (fun _ _ _ h => h) (Or.inl ⟨by rfl, ?_⟩) ?_ ?_
                    rotate_left
                    · intro w'
                      go_simp
                      with_reducible rfl
                    rotate_left
                    · simp only [Act.put, List.setIfInBounds_toArray, List.set_cons_zero, List.set_cons_succ, i64_w, i32_w]
                      rfl
                    refine done_ (done_of HT_.out (by kernel_rfl)) ?_
                    try go_wp2
                    go_ret2
                    exact ⟨by first | rfl | (simp [errW_none, errW_some] <;> rfl) | (simp only [← hji9, ← hji14]; first | rfl | (simp [errW_none, errW_some] <;> rfl)) | (simp [*, errW_none, errW_some] <;> rfl), by repeat (first | (with_reducible first | exact HB.out | apply below_alloc | apply pw_below_drewN | apply below_drew1) | exact HB.out)⟩
                  · rw [if_neg c17] at H
                    exact absurd H (by simp)
                · rw [if_neg c16] at H
                  exact absurd H (by simp)
              · rw [if_neg c15] at H
                exact absurd H (by simp)
            · rw [if_neg c13] at H
              exact absurd H (by simp)
          · rw [if_neg c11] at H
            exact absurd H (by simp)
        · rw [if_neg c10] at H
          exact absurd H (by simp)
  · rw [if_neg c4] at H
    have c4b0 : (t101 == 0) = false := beq_eq_false_iff_ne.mpr c4
    have c4b1 : (t101 != 0) = true := bne_iff_ne.mpr c4
    simp only [Option.some.injEq, Prod.mk.injEq] at H
    obtain ⟨rfl, rfl⟩ := H
    go_enter Tryd.func13, Tryd.ntmps13
    go_wp2_with (first | ((with_reducible refine gate_callee (f := 9) rfl ?_); refine goesL_ (some 7) rfl rfl Tryd.func9 (by kernel_rfl) rfl #[.int .i64 6, .string a0] rfl (by (try simp only [List.map_toArray, List.map_cons, List.map_nil]); first | done | rfl | (simp only [List.length_drop, List.length_take]; rfl)) ?_; (with_reducible refine (spec_CheckData.calls k 6 a0 t101 _ A3.out).mono ?_); rintro e w21 ⟨rfl, hb⟩; refine ⟨_, rfl, ?_⟩; have n0_ := Aside0.mk (below_step (by repeat (first | (with_reducible first | exact HB.out | apply below_alloc | apply pw_below_drewN | apply below_drew1) | exact HB.out)) hb); clear HB; have HB := n0_; clear n0_; (try clear hb); (try clear hb2); (try clear hk); (try clear hi)))
    go_ret2
    exact ⟨by first | rfl | (simp [errW_none, errW_some] <;> rfl) | (simp [*, errW_none, errW_some] <;> rfl), by repeat (first | (with_reducible first | exact HB.out | apply below_alloc | apply pw_below_drewN | apply below_drew1) | exact HB.out)⟩

end Go.Proofs.YtbaajohjglhpfaaDoor.F
namespace Go.Proofs.YtbaajohjglhpfaaDoor.F
open Go Go.Shelf Go.RowKit Go.Proofs.YtbaajohjglhpfaaDoorW.PrintWords Go.Proofs.YtbaajohjglhpfaaDoorW.PrintLast Go.Proofs.YtbaajohjglhpfaaDoorW.PrintMore
attribute [local go_sem] max2_int min2_int max_two min_two max_three min_three max_four min_four   -- for this text's walks alone
set_option linter.unusedVariables false
set_option linter.unusedSimpArgs false

/-! ### impl_nameAt: function 41 -/
def impl_nameAt.l0 : Nat → ByteArray → Int → Option (Int)
  | 0, _, _ => none
  | k + 1, x0, x3 => if x3 < (x0.size : Int) then (if 0 ≤ x3 then (if (wrap64 (bt x0 x3)) = 0 then (if (wrap64 (x3 + 1)) > 255 then (some 0) else (some (wrap64 (x3 + 1)))) else (if (wrap64 (bt x0 x3)) > 63 then (some 0) else (impl_nameAt.l0 k x0 (wrap64 (x3 + (wrap64 (1 + (wrap64 (bt x0 x3))))))))) else (none)) else (some 0)
def impl_nameAt.f (k : Nat) (a0 : ByteArray) : Option (Int) := impl_nameAt.l0 k a0 0
theorem impl_nameAt.mono_l : ∀ k, (∀ y0 y1, LeO (impl_nameAt.l0 k y0 y1) (impl_nameAt.l0 (k + 1) y0 y1))
  | 0 => fun _ _ r h => by simp [impl_nameAt.l0] at h
  | k + 1 => by
    have ih0 := impl_nameAt.mono_l k
    · intro y0 y1
      unfold impl_nameAt.l0
      repeat' first
      | (with_reducible exact ih0 _ _)
      | (with_reducible exact LeO.refl _)
      | (with_reducible exact LeO.none _)
      | (with_reducible refine LeO.ite ?_ ?_)
      | (with_reducible refine LeO.bind ?_ (fun _ => ?_))
      | exact ih0 _ _
      | exact LeO.none _
      | refine LeO.ite ?_ ?_
      | refine LeO.bind ?_ (fun _ => ?_)
theorem impl_nameAt.mono : ∀ a0 k, LeO (impl_nameAt.f k a0) (impl_nameAt.f (k + 1) a0) := by
  intro a0 k
  have ih0 := impl_nameAt.mono_l k
  unfold impl_nameAt.f
  repeat' first
      | (with_reducible exact ih0 _ _)
      | (with_reducible exact LeO.refl _)
      | (with_reducible exact LeO.none _)
      | (with_reducible refine LeO.ite ?_ ?_)
      | (with_reducible refine LeO.bind ?_ (fun _ => ?_))
      | exact ih0 _ _
      | exact LeO.none _
      | refine LeO.ite ?_ ?_
      | refine LeO.bind ?_ (fun _ => ?_)
set_option maxHeartbeats 8000000 in
set_option maxRecDepth 100000 in
theorem impl_nameAt.calls (k : Nat) (a0 : ByteArray) (r : Int) (w : World) (h : impl_nameAt.f k a0 = some r) :
    Calls Tryd.prog 41 #[.string a0] w fun e w' => e = .returned (.int .i64 r) ∧ Drawn0 w w' := by
  have H : (impl_nameAt.l0 k a0 0) = some r := h
  clear h
  have H' := Aside0.mk H
  clear H
  go_enter Tryd.func41, Tryd.ntmps41
  go_wp2
  go_loopg [3] k (fun kq v3 w' => ∃ (x3_1 : Int), v3 = .int .i64 x3_1 ∧ Aside0 (impl_nameAt.l0 kq a0 x3_1 = some r) ∧ Aside0 (kq ≤ k) ∧ Drawn0 w w')
  case atStart => exact ⟨(0), (by first | rfl | (simp; done) | (simp [*]; done)), H', ⟨Nat.le_refl _⟩, by repeat (first | exact Drawn0.refl _ | apply Drawn0.step)⟩
  case round =>
    clear H'
    obtain ⟨x3_1, rfl, HA, HK1, ⟨m1, rfl⟩⟩ := hrel
    cases gk with
    | zero => exact absurd HA.out (by simp [impl_nameAt.l0])
    | succ k1 =>
      have H := HA.out
      clear HA
      simp only [impl_nameAt.l0] at H
      by_cases c2 : x3_1 < (a0.size : Int)
      · rw [if_pos c2] at H
        have c2b0 : decide (x3_1 < (a0.size : Int)) = true := decide_eq_true c2
        clear c2
        by_cases c3 : 0 ≤ x3_1
        · rw [if_pos c3] at H
          have c3b0 : decide (0 ≤ x3_1) = true := decide_eq_true c3
          clear c3
          by_cases c5 : (wrap64 (bt a0 x3_1)) = 0
          · rw [if_pos c5] at H
            have c5b0 : ((wrap64 (bt a0 x3_1)) == 0) = true := beq_iff_eq.mpr c5
            have c5b1 : ((wrap64 (bt a0 x3_1)) != 0) = false := bne_eq_false_iff_eq.mpr c5
            clear c5
            by_cases c6 : (wrap64 (x3_1 + 1)) > 255
            · rw [if_pos c6] at H
              have c6b0 : decide (255 < (wrap64 (x3_1 + 1))) = true := decide_eq_true c6
              clear c6
              obtain rfl := Option.some.inj H
              have p4 : 0 ≤ (x3_1 : Int) := of_decide_eq_true (by first | (with_reducible assumption) | assumption)
              have q4 : x3_1 < (a0.size : Int) := of_decide_eq_true (by first | (with_reducible assumption) | assumption)
              have hx4 := bt_at a0 x3_1
              replace p4 := eq_true p4
              replace q4 := eq_true q4
              go_wp2
              go_ret
              exact ⟨by first | rfl | (simp; done) | (simp [*]; done), by repeat (first | exact Drawn0.refl _ | apply Drawn0.step)⟩
            · rw [if_neg c6] at H
              have c6b0 : decide (255 < (wrap64 (x3_1 + 1))) = false := decide_eq_false c6
              clear c6
              obtain rfl := Option.some.inj H
              have p4 : 0 ≤ (x3_1 : Int) := of_decide_eq_true (by first | (with_reducible assumption) | assumption)
              have q4 : x3_1 < (a0.size : Int) := of_decide_eq_true (by first | (with_reducible assumption) | assumption)
              have hx4 := bt_at a0 x3_1
              replace p4 := eq_true p4
              replace q4 := eq_true q4
              go_wp2
              go_ret
              exact ⟨by first | rfl | (simp; done) | (simp [*]; done), by repeat (first | exact Drawn0.refl _ | apply Drawn0.step)⟩
          · rw [if_neg c5] at H
            have c5b0 : ((wrap64 (bt a0 x3_1)) == 0) = false := beq_eq_false_iff_ne.mpr c5
            have c5b1 : ((wrap64 (bt a0 x3_1)) != 0) = true := bne_iff_ne.mpr c5
            by_cases c7 : (wrap64 (bt a0 x3_1)) > 63
            · rw [if_pos c7] at H
              have c7b0 : decide (63 < (wrap64 (bt a0 x3_1))) = true := decide_eq_true c7
              clear c7
              obtain rfl := Option.some.inj H
              have p4 : 0 ≤ (x3_1 : Int) := of_decide_eq_true (by first | (with_reducible assumption) | assumption)
              have q4 : x3_1 < (a0.size : Int) := of_decide_eq_true (by first | (with_reducible assumption) | assumption)
              have hx4 := bt_at a0 x3_1
              replace p4 := eq_true p4
              replace q4 := eq_true q4
              go_wp2
              go_ret
              exact ⟨by first | rfl | (simp; done) | (simp [*]; done), by repeat (first | exact Drawn0.refl _ | apply Drawn0.step)⟩
            · rw [if_neg c7] at H
              have c7b0 : decide (63 < (wrap64 (bt a0 x3_1))) = false := decide_eq_false c7
              clear c7
              have H' := Aside0.mk H
              clear H
              have p4 : 0 ≤ (x3_1 : Int) := of_decide_eq_true (by first | (with_reducible assumption) | assumption)
              have q4 : x3_1 < (a0.size : Int) := of_decide_eq_true (by first | (with_reducible assumption) | assumption)
              have hx4 := bt_at a0 x3_1
              replace p4 := eq_true p4
              replace q4 := eq_true q4
              go_wp2
              go_roundg k1
              case measure => have := HK1.out; omega
              case rel => exact ⟨(wrap64 (x3_1 + (wrap64 (1 + (wrap64 (bt a0 x3_1)))))), (by first | rfl | (simp; done) | (simp [*]; done)), H', ⟨by have := HK1.out; omega⟩, by repeat (first | exact Drawn0.refl _ | apply Drawn0.step)⟩
        · rw [if_neg c3] at H
          exact absurd H (by simp)
      · rw [if_neg c2] at H
        have c2b0 : decide (x3_1 < (a0.size : Int)) = false := decide_eq_false c2
        clear c2
        obtain rfl := Option.some.inj H
        go_wp2
        go_ret
        exact ⟨by first | rfl | (simp; done) | (simp [*]; done), by repeat (first | exact Drawn0.refl _ | apply Drawn0.step)⟩

end Go.Proofs.YtbaajohjglhpfaaDoor.F
namespace Go.Proofs.YtbaajohjglhpfaaDoor.F
open Go Go.Shelf Go.RowKit Go.Proofs.YtbaajohjglhpfaaDoorW.PrintWords Go.Proofs.YtbaajohjglhpfaaDoorW.PrintLast Go.Proofs.YtbaajohjglhpfaaDoorW.PrintMore
attribute [local go_sem] max2_int min2_int max_two min_two max_three min_three max_four min_four   -- for this text's walks alone
set_option linter.unusedVariables false
set_option linter.unusedSimpArgs false

/-! ### impl_MapTypes: function 42 -/
mutual
def impl_MapTypes.l0 : Nat → ByteArray → List Int → Int → Int → Option (List Int × Int)
  | 0, _, _, _, _ => none
  | k + 1, x0, x4, x5, x6 => if x6 < (x0.size : Int) then (if (wrap64 (x6 + 2)) > (x0.size : Int) then (some (([] : List Int), 7)) else (if 0 ≤ x6 then (if 0 ≤ (wrap64 (x6 + 1)) then (if (wrap64 (x6 + 1)) < (x0.size : Int) then (if (wrap64 (bt x0 x6)) ≤ x5 then (impl_MapTypes.j1 k x0 x4 x6 (wrap64 (bt x0 x6)) (wrap64 (bt x0 (wrap64 (x6 + 1)))) true) else (if (wrap64 (bt x0 (wrap64 (x6 + 1)))) < 1 then (impl_MapTypes.j1 k x0 x4 x6 (wrap64 (bt x0 x6)) (wrap64 (bt x0 (wrap64 (x6 + 1)))) true) else (if (wrap64 (bt x0 (wrap64 (x6 + 1)))) > 32 then (impl_MapTypes.j1 k x0 x4 x6 (wrap64 (bt x0 x6)) (wrap64 (bt x0 (wrap64 (x6 + 1)))) true) else (if (wrap64 ((wrap64 (x6 + 2)) + (wrap64 (bt x0 (wrap64 (x6 + 1)))))) > (x0.size : Int) then (impl_MapTypes.j1 k x0 x4 x6 (wrap64 (bt x0 x6)) (wrap64 (bt x0 (wrap64 (x6 + 1)))) true) else (if 0 ≤ (wrap64 ((wrap64 (x6 + 1)) + (wrap64 (bt x0 (wrap64 (x6 + 1)))))) then (if (wrap64 ((wrap64 (x6 + 1)) + (wrap64 (bt x0 (wrap64 (x6 + 1)))))) < (x0.size : Int) then (impl_MapTypes.j1 k x0 x4 x6 (wrap64 (bt x0 x6)) (wrap64 (bt x0 (wrap64 (x6 + 1)))) ((bt x0 (wrap64 ((wrap64 (x6 + 1)) + (wrap64 (bt x0 (wrap64 (x6 + 1))))))) == 0)) else (none)) else (none)))))) else (none)) else (none)) else (none))) else (some (x4, 0))
def impl_MapTypes.j1 : Nat → ByteArray → List Int → Int → Int → Int → Bool → Option (List Int × Int)
  | 0, _, _, _, _, _, _ => none
  | k + 1, x0, x4, x6, x7, x8, x57 => if x57 = true then (some (([] : List Int), 7)) else (impl_MapTypes.l1 k x0 x4 x7 x6 x7 x8 0)
def impl_MapTypes.l1 : Nat → ByteArray → List Int → Int → Int → Int → Int → Int → Option (List Int × Int)
  | 0, _, _, _, _, _, _, _ => none
  | k + 1, x0, x4, x5, x6, x7, x8, x9 => if x9 < x8 then (impl_MapTypes.l2 k x0 x4 x5 x6 x7 x8 x9 0) else (impl_MapTypes.l0 k x0 x4 x5 (wrap64 (x6 + (wrap64 (2 + x8)))))
def impl_MapTypes.l2 : Nat → ByteArray → List Int → Int → Int → Int → Int → Int → Int → Option (List Int × Int)
  | 0, _, _, _, _, _, _, _, _ => none
  | k + 1, x0, x4, x5, x6, x7, x8, x9, x10 => if x10 < 8 then (if 0 ≤ (wrap64 ((wrap64 (x6 + 2)) + x9)) then (if (wrap64 ((wrap64 (x6 + 2)) + x9)) < (x0.size : Int) then (if 0 ≤ (wrap64 (7 - x10)) then (if (Go.bits .and .u8 (shr .u8 (bt x0 (wrap64 ((wrap64 (x6 + 2)) + x9))) (wrap64 (7 - x10))) 1) = 1 then (if x4.length < 17592186044416 then (impl_MapTypes.l2 k x0 (x4 ++ [wrap64 ((wrap64 ((wrap64 (256 * x7)) + (wrap64 (8 * x9)))) + x10)]) x5 x6 x7 x8 x9 (wrap64 (x10 + 1))) else (none)) else (impl_MapTypes.l2 k x0 x4 x5 x6 x7 x8 x9 (wrap64 (x10 + 1)))) else (none)) else (none)) else (none)) else (impl_MapTypes.l1 k x0 x4 x5 x6 x7 x8 (wrap64 (x9 + 1)))
end
def impl_MapTypes.f (k : Nat) (a0 : ByteArray) : Option (List Int × Int) := impl_MapTypes.l0 k a0 ([] : List Int) (-1) 0
theorem impl_MapTypes.mono_l : ∀ k, (∀ y0 y1 y2 y3, LeO (impl_MapTypes.l0 k y0 y1 y2 y3) (impl_MapTypes.l0 (k + 1) y0 y1 y2 y3)) ∧ (∀ y0 y1 y2 y3 y4 y5, LeO (impl_MapTypes.j1 k y0 y1 y2 y3 y4 y5) (impl_MapTypes.j1 (k + 1) y0 y1 y2 y3 y4 y5)) ∧ (∀ y0 y1 y2 y3 y4 y5 y6, LeO (impl_MapTypes.l1 k y0 y1 y2 y3 y4 y5 y6) (impl_MapTypes.l1 (k + 1) y0 y1 y2 y3 y4 y5 y6)) ∧ (∀ y0 y1 y2 y3 y4 y5 y6 y7, LeO (impl_MapTypes.l2 k y0 y1 y2 y3 y4 y5 y6 y7) (impl_MapTypes.l2 (k + 1) y0 y1 y2 y3 y4 y5 y6 y7))
  | 0 => ⟨fun _ _ _ _ r h => by simp [impl_MapTypes.l0] at h, fun _ _ _ _ _ _ r h => by simp [impl_MapTypes.j1] at h, fun _ _ _ _ _ _ _ r h => by simp [impl_MapTypes.l1] at h, fun _ _ _ _ _ _ _ _ r h => by simp [impl_MapTypes.l2] at h⟩
  | k + 1 => by
    obtain ⟨ih0, ih1, ih2, ih3⟩ := impl_MapTypes.mono_l k
    refine ⟨?_, ?_, ?_, ?_⟩
    · intro y0 y1 y2 y3
      unfold impl_MapTypes.l0
      repeat' first
      | (with_reducible exact ih0 _ _ _ _)
      | (with_reducible exact ih1 _ _ _ _ _ _)
      | (with_reducible exact ih2 _ _ _ _ _ _ _)
      | (with_reducible exact ih3 _ _ _ _ _ _ _ _)
      | (with_reducible exact LeO.refl _)
      | (with_reducible exact LeO.none _)
      | (with_reducible refine LeO.ite ?_ ?_)
      | (with_reducible refine LeO.bind ?_ (fun _ => ?_))
      | exact ih0 _ _ _ _
      | exact ih1 _ _ _ _ _ _
      | exact ih2 _ _ _ _ _ _ _
      | exact ih3 _ _ _ _ _ _ _ _
      | exact LeO.none _
      | refine LeO.ite ?_ ?_
      | refine LeO.bind ?_ (fun _ => ?_)
    · intro y0 y1 y2 y3 y4 y5
      unfold impl_MapTypes.j1
      repeat' first
      | (with_reducible exact ih0 _ _ _ _)
      | (with_reducible exact ih1 _ _ _ _ _ _)
      | (with_reducible exact ih2 _ _ _ _ _ _ _)
      | (with_reducible exact ih3 _ _ _ _ _ _ _ _)
      | (with_reducible exact LeO.refl _)
      | (with_reducible exact LeO.none _)
      | (with_reducible refine LeO.ite ?_ ?_)
      | (with_reducible refine LeO.bind ?_ (fun _ => ?_))
      | exact ih0 _ _ _ _
      | exact ih1 _ _ _ _ _ _
      | exact ih2 _ _ _ _ _ _ _
      | exact ih3 _ _ _ _ _ _ _ _
      | exact LeO.none _
      | refine LeO.ite ?_ ?_
      | refine LeO.bind ?_ (fun _ => ?_)
    · intro y0 y1 y2 y3 y4 y5 y6
      unfold impl_MapTypes.l1
      repeat' first
      | (with_reducible exact ih0 _ _ _ _)
      | (with_reducible exact ih1 _ _ _ _ _ _)
      | (with_reducible exact ih2 _ _ _ _ _ _ _)
      | (with_reducible exact ih3 _ _ _ _ _ _ _ _)
      | (with_reducible exact LeO.refl _)
      | (with_reducible exact LeO.none _)
      | (with_reducible refine LeO.ite ?_ ?_)
      | (with_reducible refine LeO.bind ?_ (fun _ => ?_))
      | exact ih0 _ _ _ _
      | exact ih1 _ _ _ _ _ _
      | exact ih2 _ _ _ _ _ _ _
      | exact ih3 _ _ _ _ _ _ _ _
      | exact LeO.none _
      | refine LeO.ite ?_ ?_
      | refine LeO.bind ?_ (fun _ => ?_)
    · intro y0 y1 y2 y3 y4 y5 y6 y7
      unfold impl_MapTypes.l2
      repeat' first
      | (with_reducible exact ih0 _ _ _ _)
      | (with_reducible exact ih1 _ _ _ _ _ _)
      | (with_reducible exact ih2 _ _ _ _ _ _ _)
      | (with_reducible exact ih3 _ _ _ _ _ _ _ _)
      | (with_reducible exact LeO.refl _)
      | (with_reducible exact LeO.none _)
      | (with_reducible refine LeO.ite ?_ ?_)
      | (with_reducible refine LeO.bind ?_ (fun _ => ?_))
      | exact ih0 _ _ _ _
      | exact ih1 _ _ _ _ _ _
      | exact ih2 _ _ _ _ _ _ _
      | exact ih3 _ _ _ _ _ _ _ _
      | exact LeO.none _
      | refine LeO.ite ?_ ?_
      | refine LeO.bind ?_ (fun _ => ?_)
theorem impl_MapTypes.mono : ∀ a0 k, LeO (impl_MapTypes.f k a0) (impl_MapTypes.f (k + 1) a0) := by
  intro a0 k
  obtain ⟨ih0, ih1, ih2, ih3⟩ := impl_MapTypes.mono_l k
  unfold impl_MapTypes.f
  repeat' first
      | (with_reducible exact ih0 _ _ _ _)
      | (with_reducible exact ih1 _ _ _ _ _ _)
      | (with_reducible exact ih2 _ _ _ _ _ _ _)
      | (with_reducible exact ih3 _ _ _ _ _ _ _ _)
      | (with_reducible exact LeO.refl _)
      | (with_reducible exact LeO.none _)
      | (with_reducible refine LeO.ite ?_ ?_)
      | (with_reducible refine LeO.bind ?_ (fun _ => ?_))
      | exact ih0 _ _ _ _
      | exact ih1 _ _ _ _ _ _
      | exact ih2 _ _ _ _ _ _ _
      | exact ih3 _ _ _ _ _ _ _ _
      | exact LeO.none _
      | refine LeO.ite ?_ ?_
      | refine LeO.bind ?_ (fun _ => ?_)
set_option maxHeartbeats 8000000 in
set_option maxRecDepth 100000 in
theorem impl_MapTypes.calls (k : Nat) (a0 : ByteArray) (r1 : List Int) (r2 : Int) (w : World) (h : impl_MapTypes.f k a0 = some (r1, r2)) :
    Calls Tryd.prog 42 #[.string a0] w fun e w' => ∃ v0_ : Value, e = .returned (.tuple #[v0_, .int .i64 r2]) ∧ Kd.R (Kd.int .i64) 2 w' w.heap.size (fun _ => True) v0_ r1 ∧ Below w.heap.size w w' := by
  have HB := Aside0.mk (Below.refl w.heap.size w)
  have H : (impl_MapTypes.l0 k a0 ([] : List Int) (-1) 0) = some (r1, r2) := h
  clear h
  have H' := Aside0.mk H
  clear H
  go_enter Tryd.func42, Tryd.ntmps42
  go_wp2
  repeat (go_quiet (fail); try go_wp2)
  go_loopg [4, 5, 6] k (fun kq v4 v5 v6 w' => ∃ (x4_1 : List Int) (x5_1 : Int) (x6_1 : Int), v5 = .int .i64 x5_1 ∧ v6 = .int .i64 x6_1 ∧ Aside0 (impl_MapTypes.l0 kq a0 x4_1 x5_1 x6_1 = some (r1, r2)) ∧ Aside0 (kq ≤ k) ∧ Aside0 (Kd.R (Kd.int .i64) 2 w' w.heap.size (fun _ => True) v4 x4_1) ∧ Aside0 (Below w.heap.size w w'))
  case atStart => exact ⟨(([] : List Int)), ((-1)), (0), (by first | rfl | (simp; done) | (simp [*]; done)), (by first | rfl | (simp; done) | (simp [*]; done)), H', ⟨Nat.le_refl _⟩, ⟨by first | exact Kd.R_nil _ _ _ _ _ | exact Kd.N_nil _ _ _ _ _ | exact Kd.V_nil _ _ _ _ _ | exact Kd.Q_nil _ _ _ _ _ | exact Kd.S_nil _ _ _ _ _⟩, ⟨by repeat (first | (with_reducible first | exact HB.out | apply below_alloc | apply pw_below_drewN | apply below_drew1) | exact HB.out)⟩⟩
  case round =>
    clear H'
    obtain ⟨x4_1, x5_1, x6_1, rfl, rfl, HA, HK1, HO_4, HB⟩ := hrel
    cases gk with
    | zero => exact absurd HA.out (by simp [impl_MapTypes.l0])
    | succ k1 =>
      have H := HA.out
      clear HA
      simp only [impl_MapTypes.l0] at H
      by_cases c2 : x6_1 < (a0.size : Int)
      · rw [if_pos c2] at H
        have c2b0 : decide (x6_1 < (a0.size : Int)) = true := decide_eq_true c2
        clear c2
        by_cases c3 : (wrap64 (x6_1 + 2)) > (a0.size : Int)
        · rw [if_pos c3] at H
          have c3b0 : decide ((a0.size : Int) < (wrap64 (x6_1 + 2))) = true := decide_eq_true c3
          clear c3
          simp only [Option.some.injEq, Prod.mk.injEq] at H
          obtain ⟨rfl, rfl⟩ := H
          go_wp2
          repeat (go_quiet (fail); try go_wp2)
          go_ret2
          exact ⟨_, by first | rfl | (simp [errW_none, errW_some] <;> rfl) | (simp [*, errW_none, errW_some] <;> rfl), by first | exact Kd.R_nil _ _ _ _ _ | exact Kd.N_nil _ _ _ _ _ | exact Kd.V_nil _ _ _ _ _ | exact Kd.Q_nil _ _ _ _ _ | exact Kd.S_nil _ _ _ _ _, by repeat (first | (with_reducible first | exact HB.out | apply below_alloc | apply pw_below_drewN | apply below_drew1) | exact HB.out)⟩
        · rw [if_neg c3] at H
          have c3b0 : decide ((a0.size : Int) < (wrap64 (x6_1 + 2))) = false := decide_eq_false c3
          clear c3
          by_cases c4 : 0 ≤ x6_1
          · rw [if_pos c4] at H
            have c4b0 : decide (0 ≤ x6_1) = true := decide_eq_true c4
            clear c4
            obtain ⟨ji6, hji6⟩ : ∃ j_ : Int, (wrap64 (x6_1 + 1)) = j_ := ⟨_, rfl⟩
            replace H : (if 0 ≤ (ji6) then (if (ji6) < (a0.size : Int) then (if (wrap64 (bt a0 x6_1)) ≤ x5_1 then (impl_MapTypes.j1 k1 a0 x4_1 x6_1 (wrap64 (bt a0 x6_1)) (wrap64 (bt a0 (ji6))) true) else (if (wrap64 (bt a0 (ji6))) < 1 then (impl_MapTypes.j1 k1 a0 x4_1 x6_1 (wrap64 (bt a0 x6_1)) (wrap64 (bt a0 (ji6))) true) else (if (wrap64 (bt a0 (ji6))) > 32 then (impl_MapTypes.j1 k1 a0 x4_1 x6_1 (wrap64 (bt a0 x6_1)) (wrap64 (bt a0 (ji6))) true) else (if (wrap64 ((wrap64 (x6_1 + 2)) + (wrap64 (bt a0 (ji6))))) > (a0.size : Int) then (impl_MapTypes.j1 k1 a0 x4_1 x6_1 (wrap64 (bt a0 x6_1)) (wrap64 (bt a0 (ji6))) true) else (if 0 ≤ (wrap64 ((ji6) + (wrap64 (bt a0 (ji6))))) then (if (wrap64 ((ji6) + (wrap64 (bt a0 (ji6))))) < (a0.size : Int) then (impl_MapTypes.j1 k1 a0 x4_1 x6_1 (wrap64 (bt a0 x6_1)) (wrap64 (bt a0 (ji6))) ((bt a0 (wrap64 ((ji6) + (wrap64 (bt a0 (ji6)))))) == 0)) else (none)) else (none)))))) else (none)) else (none)) = some (r1, r2) := by first | (rw [hji6] at H; exact H) | (simp only [hji6] at H ⊢; exact H)
            have hji6w : (IntKind.i64.wrap (x6_1 + 1)) = ji6 := (i64_w _).trans hji6
            by_cases c7 : 0 ≤ (ji6)
            · rw [if_pos c7] at H
              have c7b0 : decide (0 ≤ (ji6)) = true := decide_eq_true c7
              clear c7
              by_cases c8 : (ji6) < (a0.size : Int)
              · rw [if_pos c8] at H
                have c8b0 : decide ((ji6) < (a0.size : Int)) = true := decide_eq_true c8
                clear c8
                have HC10 := Aside0.mk H
                clear H
                have p5 : 0 ≤ (x6_1 : Int) := of_decide_eq_true (by first | (with_reducible assumption) | assumption)
                have q5 : x6_1 < (a0.size : Int) := of_decide_eq_true (by first | (with_reducible assumption) | assumption)
                have hx5 := bt_at a0 x6_1
                replace p5 := eq_true p5
                replace q5 := eq_true q5
                have p9 : 0 ≤ ((ji6) : Int) := of_decide_eq_true (by first | (with_reducible assumption) | assumption)
                have q9 : (ji6) < (a0.size : Int) := of_decide_eq_true (by first | (with_reducible assumption) | assumption)
                have hx9 := bt_at a0 (ji6)
                replace p9 := eq_true p9
                replace q9 := eq_true q9
                go_upto_region 8 with (fail)
                repeat (go_quiet (fail); go_upto_region 8 with (fail))
                go_cut [57] (fun v57 wc => ∃ (kq : Nat) (x57_9 : Bool), v57 = .bool x57_9 ∧ Aside0 (impl_MapTypes.j1 kq a0 x4_1 x6_1 (wrap64 (bt a0 x6_1)) (wrap64 (bt a0 (ji6))) x57_9 = some (r1, r2)) ∧ Aside0 (kq ≤ k1) ∧ Aside0 (Kd.R (Kd.int .i64) 2 wc w.heap.size (fun _ => True) u4 x4_1) ∧ Aside0 (Below w.heap.size w wc))
                case first =>
                  have H := HC10.out
                  clear HC10
                  by_cases c11 : (wrap64 (bt a0 x6_1)) ≤ x5_1
                  · rw [if_pos c11] at H
                    have c11b0 : decide ((wrap64 (bt a0 x6_1)) ≤ x5_1) = true := decide_eq_true c11
                    clear c11
                    (first | rw [c11b0] | (simp only [i64_w, i32_w]; rw [c11b0]) | skip)
                    have H' := Aside0.mk H
                    clear H
                    go_wp2
                    repeat (go_quiet (fail); try go_wp2)
                    go_meet
                    case rel => exact ⟨_, (true), (by first | rfl | (simp; done) | (simp [*]; done)), H', ⟨by have := HK1.out; first | omega | exact Nat.le_refl _⟩, ⟨by (with_reducible repeat (first | apply Kd.R_alloc | apply Kd.R_drewN | apply Kd.R_drew)); exact HO_4.out⟩, ⟨by repeat (first | (with_reducible first | exact HB.out | apply below_alloc | apply pw_below_drewN | apply below_drew1) | exact HB.out)⟩⟩
                  · rw [if_neg c11] at H
                    have c11b0 : decide ((wrap64 (bt a0 x6_1)) ≤ x5_1) = false := decide_eq_false c11
                    clear c11
                    (first | rw [c11b0] | (simp only [i64_w, i32_w]; rw [c11b0]) | skip)
                    by_cases c12 : (wrap64 (bt a0 (ji6))) < 1
                    · rw [if_pos c12] at H
                      have c12b0 : decide ((wrap64 (bt a0 (ji6))) < 1) = true := decide_eq_true c12
                      clear c12
                      have H' := Aside0.mk H
                      clear H
                      go_wp2
                      repeat (go_quiet (fail); try go_wp2)
                      go_meet
                      case rel => exact ⟨_, (true), (by first | rfl | (simp; done) | (simp [*]; done)), H', ⟨by have := HK1.out; first | omega | exact Nat.le_refl _⟩, ⟨by (with_reducible repeat (first | apply Kd.R_alloc | apply Kd.R_drewN | apply Kd.R_drew)); exact HO_4.out⟩, ⟨by repeat (first | (with_reducible first | exact HB.out | apply below_alloc | apply pw_below_drewN | apply below_drew1) | exact HB.out)⟩⟩
                    · rw [if_neg c12] at H
                      have c12b0 : decide ((wrap64 (bt a0 (ji6))) < 1) = false := decide_eq_false c12
                      clear c12
                      by_cases c13 : (wrap64 (bt a0 (ji6))) > 32
                      · rw [if_pos c13] at H
                        have c13b0 : decide (32 < (wrap64 (bt a0 (ji6)))) = true := decide_eq_true c13
                        clear c13
                        have H' := Aside0.mk H
                        clear H
                        go_wp2
                        repeat (go_quiet (fail); try go_wp2)
                        go_meet
                        case rel => exact ⟨_, (true), (by first | rfl | (simp; done) | (simp [*]; done)), H', ⟨by have := HK1.out; first | omega | exact Nat.le_refl _⟩, ⟨by (with_reducible repeat (first | apply Kd.R_alloc | apply Kd.R_drewN | apply Kd.R_drew)); exact HO_4.out⟩, ⟨by repeat (first | (with_reducible first | exact HB.out | apply below_alloc | apply pw_below_drewN | apply below_drew1) | exact HB.out)⟩⟩
                      · rw [if_neg c13] at H
                        have c13b0 : decide (32 < (wrap64 (bt a0 (ji6)))) = false := decide_eq_false c13
                        clear c13
                        by_cases c14 : (wrap64 ((wrap64 (x6_1 + 2)) + (wrap64 (bt a0 (ji6))))) > (a0.size : Int)
                        · rw [if_pos c14] at H
                          have c14b0 : decide ((a0.size : Int) < (wrap64 ((wrap64 (x6_1 + 2)) + (wrap64 (bt a0 (ji6)))))) = true := decide_eq_true c14
                          clear c14
                          have H' := Aside0.mk H
                          clear H
                          go_wp2
                          repeat (go_quiet (fail); try go_wp2)
                          go_meet
                          case rel => exact ⟨_, (true), (by first | rfl | (simp; done) | (simp [*]; done)), H', ⟨by have := HK1.out; first | omega | exact Nat.le_refl _⟩, ⟨by (with_reducible repeat (first | apply Kd.R_alloc | apply Kd.R_drewN | apply Kd.R_drew)); exact HO_4.out⟩, ⟨by repeat (first | (with_reducible first | exact HB.out | apply below_alloc | apply pw_below_drewN | apply below_drew1) | exact HB.out)⟩⟩
                        · rw [if_neg c14] at H
                          have c14b0 : decide ((a0.size : Int) < (wrap64 ((wrap64 (x6_1 + 2)) + (wrap64 (bt a0 (ji6)))))) = false := decide_eq_false c14
                          clear c14
                          obtain ⟨ji15, hji15⟩ : ∃ j_ : Int, (wrap64 ((ji6) + (wrap64 (bt a0 (ji6))))) = j_ := ⟨_, rfl⟩
                          replace H : (if 0 ≤ (ji15) then (if (ji15) < (a0.size : Int) then (impl_MapTypes.j1 k1 a0 x4_1 x6_1 (wrap64 (bt a0 x6_1)) (wrap64 (bt a0 (ji6))) ((bt a0 (ji15)) == 0)) else (none)) else (none)) = some (r1, r2) := by first | (rw [hji15] at H; exact H) | (simp only [hji15] at H ⊢; exact H)
                          have hji15w : (IntKind.i64.wrap ((ji6) + (wrap64 (bt a0 (ji6))))) = ji15 := (i64_w _).trans hji15
                          by_cases c16 : 0 ≤ (ji15)
                          · rw [if_pos c16] at H
                            have c16b0 : decide (0 ≤ (ji15)) = true := decide_eq_true c16
                            clear c16
                            by_cases c17 : (ji15) < (a0.size : Int)
                            · rw [if_pos c17] at H
                              have c17b0 : decide ((ji15) < (a0.size : Int)) = true := decide_eq_true c17
                              clear c17
                              have H' := Aside0.mk H
                              clear H
                              have p18 : 0 ≤ ((ji15) : Int) := of_decide_eq_true (by first | (with_reducible assumption) | assumption)
                              have q18 : (ji15) < (a0.size : Int) := of_decide_eq_true (by first | (with_reducible assumption) | assumption)
                              have hx18 := bt_at a0 (ji15)
                              replace p18 := eq_true p18
                              replace q18 := eq_true q18
                              go_wp2
                              repeat (go_quiet (fail); try go_wp2)
                              go_meet
                              case rel => exact ⟨_, (((bt a0 (ji15)) == 0)), (by first | rfl | (simp; done) | (simp only [← hji15] <;> (first | rfl | simp)) | (simp [*]; done)), H', ⟨by have := HK1.out; first | omega | exact Nat.le_refl _⟩, ⟨by (with_reducible repeat (first | apply Kd.R_alloc | apply Kd.R_drewN | apply Kd.R_drew)); exact HO_4.out⟩, ⟨by repeat (first | (with_reducible first | exact HB.out | apply below_alloc | apply pw_below_drewN | apply below_drew1) | exact HB.out)⟩⟩
                            · rw [if_neg c17] at H
                              exact absurd H (by simp)
                          · rw [if_neg c16] at H
                            exact absurd H (by simp)
                case rest =>
                  clear HC10
                  try clear c1
                  try clear p1
                  try clear q1
                  try clear hx1
                  try clear c2
                  try clear c2b0
                  try clear p2
                  try clear c3
                  try clear c3b0
                  try clear c4
                  try clear c4b0
                  try clear p5
                  try clear q5
                  try clear hx5
                  try clear p6
                  try clear c7
                  try clear c7b0
                  try clear c8
                  try clear c8b0
                  try clear p9
                  try clear q9
                  try clear hx9
                  try clear c11
                  try clear c11b0
                  try clear c12
                  try clear c12b0
                  try clear c13
                  try clear c13b0
                  try clear c14
                  try clear c14b0
                  try clear c16
                  try clear c16b0
                  try clear c17
                  try clear c17b0
                  try clear p18
                  try clear q18
                  try clear hx18
                  try clear p18
                  try clear p5
                  try clear p9
                  try clear q18
                  try clear q5
                  try clear q9
                  obtain ⟨kq, x57_9, rfl, HA, HJ9, HO_4, HB⟩ := hcut
                  cases kq with
                  | zero => exact absurd HA.out (by simp [impl_MapTypes.j1])
                  | succ kj9 =>
                    have H := HA.out
                    clear HA
                    simp only [impl_MapTypes.j1] at H
                    by_cases c19 : x57_9 = true
                    · subst c19
                      have H1 : (some (([] : List Int), 7)) = some (r1, r2) := by rw [if_pos rfl] at H; exact H
                      clear H
                      have H := H1
                      clear H1
                      simp only [Option.some.injEq, Prod.mk.injEq] at H
                      obtain ⟨rfl, rfl⟩ := H
                      go_wp2
                      repeat (go_quiet (fail); try go_wp2)
                      go_ret2
                      exact ⟨_, by first | rfl | (simp [errW_none, errW_some] <;> rfl) | (simp only [← hji6]; first | rfl | (simp [errW_none, errW_some] <;> rfl)) | (simp [*, errW_none, errW_some] <;> rfl), by first | exact Kd.R_nil _ _ _ _ _ | exact Kd.N_nil _ _ _ _ _ | exact Kd.V_nil _ _ _ _ _ | exact Kd.Q_nil _ _ _ _ _ | exact Kd.S_nil _ _ _ _ _, by repeat (first | (with_reducible first | exact HB.out | apply below_alloc | apply pw_below_drewN | apply below_drew1) | exact HB.out)⟩
                    · replace c19 := Bool.eq_false_iff.mpr c19
                      subst c19
                      have H1 : (impl_MapTypes.l1 kj9 a0 x4_1 (wrap64 (bt a0 x6_1)) x6_1 (wrap64 (bt a0 x6_1)) (wrap64 (bt a0 (ji6))) 0) = some (r1, r2) := by rw [if_neg (show ¬ (false = true) by decide)] at H; exact H
                      clear H
                      have H := H1
                      clear H1
                      have H' := Aside0.mk H
                      clear H
                      go_wp2
                      repeat (go_quiet (fail); try go_wp2)
                      go_loopg [4, 9] kj9 (fun kq v4 v9 w' => ∃ (x4_3 : List Int) (x9_3 : Int), v9 = .int .i64 x9_3 ∧ Aside0 (impl_MapTypes.l1 kq a0 x4_3 (wrap64 (bt a0 x6_1)) x6_1 (wrap64 (bt a0 x6_1)) (wrap64 (bt a0 (ji6))) x9_3 = some (r1, r2)) ∧ Aside0 (kq ≤ kj9) ∧ Aside0 (Kd.R (Kd.int .i64) 2 w' w.heap.size (fun _ => True) v4 x4_3) ∧ Aside0 (Below w.heap.size w w'))
                      case atStart => exact ⟨(x4_1), (0), (by first | rfl | (simp; done) | (simp [*]; done)), H', ⟨Nat.le_refl _⟩, ⟨by (with_reducible repeat (first | apply Kd.R_alloc | apply Kd.R_drewN | apply Kd.R_drew)); exact HO_4.out⟩, ⟨by repeat (first | (with_reducible first | exact HB.out | apply below_alloc | apply pw_below_drewN | apply below_drew1) | exact HB.out)⟩⟩
                      case round =>
                        clear H'
                        try clear c1
                        try clear p1
                        try clear q1
                        try clear hx1
                        try clear c2
                        try clear c2b0
                        try clear p2
                        try clear c3
                        try clear c3b0
                        try clear c4
                        try clear c4b0
                        try clear p5
                        try clear q5
                        try clear hx5
                        try clear p6
                        try clear c7
                        try clear c7b0
                        try clear c8
                        try clear c8b0
                        try clear p9
                        try clear q9
                        try clear hx9
                        try clear c11
                        try clear c11b0
                        try clear c12
                        try clear c12b0
                        try clear c13
                        try clear c13b0
                        try clear c14
                        try clear c14b0
                        try clear c16
                        try clear c16b0
                        try clear c17
                        try clear c17b0
                        try clear p18
                        try clear q18
                        try clear hx18
                        try clear c19
                        try clear p1
                        try clear p18
                        try clear p2
                        try clear p5
                        try clear p6
                        try clear p9
                        try clear q1
                        try clear q18
                        try clear q5
                        try clear q9
                        obtain ⟨x4_3, x9_3, rfl, HA, HK3, HO_4, HB⟩ := hrel
                        cases gk with
                        | zero => exact absurd HA.out (by simp [impl_MapTypes.l1])
                        | succ k3 =>
                          have H := HA.out
                          clear HA
                          simp only [impl_MapTypes.l1] at H
                          by_cases c20 : x9_3 < (wrap64 (bt a0 (ji6)))
                          · rw [if_pos c20] at H
                            have c20b0 : decide (x9_3 < (wrap64 (bt a0 (ji6)))) = true := decide_eq_true c20
                            clear c20
                            have H' := Aside0.mk H
                            clear H
                            go_wp2
                            repeat (go_quiet (fail); try go_wp2)
                            go_loopg [4, 10] k3 (fun kq v4 v10 w' => ∃ (x4_4 : List Int) (x10_4 : Int), v10 = .int .i64 x10_4 ∧ Aside0 (impl_MapTypes.l2 kq a0 x4_4 (wrap64 (bt a0 x6_1)) x6_1 (wrap64 (bt a0 x6_1)) (wrap64 (bt a0 (ji6))) x9_3 x10_4 = some (r1, r2)) ∧ Aside0 (kq ≤ k3) ∧ Aside0 (Kd.R (Kd.int .i64) 2 w' w.heap.size (fun _ => True) v4 x4_4) ∧ Aside0 (Below w.heap.size w w'))
                            case atStart => exact ⟨(x4_3), (0), (by first | rfl | (simp; done) | (simp [*]; done)), H', ⟨Nat.le_refl _⟩, ⟨by (with_reducible repeat (first | apply Kd.R_alloc | apply Kd.R_drewN | apply Kd.R_drew)); exact HO_4.out⟩, ⟨by repeat (first | (with_reducible first | exact HB.out | apply below_alloc | apply pw_below_drewN | apply below_drew1) | exact HB.out)⟩⟩
                            case round =>
                              clear H'
                              try clear c1
                              try clear p1
                              try clear q1
                              try clear hx1
                              try clear c2
                              try clear c2b0
                              try clear p2
                              try clear c3
                              try clear c3b0
                              try clear c4
                              try clear c4b0
                              try clear p5
                              try clear q5
                              try clear hx5
                              try clear p6
                              try clear c7
                              try clear c7b0
                              try clear c8
                              try clear c8b0
                              try clear p9
                              try clear q9
                              try clear hx9
                              try clear c11
                              try clear c11b0
                              try clear c12
                              try clear c12b0
                              try clear c13
                              try clear c13b0
                              try clear c14
                              try clear c14b0
                              try clear c16
                              try clear c16b0
                              try clear c17
                              try clear c17b0
                              try clear p18
                              try clear q18
                              try clear hx18
                              try clear c19
                              try clear c20
                              try clear c20b0
                              try clear p1
                              try clear p18
                              try clear p2
                              try clear p5
                              try clear p6
                              try clear p9
                              try clear q1
                              try clear q18
                              try clear q5
                              try clear q9
                              obtain ⟨x4_4, x10_4, rfl, HA, HK4, HO_4, HB⟩ := hrel
                              cases gk with
                              | zero => exact absurd HA.out (by simp [impl_MapTypes.l2])
                              | succ k4 =>
                                have H := HA.out
                                clear HA
                                simp only [impl_MapTypes.l2] at H
                                by_cases c21 : x10_4 < 8
                                · rw [if_pos c21] at H
                                  have c21b0 : decide (x10_4 < 8) = true := decide_eq_true c21
                                  clear c21
                                  obtain ⟨ji22, hji22⟩ : ∃ j_ : Int, (wrap64 ((wrap64 (x6_1 + 2)) + x9_3)) = j_ := ⟨_, rfl⟩
                                  replace H : (if 0 ≤ (ji22) then (if (ji22) < (a0.size : Int) then (if 0 ≤ (wrap64 (7 - x10_4)) then (if (Go.bits .and .u8 (shr .u8 (bt a0 (ji22)) (wrap64 (7 - x10_4))) 1) = 1 then (if x4_4.length < 17592186044416 then (impl_MapTypes.l2 k4 a0 (x4_4 ++ [wrap64 ((wrap64 ((wrap64 (256 * (wrap64 (bt a0 x6_1)))) + (wrap64 (8 * x9_3)))) + x10_4)]) (wrap64 (bt a0 x6_1)) x6_1 (wrap64 (bt a0 x6_1)) (wrap64 (bt a0 (ji6))) x9_3 (wrap64 (x10_4 + 1))) else (none)) else (impl_MapTypes.l2 k4 a0 x4_4 (wrap64 (bt a0 x6_1)) x6_1 (wrap64 (bt a0 x6_1)) (wrap64 (bt a0 (ji6))) x9_3 (wrap64 (x10_4 + 1)))) else (none)) else (none)) else (none)) = some (r1, r2) := by first | (rw [hji22] at H; exact H) | (simp only [hji22] at H ⊢; exact H)
                                  have hji22w : (IntKind.i64.wrap ((wrap64 (x6_1 + 2)) + x9_3)) = ji22 := (i64_w _).trans hji22
                                  by_cases c23 : 0 ≤ (ji22)
                                  · rw [if_pos c23] at H
                                    have c23b0 : decide (0 ≤ (ji22)) = true := decide_eq_true c23
                                    clear c23
                                    by_cases c24 : (ji22) < (a0.size : Int)
                                    · rw [if_pos c24] at H
                                      have c24b0 : decide ((ji22) < (a0.size : Int)) = true := decide_eq_true c24
                                      clear c24
                                      obtain ⟨ji26, hji26⟩ : ∃ j_ : Int, (wrap64 (7 - x10_4)) = j_ := ⟨_, rfl⟩
                                      replace H : (if 0 ≤ (ji26) then (if (Go.bits .and .u8 (shr .u8 (bt a0 (ji22)) (ji26)) 1) = 1 then (if x4_4.length < 17592186044416 then (impl_MapTypes.l2 k4 a0 (x4_4 ++ [wrap64 ((wrap64 ((wrap64 (256 * (wrap64 (bt a0 x6_1)))) + (wrap64 (8 * x9_3)))) + x10_4)]) (wrap64 (bt a0 x6_1)) x6_1 (wrap64 (bt a0 x6_1)) (wrap64 (bt a0 (ji6))) x9_3 (wrap64 (x10_4 + 1))) else (none)) else (impl_MapTypes.l2 k4 a0 x4_4 (wrap64 (bt a0 x6_1)) x6_1 (wrap64 (bt a0 x6_1)) (wrap64 (bt a0 (ji6))) x9_3 (wrap64 (x10_4 + 1)))) else (none)) = some (r1, r2) := by first | (rw [hji26] at H; exact H) | (simp only [hji26] at H ⊢; exact H)
                                      have hji26w : (IntKind.i64.wrap (7 - x10_4)) = ji26 := (i64_w _).trans hji26
                                      by_cases c27 : 0 ≤ (ji26)
                                      · rw [if_pos c27] at H
                                        have c27b0 := eq_true c27
                                        have c27b1 : decide (0 ≤ (ji26)) = true := decide_eq_true c27
                                        clear c27
                                        obtain ⟨ji28, hji28⟩ : ∃ j_ : Int, (shr .u8 (bt a0 (ji22)) (ji26)) = j_ := ⟨_, rfl⟩
                                        replace H : (if (Go.bits .and .u8 (ji28) 1) = 1 then (if x4_4.length < 17592186044416 then (impl_MapTypes.l2 k4 a0 (x4_4 ++ [wrap64 ((wrap64 ((wrap64 (256 * (wrap64 (bt a0 x6_1)))) + (wrap64 (8 * x9_3)))) + x10_4)]) (wrap64 (bt a0 x6_1)) x6_1 (wrap64 (bt a0 x6_1)) (wrap64 (bt a0 (ji6))) x9_3 (wrap64 (x10_4 + 1))) else (none)) else (impl_MapTypes.l2 k4 a0 x4_4 (wrap64 (bt a0 x6_1)) x6_1 (wrap64 (bt a0 x6_1)) (wrap64 (bt a0 (ji6))) x9_3 (wrap64 (x10_4 + 1)))) = some (r1, r2) := by first | (rw [hji28] at H; exact H) | (simp only [hji28] at H ⊢; exact H)
                                        have hji28_ : ((bt a0 (ji22)) / 2 ^ min (ji26).toNat 8) = ji28 := hji28
                                        have hji28z : (ji26) ≤ 8 → ((bt a0 (ji22)) / 2 ^ (ji26).toNat) = ji28 := shr_small hji28
                                        by_cases c29 : (Go.bits .and .u8 (ji28) 1) = 1
                                        · rw [if_pos c29] at H
                                          have c29b0 : ((Go.bits .and .u8 (ji28) 1) == 1) = true := beq_iff_eq.mpr c29
                                          have c29b1 : ((Go.bits .and .u8 (ji28) 1) != 1) = false := bne_eq_false_iff_eq.mpr c29
                                          clear c29
                                          by_cases c30 : x4_4.length < 17592186044416
                                          · rw [if_pos c30] at H
                                            have LMc30 := Aside0.mk c30
                                            clear c30
                                            obtain ⟨y101, hy101⟩ : ∃ y_ : List Int, y_ = (x4_4 ++ [wrap64 ((wrap64 ((wrap64 (256 * (wrap64 (bt a0 x6_1)))) + (wrap64 (8 * x9_3)))) + x10_4)]) := ⟨_, rfl⟩
                                            replace H : (impl_MapTypes.l2 k4 a0 y101 (wrap64 (bt a0 x6_1)) x6_1 (wrap64 (bt a0 x6_1)) (wrap64 (bt a0 (ji6))) x9_3 (wrap64 (x10_4 + 1))) = some (r1, r2) := by first | (rw [hy101]; with_reducible exact H) | (have H2_ := (Option.bind_some _ _).symm.trans H; rw [hy101]; with_reducible exact H2_) | (have H2_ := (Option.bind_some _ _).symm.trans H; with_reducible exact H2_) | with_reducible exact H | (rw [hy101]; exact H) | exact H
                                            have Ny101 := Aside0.mk hy101
                                            clear hy101
                                            have H' := Aside0.mk H
                                            clear H
                                            have p25 : 0 ≤ ((ji22) : Int) := of_decide_eq_true (by first | (with_reducible assumption) | assumption)
                                            have q25 : (ji22) < (a0.size : Int) := of_decide_eq_true (by first | (with_reducible assumption) | assumption)
                                            have hx25 := bt_at a0 (ji22)
                                            replace p25 := eq_true p25
                                            replace q25 := eq_true q25
                                            go_wp2_with (first | ((with_reducible refine gate_builtin (b := .append) (xs := #[.tmp 79, .tmp 87]) rfl ?_); (try (refine gate_guard (by rfl) ?_; dsimp only)); at_builtin; refine Kd.R_append (Kd.int .i64) (w0 := w) w.heap.size rfl (.tmp 79) (.tmp 87) 57 2 (.int .i64 0) 8 rfl Tryd.underlying57 info2 rfl (by decide) (by omega) u4 x4_4 (wrap64 ((wrap64 ((wrap64 (256 * (wrap64 (bt a0 x6_1)))) + (wrap64 (8 * x9_3)))) + x10_4)) [.int .i64 (wrap64 ((wrap64 ((wrap64 (256 * (wrap64 (bt a0 x6_1)))) + (wrap64 (8 * x9_3)))) + x10_4))] (fun _ => True) (fun _ => False) rfl rfl ?aP (fun _ hk => hk.elim) ?aF ?aO ?aB ?aS ?aL ?_; (case aP => exact rfl); (case aB => exact (by repeat (first | (with_reducible first | exact HB.out | apply below_alloc | apply pw_below_drewN | apply below_drew1) | exact HB.out))); (case aF => exact (fun _ _ => trivial)); (case aO => exact (by (with_reducible repeat (first | apply Kd.R_alloc | apply Kd.R_drewN | apply Kd.R_drew)); exact HO_4.out)); (case aS => exact (below_size (by repeat (first | (with_reducible first | exact HB.out | apply below_alloc | apply pw_below_drewN | apply below_drew1) | exact HB.out)))); (case aL => have := LMc30.out; omega); intro v102 w31 ho hb hg hat; rw [← Ny101.out] at ho; have n0_ := Aside0.mk (hb); have n1_ := Aside0.mk (ho); clear HB; clear HO_4; have HB := n0_; have HO103 := n1_; clear n0_ n1_; clear ho hb hg hat))
                                            repeat (go_quiet (first | ((with_reducible refine gate_builtin (b := .append) (xs := #[.tmp 79, .tmp 87]) rfl ?_); (try (refine gate_guard (by rfl) ?_; dsimp only)); at_builtin; refine Kd.R_append (Kd.int .i64) (w0 := w) w.heap.size rfl (.tmp 79) (.tmp 87) 57 2 (.int .i64 0) 8 rfl Tryd.underlying57 info2 rfl (by decide) (by omega) u4 x4_4 (wrap64 ((wrap64 ((wrap64 (256 * (wrap64 (bt a0 x6_1)))) + (wrap64 (8 * x9_3)))) + x10_4)) [.int .i64 (wrap64 ((wrap64 ((wrap64 (256 * (wrap64 (bt a0 x6_1)))) + (wrap64 (8 * x9_3)))) + x10_4))] (fun _ => True) (fun _ => False) rfl rfl ?aP (fun _ hk => hk.elim) ?aF ?aO ?aB ?aS ?aL ?_; (case aP => exact rfl); (case aB => exact (by repeat (first | (with_reducible first | exact HB.out | apply below_alloc | apply pw_below_drewN | apply below_drew1) | exact HB.out))); (case aF => exact (fun _ _ => trivial)); (case aO => exact (by (with_reducible repeat (first | apply Kd.R_alloc | apply Kd.R_drewN | apply Kd.R_drew)); exact HO_4.out)); (case aS => exact (below_size (by repeat (first | (with_reducible first | exact HB.out | apply below_alloc | apply pw_below_drewN | apply below_drew1) | exact HB.out)))); (case aL => have := LMc30.out; omega); intro v102 w31 ho hb hg hat; rw [← Ny101.out] at ho; have n0_ := Aside0.mk (hb); have n1_ := Aside0.mk (ho); clear HB; clear HO_4; have HB := n0_; have HO103 := n1_; clear n0_ n1_; clear ho hb hg hat)); try go_wp2_with (first | ((with_reducible refine gate_builtin (b := .append) (xs := #[.tmp 79, .tmp 87]) rfl ?_); (try (refine gate_guard (by rfl) ?_; dsimp only)); at_builtin; refine Kd.R_append (Kd.int .i64) (w0 := w) w.heap.size rfl (.tmp 79) (.tmp 87) 57 2 (.int .i64 0) 8 rfl Tryd.underlying57 info2 rfl (by decide) (by omega) u4 x4_4 (wrap64 ((wrap64 ((wrap64 (256 * (wrap64 (bt a0 x6_1)))) + (wrap64 (8 * x9_3)))) + x10_4)) [.int .i64 (wrap64 ((wrap64 ((wrap64 (256 * (wrap64 (bt a0 x6_1)))) + (wrap64 (8 * x9_3)))) + x10_4))] (fun _ => True) (fun _ => False) rfl rfl ?aP (fun _ hk => hk.elim) ?aF ?aO ?aB ?aS ?aL ?_; (case aP => exact rfl); (case aB => exact (by repeat (first | (with_reducible first | exact HB.out | apply below_alloc | apply pw_below_drewN | apply below_drew1) | exact HB.out))); (case aF => exact (fun _ _ => trivial)); (case aO => exact (by (with_reducible repeat (first | apply Kd.R_alloc | apply Kd.R_drewN | apply Kd.R_drew)); exact HO_4.out)); (case aS => exact (below_size (by repeat (first | (with_reducible first | exact HB.out | apply below_alloc | apply pw_below_drewN | apply below_drew1) | exact HB.out)))); (case aL => have := LMc30.out; omega); intro v102 w31 ho hb hg hat; rw [← Ny101.out] at ho; have n0_ := Aside0.mk (hb); have n1_ := Aside0.mk (ho); clear HB; clear HO_4; have HB := n0_; have HO103 := n1_; clear n0_ n1_; clear ho hb hg hat)))
                                            go_roundg k4
                                            case measure => have := HK1.out; have := HJ9.out; have := HK3.out; have := HK4.out; omega
                                            case rel => exact ⟨(y101), (wrap64 (x10_4 + 1)), (by first | rfl | (simp; done) | (simp [*]; done)), H', ⟨by have := HK1.out; have := HJ9.out; have := HK3.out; have := HK4.out; omega⟩, ⟨by (with_reducible repeat (first | apply Kd.R_alloc | apply Kd.R_drewN | apply Kd.R_drew)); exact HO103.out⟩, ⟨by repeat (first | (with_reducible first | exact HB.out | apply below_alloc | apply pw_below_drewN | apply below_drew1) | exact HB.out)⟩⟩
                                          · rw [if_neg c30] at H
                                            exact absurd H (by simp)
                                        · rw [if_neg c29] at H
                                          have c29b0 : ((Go.bits .and .u8 (ji28) 1) == 1) = false := beq_eq_false_iff_ne.mpr c29
                                          have c29b1 : ((Go.bits .and .u8 (ji28) 1) != 1) = true := bne_iff_ne.mpr c29
                                          have H' := Aside0.mk H
                                          clear H
                                          have p25 : 0 ≤ ((ji22) : Int) := of_decide_eq_true (by first | (with_reducible assumption) | assumption)
                                          have q25 : (ji22) < (a0.size : Int) := of_decide_eq_true (by first | (with_reducible assumption) | assumption)
                                          have hx25 := bt_at a0 (ji22)
                                          replace p25 := eq_true p25
                                          replace q25 := eq_true q25
                                          go_wp2
                                          repeat (go_quiet (fail); try go_wp2)
                                          go_roundg k4
                                          case measure => have := HK1.out; have := HJ9.out; have := HK3.out; have := HK4.out; omega
                                          case rel => exact ⟨(x4_4), (wrap64 (x10_4 + 1)), (by first | rfl | (simp; done) | (simp [*]; done)), H', ⟨by have := HK1.out; have := HJ9.out; have := HK3.out; have := HK4.out; omega⟩, ⟨by (with_reducible repeat (first | apply Kd.R_alloc | apply Kd.R_drewN | apply Kd.R_drew)); exact HO_4.out⟩, ⟨by repeat (first | (with_reducible first | exact HB.out | apply below_alloc | apply pw_below_drewN | apply below_drew1) | exact HB.out)⟩⟩
                                      · rw [if_neg c27] at H
                                        exact absurd H (by simp)
                                    · rw [if_neg c24] at H
                                      exact absurd H (by simp)
                                  · rw [if_neg c23] at H
                                    exact absurd H (by simp)
                                · rw [if_neg c21] at H
                                  have c21b0 : decide (x10_4 < 8) = false := decide_eq_false c21
                                  clear c21
                                  have H' := Aside0.mk H
                                  clear H
                                  go_wp2
                                  repeat (go_quiet (fail); try go_wp2)
                                  go_roundg k4
                                  case measure => have := HK1.out; have := HJ9.out; have := HK3.out; have := HK4.out; omega
                                  case rel => exact ⟨(x4_4), (wrap64 (x9_3 + 1)), (by first | rfl | (simp; done) | (simp [*]; done)), H', ⟨by have := HK1.out; have := HJ9.out; have := HK3.out; have := HK4.out; omega⟩, ⟨by (with_reducible repeat (first | apply Kd.R_alloc | apply Kd.R_drewN | apply Kd.R_drew)); exact HO_4.out⟩, ⟨by repeat (first | (with_reducible first | exact HB.out | apply below_alloc | apply pw_below_drewN | apply below_drew1) | exact HB.out)⟩⟩
                          · rw [if_neg c20] at H
                            have c20b0 : decide (x9_3 < (wrap64 (bt a0 (ji6)))) = false := decide_eq_false c20
                            clear c20
                            have H' := Aside0.mk H
                            clear H
                            go_wp2
                            repeat (go_quiet (fail); try go_wp2)
                            go_roundg k3
                            case measure => have := HK1.out; have := HJ9.out; have := HK3.out; omega
                            case rel => exact ⟨(x4_3), ((wrap64 (bt a0 x6_1))), (wrap64 (x6_1 + (wrap64 (2 + (wrap64 (bt a0 (ji6))))))), (by first | rfl | (simp; done) | (simp [*]; done)), (by first | rfl | (simp; done) | (simp only [← hji6] <;> (first | rfl | simp)) | (simp [*]; done)), H', ⟨by have := HK1.out; have := HJ9.out; have := HK3.out; omega⟩, ⟨by (with_reducible repeat (first | apply Kd.R_alloc | apply Kd.R_drewN | apply Kd.R_drew)); exact HO_4.out⟩, ⟨by repeat (first | (with_reducible first | exact HB.out | apply below_alloc | apply pw_below_drewN | apply below_drew1) | exact HB.out)⟩⟩
              · rw [if_neg c8] at H
                exact absurd H (by simp)
            · rw [if_neg c7] at H
              exact absurd H (by simp)
          · rw [if_neg c4] at H
            exact absurd H (by simp)
      · rw [if_neg c2] at H
        have c2b0 : decide (x6_1 < (a0.size : Int)) = false := decide_eq_false c2
        clear c2
        simp only [Option.some.injEq, Prod.mk.injEq] at H
        obtain ⟨rfl, rfl⟩ := H
        go_wp2
        repeat (go_quiet (fail); try go_wp2)
        go_ret2
        exact ⟨_, by first | rfl | (simp [errW_none, errW_some] <;> rfl) | (simp [*, errW_none, errW_some] <;> rfl), by (with_reducible repeat (first | apply Kd.R_alloc | apply Kd.R_drewN | apply Kd.R_drew)); exact HO_4.out, by repeat (first | (with_reducible first | exact HB.out | apply below_alloc | apply pw_below_drewN | apply below_drew1) | exact HB.out)⟩

end Go.Proofs.YtbaajohjglhpfaaDoor.F
namespace Go.Proofs.YtbaajohjglhpfaaDoor.F
open Go Go.Shelf Go.RowKit Go.Proofs.YtbaajohjglhpfaaDoorW.PrintWords Go.Proofs.YtbaajohjglhpfaaDoorW.PrintLast Go.Proofs.YtbaajohjglhpfaaDoorW.PrintMore
attribute [local go_sem] max2_int min2_int max_two min_two max_three min_three max_four min_four   -- for this text's walks alone
set_option linter.unusedVariables false
set_option linter.unusedSimpArgs false

/-! ### stands 4 -/
-- stands: the boxes, the iterator and the spans of 'parsed'
def PInv (w : World) (form s : ByteArray) (wr : World) (pos at_ : Nat) (v : Value) (sp : List S46) : Prop :=
  wr.heap[w.heap.size]? = some (.cells #[.string s] 9 (0, 0)) ∧ wr.heap[w.heap.size + 1]? = some (.cells #[.int .i64 (at_ : Int)] 3 (0, 0)) ∧ wr.heap[w.heap.size + 1 + 1]? = some (.stringIter form pos) ∧
  Kd.R k46 46 wr w.heap.size (fun k => k ≠ w.heap.size ∧ k ≠ w.heap.size + 1 ∧ k ≠ w.heap.size + 1 + 1) v sp ∧ Below w.heap.size w wr
section
variable {w wr W : World} {form s : ByteArray} {pos at_ : Nat} {v : Value} {sp : List S46}
theorem PInv.below (h : PInv w form s wr pos at_ v sp) (hb : Below wr.heap.size wr W) : PInv w form s W pos at_ v sp :=
  ⟨blk_below h.1 hb, blk_below h.2.1 hb, blk_below h.2.2.1 hb, Kd.R_below h.2.2.2.1 hb, below_step h.2.2.2.2 hb⟩
theorem PInv.alloc (h : PInv w form s wr pos at_ v sp) (o : Obj) : PInv w form s (wr.alloc o) pos at_ v sp := h.below (below_alloc (Below.refl _ _) o)
theorem PInv.drew (h : PInv w form s wr pos at_ v sp) : PInv w form s wr.drew pos at_ v sp := h.below (below_drew (Below.refl _ _))
theorem PInv.drewN (h : PInv w form s wr pos at_ v sp) (n : Nat) : PInv w form s (wr.drewN n) pos at_ v sp := h.below (pw_below_drewN (Below.refl _ _) n)
theorem PInv.put (h : PInv w form s wr pos at_ v sp) (b : Nat) : PInv w form s (wr.setCell ⟨w.heap.size + 1, 0, none⟩ (.int .i64 (b : Int))) pos b v sp := by
  obtain ⟨h0, h1, h2, h3, h4⟩ := h
  have hne : ∀ k, k ≠ w.heap.size + 1 → (wr.setCell ⟨w.heap.size + 1, 0, none⟩ (.int .i64 (b : Int))).heap[k]? = wr.heap[k]? := fun k hk => Below.heap_setCell wr _ _ k hk
  exact ⟨(hne _ (by omega)).trans h0, one_setCell h1, (hne _ (by omega)).trans h2, Kd.R_step h3 (fun k hk _ => hne k hk.2.1), h4.setCell (by show w.heap.size ≤ w.heap.size + 1; omega) _⟩
theorem PInv.spans (h : PInv w form s wr pos at_ v sp) {v1 : Value} {sp1 : List S46} (hr : Kd.R k46 46 W w.heap.size (fun k => k ≠ w.heap.size ∧ k ≠ w.heap.size + 1 ∧ k ≠ w.heap.size + 1 + 1) v1 sp1) (hb : Below w.heap.size w W) (hg : wr.grownBy W v.ownBlock) : PInv w form s W pos at_ v1 sp1 := by
  obtain ⟨h0, h1, h2, h3, h4⟩ := h
  have hk := h3.1
  have hne : ∀ k o, wr.heap[k]? = some o → (k = w.heap.size ∨ k = w.heap.size + 1 ∨ k = w.heap.size + 1 + 1) → W.heap[k]? = some o := by
    intro k o ho hc
    refine (hg.block k (lt_of_block ho) (fun e => ?_)).trans ho
    have := hk k e.symm
    omega
  exact ⟨hne _ _ h0 (by omega), hne _ _ h1 (by omega), hne _ _ h2 (by omega), hr, hb⟩
theorem PInv.next_ {P : Program} (h : PInv w form s wr pos at_ v sp) (hp : pos < form.size) (ha : (form[pos]'hp).toNat < 128) :
    ∃ W, (∀ ty, (Instr.next (.pointer (some ⟨w.heap.size + 1 + 1, 0, none⟩)) true ty).run P wr = .ok (.tuple #[.bool true, .int .i64 pos, .int .i32 (form[pos]'hp).toNat]) W) ∧ PInv w form s W (pos + 1) at_ v sp := by
  obtain ⟨h0, h1, h2, h3, h4⟩ := h
  have hlt := lt_of_block h2
  have hne : ∀ k, k ≠ w.heap.size + 1 + 1 → (wr.heap.setIfInBounds (w.heap.size + 1 + 1) (.stringIter form (pos + 1)))[k]? = wr.heap[k]? := fun k hk => by
    rw [Array.getElem?_setIfInBounds, if_neg (fun e => hk e.symm)]
  refine ⟨{ wr with heap := wr.heap.setIfInBounds (w.heap.size + 1 + 1) (.stringIter form (pos + 1)) }, fun ty => ?_, ?_, ?_, ?_, ?_, ?_⟩
  · simp only [Instr.next, getObj, setObj, Sem.run_bind, Sem.run, h2, Result.andThen, hp, if_true, decode_ascii form pos hp ha]
    simp [goInt, Sem.run, h2]
  · exact (hne _ (by omega)).trans h0
  · exact (hne _ (by omega)).trans h1
  · show (wr.heap.setIfInBounds _ _)[_]? = _
    rw [Array.getElem?_setIfInBounds, if_pos rfl, if_pos hlt]
  · exact Kd.R_step h3 (fun k hk _ => hne k hk.2.2)
  · refine ⟨h4.os, h4.tape, h4.output, ?_, fun k hk => ?_⟩
    · show w.heap.size ≤ (wr.heap.setIfInBounds _ _).size
      rw [Array.size_setIfInBounds]
      exact h4.size
    · exact (hne k (by omega)).trans (h4.block k hk)
theorem PInv.end_ {P : Program} (h : PInv w form s wr pos at_ v sp) (hp : ¬ pos < form.size) (ty : TypeId) :
    (Instr.next (.pointer (some ⟨w.heap.size + 1 + 1, 0, none⟩)) true ty).run P wr = .ok (.tuple #[.bool false]) wr := by
  simp [Instr.next, getObj, Sem.run, h.2.2.1, hp]
end

end Go.Proofs.YtbaajohjglhpfaaDoor.F
namespace Go.Proofs.YtbaajohjglhpfaaDoor.F
open Go Go.Shelf Go.RowKit Go.Proofs.YtbaajohjglhpfaaDoorW.PrintWords Go.Proofs.YtbaajohjglhpfaaDoorW.PrintLast Go.Proofs.YtbaajohjglhpfaaDoorW.PrintMore
attribute [local go_sem] max2_int min2_int max_two min_two max_three min_three max_four min_four   -- for this text's walks alone
set_option linter.unusedVariables false
set_option linter.unusedSimpArgs false

/-! ### impl_parsed: function 26 -/
theorem impl_parsed.rest (w : World) (b0 b1 : Nat) (s : ByteArray) (at_ : Nat) (h0 : w.heap[b0]? = some (.cells #[.string s] 9 (0, 0))) (h1 : w.heap[b1]? = some (.cells #[.int .i64 (at_ : Int)] 3 (0, 0))) (hat : at_ ≤ s.size) :
    Calls Tryd.prog 40 #[.pointer (some ⟨b0, 0, none⟩), .pointer (some ⟨b1, 0, none⟩)] w fun e w' => e = .returned (.string (s.extract at_ s.size)) ∧ w' = w := by
  have q0 := cell_of_row w b0 0 _ _ _ h0
  have q1 := cell_of_row w b1 0 _ _ _ h1
  have hle : ((at_ : Int) ≤ (s.size : Int)) = True := eq_true (by omega)
  go_enter Tryd.func40, Tryd.ntmps40
  go_wp2
  go_ret
  exact ⟨rfl, rfl⟩
def impl_parsed.tEnd (s : ByteArray) : Nat → Nat → Nat
  | 0, k => k
  | d + 1, k => if k < s.size then impl_parsed.tEnd s d (k + 1 + (bt s (k : Int)).toNat) else k
def impl_parsed.alnum (c : Int) : Bool := (decide (48 ≤ c) && decide (c ≤ 57)) || ((decide (97 ≤ c) && decide (c ≤ 122)) || (decide (65 ≤ c) && decide (c ≤ 90)))
def impl_parsed.n (K : Nat) (c : Int) (s : ByteArray) (p : Nat) : Option (Option Int) :=
  if c = 49 then some (some 1) else if c = 50 then some (some 2) else if c = 52 ∨ c = 103 ∨ c = 113 then some (some 4)
  else if c = 110 then (impl_nameAt.f K (s.extract p s.size)).bind fun n => some (if n = 0 then none else some n)
  else if c = 116 then some (if s.size ≤ p then none else some (1 + bt s (p : Int)))
  else if c = 99 then some (if s.size ≤ p then none else if 1 + bt s (p : Int) < 2 then none else if 16 < 1 + bt s (p : Int) then none else if (s.size : Int) < (p : Int) + (1 + bt s (p : Int)) then none else if (bytesOf (s.extract (p + 1) (p + (1 + bt s (p : Int)).toNat))).all impl_parsed.alnum then some (1 + bt s (p : Int)) else none)
  else if c = 84 then some (if impl_parsed.tEnd s (s.size - p) p = p then none else some ((impl_parsed.tEnd s (s.size - p) p : Int) - p))
  else if c = 109 then (impl_MapTypes.f K (s.extract p s.size)).bind fun r => some (if r.2 = 0 then some ((s.size : Int) - p) else none)
  else if c = 42 then some (some ((s.size : Int) - p)) else none
def impl_parsed.go (K : Nat) (s : ByteArray) : List UInt8 → Nat → List S46 → Option (List S46 × Bool)
  | [], p, sp => some (sp, (p : Int) == (s.size : Int))
  | c :: r, p, sp => (impl_parsed.n K (c.toNat : Int) s p).bind fun o => match o with
    | none => some ([], false)
    | some n => if n < 0 ∨ 4611686018427387904 < n then none else if (s.size : Int) < (p : Int) + n then some ([], false) else impl_parsed.go K s r (p + n.toNat) (if (c.toNat : Int) = 110 then sp ++ [⟨p, (p : Int) + n⟩] else sp)
def impl_parsed.f (k : Nat) (a0 : Int) (a1 : ByteArray) : Option (List S46 × Bool) :=
  if 140737488355328 < a1.size then none else if (Lit.int .i64 a0).wf = true then (match formOf a0 with | none => some ([], true) | some form => impl_parsed.go k a1 form.data.toList 0 []) else none
set_option maxHeartbeats 8000000 in
set_option maxRecDepth 100000 in
theorem impl_parsed.some_ (K : Nat) (rt : Int) (s : ByteArray) (form : ByteArray) (hf : formOf rt = some form) (hwf : (Lit.int .i64 rt).wf = true) (hasc : ∀ c ∈ form.data.toList, c.toNat < 128) (hfs : form.size ≤ 100) (hs : s.size ≤ 140737488355328)
    (r1 : List S46) (r2 : Bool) (w : World) (hG : Glob w) (h : impl_parsed.go K s form.data.toList 0 [] = some (r1, r2)) :
    Calls Tryd.prog 26 #[.int .i64 rt, .string s] w fun e w' => ∃ v0_ : Value, e = .returned (.tuple #[v0_, .bool r2]) ∧ Kd.R k46 46 w' w.heap.size (fun _ => True) v0_ r1 ∧ Below w.heap.size w w' := by
  have hG1 := hG.alloc (.cells #[.string s] 9)
  obtain ⟨bm, og, om, g1, g2, g3, g4⟩ := hG1
  have hc0 := g3 _ g1
  have hlk := g4 _ rt g2 hwf
  rw [hf] at hlk
  simp only [Option.getD_some, Option.isSome_some] at hlk
  clear g1 g2 g3 g4 hf hwf
  have HH := Aside0.mk h
  have HA := Aside0.mk hasc
  have HS := Aside0.mk hs
  have HF := Aside0.mk hfs
  clear h hasc hs hfs
  have hz : ∀ (W : World) o, (W.alloc o).heap.size = W.heap.size + 1 := fun _ _ => Array.size_push _
  go_enter Tryd.func26, Tryd.ntmps26
  go_wp2
  clear hc0 hlk hG
  go_loopg [8] (form.size + 1) (fun kq v8 wr => ∃ (pos p : Nat) (sp : List S46), Aside0 (kq + pos = form.size + 1) ∧ Aside0 (pos ≤ form.size) ∧ Aside0 (sp.length ≤ pos) ∧ Aside0 (p ≤ s.size) ∧ Aside0 (PInv w form s wr pos p v8 sp) ∧ Aside0 (impl_parsed.go K s (form.data.toList.drop pos) p sp = some (r1, r2)))
  case atStart =>
    refine ⟨0, 0, [], ⟨rfl⟩, ⟨Nat.zero_le _⟩, ⟨Nat.le_refl _⟩, ⟨Nat.zero_le _⟩, ⟨?_, ?_, ?_, ?_, ?_⟩, ⟨HH.out⟩⟩
    · exact blk_alloc (blk_alloc (blk_new w _) _) _
    · have e := blk_new (w.alloc (.cells #[.string s] 9)) (.cells #[.int .i64 0] 3)
      rw [hz] at e
      exact blk_alloc e _
    · have e := World.iter_heap ((w.alloc (.cells #[.string s] 9)).alloc (.cells #[.int .i64 0] 3)) form 0
      rw [hz, hz] at e
      exact e
    · exact Kd.R_nil _ _ _ _ _
    · exact below_alloc (below_alloc (below_alloc (Below.refl _ _) _) _) _
  case round =>
    clear hz
    obtain ⟨pos, p, sp, HK, HP, HL, HQ, HI, HO⟩ := hrel
    have hb0 := cell_of_one HI.out.1
    have hb1 := cell_of_one HI.out.2.1
    by_cases hpf : pos < form.size
    · have hlen : pos < form.data.toList.length := by simpa using hpf
      have hdrop : form.data.toList.drop pos = form[pos] :: form.data.toList.drop (pos + 1) := by
        rw [List.drop_eq_getElem_cons hlen]
        rfl
      have hO := HO.out
      rw [hdrop, impl_parsed.go] at hO
      have hasc : (form[pos]'hpf).toNat < 128 := HA.out _ (by
        have : form[pos] ∈ form.data.toList.drop pos := by rw [hdrop]; simp
        exact List.mem_of_mem_drop this)
      obtain ⟨W, hnx, hI⟩ := PInv.next_ (P := Tryd.prog) HI.out hpf hasc
      have HO2 := Aside0.mk hO
      clear hO HO
      have HI2 := Aside0.mk hI
      clear hI
      generalize hcc : ((form[pos]'hpf).toNat : Int) = c at hnx HO2
      have hcn : (((form[pos]'hpf).toNat : Nat) : Int) = c := hcc
      have HCC := Aside0.mk hcc
      clear hdrop hlen hcc hcn hasc
      go_upto_block 2 with fail
      clear hb0 hb1 hnx
      go_cut [8, 13] (fun v8' v13 wc => ∃ (n : Int) (sp' : List S46), v13 = .int .i64 n ∧ Aside0 (0 ≤ n ∧ n ≤ 4611686018427387904) ∧ Aside0 (sp'.length ≤ pos + 1) ∧ Aside0 (PInv w form s wc (pos + 1) p v8' sp') ∧ Aside0 ((if (s.size : Int) < (p : Int) + n then some ([], false) else impl_parsed.go K s (form.data.toList.drop (pos + 1)) (p + n.toNat) sp') = some (r1, r2)))
      case first =>
        have hb0 := cell_of_one HI2.out.1
        have hb1 := cell_of_one HI2.out.2.1
        have hO := HO2.out
        clear HO2
        by_cases h49 : c = 49
        · subst h49
          have e1 : impl_parsed.n K 49 s p = some (some 1) := by unfold impl_parsed.n; simp
          rw [e1, Option.bind_some] at hO
          have HO3 := Aside0.mk hO
          clear hO
          go_wp2
          go_meet
          case rel => exact ⟨1, sp, by rfl, ⟨by omega⟩, ⟨by have := HL.out; omega⟩, HI2, ⟨by have := HO3.out; simpa using this⟩⟩
        by_cases h50 : c = 50
        · subst h50
          have e1 : impl_parsed.n K 50 s p = some (some 2) := by unfold impl_parsed.n; simp
          rw [e1, Option.bind_some] at hO
          have HO3 := Aside0.mk hO
          clear hO
          go_wp2
          go_meet
          case rel => exact ⟨2, sp, by rfl, ⟨by omega⟩, ⟨by have := HL.out; omega⟩, HI2, ⟨by have := HO3.out; simpa using this⟩⟩
        by_cases h52 : c = 52
        · subst h52
          have e1 : impl_parsed.n K 52 s p = some (some 4) := by unfold impl_parsed.n; simp
          rw [e1, Option.bind_some] at hO
          have HO3 := Aside0.mk hO
          clear hO
          go_wp2
          go_meet
          case rel => exact ⟨4, sp, by rfl, ⟨by omega⟩, ⟨by have := HL.out; omega⟩, HI2, ⟨by have := HO3.out; simpa using this⟩⟩
        by_cases h103 : c = 103
        · subst h103
          have e1 : impl_parsed.n K 103 s p = some (some 4) := by unfold impl_parsed.n; simp
          rw [e1, Option.bind_some] at hO
          have HO3 := Aside0.mk hO
          clear hO
          go_wp2
          go_meet
          case rel => exact ⟨4, sp, by rfl, ⟨by omega⟩, ⟨by have := HL.out; omega⟩, HI2, ⟨by have := HO3.out; simpa using this⟩⟩
        by_cases h113 : c = 113
        · subst h113
          have e1 : impl_parsed.n K 113 s p = some (some 4) := by unfold impl_parsed.n; simp
          rw [e1, Option.bind_some] at hO
          have HO3 := Aside0.mk hO
          clear hO
          go_wp2
          go_meet
          case rel => exact ⟨4, sp, by rfl, ⟨by omega⟩, ⟨by have := HL.out; omega⟩, HI2, ⟨by have := HO3.out; simpa using this⟩⟩
        by_cases h110 : c = 110
        · subst h110
          have e1 : impl_parsed.n K 110 s p = (impl_nameAt.f K (s.extract p s.size)).bind fun n => some (if n = 0 then none else some n) := by unfold impl_parsed.n; simp
          rw [e1, Option.bind_assoc] at hO
          obtain ⟨n, hn, hO⟩ := Option.bind_eq_some_iff.mp hO
          rw [Option.bind_some] at hO
          have HN := Aside0.mk hn
          clear hn e1
          by_cases hn0 : n = 0
          · rw [if_pos hn0] at hO
            simp only [Option.some.injEq, Prod.mk.injEq] at hO
            obtain ⟨rfl, rfl⟩ := hO
            subst hn0
            go_wp2_with (first | (go_at_call 40; refine (impl_parsed.rest _ _ _ s p HI2.out.1 HI2.out.2.1 HQ.out).mono ?_; rintro e w1 ⟨rfl, rfl⟩) | (go_at_call 41; refine (impl_nameAt.calls K _ 0 _ HN.out).mono ?_; rintro e w2 ⟨rfl, m, rfl⟩))
            go_ret2
            exact ⟨_, rfl, Kd.R_nil _ _ _ _ _, (HI2.out.drewN m).2.2.2.2⟩
          · rw [if_neg hn0] at hO
            simp only at hO
            by_cases hnb : n < 0 ∨ 4611686018427387904 < n
            · rw [if_pos hnb] at hO
              cases hO
            · rw [if_neg hnb] at hO
              have hov : wrap64 ((p : Int) + n) = (p : Int) + n := by
                have := HQ.out
                have := HS.out
                unfold wrap64
                omega
              have hn1 : (n == 0) = false := beq_eq_false_iff_ne.mpr hn0
              have HNB : Aside0 (0 ≤ n ∧ n ≤ 4611686018427387904) := ⟨by omega⟩
              have HO3 := Aside0.mk hO
              clear hO hnb hn0
              go_wp2_with (first | (go_at_call 40; refine (impl_parsed.rest _ _ _ s p HI2.out.1 HI2.out.2.1 HQ.out).mono ?_; rintro e w1 ⟨rfl, rfl⟩) | (go_at_call 41; refine (impl_nameAt.calls K _ n _ HN.out).mono ?_; rintro e w2 ⟨rfl, m, rfl⟩; have hd0 := cell_of_one (HI2.out.drewN m).1; have hd1 := cell_of_one (HI2.out.drewN m).2.1) | ((with_reducible refine gate_builtin (b := .append) (xs := #[.tmp 49, .tmp 55]) rfl ?_); at_builtin; refine Kd.R_append k46 (w0 := w) w.heap.size rfl (.tmp 49) (.tmp 55) 30 46 (.agg #[(.int .i64 0), (.int .i64 0)]) 16 rfl Tryd.underlying30 info46 rfl (by decide) (by omega) u8 sp (⟨(p : Int), (p : Int) + n⟩ : S46) [.int .i64 (p : Int), .int .i64 ((p : Int) + n)] (fun k => k ≠ w.heap.size ∧ k ≠ w.heap.size + 1 ∧ k ≠ w.heap.size + 1 + 1) (fun _ => False) rfl rfl ?aP (fun _ hk => hk.elim) ?aF ?aO ?aB ?aS ?aL ?_; (case aP => exact k46_mkM _ _ _ (⟨(p : Int), (p : Int) + n⟩ : S46)); (case aB => exact (HI2.out.drewN m).2.2.2.2); (case aF => exact (fun k hk => by have := lt_of_block (HI2.out.drewN m).2.2.1; omega)); (case aO => exact (HI2.out.drewN m).2.2.2.1); (case aS => exact (HI2.out.drewN m).2.2.2.2.size); (case aL => have := HL.out; have := HF.out; have := HP.out; omega); intro v1 w3 ho hb hg hat; have HI3 := Aside0.mk ((HI2.out.drewN m).spans ho hb hg); clear ho hb hg hat))
              go_meet
              case rel => exact ⟨n, sp ++ [⟨(p : Int), (p : Int) + n⟩], by rfl, HNB, ⟨by have := HL.out; simp; omega⟩, HI3, ⟨by have := HO3.out; simp only [if_true] at this; exact this⟩⟩
        by_cases h116 : c = 116
        · subst h116
          have e1 : impl_parsed.n K 116 s p = some (if s.size ≤ p then none else some (1 + bt s (p : Int))) := by unfold impl_parsed.n; simp
          rw [e1, Option.bind_some] at hO
          clear e1
          by_cases hsp : s.size ≤ p
          · rw [if_pos hsp] at hO
            simp only [Option.some.injEq, Prod.mk.injEq] at hO
            obtain ⟨rfl, rfl⟩ := hO
            have hd : decide ((s.size : Int) ≤ (p : Int)) = true := decide_eq_true (by omega)
            go_wp2
            go_ret2
            exact ⟨_, rfl, Kd.R_nil _ _ _ _ _, HI2.out.2.2.2.2⟩
          · rw [if_neg hsp] at hO
            have hbr := bt_range s (p : Int)
            have hd : decide ((s.size : Int) ≤ (p : Int)) = false := decide_eq_false (by omega)
            have q3 : ((p : Int) < (s.size : Int)) = True := eq_true (by omega)
            have q4 : (p < s.size) = True := eq_true (by omega)
            have hx4 : ∀ h : p < s.size, ((s[p]'h).toNat : Int) = bt s (p : Int) := fun h => bt_at s (p : Int) h
            have hov0 : wrap64 (bt s (p : Int)) = bt s (p : Int) := by unfold wrap64; omega
            have hov : wrap64 (1 + bt s (p : Int)) = 1 + bt s (p : Int) := by unfold wrap64; omega
            simp only at hO
            rw [if_neg (by omega)] at hO
            have HO3 := Aside0.mk hO
            have HBR := Aside0.mk hbr
            have hsp2 : ¬ ((s.size : Int) ≤ (p : Int)) := by omega
            clear hO hsp
            go_wp2
            go_meet
            case rel => exact ⟨1 + bt s (p : Int), sp, by rfl, ⟨by have := HBR.out; omega⟩, ⟨by have := HL.out; omega⟩, HI2, ⟨by have := HO3.out; rw [if_neg (show ¬ ((116 : Int) = 110) by decide)] at this; exact this⟩⟩
        by_cases h42 : c = 42
        · subst h42
          have e1 : impl_parsed.n K 42 s p = some (some ((s.size : Int) - p)) := by unfold impl_parsed.n; simp
          rw [e1, Option.bind_some] at hO
          simp only at hO
          have hsz : ((s.extract p s.size).size : Int) = (s.size : Int) - (p : Int) := by
            have := HQ.out
            rw [ByteArray.size_extract]
            omega
          rw [if_neg (by have := HQ.out; have := HS.out; omega)] at hO
          have HO3 := Aside0.mk hO
          clear hO e1
          go_wp2_with (first | (go_at_call 40; refine (impl_parsed.rest _ _ _ s p HI2.out.1 HI2.out.2.1 HQ.out).mono ?_; rintro e w1 ⟨rfl, rfl⟩))
          go_meet
          case rel => exact ⟨((s.size - p : Nat) : Int), sp, by rfl, ⟨by have := HQ.out; have := HS.out; omega⟩, ⟨by have := HL.out; omega⟩, HI2, ⟨by rw [show ((s.size - p : Nat) : Int) = (s.size : Int) - (p : Int) from by have := HQ.out; omega]; have := HO3.out; rw [if_neg (show ¬ ((42 : Int) = 110) by decide)] at this; exact this⟩⟩
        by_cases h109 : c = 109
        · subst h109
          have e1 : impl_parsed.n K 109 s p = (impl_MapTypes.f K (s.extract p s.size)).bind fun r => some (if r.2 = 0 then some ((s.size : Int) - p) else none) := by unfold impl_parsed.n; simp
          rw [e1, Option.bind_assoc] at hO
          obtain ⟨⟨ml, mc⟩, hm, hO⟩ := Option.bind_eq_some_iff.mp hO
          rw [Option.bind_some] at hO
          have HM := Aside0.mk hm
          clear hm e1
          by_cases hm0 : mc = 0
          · subst hm0
            rw [if_pos (by rfl)] at hO
            simp only at hO
            have hsz : ((s.extract p s.size).size : Int) = (s.size : Int) - (p : Int) := by
              have := HQ.out
              rw [ByteArray.size_extract]
              omega
            rw [if_neg (by have := HQ.out; have := HS.out; omega)] at hO
            have HO3 := Aside0.mk hO
            clear hO
            go_wp2_with (first | (go_at_call 40; refine (impl_parsed.rest _ _ _ s p HI2.out.1 HI2.out.2.1 HQ.out).mono ?_; rintro e w1 ⟨rfl, rfl⟩) | (go_at_call 40; refine (impl_parsed.rest _ _ _ s p HI3.out.1 HI3.out.2.1 HQ.out).mono ?_; rintro e w1 ⟨rfl, rfl⟩) | (go_at_call 42; refine (impl_MapTypes.calls K _ ml 0 _ HM.out).mono ?_; rintro e w2 ⟨vm, rfl, hR, hb⟩; have HI3 := Aside0.mk (HI2.out.below hb); clear hR hb))
            go_meet
            case rel => exact ⟨((s.size - p : Nat) : Int), sp, by rfl, ⟨by have := HQ.out; have := HS.out; omega⟩, ⟨by have := HL.out; omega⟩, HI3, ⟨by rw [show ((s.size - p : Nat) : Int) = (s.size : Int) - (p : Int) from by have := HQ.out; omega]; have := HO3.out; rw [if_neg (show ¬ ((109 : Int) = 110) by decide)] at this; exact this⟩⟩
          · rw [if_neg hm0] at hO
            simp only [Option.some.injEq, Prod.mk.injEq] at hO
            obtain ⟨rfl, rfl⟩ := hO
            have hmb : (mc != 0) = true := bne_iff_ne.mpr hm0
            clear hm0
            go_wp2_with (first | (go_at_call 40; refine (impl_parsed.rest _ _ _ s p HI2.out.1 HI2.out.2.1 HQ.out).mono ?_; rintro e w1 ⟨rfl, rfl⟩) | (go_at_call 42; refine (impl_MapTypes.calls K _ ml mc _ HM.out).mono ?_; rintro e w2 ⟨vm, rfl, hR, hb⟩; have HI3 := Aside0.mk (HI2.out.below hb); clear hR hb))
            go_ret2
            exact ⟨_, rfl, Kd.R_nil _ _ _ _ _, HI3.out.2.2.2.2⟩
        by_cases h84 : c = 84
        · subst h84
          have e1 : impl_parsed.n K 84 s p = some (if impl_parsed.tEnd s (s.size - p) p = p then none else some ((impl_parsed.tEnd s (s.size - p) p : Int) - p)) := by unfold impl_parsed.n; simp
          rw [e1, Option.bind_some] at hO
          clear e1
          have HO3 := Aside0.mk hO
          clear hO
          go_wp2
          go_loopg [16] (s.size - p) (fun kq v16 w' => ∃ k : Nat, v16 = .int .i64 (k : Int) ∧ Aside0 (impl_parsed.tEnd s kq k = impl_parsed.tEnd s (s.size - p) p) ∧ Aside0 (p ≤ k) ∧ Aside0 (k ≤ s.size + 256) ∧ Aside0 (s.size - k ≤ kq) ∧ Aside0 (PInv w form s w' (pos + 1) p u8 sp))
          case atStart => exact ⟨p, rfl, ⟨rfl⟩, ⟨Nat.le_refl _⟩, ⟨by have := HQ.out; omega⟩, ⟨Nat.le_refl _⟩, HI2⟩
          case round =>
            clear hb0 hb1
            obtain ⟨k, rfl, HT, HPK, HKS, HKQ, HI3⟩ := hrel
            have hb0 := cell_of_one HI3.out.1
            have hb1 := cell_of_one HI3.out.2.1
            by_cases hks : k < s.size
            · cases gk with
              | zero => exact absurd HKQ.out (by omega)
              | succ k1 =>
                have hbr := bt_range s (k : Int)
                have hd : decide ((k : Int) < (s.size : Int)) = true := decide_eq_true (by omega)
                have q3 : ((k : Int) < (s.size : Int)) = True := eq_true (by omega)
                have q4 : (k < s.size) = True := eq_true (by omega)
                have hx4 : ∀ h : k < s.size, ((s[k]'h).toNat : Int) = bt s (k : Int) := fun h => bt_at s (k : Int) h
                have hov0 : wrap64 (bt s (k : Int)) = bt s (k : Int) := by unfold wrap64; omega
                have hS := HS.out
                have hov : wrap64 ((k : Int) + (1 + bt s (k : Int))) = (k : Int) + (1 + bt s (k : Int)) := by unfold wrap64; omega
                have hov1 : wrap64 (1 + bt s (k : Int)) = 1 + bt s (k : Int) := by unfold wrap64; omega
                have HBR := Aside0.mk hbr
                have HT2 : Aside0 (impl_parsed.tEnd s k1 (k + 1 + (bt s (k : Int)).toNat) = impl_parsed.tEnd s (s.size - p) p) := ⟨by have := HT.out; rw [impl_parsed.tEnd, if_pos hks] at this; exact this⟩
                have HLT := Aside0.mk hks
                clear hks hS HT
                go_wp2
                go_roundg k1
                case measure => omega
                case rel =>
                  have := HBR.out
                  have := HLT.out
                  exact ⟨k + 1 + (bt s (k : Int)).toNat, by rw [show ((k + 1 + (bt s (k : Int)).toNat : Nat) : Int) = (k : Int) + (1 + bt s (k : Int)) from by omega, hov], HT2, ⟨by have := HPK.out; omega⟩, ⟨by omega⟩, ⟨by have := HKQ.out; omega⟩, HI3⟩
            · have hte : impl_parsed.tEnd s gk k = k := by
                cases gk with
                | zero => rfl
                | succ k1 => rw [impl_parsed.tEnd, if_neg hks]
              have hd : decide ((k : Int) < (s.size : Int)) = false := decide_eq_false (by omega)
              have hO := HO3.out
              rw [← HT.out, hte] at hO
              clear HO3
              by_cases hkp : k = p
              · subst hkp
                rw [if_pos rfl] at hO
                simp only [Option.some.injEq, Prod.mk.injEq] at hO
                obtain ⟨rfl, rfl⟩ := hO
                have hov : wrap64 ((k : Int) - (k : Int)) = 0 := by unfold wrap64; omega
                go_wp2
                go_ret2
                exact ⟨_, rfl, Kd.R_nil _ _ _ _ _, HI3.out.2.2.2.2⟩
              · have hpk := HPK.out
                have hkS := HKS.out
                have hS := HS.out
                rw [if_neg hkp] at hO
                simp only at hO
                rw [if_neg (by omega)] at hO
                have hov : wrap64 ((k : Int) - (p : Int)) = (k : Int) - (p : Int) := by unfold wrap64; omega
                have hne : ((k : Int) - (p : Int) == 0) = false := beq_eq_false_iff_ne.mpr (by omega)
                have HB3 : Aside0 (0 ≤ (k : Int) - (p : Int) ∧ (k : Int) - (p : Int) ≤ 4611686018427387904) := ⟨by omega⟩
                have HO4 := Aside0.mk hO
                have hks2 : ¬ ((k : Int) < (s.size : Int)) := by omega
                clear hO hkp hpk hkS hS hks
                go_wp2
                go_meet
                case rel => exact ⟨(k : Int) - p, sp, by rfl, HB3, ⟨by have := HL.out; omega⟩, HI3, ⟨by have := HO4.out; rw [if_neg (show ¬ ((84 : Int) = 110) by decide)] at this; exact this⟩⟩
        by_cases h99 : c = 99
        · subst h99
          have e1 : impl_parsed.n K 99 s p = some (if s.size ≤ p then none else if 1 + bt s (p : Int) < 2 then none else if 16 < 1 + bt s (p : Int) then none else if (s.size : Int) < (p : Int) + (1 + bt s (p : Int)) then none else if (bytesOf (s.extract (p + 1) (p + (1 + bt s (p : Int)).toNat))).all impl_parsed.alnum then some (1 + bt s (p : Int)) else none) := by unfold impl_parsed.n; simp
          rw [e1, Option.bind_some] at hO
          clear e1
          by_cases hsp : s.size ≤ p
          · rw [if_pos hsp] at hO
            simp only [Option.some.injEq, Prod.mk.injEq] at hO
            obtain ⟨rfl, rfl⟩ := hO
            have hd : decide ((s.size : Int) ≤ (p : Int)) = true := decide_eq_true (by omega)
            go_wp2
            go_ret2
            exact ⟨_, rfl, Kd.R_nil _ _ _ _ _, HI2.out.2.2.2.2⟩
          · rw [if_neg hsp] at hO
            have hbr := bt_range s (p : Int)
            have hsp2 : ¬ ((s.size : Int) ≤ (p : Int)) := by omega
            have q3 : ((p : Int) < (s.size : Int)) = True := eq_true (by omega)
            have q4 : (p < s.size) = True := eq_true (by omega)
            have hx4 : ∀ h : p < s.size, ((s[p]'h).toNat : Int) = bt s (p : Int) := fun h => bt_at s (p : Int) h
            generalize hbb : bt s (p : Int) = b at *
            have HBB := Aside0.mk hbb
            clear hbb
            have hov0 : wrap64 b = b := by unfold wrap64; omega
            have hov : wrap64 (1 + b) = 1 + b := by unfold wrap64; omega
            have hov2 : wrap64 ((p : Int) + (1 + b)) = (p : Int) + (1 + b) := by have := HQ.out; have := HS.out; unfold wrap64; omega
            have hov3 : wrap64 ((p : Int) + 1) = (p : Int) + 1 := by have := HQ.out; have := HS.out; unfold wrap64; omega
            by_cases hn2 : 1 + b < 2
            · rw [if_pos hn2] at hO
              simp only [Option.some.injEq, Prod.mk.injEq] at hO
              obtain ⟨rfl, rfl⟩ := hO
              clear hsp
              go_wp2
              go_ret2
              exact ⟨_, rfl, Kd.R_nil _ _ _ _ _, HI2.out.2.2.2.2⟩
            · rw [if_neg hn2] at hO
              by_cases hn16 : 16 < 1 + b
              · rw [if_pos hn16] at hO
                simp only [Option.some.injEq, Prod.mk.injEq] at hO
                obtain ⟨rfl, rfl⟩ := hO
                clear hsp
                go_wp2
                go_ret2
                exact ⟨_, rfl, Kd.R_nil _ _ _ _ _, HI2.out.2.2.2.2⟩
              · rw [if_neg hn16] at hO
                by_cases hlen : (s.size : Int) < (p : Int) + (1 + b)
                · rw [if_pos hlen] at hO
                  simp only [Option.some.injEq, Prod.mk.injEq] at hO
                  obtain ⟨rfl, rfl⟩ := hO
                  clear hsp
                  go_wp2
                  go_ret2
                  exact ⟨_, rfl, Kd.R_nil _ _ _ _ _, HI2.out.2.2.2.2⟩
                · rw [if_neg hlen] at hO
                  have HX := Aside0.mk hO
                  clear hO
                  have hcv := fun W x => Lib.run_convert_string_bytes (P := Tryd.prog) W 9 49 5 x Tryd.underlying9 Tryd.underlying49 Tryd.underlying5
                  have hsl1 : ((p : Int) + 1 ≤ (p : Int) + (1 + b)) = True := eq_true (by omega)
                  have hsl2 : ((p : Int) + (1 + b) ≤ (s.size : Int)) = True := eq_true (by omega)
                  have hsl3 : (0 ≤ (p : Int) + 1) = True := eq_true (by omega)
                  have hE : ((p : Int) + (1 + b)).toNat = p + (1 + b).toNat := by omega
                  have HIP := HI2.out.below (bytes_below (Below.refl W.heap.size W) (Nat.le_refl _) 5 (s.extract (p + 1) (p + (1 + b).toNat)))
                  have HRW := Go.Proofs.YtbaajohjglhpfaaDoorW.XConv.Row8.conv W 5 (s.extract (p + 1) (p + (1 + b).toNat))
                  have HXS : Aside0 ((s.extract (p + 1) (p + (1 + b).toNat)).size ≤ 16) := ⟨by rw [ByteArray.size_extract]; omega⟩
                  have HIP2 := Aside0.mk HIP
                  have HRW2 := Aside0.mk HRW
                  clear hsp HIP HRW
                  generalize hxx : s.extract (p + 1) (p + (1 + b).toNat) = x at *
                  go_wp2
                  clear hcv hsl1 hsl2 hsl3 hE hb0 hb1 hov0 hov hov2 hov3 hx4 hxx
                  go_loopg [94] x.size (fun kq v94 w' => ∃ j : Nat, v94 = .int .i64 (j : Int) ∧ Aside0 (kq + j = x.size) ∧ Aside0 (j ≤ x.size) ∧ Aside0 (((bytesOf x).take j).all impl_parsed.alnum = true) ∧ Aside0 (Go.Proofs.YtbaajohjglhpfaaDoorW.XConv.Row8 w' W.heap.size 5 (bytesOf x)) ∧ Aside0 (PInv w form s w' (pos + 1) p u8 sp))
                  case atStart => exact ⟨0, rfl, ⟨by omega⟩, ⟨by omega⟩, ⟨by simp⟩, HRW2, HIP2⟩
                  case round =>
                    clear HIP2 HRW2
                    obtain ⟨j, rfl, HKJ, HJX, HAL, HR, HI3⟩ := hrel
                    have hlb := bytesOf_length x
                    by_cases hjx : j < x.size
                    · cases gk with
                      | zero => exact absurd HKJ.out (by omega)
                      | succ k1 =>
                      have hcell := HR.out.cell j (by omega)
                      have hg : (bytesOf x).getD j 0 = bt x (j : Int) := by rw [← rd_bytesOf]; simp [rd]
                      rw [hg] at hcell
                      have hmem : bt x (j : Int) ∈ bytesOf x := by
                        rw [← hg, List.getD_eq_getElem?_getD, List.getElem?_eq_getElem (by omega)]
                        exact List.getElem_mem _
                      have HBAD : impl_parsed.alnum (bt x (j : Int)) = false → (bytesOf x).all impl_parsed.alnum = false := fun e => List.all_eq_false.2 ⟨_, hmem, by rw [e]; decide⟩
                      have HAL2 : impl_parsed.alnum (bt x (j : Int)) = true → ((bytesOf x).take (j + 1)).all impl_parsed.alnum = true := fun e => by
                        rw [List.take_succ_eq_append_getElem (by omega), List.all_append, HAL.out]
                        have : (bytesOf x)[j]'(by omega) = bt x (j : Int) := by rw [← hg, List.getD_eq_getElem?_getD, List.getElem?_eq_getElem (by omega)]; rfl
                        simp [this, e]
                      have hbr8 := bt_range x (j : Int)
                      have hd : decide ((j : Int) < (x.size : Int)) = true := decide_eq_true (by omega)
                      have hov : wrap64 ((j : Int) + 1) = (j : Int) + 1 := by have := HJX.out; have := HXS.out; unfold wrap64; omega
                      clear hg hmem hlb
                      generalize bt x (j : Int) = c8 at *
                      rcases (by omega : (c8 < 48) ∨ (48 ≤ c8 ∧ c8 ≤ 57) ∨ (57 < c8 ∧ c8 < 65) ∨ (65 ≤ c8 ∧ c8 ≤ 90) ∨ (90 < c8 ∧ c8 < 97) ∨ (97 ≤ c8 ∧ c8 ≤ 122) ∨ (122 < c8)) with hr | ⟨hr, hr2⟩ | ⟨hr, hr2⟩ | ⟨hr, hr2⟩ | ⟨hr, hr2⟩ | ⟨hr, hr2⟩ | hr
                      · have hbad := HBAD (by unfold impl_parsed.alnum; simp; omega)
                        have hO := HX.out
                        rw [hbad] at hO
                        simp only [Bool.false_eq_true, if_false, Option.some.injEq, Prod.mk.injEq] at hO
                        obtain ⟨rfl, rfl⟩ := hO
                        have t0 : (48 ≤ c8) = False := eq_false (by omega)
                        have t1 : (c8 ≤ 57) = True := eq_true (by omega)
                        have t2 : (97 ≤ c8) = False := eq_false (by omega)
                        have t3 : (c8 ≤ 122) = True := eq_true (by omega)
                        have t4 : (65 ≤ c8) = False := eq_false (by omega)
                        have t5 : (c8 ≤ 90) = True := eq_true (by omega)
                        have q3 : ((j : Int) < (x.size : Int)) = True := eq_true (by omega)
                        have q4 : (j < x.size) = True := eq_true (by omega)
                        have HJ1 := Aside0.mk hjx
                        clear hr hbr8 HBAD HAL2 hd hjx hbad
                        go_wp2
                        go_ret2
                        exact ⟨_, rfl, Kd.R_nil _ _ _ _ _, HI3.out.2.2.2.2⟩
                      · have hok := HAL2 (by unfold impl_parsed.alnum; simp; omega)
                        have HOK := Aside0.mk hok
                        have t0 : (48 ≤ c8) = True := eq_true (by omega)
                        have t1 : (c8 ≤ 57) = True := eq_true (by omega)
                        have t2 : (97 ≤ c8) = False := eq_false (by omega)
                        have t3 : (c8 ≤ 122) = True := eq_true (by omega)
                        have t4 : (65 ≤ c8) = False := eq_false (by omega)
                        have t5 : (c8 ≤ 90) = True := eq_true (by omega)
                        have q3 : ((j : Int) < (x.size : Int)) = True := eq_true (by omega)
                        have q4 : (j < x.size) = True := eq_true (by omega)
                        have HJ1 := Aside0.mk hjx
                        clear hr hr2 hbr8 HBAD HAL2 hd hjx hok
                        go_wp2
                        go_roundg k1
                        case measure => omega
                        case rel => exact ⟨j + 1, by go_num, ⟨by have := HKJ.out; omega⟩, ⟨by have := HJ1.out; omega⟩, HOK, HR, HI3⟩
                      · have hbad := HBAD (by unfold impl_parsed.alnum; simp; omega)
                        have hO := HX.out
                        rw [hbad] at hO
                        simp only [Bool.false_eq_true, if_false, Option.some.injEq, Prod.mk.injEq] at hO
                        obtain ⟨rfl, rfl⟩ := hO
                        have t0 : (48 ≤ c8) = True := eq_true (by omega)
                        have t1 : (c8 ≤ 57) = False := eq_false (by omega)
                        have t2 : (97 ≤ c8) = False := eq_false (by omega)
                        have t3 : (c8 ≤ 122) = True := eq_true (by omega)
                        have t4 : (65 ≤ c8) = False := eq_false (by omega)
                        have t5 : (c8 ≤ 90) = True := eq_true (by omega)
                        have q3 : ((j : Int) < (x.size : Int)) = True := eq_true (by omega)
                        have q4 : (j < x.size) = True := eq_true (by omega)
                        have HJ1 := Aside0.mk hjx
                        clear hr hr2 hbr8 HBAD HAL2 hd hjx hbad
                        go_wp2
                        go_ret2
                        exact ⟨_, rfl, Kd.R_nil _ _ _ _ _, HI3.out.2.2.2.2⟩
                      · have hok := HAL2 (by unfold impl_parsed.alnum; simp; omega)
                        have HOK := Aside0.mk hok
                        have t0 : (48 ≤ c8) = True := eq_true (by omega)
                        have t1 : (c8 ≤ 57) = False := eq_false (by omega)
                        have t2 : (97 ≤ c8) = False := eq_false (by omega)
                        have t3 : (c8 ≤ 122) = True := eq_true (by omega)
                        have t4 : (65 ≤ c8) = True := eq_true (by omega)
                        have t5 : (c8 ≤ 90) = True := eq_true (by omega)
                        have q3 : ((j : Int) < (x.size : Int)) = True := eq_true (by omega)
                        have q4 : (j < x.size) = True := eq_true (by omega)
                        have HJ1 := Aside0.mk hjx
                        clear hr hr2 hbr8 HBAD HAL2 hd hjx hok
                        go_wp2
                        go_roundg k1
                        case measure => omega
                        case rel => exact ⟨j + 1, by go_num, ⟨by have := HKJ.out; omega⟩, ⟨by have := HJ1.out; omega⟩, HOK, HR, HI3⟩
                      · have hbad := HBAD (by unfold impl_parsed.alnum; simp; omega)
                        have hO := HX.out
                        rw [hbad] at hO
                        simp only [Bool.false_eq_true, if_false, Option.some.injEq, Prod.mk.injEq] at hO
                        obtain ⟨rfl, rfl⟩ := hO
                        have t0 : (48 ≤ c8) = True := eq_true (by omega)
                        have t1 : (c8 ≤ 57) = False := eq_false (by omega)
                        have t2 : (97 ≤ c8) = False := eq_false (by omega)
                        have t3 : (c8 ≤ 122) = True := eq_true (by omega)
                        have t4 : (65 ≤ c8) = True := eq_true (by omega)
                        have t5 : (c8 ≤ 90) = False := eq_false (by omega)
                        have q3 : ((j : Int) < (x.size : Int)) = True := eq_true (by omega)
                        have q4 : (j < x.size) = True := eq_true (by omega)
                        have HJ1 := Aside0.mk hjx
                        clear hr hr2 hbr8 HBAD HAL2 hd hjx hbad
                        go_wp2
                        go_ret2
                        exact ⟨_, rfl, Kd.R_nil _ _ _ _ _, HI3.out.2.2.2.2⟩
                      · have hok := HAL2 (by unfold impl_parsed.alnum; simp; omega)
                        have HOK := Aside0.mk hok
                        have t0 : (48 ≤ c8) = True := eq_true (by omega)
                        have t1 : (c8 ≤ 57) = False := eq_false (by omega)
                        have t2 : (97 ≤ c8) = True := eq_true (by omega)
                        have t3 : (c8 ≤ 122) = True := eq_true (by omega)
                        have t4 : (65 ≤ c8) = True := eq_true (by omega)
                        have t5 : (c8 ≤ 90) = False := eq_false (by omega)
                        have q3 : ((j : Int) < (x.size : Int)) = True := eq_true (by omega)
                        have q4 : (j < x.size) = True := eq_true (by omega)
                        have HJ1 := Aside0.mk hjx
                        clear hr hr2 hbr8 HBAD HAL2 hd hjx hok
                        go_wp2
                        go_roundg k1
                        case measure => omega
                        case rel => exact ⟨j + 1, by go_num, ⟨by have := HKJ.out; omega⟩, ⟨by have := HJ1.out; omega⟩, HOK, HR, HI3⟩
                      · have hbad := HBAD (by unfold impl_parsed.alnum; simp; omega)
                        have hO := HX.out
                        rw [hbad] at hO
                        simp only [Bool.false_eq_true, if_false, Option.some.injEq, Prod.mk.injEq] at hO
                        obtain ⟨rfl, rfl⟩ := hO
                        have t0 : (48 ≤ c8) = True := eq_true (by omega)
                        have t1 : (c8 ≤ 57) = False := eq_false (by omega)
                        have t2 : (97 ≤ c8) = True := eq_true (by omega)
                        have t3 : (c8 ≤ 122) = False := eq_false (by omega)
                        have t4 : (65 ≤ c8) = True := eq_true (by omega)
                        have t5 : (c8 ≤ 90) = False := eq_false (by omega)
                        have q3 : ((j : Int) < (x.size : Int)) = True := eq_true (by omega)
                        have q4 : (j < x.size) = True := eq_true (by omega)
                        have HJ1 := Aside0.mk hjx
                        clear hr hbr8 HBAD HAL2 hd hjx hbad
                        go_wp2
                        go_ret2
                        exact ⟨_, rfl, Kd.R_nil _ _ _ _ _, HI3.out.2.2.2.2⟩
                    · obtain rfl : j = x.size := by have := HJX.out; omega
                      have hO := HX.out
                      have hal := HAL.out
                      rw [List.take_of_length_le (by omega)] at hal
                      rw [hal] at hO
                      simp only [if_true] at hO
                      rw [if_neg (by omega)] at hO
                      have HO3 := Aside0.mk hO
                      have HNB : Aside0 (0 ≤ 1 + b ∧ 1 + b ≤ 4611686018427387904) := ⟨by omega⟩
                      clear hO hal hlb hn2 hn16 hlen
                      go_wp2
                      go_meet
                      case rel => exact ⟨1 + b, sp, by rfl, HNB, ⟨by have := HL.out; omega⟩, HI3, ⟨by have := HO3.out; rw [if_neg (show ¬ ((99 : Int) = 110) by decide)] at this; exact this⟩⟩
        exfalso
        have e1 : impl_parsed.n K c s p = none := by unfold impl_parsed.n; simp [h49, h50, h52, h103, h113, h110, h116, h42, h109, h84, h99]
        rw [e1] at hO
        cases hO
      case rest =>
        obtain ⟨n, sp', rfl, HN, HL', HIc, HOc⟩ := hcut
        have hb0 := cell_of_one HIc.out.1
        have hb1 := cell_of_one HIc.out.2.1
        have hfr := free_of_one HIc.out.2.1
        have hov : wrap64 ((p : Int) + n) = (p : Int) + n := by
          have := HN.out
          have := HQ.out
          have := HS.out
          unfold wrap64
          omega
        have hO := HOc.out
        by_cases hbig : (s.size : Int) < (p : Int) + n
        · rw [if_pos hbig] at hO
          simp only [Option.some.injEq, Prod.mk.injEq] at hO
          obtain ⟨rfl, rfl⟩ := hO
          have hd : decide ((s.size : Int) < (p : Int) + n) = true := decide_eq_true hbig
          go_wp2
          go_ret2
          exact ⟨_, rfl, Kd.R_nil _ _ _ _ _, HIc.out.2.2.2.2⟩
        · rw [if_neg hbig] at hO
          have hd : decide ((s.size : Int) < (p : Int) + n) = false := decide_eq_false hbig
          have HO3 := Aside0.mk hO
          clear hO HOc
          go_wp2
          go_roundg (form.size - pos)
          case measure => have := HK.out; omega
          case rel =>
            have hpn : ((p + n.toNat : Nat) : Int) = (p : Int) + n := by have := HN.out; omega
            refine ⟨pos + 1, p + n.toNat, sp', ⟨by omega⟩, ⟨by omega⟩, HL', ⟨by omega⟩, ⟨?_⟩, HO3⟩
            have := HIc.out.put (p + n.toNat)
            rw [hpn] at this
            exact this
    · have hend := PInv.end_ (P := Tryd.prog) HI.out hpf
      obtain rfl : pos = form.size := by have := HP.out; omega
      have hO := HO.out
      rw [List.drop_of_length_le (by simp), impl_parsed.go] at hO
      simp only [Option.some.injEq, Prod.mk.injEq] at hO
      obtain ⟨rfl, rfl⟩ := hO
      clear HO
      go_wp2
      go_region
      go_wp2
      go_ret2
      have hI := HI.out.drew
      exact ⟨_, rfl, Kd.R_mono hI.2.2.2.1 (fun _ _ => trivial), hI.2.2.2.2⟩
set_option maxHeartbeats 8000000 in
set_option maxRecDepth 100000 in
theorem impl_parsed.none_ (rt : Int) (s : ByteArray) (hf : formOf rt = none) (hwf : (Lit.int .i64 rt).wf = true) (w : World) (hG : Glob w) :
    Calls Tryd.prog 26 #[.int .i64 rt, .string s] w fun e w' => e = .returned (.tuple #[.slice none 0 0, .bool true]) ∧ Below w.heap.size w w' := by
  have hG1 := hG.alloc (.cells #[.string s] 9)
  obtain ⟨bm, og, om, g1, g2, g3, g4⟩ := hG1
  have hc0 := g3 _ g1
  have hlk := g4 _ rt g2 hwf
  rw [hf] at hlk
  simp only [Option.getD_none, Option.isSome_none] at hlk
  clear g1 g2 g3 g4 hf hwf
  go_enter Tryd.func26, Tryd.ntmps26
  go_wp2
  go_ret2
  exact ⟨rfl, below_alloc (Below.refl _ _) _⟩
theorem formOf_small {t : Int} {form : ByteArray} (h : formOf t = some form) : (∀ c ∈ form.data.toList, c.toNat < 128) ∧ form.size ≤ 100 := by
  unfold formOf at h
  by_cases c1 : t = 1
  · rw [if_pos c1] at h
    obtain rfl := Option.some.inj h
    decide
  rw [if_neg c1] at h
  by_cases c2 : t = 2
  · rw [if_pos c2] at h
    obtain rfl := Option.some.inj h
    decide
  rw [if_neg c2] at h
  by_cases c5 : t = 5
  · rw [if_pos c5] at h
    obtain rfl := Option.some.inj h
    decide
  rw [if_neg c5] at h
  by_cases c6 : t = 6
  · rw [if_pos c6] at h
    obtain rfl := Option.some.inj h
    decide
  rw [if_neg c6] at h
  by_cases c12 : t = 12
  · rw [if_pos c12] at h
    obtain rfl := Option.some.inj h
    decide
  rw [if_neg c12] at h
  by_cases c13 : t = 13
  · rw [if_pos c13] at h
    obtain rfl := Option.some.inj h
    decide
  rw [if_neg c13] at h
  by_cases c15 : t = 15
  · rw [if_pos c15] at h
    obtain rfl := Option.some.inj h
    decide
  rw [if_neg c15] at h
  by_cases c16 : t = 16
  · rw [if_pos c16] at h
    obtain rfl := Option.some.inj h
    decide
  rw [if_neg c16] at h
  by_cases c28 : t = 28
  · rw [if_pos c28] at h
    obtain rfl := Option.some.inj h
    decide
  rw [if_neg c28] at h
  by_cases c33 : t = 33
  · rw [if_pos c33] at h
    obtain rfl := Option.some.inj h
    decide
  rw [if_neg c33] at h
  by_cases c35 : t = 35
  · rw [if_pos c35] at h
    obtain rfl := Option.some.inj h
    decide
  rw [if_neg c35] at h
  by_cases c39 : t = 39
  · rw [if_pos c39] at h
    obtain rfl := Option.some.inj h
    decide
  rw [if_neg c39] at h
  by_cases c47 : t = 47
  · rw [if_pos c47] at h
    obtain rfl := Option.some.inj h
    decide
  rw [if_neg c47] at h
  by_cases c257 : t = 257
  · rw [if_pos c257] at h
    obtain rfl := Option.some.inj h
    decide
  rw [if_neg c257] at h
  cases h
theorem impl_parsed.calls (k : Nat) (a0 : Int) (a1 : ByteArray) (r1 : List S46) (r2 : Bool) (w : World) (h : impl_parsed.f k a0 a1 = some (r1, r2)) (hG : Glob w) :
    Calls Tryd.prog 26 #[.int .i64 a0, .string a1] w fun e w' => ∃ v0_ : Value, e = .returned (.tuple #[v0_, .bool r2]) ∧ Kd.R k46 46 w' w.heap.size (fun _ => True) v0_ r1 ∧ Below w.heap.size w w' := by
  unfold impl_parsed.f at h
  split at h
  case isTrue => cases h
  case isFalse hs =>
  split at h
  case isFalse => cases h
  case isTrue hwf =>
  split at h
  case h_1 hf =>
    cases h
    refine (impl_parsed.none_ a0 a1 hf hwf w hG).mono ?_
    rintro e w' ⟨rfl, hb⟩
    exact ⟨_, rfl, Kd.R_nil _ _ _ _ _, hb⟩
  case h_2 form hf => exact impl_parsed.some_ k a0 a1 form hf hwf (formOf_small hf).1 (formOf_small hf).2 (by omega) r1 r2 w hG h
theorem impl_parsed.n_mono (K : Nat) (c : Int) (s : ByteArray) (p : Nat) : LeO (impl_parsed.n K c s p) (impl_parsed.n (K + 1) c s p) := by
  unfold impl_parsed.n
  repeat' first
      | (with_reducible exact impl_nameAt.mono _ _)
      | (with_reducible exact impl_MapTypes.mono _ _)
      | (with_reducible exact LeO.refl _)
      | (with_reducible refine LeO.ite ?_ ?_)
      | (with_reducible refine LeO.bind ?_ (fun _ => ?_))
theorem impl_parsed.go_mono (K : Nat) (s : ByteArray) : ∀ (l : List UInt8) (p : Nat) (sp : List S46), LeO (impl_parsed.go K s l p sp) (impl_parsed.go (K + 1) s l p sp) := by
  intro l
  induction l with
  | nil => intro p sp; exact LeO.refl _
  | cons c r ih =>
    intro p sp
    rw [impl_parsed.go, impl_parsed.go]
    refine LeO.bind (impl_parsed.n_mono _ _ _ _) (fun o => ?_)
    cases o with
    | none => exact LeO.refl _
    | some n =>
      refine LeO.ite (LeO.refl _) (LeO.ite (LeO.refl _) (ih _ _))
theorem impl_parsed.mono : ∀ a0 a1 k, LeO (impl_parsed.f k a0 a1) (impl_parsed.f (k + 1) a0 a1) := by
  intro a0 a1 k
  unfold impl_parsed.f
  refine LeO.ite (LeO.refl _) (LeO.ite ?_ (LeO.refl _))
  cases formOf a0 with
  | none => exact LeO.refl _
  | some form => exact impl_parsed.go_mono _ _ _ _ _

end Go.Proofs.YtbaajohjglhpfaaDoor.F
namespace Go.Proofs.YtbaajohjglhpfaaDoor.F
open Go Go.Shelf Go.RowKit Go.Proofs.YtbaajohjglhpfaaDoorW.PrintWords Go.Proofs.YtbaajohjglhpfaaDoorW.PrintLast Go.Proofs.YtbaajohjglhpfaaDoorW.PrintMore
attribute [local go_sem] max2_int min2_int max_two min_two max_three min_three max_four min_four   -- for this text's walks alone
set_option linter.unusedVariables false
set_option linter.unusedSimpArgs false

/-! ### impl_CheckData: function 10 -/
def impl_CheckData.j0 : Nat → Int → ByteArray → Bool → Option (Int)
  | 0, _, _, _ => none
  | k + 1, x0, x1, x12 => if x12 = true then (some 6) else (if (x1.size : Int) > 65535 then (some 7) else ((impl_parsed.f k x0 x1).bind fun bt101 => (if bt101.2 = true then (some 0) else (some 7))))
def impl_CheckData.f (k : Nat) (a0 : Int) (a1 : ByteArray) : Option (Int) := if a0 < 0 then (impl_CheckData.j0 k a0 a1 true) else (impl_CheckData.j0 k a0 a1 (decide (a0 > 65535)))
theorem impl_CheckData.mono_l : ∀ k, (∀ y0 y1 y2, LeO (impl_CheckData.j0 k y0 y1 y2) (impl_CheckData.j0 (k + 1) y0 y1 y2))
  | 0 => fun _ _ _ r h => by simp [impl_CheckData.j0] at h
  | k + 1 => by
    have ih0 := impl_CheckData.mono_l k
    · intro y0 y1 y2
      unfold impl_CheckData.j0
      repeat' first
      | (with_reducible exact ih0 _ _ _)
      | (with_reducible exact impl_parsed.mono _ _ _)
      | (with_reducible exact LeO.refl _)
      | (with_reducible exact LeO.none _)
      | (with_reducible refine LeO.ite ?_ ?_)
      | (with_reducible refine LeO.bind ?_ (fun _ => ?_))
      | exact ih0 _ _ _
      | exact impl_parsed.mono _ _ _
      | exact LeO.none _
      | refine LeO.ite ?_ ?_
      | refine LeO.bind ?_ (fun _ => ?_)
theorem impl_CheckData.mono : ∀ a0 a1 k, LeO (impl_CheckData.f k a0 a1) (impl_CheckData.f (k + 1) a0 a1) := by
  intro a0 a1 k
  have ih0 := impl_CheckData.mono_l k
  unfold impl_CheckData.f
  repeat' first
      | (with_reducible exact ih0 _ _ _)
      | (with_reducible exact impl_parsed.mono _ _ _)
      | (with_reducible exact LeO.refl _)
      | (with_reducible exact LeO.none _)
      | (with_reducible refine LeO.ite ?_ ?_)
      | (with_reducible refine LeO.bind ?_ (fun _ => ?_))
      | exact ih0 _ _ _
      | exact impl_parsed.mono _ _ _
      | exact LeO.none _
      | refine LeO.ite ?_ ?_
      | refine LeO.bind ?_ (fun _ => ?_)
set_option maxHeartbeats 8000000 in
set_option maxRecDepth 100000 in
theorem impl_CheckData.calls (k : Nat) (a0 : Int) (a1 : ByteArray) (r : Int) (w : World) (h : impl_CheckData.f k a0 a1 = some r) (hG : Glob w) :
    Calls Tryd.prog 10 #[.int .i64 a0, .string a1] w fun e w' => e = .returned (.int .i64 r) ∧ Below w.heap.size w w' := by
  have HG := Aside0.mk hG
  clear hG
  have HB := Aside0.mk (Below.refl w.heap.size w)
  have H : (if a0 < 0 then (impl_CheckData.j0 k a0 a1 true) else (impl_CheckData.j0 k a0 a1 (decide (a0 > 65535)))) = some r := h
  clear h
  have HC3 := Aside0.mk H
  clear H
  go_enter Tryd.func10, Tryd.ntmps10
  go_upto_region 1 with (fail)
  go_cut [12] (fun v12 wc => ∃ (kq : Nat) (x12_2 : Bool), v12 = .bool x12_2 ∧ Aside0 (impl_CheckData.j0 kq a0 a1 x12_2 = some r) ∧ Aside0 (kq ≤ k) ∧ Aside0 (Below w.heap.size w wc))
  case first =>
    have H := HC3.out
    clear HC3
    by_cases c4 : a0 < 0
    · rw [if_pos c4] at H
      have c4b0 : decide (a0 < 0) = true := decide_eq_true c4
      clear c4
      (first | rw [c4b0] | (simp only [i64_w, i32_w]; rw [c4b0]) | skip)
      have H' := Aside0.mk H
      clear H
      go_wp2
      go_meet
      case rel => exact ⟨_, (true), (by first | rfl | (simp; done) | (simp [*]; done)), H', ⟨by first | omega | exact Nat.le_refl _⟩, ⟨by repeat (first | (with_reducible first | exact HB.out | apply below_alloc | apply pw_below_drewN | apply below_drew1) | exact HB.out)⟩⟩
    · rw [if_neg c4] at H
      have c4b0 : decide (a0 < 0) = false := decide_eq_false c4
      clear c4
      (first | rw [c4b0] | (simp only [i64_w, i32_w]; rw [c4b0]) | skip)
      have H' := Aside0.mk H
      clear H
      go_wp2
      go_meet
      case rel => exact ⟨_, (decide (a0 > 65535)), (by first | rfl | (simp; done) | (simp [*]; done)), H', ⟨by first | omega | exact Nat.le_refl _⟩, ⟨by repeat (first | (with_reducible first | exact HB.out | apply below_alloc | apply pw_below_drewN | apply below_drew1) | exact HB.out)⟩⟩
  case rest =>
    clear HC3
    try clear c1
    try clear p2
    try clear c4
    try clear c4b0
    obtain ⟨kq, x12_2, rfl, HA, HJ2, HB⟩ := hcut
    cases kq with
    | zero => exact absurd HA.out (by simp [impl_CheckData.j0])
    | succ kj2 =>
      have H := HA.out
      clear HA
      simp only [impl_CheckData.j0] at H
      by_cases c5 : x12_2 = true
      · subst c5
        have H1 : (some 6) = some r := by rw [if_pos rfl] at H; exact H
        clear H
        have H := H1
        clear H1
        obtain rfl := Option.some.inj H
        go_wp2
        go_ret
        exact ⟨by first | rfl | (simp [errW_none, errW_some] <;> rfl) | (simp [*, errW_none, errW_some] <;> rfl), by repeat (first | (with_reducible first | exact HB.out | apply below_alloc | apply pw_below_drewN | apply below_drew1) | exact HB.out)⟩
      · replace c5 := Bool.eq_false_iff.mpr c5
        subst c5
        have H1 : (if (a1.size : Int) > 65535 then (some 7) else ((impl_parsed.f kj2 a0 a1).bind fun bt101 => (if bt101.2 = true then (some 0) else (some 7)))) = some r := by rw [if_neg (show ¬ (false = true) by decide)] at H; exact H
        clear H
        have H := H1
        clear H1
        by_cases c6 : (a1.size : Int) > 65535
        · rw [if_pos c6] at H
          have c6b0 : decide (65535 < (a1.size : Int)) = true := decide_eq_true c6
          have c6b1 : decide (65535 < a1.size) = true := decide_eq_true (by omega)
          clear c6
          obtain rfl := Option.some.inj H
          go_wp2
          go_ret
          exact ⟨by first | rfl | (simp [errW_none, errW_some] <;> rfl) | (simp [*, errW_none, errW_some] <;> rfl), by repeat (first | (with_reducible first | exact HB.out | apply below_alloc | apply pw_below_drewN | apply below_drew1) | exact HB.out)⟩
        · rw [if_neg c6] at H
          have c6b0 : decide (65535 < (a1.size : Int)) = false := decide_eq_false c6
          have c6b1 : decide (65535 < a1.size) = false := decide_eq_false (by omega)
          clear c6
          replace H := Option.bind_eq_some_iff.mp H
          obtain ⟨⟨t101, t102⟩, A70, H⟩ := H
          replace H : (if t102 = true then (some 0) else (some 7)) = some r := H
          have A7 := Aside0.mk A70
          clear A70
          by_cases c8 : t102 = true
          · subst c8
            have H1 : (some 0) = some r := by rw [if_pos rfl] at H; exact H
            clear H
            have H := H1
            clear H1
            obtain rfl := Option.some.inj H
            go_wp2_with (first | ((with_reducible refine gate_callee (f := 26) rfl ?_); refine goesL_ (some 19) rfl rfl Tryd.func26 (by kernel_rfl) rfl #[.int .i64 a0, .string a1] rfl (by (try simp only [List.map_toArray, List.map_cons, List.map_nil]); first | done | rfl | (simp only [List.length_drop, List.length_take]; rfl)) ?_; (with_reducible refine (impl_parsed.calls kj2 a0 a1 t101 true _ A7.out (HG.out.below (by repeat (first | (with_reducible first | exact HB.out | apply below_alloc | apply pw_below_drewN | apply below_drew1) | exact HB.out)))).mono ?_); rintro e w9 ⟨v103, rfl, ho0, hb⟩; refine ⟨_, rfl, ?_⟩; have n0_ := Aside0.mk (Kd.R_lower ho0 (below_size (by repeat (first | (with_reducible first | exact HB.out | apply below_alloc | apply pw_below_drewN | apply below_drew1) | exact HB.out)))); have n1_ := Aside0.mk (below_step (by repeat (first | (with_reducible first | exact HB.out | apply below_alloc | apply pw_below_drewN | apply below_drew1) | exact HB.out)) hb); clear HB; have HO104 := n0_; have HB := n1_; clear n0_ n1_; (try clear hb); (try clear hb2); (try clear hk); (try clear hi); (try clear ho0)))
            go_ret
            exact ⟨by first | rfl | (simp [errW_none, errW_some] <;> rfl) | (simp [*, errW_none, errW_some] <;> rfl), by repeat (first | (with_reducible first | exact HB.out | apply below_alloc | apply pw_below_drewN | apply below_drew1) | exact HB.out)⟩
          · replace c8 := Bool.eq_false_iff.mpr c8
            subst c8
            have H1 : (some 7) = some r := by rw [if_neg (show ¬ (false = true) by decide)] at H; exact H
            clear H
            have H := H1
            clear H1
            obtain rfl := Option.some.inj H
            go_wp2_with (first | ((with_reducible refine gate_callee (f := 26) rfl ?_); refine goesL_ (some 19) rfl rfl Tryd.func26 (by kernel_rfl) rfl #[.int .i64 a0, .string a1] rfl (by (try simp only [List.map_toArray, List.map_cons, List.map_nil]); first | done | rfl | (simp only [List.length_drop, List.length_take]; rfl)) ?_; (with_reducible refine (impl_parsed.calls kj2 a0 a1 t101 false _ A7.out (HG.out.below (by repeat (first | (with_reducible first | exact HB.out | apply below_alloc | apply pw_below_drewN | apply below_drew1) | exact HB.out)))).mono ?_); rintro e w10 ⟨v103, rfl, ho0, hb⟩; refine ⟨_, rfl, ?_⟩; have n0_ := Aside0.mk (Kd.R_lower ho0 (below_size (by repeat (first | (with_reducible first | exact HB.out | apply below_alloc | apply pw_below_drewN | apply below_drew1) | exact HB.out)))); have n1_ := Aside0.mk (below_step (by repeat (first | (with_reducible first | exact HB.out | apply below_alloc | apply pw_below_drewN | apply below_drew1) | exact HB.out)) hb); clear HB; have HO104 := n0_; have HB := n1_; clear n0_ n1_; (try clear hb); (try clear hb2); (try clear hk); (try clear hi); (try clear ho0)))
            go_ret
            exact ⟨by first | rfl | (simp [errW_none, errW_some] <;> rfl) | (simp [*, errW_none, errW_some] <;> rfl), by repeat (first | (with_reducible first | exact HB.out | apply below_alloc | apply pw_below_drewN | apply below_drew1) | exact HB.out)⟩

end Go.Proofs.YtbaajohjglhpfaaDoor.F
namespace Go.Proofs.YtbaajohjglhpfaaDoor.F
open Go Go.Shelf Go.RowKit Go.Proofs.YtbaajohjglhpfaaDoorW.PrintWords Go.Proofs.YtbaajohjglhpfaaDoorW.PrintLast Go.Proofs.YtbaajohjglhpfaaDoorW.PrintMore
attribute [local go_sem] max2_int min2_int max_two min_two max_three min_three max_four min_four   -- for this text's walks alone
set_option linter.unusedVariables false
set_option linter.unusedSimpArgs false

/-! ### stands 5 -/
-- stands: binary.BigEndian.PutUint32 into four cells (the shelf's contract, laid)
def put32_ren : Go.Shelf.Ren := ⟨fun | 40 => 44 | n => n, fun | 0 => 0 | 5 => 5 | 22 => 49 | 29 => 60 | 37 => 62 | 45 => 64 | n => n, fun n => n⟩
theorem put32_lays : Go.Proofs.LaysBin.n40 Tryd.prog put32_ren := {
  mixed := by kernel_rfl
  f40 := Tryd.func44.trans (congrArg some (by kernel_rfl))
  t0 := Tryd.underlying0
  a0 := Tryd.isAgg0
  z0 := Tryd.sizeOf0
  v0 := Tryd.zeroValue0
  i0 := by kernel_rfl
  t5 := Tryd.underlying5
  a5 := Tryd.isAgg5
  z5 := Tryd.sizeOf5
  v5 := Tryd.zeroValue5
  i5 := by kernel_rfl
  t22 := Tryd.underlying49
  a22 := Tryd.isAgg49
  z22 := Tryd.sizeOf49
  v22 := Tryd.zeroValue49
  i22 := by kernel_rfl
  t29 := Tryd.underlying60
  a29 := Tryd.isAgg60
  z29 := Tryd.sizeOf60
  v29 := Tryd.zeroValue60
  i29 := by kernel_rfl
  t37 := Tryd.underlying62
  a37 := Tryd.isAgg62
  z37 := Tryd.sizeOf62
  v37 := Tryd.zeroValue62
  i37 := by kernel_rfl
  t45 := Tryd.underlying64
  a45 := Tryd.isAgg64
  z45 := Tryd.sizeOf64
  v45 := Tryd.zeroValue64
  i45 := by kernel_rfl }
theorem xPut32.calls (g c : Nat) (v : Int) (h0 : 0 ≤ v) (h1 : v < 4294967296) (x0 x1 x2 x3 : Value) (w : World)
    (c0 : w.cell? ⟨g, 0, none⟩ = some x0) (c1 : w.cell? ⟨g, 1, none⟩ = some x1) (c2 : w.cell? ⟨g, 2, none⟩ = some x2) (c3 : w.cell? ⟨g, 3, none⟩ = some x3)
    (f0 : w.frozen? ⟨g, 0, none⟩ = false) (f1 : w.frozen? ⟨g, 1, none⟩ = false) (f2 : w.frozen? ⟨g, 2, none⟩ = false) (f3 : w.frozen? ⟨g, 3, none⟩ = false) (hg : g < w.heap.size) :
    Calls Tryd.prog 44 #[.agg #[], .slice (some ⟨g, 0, none⟩) 4 c, .int .u32 v] w fun e w' => e = .returned (.tuple #[]) ∧ ReadsInt w' .u8 (some ⟨g, 0, none⟩) 4 [v / 16777216, v / 65536 % 256, v / 256 % 256, v % 256] ∧ Below g w w' := by
  obtain ⟨v, rfl⟩ := Int.eq_ofNat_of_zero_le h0
  refine (Any.binary_BE_PutUint32 put32_lays g 0 4 c v (by omega) x0 x1 x2 x3 w (by decide) c0 c1 c2 c3 f0 f1 f2 f3).mono ?_
  rintro e w' ⟨rfl, rfl⟩
  have d0 := cell?_alloc_old (.cells #[] (put32_ren.t 37)) c0
  have d1 := cell?_alloc_old (.cells #[] (put32_ren.t 37)) c1
  have d2 := cell?_alloc_old (.cells #[] (put32_ren.t 37)) c2
  have d3 := cell?_alloc_old (.cells #[] (put32_ren.t 37)) c3
  have e0 : ((v % 256 : Nat) : Int) = (v : Int) % 256 := by omega
  have e1 : ((v / 256 % 256 : Nat) : Int) = (v : Int) / 256 % 256 := by omega
  have e2 : ((v / 256 / 256 % 256 : Nat) : Int) = (v : Int) / 65536 % 256 := by omega
  have e3 : ((v / 256 / 256 / 256 % 256 : Nat) : Int) = (v : Int) / 16777216 := by omega
  have hb : Lib.byteCells (Lib.beBytes 4 v) = [Value.int .u8 ((v : Int) / 16777216), Value.int .u8 ((v : Int) / 65536 % 256), Value.int .u8 ((v : Int) / 256 % 256), Value.int .u8 ((v : Int) % 256)] := by
    simp only [Lib.byteCells, Lib.beBytes, Lib.leBytes, List.reverse_cons, List.reverse_nil, List.nil_append, List.cons_append, List.map, Lib.toUInt8_mod, e0, e1, e2, e3]
  rw [hb]
  have hin := World.cell?_setCells_in g [Value.int .u8 ((v : Int) / 16777216), Value.int .u8 ((v : Int) / 65536 % 256), Value.int .u8 ((v : Int) / 256 % 256), Value.int .u8 ((v : Int) % 256)] 0 (w.alloc (.cells #[] (put32_ren.t 37))) (by
    intro j hj
    simp only [List.length_cons, List.length_nil] at hj
    rcases (show j = 0 ∨ j = 1 ∨ j = 2 ∨ j = 3 by omega) with rfl | rfl | rfl | rfl
    · rw [Nat.zero_add, d0]; rfl
    · rw [Nat.zero_add, d1]; rfl
    · rw [Nat.zero_add, d2]; rfl
    · rw [Nat.zero_add, d3]; rfl)
  refine ⟨rfl, ⟨rfl, by decide, fun _ => ⟨_, rfl, fun j hj => ?_⟩⟩, below_setCells (Nat.le_refl _) _ _ _ ((below_alloc (Below.refl w.heap.size w) _).mono (by omega))⟩
  rw [add_plain, ← Nat.zero_add j]
  rw [hin j hj]
  rcases (show j = 0 ∨ j = 1 ∨ j = 2 ∨ j = 3 by omega) with rfl | rfl | rfl | rfl <;> rfl

end Go.Proofs.YtbaajohjglhpfaaDoor.F
