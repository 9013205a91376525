/- Part 1 of 1 of the proof of FnExactShowV6: what each Go function on its way computes, that the Go code does just this, and what the law says of it. No condition beyond the statement's own. -/
import Derived.Test.YtgemnnamhoekjaaDoorRows
import Derived.HandedShaped
import Derived.Shelf.Vars
import Derived.WalkKit
import Derived.ProofKit
import Derived.LaidMore
import Derived.Lay
import Derived.OpenShut
import Derived.Stop.Joined
import Derived.Test.YtgemnnamhoekjaaDoorWWords
import Derived.Test.YtgemnnamhoekjaaDoorWLast
import Derived.Test.YtgemnnamhoekjaaDoorWMore
import Derived.Test.YtgemnnamhoekjaaDoorProg
import Derived.Below
import Derived.Deep.Draws
import Derived.Deep.AppendLies
import Derived.Maps.AppendAt
import Derived.OwnWalk
import Derived.Laws.BytesArg
import Derived.Laws.MakeOwn
import Derived.Laws.OwnMore
import Derived.Deep.OwnRows
import Derived.Tactics
import Derived.Lib.ConvBytes
import Derived.Laws.Slices
import Derived.KernelRfl
import Derived.RowKit3
import Derived.Deep.LoopGhost
import Derived.Deep.QuietTactic
import Derived.BigQuiet
import Derived.WideLaws
import Derived.Deep.DeepCutAuto
import Derived.Deep.CutBlock
import Derived.Deep.RegionHeld3
import Derived.Laws.Rows
import Derived.Lib.AppendStr
import Derived.ArgAppend
import Derived.Laws.IdiomCopy
import Derived.OrdersHeld
import Derived.Laws.BitsLemmas
import Derived.RowKit
import Derived.Lib.Builder
import Derived.Lib.UnsafeStr
import Derived.Laws.Externs
import Derived.Lib.Walk
import Derived.Shelf.Strings.Builder1
import Derived.Shelf.Small.Strs
import Derived.RegionTactic
import Derived.BigRegion
import Derived.ChangeAlike
import Derived.Test.YtgemnnamhoekjaaDoorWTab
import Derived.Test.YtgemnnamhoekjaaDoorWFour
import Derived.Test.YtgemnnamhoekjaaDoorWQPut
import Derived.Test.YtgemnnamhoekjaaDoorWApart
import Derived.Test.YtgemnnamhoekjaaDoorWArr
import Derived.Test.YtgemnnamhoekjaaDoorWZeros
import Derived.Test.YtgemnnamhoekjaaDoorWFoot
import Derived.Test.YtgemnnamhoekjaaDoorWKept
import Derived.Test.YtgemnnamhoekjaaDoorWShare
import Derived.Test.YtgemnnamhoekjaaDoorWN
import Derived.Test.YtgemnnamhoekjaaDoorWFootNe
import Derived.Test.YtgemnnamhoekjaaDoorWAt
import Derived.Test.YtgemnnamhoekjaaDoorWEqStruct
import Derived.Test.YtgemnnamhoekjaaDoorWRepsOne
import Derived.Test.YtgemnnamhoekjaaDoorWInv
import Derived.Test.YtgemnnamhoekjaaDoorWInvWords
import Derived.Test.YtgemnnamhoekjaaDoorWGuard
import Derived.Test.YtgemnnamhoekjaaDoorWNEv
import Derived.Laws.Tables
import Derived.Shelf.Spec.TrailingZeros
import Derived.Shelf.Strings.OnBuilder
import Derived.Lib.Bytes
import Derived.Lib.Bytealg
import Derived.Test.YtgemnnamhoekjaaDoorTie
import Derived.Test.YtgemnnamhoekjaaDoorCards
import Derived.OpenVars
import Derived.ShutString
import Derived.ChangeOld
import Derived.SizedLaws
namespace Go.Proofs.YtgemnnamhoekjaaDoor.XShape
open Go Go.RowKit Go.ChangeShapes Go.WideShapes Go.ChangeAt
theorem shaped_and {H : Type} {enc : TypeId × Value → H} {a : Assume} {C : Checked} {os : Os} {f : FuncId} {fn : Func} {s : ChangeSpec} {conds : List PathCond} {apart fresh handsOn again : Bool} {X : World → Array Value → Prop}
    (hX : ∀ (w w' : World) (args : Array Value), w.heap = w'.heap → X w args → X w' args)
    (own : ownKnob C.prog.godebug = none) (started : os.Started) (noInit : C.prog.inits.idxOf? f = none) (hfn : C.prog.funcs[f]? = some fn)
    (witness : ∃ (w : World) (tape : Tape) (i : Input), w.os = os ∧ (w.forCall tape i).Shaped C.prog ∧ i.vars = [] ∧ Input.okWide C.prog (w.forCall tape i) .any w.heap.size f i ∧
      ((s.pre enc C.prog fn conds apart (w.forCall tape i).memory i.args ∧ X (w.forCall tape i).memory i.args) ∧ sizedMet enc C.prog fn (OpenSpec.ofChange s) apart (w.forCall tape i).memory i.args) ∧ a.holds C.prog (lone (Frame.enter C.prog f i.args .normal) [] (w.forCall tape i)))
    (contract : ∀ (W : World) (base : Nat) (args : Array Value) (ds gs : List (DataW H)) (before : List MemPlace),
      (∀ (j : Nat) t v, fn.params[j]? = some t → args[j]? = some v → Value.okWide C.prog W .any base t v) →
      DataW.Whole enc C.prog fn.params.toList s.vars apart W args.toList ds gs before →
      conds.all (PathCond.test C.prog ⟨fn.params.toList, ds, s.plain.varTypes C.prog, gs⟩) = true →
      (DataW.weightsEach C.prog (fn.params.toList ++ s.plain.varTypes C.prog) (ds ++ gs)).all (· ≤ reachBytes) = true → W.ShapedOpen C.prog → X W args →
      a.holds C.prog (lone (Frame.enter C.prog f args .normal) [] W) →
      Calls C.prog f args W fun e W' => ∃ v, e = .returned v ∧ s.post enc C.prog fn apart fresh handsOn again W args v W') :
    ReturnsInHanded a C os f .any (fun w args => (s.pre enc C.prog fn conds apart w args ∧ X w args) ∧ sizedMet enc C.prog fn (OpenSpec.ofChange s) apart w args) (s.post enc C.prog fn apart fresh handsOn again) := by
  refine returnsInHanded_of_calls own started noInit witness ?_
  intro w tape i _ hsh _ hok hpre hholds
  obtain ⟨_, _, _, fn', hfn', _, _, _, _, hval⟩ := hok
  have e : fn' = fn := Option.some.inj (hfn'.symm.trans hfn)
  subst e
  obtain ⟨⟨⟨ds, gs, before, hw, hc⟩, hx⟩, hz⟩ := hpre
  have hw' := DataW.Whole.of_heap (w' := w.forCall tape i) (by rfl) hw
  refine (contract (w.forCall tape i) w.heap.size i.args ds gs before hval hw' hc (hz.weights hw) hsh (hX _ _ _ (by rfl) hx) hholds).mono fun e W' ⟨v, he, hp⟩ => ?_
  subst he
  exact ChangeSpec.post_blind hp
end Go.Proofs.YtgemnnamhoekjaaDoor.XShape
namespace Go.Proofs.YtgemnnamhoekjaaDoorW.XConv
open Go Go.RowKit Go.Proofs.YtgemnnamhoekjaaDoorW.PrintWords Go.Proofs.YtgemnnamhoekjaaDoorW.PrintMore

def Row8 (w : World) (g : Nat) (e : TypeId) (xs : List Int) : Prop :=
  ∃ (cur : Array Value) (fr : Nat × Nat), w.heap[g]? = some (.cells cur e fr) ∧ xs.length ≤ cur.size ∧ xs.length ≤ fr.1 ∧ ∀ j, j < xs.length → cur[j]? = some (.int .u8 (xs.getD j 0))
variable {w : World} {g : Nat} {e : TypeId} {xs : List Int}
theorem Row8.cell (h : Row8 w g e xs) (j : Nat) (hj : j < xs.length) : w.cell? ⟨g, j, none⟩ = some (.int .u8 (xs.getD j 0)) := by
  obtain ⟨cur, fr, hb, _, _, hc⟩ := h
  exact (cell_of_row w g j cur e fr hb).trans (hc j hj)
theorem Row8.frozen (h : Row8 w g e xs) (j : Nat) (hj : j < xs.length) : w.frozen? ⟨g, j, none⟩ = false := by
  obtain ⟨cur, fr, hb, _, hf, _⟩ := h
  simp only [World.frozen?, hb]
  have : ¬ (fr.1 ≤ j) := by omega
  simp [this]
theorem Row8.set (h : Row8 w g e xs) (j : Nat) (v : Int) : Row8 (w.setCell ⟨g, j, none⟩ (.int .u8 v)) g e (xs.set j v) := by
  obtain ⟨cur, fr, hb, hs, hf, hc⟩ := h
  refine ⟨cur.setIfInBounds j (.int .u8 v), fr, ?_, by simpa using hs, by simpa using hf, ?_⟩
  · have hlt : g < w.heap.size := (Array.getElem?_eq_some_iff.1 hb).1
    simp [World.setCell, Array.getElem?_modify, hb]
  · intro i hi
    rw [List.length_set] at hi
    rw [Array.getElem?_setIfInBounds]
    by_cases hij : j = i
    · subst hij
      rw [if_pos rfl, if_pos (by omega)]
      simp [List.getD_eq_getElem?_getD, hi]
    · rw [if_neg hij, hc i hi]
      simp [List.getD_eq_getElem?_getD, hij]
theorem Row8.conv (w : World) (e : TypeId) (s : ByteArray) : Row8 (Lib.bytesWorld w e s) w.heap.size e (bytesOf s) := by
  refine ⟨_, _, Lib.bytesWorld_at_new w e s, ?_, ?_, ?_⟩
  · rw [bytesOf_length]; simp [Lib.bytesCells]
  · rw [bytesOf_length]; simp [Lib.bytesCells]
  · intro j hj
    have h1 := Lib.bytesWorld_cell w e s j (by rw [bytesOf_length] at hj; exact hj)
    have h2 := cell_of_row (Lib.bytesWorld w e s) w.heap.size j _ e _ (Lib.bytesWorld_at_new w e s)
    rw [← h2, h1]
    rw [bytesOf_length] at hj
    have hj2 : j < s.data.toList.length := by rw [← data_length] at hj; exact hj
    have hj3 : (bytesOf s).getD j 0 = ((s.data.toList.getD j 0).toNat : Int) := by
      simp only [bytesOf, List.getD_eq_getElem?_getD, List.getElem?_map, List.getElem?_eq_getElem hj2]
      rfl
    rw [hj3]
theorem Row8.lt (h : Row8 w g e xs) : g < w.heap.size := by
  obtain ⟨cur, fr, hb, _⟩ := h
  exact (Array.getElem?_eq_some_iff.1 hb).1
theorem Row8.keep {W : World} (h : Row8 w g e xs) (hb : W.heap[g]? = w.heap[g]?) : Row8 W g e xs := by
  obtain ⟨cur, fr, h1, h2⟩ := h
  exact ⟨cur, fr, hb.trans h1, h2⟩
theorem Row8.drewN (h : Row8 w g e xs) (n : Nat) : Row8 (w.drewN n) g e xs := h.keep rfl
theorem Row8.drew (h : Row8 w g e xs) : Row8 w.drew g e xs := h.keep rfl
theorem Row8.below {W : World} (h : Row8 w g e xs) (hb : Below w.heap.size w W) : Row8 W g e xs := h.keep (hb.block g h.lt)
theorem Row8.reads (h : Row8 w g e xs) (hm : xs.length ≤ 9223372036854775807) {n : Nat} (hn : n = xs.length) : ReadsInt w .u8 (some ⟨g, 0, none⟩) n xs := by
  subst hn
  refine ⟨rfl, hm, fun _ => ⟨_, rfl, fun j hj => ?_⟩⟩
  rw [add_plain]
  exact h.cell j hj
end Go.Proofs.YtgemnnamhoekjaaDoorW.XConv
namespace Go.Proofs.YtgemnnamhoekjaaDoor.F
open Go Go.Shelf Go.RowKit Go.Proofs.YtgemnnamhoekjaaDoorW.PrintWords Go.Proofs.YtgemnnamhoekjaaDoorW.PrintLast Go.Proofs.YtgemnnamhoekjaaDoorW.PrintMore
attribute [local go_sem] max2_int min2_int max_two min_two max_three min_three max_four min_four   -- for this text's walks alone
set_option linter.unusedVariables false
set_option linter.unusedSimpArgs false



def errW : Option Int → Value
  | none => .nilIface
  | some c => .iface 0 (.int .i64 c)
theorem errW_none : errW none = .nilIface := rfl
theorem errW_some (c : Int) : errW (some c) = .iface 0 (.int .i64 c) := rfl

theorem info5 : (Tryd.prog.info? 5).map (fun i => (i.zero, i.size, i.bytes)) = some (some (.int .u8 0), 1, 1) := by kernel_rfl
-- the values' own types

end Go.Proofs.YtgemnnamhoekjaaDoor.F
namespace Go.Proofs.YtgemnnamhoekjaaDoor.F
open Go Go.Shelf Go.RowKit Go.Proofs.YtgemnnamhoekjaaDoorW.PrintWords Go.Proofs.YtgemnnamhoekjaaDoorW.PrintLast Go.Proofs.YtgemnnamhoekjaaDoorW.PrintMore
attribute [local go_sem] max2_int min2_int max_two min_two max_three min_three max_four min_four   -- for this text's walks alone
set_option linter.unusedVariables false
set_option linter.unusedSimpArgs false

/-! ### spec_l03HexOf: function 11 -/
def spec_l03HexOf.f : Nat → Int → Option (ByteArray)
  | 0, _ => none
  | k + 1, a0 => if a0 < 16 then (if 0 ≤ a0 then (if a0 ≤ (wrap64 (a0 + 1)) then (if (wrap64 (a0 + 1)) ≤ 16 then (some ((⟨#[48, 49, 50, 51, 52, 53, 54, 55, 56, 57, 97, 98, 99, 100, 101, 102]⟩ : ByteArray).extract (a0 : Int).toNat ((wrap64 (a0 + 1)) : Int).toNat)) else (none)) else (none)) else (none)) else ((spec_l03HexOf.f k (wrap64 (Int.tdiv a0 16))).bind fun t101 => (if 0 ≤ (Int.tmod a0 16) then (if (Int.tmod a0 16) ≤ (wrap64 ((Int.tmod a0 16) + 1)) then (if (wrap64 ((Int.tmod a0 16) + 1)) ≤ 16 then (if t101.size + ((⟨#[48, 49, 50, 51, 52, 53, 54, 55, 56, 57, 97, 98, 99, 100, 101, 102]⟩ : ByteArray).extract ((Int.tmod a0 16) : Int).toNat ((wrap64 ((Int.tmod a0 16) + 1)) : Int).toNat).size ≤ 9223372036854775807 then (some (t101 ++ ((⟨#[48, 49, 50, 51, 52, 53, 54, 55, 56, 57, 97, 98, 99, 100, 101, 102]⟩ : ByteArray).extract ((Int.tmod a0 16) : Int).toNat ((wrap64 ((Int.tmod a0 16) + 1)) : Int).toNat))) else (none)) else (none)) else (none)) else (none)))
theorem spec_l03HexOf.mono_l : ∀ k, (∀ y0, LeO (spec_l03HexOf.f k y0) (spec_l03HexOf.f (k + 1) y0))
  | 0 => fun _ r h => by simp [spec_l03HexOf.f] at h
  | k + 1 => by
    have ih0 := spec_l03HexOf.mono_l k
    · intro y0
      unfold spec_l03HexOf.f
      repeat' first
      | (with_reducible exact ih0 _)
      | (with_reducible exact LeO.refl _)
      | (with_reducible exact LeO.none _)
      | (with_reducible refine LeO.ite ?_ ?_)
      | (with_reducible refine LeO.bind ?_ (fun _ => ?_))
      | exact ih0 _
      | exact LeO.none _
      | refine LeO.ite ?_ ?_
      | refine LeO.bind ?_ (fun _ => ?_)
theorem spec_l03HexOf.mono : ∀ a0 k, LeO (spec_l03HexOf.f k a0) (spec_l03HexOf.f (k + 1) a0) := by
  intro a0 k
  have ih0 := spec_l03HexOf.mono_l k
  exact ih0 a0
def spec_l03HexOf.T4 : Bool × List (List Nat × List Nat) := (true, [([], []), ([0], [0]), ([1], [1]), ([], []), ([], []), ([4], [4]), ([], []), ([6], [6]), ([7], [7]), ([3, 5, 8], [3, 5, 8]), ([2, 9], [2, 9]), ([10, 2, 0, 1, 2, 3, 4, 5, 6, 7, 8, 9, 10], [10])])
def spec_l03HexOf.B4 : List Nat := [0, 1, 3, 0, 0, 16, 0, 64, 192, 504, 1023, 2047]
theorem spec_l03HexOf.tab4 : rtab .any (opsOf Tryd.f11 4) = spec_l03HexOf.T4 := by kernel_rfl
theorem spec_l03HexOf.bits4 : waitsOk spec_l03HexOf.T4.2 spec_l03HexOf.B4 = true := by kernel_rfl
set_option maxHeartbeats 8000000 in
set_option maxRecDepth 100000 in
theorem spec_l03HexOf.calls (k : Nat) : ∀ (a0 : Int) (r : ByteArray) (w : World) (h : spec_l03HexOf.f k a0 = some r),
    Calls Tryd.prog 11 #[.int .i64 a0] w fun e w' => e = .returned (.string r) ∧ Below w.heap.size w w' := by
  induction k using Nat.strongRecOn with
  | _ k ih =>
  intro a0 r w h
  cases k with
  | zero => exact absurd h (by simp [spec_l03HexOf.f])
  | succ k =>
  simp only [spec_l03HexOf.f] at h
  have HB := Aside0.mk (Below.refl w.heap.size w)
  have H : (if a0 < 16 then (if 0 ≤ a0 then (if a0 ≤ (wrap64 (a0 + 1)) then (if (wrap64 (a0 + 1)) ≤ 16 then (some ((⟨#[48, 49, 50, 51, 52, 53, 54, 55, 56, 57, 97, 98, 99, 100, 101, 102]⟩ : ByteArray).extract (a0 : Int).toNat ((wrap64 (a0 + 1)) : Int).toNat)) else (none)) else (none)) else (none)) else ((spec_l03HexOf.f k (wrap64 (Int.tdiv a0 16))).bind fun t101 => (if 0 ≤ (Int.tmod a0 16) then (if (Int.tmod a0 16) ≤ (wrap64 ((Int.tmod a0 16) + 1)) then (if (wrap64 ((Int.tmod a0 16) + 1)) ≤ 16 then (if t101.size + ((⟨#[48, 49, 50, 51, 52, 53, 54, 55, 56, 57, 97, 98, 99, 100, 101, 102]⟩ : ByteArray).extract ((Int.tmod a0 16) : Int).toNat ((wrap64 ((Int.tmod a0 16) + 1)) : Int).toNat).size ≤ 9223372036854775807 then (some (t101 ++ ((⟨#[48, 49, 50, 51, 52, 53, 54, 55, 56, 57, 97, 98, 99, 100, 101, 102]⟩ : ByteArray).extract ((Int.tmod a0 16) : Int).toNat ((wrap64 ((Int.tmod a0 16) + 1)) : Int).toNat))) else (none)) else (none)) else (none)) else (none)))) = some r := h
  clear h
  by_cases c2 : a0 < 16
  · rw [if_pos c2] at H
    have c2b0 : decide (a0 < 16) = true := decide_eq_true c2
    clear c2
    by_cases c3 : 0 ≤ a0
    · rw [if_pos c3] at H
      have c3b0 := eq_true c3
      have c3b1 : decide (0 ≤ a0) = true := decide_eq_true c3
      clear c3
      by_cases c4 : a0 ≤ (wrap64 (a0 + 1))
      · rw [if_pos c4] at H
        have c4b0 := eq_true c4
        have c4b1 : decide (a0 ≤ (wrap64 (a0 + 1))) = true := decide_eq_true c4
        by_cases c5 : (wrap64 (a0 + 1)) ≤ 16
        · rw [if_pos c5] at H
          have c5b0 := eq_true c5
          have c5b1 : decide ((wrap64 (a0 + 1)) ≤ 16) = true := decide_eq_true c5
          obtain rfl := Option.some.inj H
          go_enter Tryd.func11, Tryd.ntmps11
          go_wp2
          go_ret
          exact ⟨by first | rfl | (simp [errW_none, errW_some] <;> rfl) | (simp [*, errW_none, errW_some] <;> rfl), by repeat (first | (with_reducible first | exact HB.out | apply below_alloc | apply pw_below_drewN | apply below_drew1) | exact HB.out)⟩
        · rw [if_neg c5] at H
          exact absurd H (by simp)
      · rw [if_neg c4] at H
        exact absurd H (by simp)
    · rw [if_neg c3] at H
      exact absurd H (by simp)
  · rw [if_neg c2] at H
    have c2b0 : decide (a0 < 16) = false := decide_eq_false c2
    clear c2
    replace H := Option.bind_eq_some_iff.mp H
    obtain ⟨t101, A60, H⟩ := H
    replace H : (if 0 ≤ (Int.tmod a0 16) then (if (Int.tmod a0 16) ≤ (wrap64 ((Int.tmod a0 16) + 1)) then (if (wrap64 ((Int.tmod a0 16) + 1)) ≤ 16 then (if t101.size + ((⟨#[48, 49, 50, 51, 52, 53, 54, 55, 56, 57, 97, 98, 99, 100, 101, 102]⟩ : ByteArray).extract ((Int.tmod a0 16) : Int).toNat ((wrap64 ((Int.tmod a0 16) + 1)) : Int).toNat).size ≤ 9223372036854775807 then (some (t101 ++ ((⟨#[48, 49, 50, 51, 52, 53, 54, 55, 56, 57, 97, 98, 99, 100, 101, 102]⟩ : ByteArray).extract ((Int.tmod a0 16) : Int).toNat ((wrap64 ((Int.tmod a0 16) + 1)) : Int).toNat))) else (none)) else (none)) else (none)) else (none)) = some r := H
    have A6 := Aside0.mk A60
    clear A60
    obtain ⟨ji7, hji7⟩ : ∃ j_ : Int, (Int.tmod a0 16) = j_ := ⟨_, rfl⟩
    replace H : (if 0 ≤ (ji7) then (if (ji7) ≤ (wrap64 ((ji7) + 1)) then (if (wrap64 ((ji7) + 1)) ≤ 16 then (if t101.size + ((⟨#[48, 49, 50, 51, 52, 53, 54, 55, 56, 57, 97, 98, 99, 100, 101, 102]⟩ : ByteArray).extract ((ji7) : Int).toNat ((wrap64 ((ji7) + 1)) : Int).toNat).size ≤ 9223372036854775807 then (some (t101 ++ ((⟨#[48, 49, 50, 51, 52, 53, 54, 55, 56, 57, 97, 98, 99, 100, 101, 102]⟩ : ByteArray).extract ((ji7) : Int).toNat ((wrap64 ((ji7) + 1)) : Int).toNat))) else (none)) else (none)) else (none)) else (none)) = some r := by first | (rw [hji7] at H; exact H) | (simp only [hji7] at H ⊢; exact H)
    (try rw [hji7] at A6)
    by_cases c8 : 0 ≤ (ji7)
    · rw [if_pos c8] at H
      have c8b0 := eq_true c8
      have c8b1 : decide (0 ≤ (ji7)) = true := decide_eq_true c8
      clear c8
      by_cases c9 : (ji7) ≤ (wrap64 ((ji7) + 1))
      · rw [if_pos c9] at H
        have c9b0 := eq_true c9
        have c9b1 : decide ((ji7) ≤ (wrap64 ((ji7) + 1))) = true := decide_eq_true c9
        by_cases c10 : (wrap64 ((ji7) + 1)) ≤ 16
        · rw [if_pos c10] at H
          have c10b0 := eq_true c10
          have c10b1 : decide ((wrap64 ((ji7) + 1)) ≤ 16) = true := decide_eq_true c10
          by_cases c11 : t101.size + ((⟨#[48, 49, 50, 51, 52, 53, 54, 55, 56, 57, 97, 98, 99, 100, 101, 102]⟩ : ByteArray).extract ((ji7) : Int).toNat ((wrap64 ((ji7) + 1)) : Int).toNat).size ≤ 9223372036854775807
          · rw [if_pos c11] at H
            have c11b0 := eq_true c11
            have c11b1 : decide (t101.size + ((⟨#[48, 49, 50, 51, 52, 53, 54, 55, 56, 57, 97, 98, 99, 100, 101, 102]⟩ : ByteArray).extract ((ji7) : Int).toNat ((wrap64 ((ji7) + 1)) : Int).toNat).size ≤ 9223372036854775807) = true := decide_eq_true c11
            try have c11b2 : (9223372036854775807 < t101.size + ((⟨#[48, 49, 50, 51, 52, 53, 54, 55, 56, 57, 97, 98, 99, 100, 101, 102]⟩ : ByteArray).extract ((ji7) : Int).toNat ((wrap64 ((ji7) + 1)) : Int).toNat).size) = False := eq_false (Nat.not_lt.2 c11)
            have c11b3 : (9223372036854775807 < t101.size + ((wrap64 (ji7 + 1)).toNat - ji7.toNat)) = False := eq_false (by have h1_ := c10; have h2_ := c11; rw [ByteArray.size_extract, show (⟨#[48, 49, 50, 51, 52, 53, 54, 55, 56, 57, 97, 98, 99, 100, 101, 102]⟩ : ByteArray).size = 16 from rfl] at h2_; omega)
            obtain rfl := Option.some.inj H
            go_enter Tryd.func11, Tryd.ntmps11
            try go_wp2
            have n0_ := Aside0.mk (below_drew1 HB.out)
            clear HB
            have HB := n0_
            clear n0_
            refine start_ (n := 12) (S := fun w' => True) (ds := []) #[false, false, false, false, false, false, false, false, false, false, false, false] (by kernel_rfl) rfl rfl trivial (fun hHeld => ?_); refine with_tabW spec_l03HexOf.tab4 spec_l03HexOf.bits4 (fun HT_ HW_ => ?_)
            generalize w.drew = w12 at HB hHeld ⊢
            refine pure_ (i := 0) (N := some 11) (v := ?_) (a' := ?_) #[true, false, false, false, false, false, false, false, false, false, false, false] rfl rfl (any_of HT_.out (by kernel_rfl)) (fun _ _ _ h => h) (Or.inl ⟨by rfl, ?_⟩) ?_ ?_
            rotate_left
            · intro w'
              go_simp
              with_reducible rfl
            rotate_left
            · simp only [Act.put, List.setIfInBounds_toArray, List.set_cons_zero, List.set_cons_succ, i64_w, i32_w]
              rfl
            refine pure_ (i := 1) (N := some 12) (v := ?_) (a' := ?_) #[true, true, false, false, false, false, false, false, false, false, false, false] rfl rfl (any_of HT_.out (by kernel_rfl)) (fun _ _ _ h => h) (Or.inl ⟨by rfl, ?_⟩) ?_ ?_
            rotate_left
            · intro w'
              go_simp
              with_reducible rfl
            rotate_left
            · simp only [Act.put, List.setIfInBounds_toArray, List.set_cons_zero, List.set_cons_succ, i64_w, i32_w]
              rfl
            refine pure_ (i := 3) (N := some 14) (v := ?_) (a' := ?_) #[true, true, false, true, false, false, false, false, false, false, false, false] rfl rfl (any_of HT_.out (by kernel_rfl)) (fun _ _ _ h => h) (Or.inl ⟨by rfl, ?_⟩) ?_ ?_
            rotate_left
            · intro w'
              go_simp
              with_reducible rfl
            rotate_left
            · simp only [Act.put, List.setIfInBounds_toArray, List.set_cons_zero, List.set_cons_succ, i64_w, i32_w]
              rfl
            refine pure_ (i := 4) (N := some 15) (v := ?_) (a' := ?_) #[true, true, false, true, true, false, false, false, false, false, false, false] rfl rfl (any_of HT_.out (by kernel_rfl)) (fun _ _ _ h => h) (Or.inl ⟨by rfl, ?_⟩) ?_ ?_
            rotate_left
            · intro w'
              go_simp
              with_reducible rfl
            rotate_left
            · simp only [Act.put, List.setIfInBounds_toArray, List.set_cons_zero, List.set_cons_succ, i64_w, i32_w]
              rfl
            refine pure_ (i := 5) (N := some 16) (v := ?_) (a' := ?_) #[true, true, false, true, true, true, false, false, false, false, false, false] rfl rfl (any_of HT_.out (by kernel_rfl)) (fun _ _ _ h => h) (Or.inl ⟨by rfl, ?_⟩) ?_ ?_
            rotate_left
            · intro w'
              go_simp
              with_reducible rfl
            rotate_left
            · simp only [Act.put, List.setIfInBounds_toArray, List.set_cons_zero, List.set_cons_succ, i64_w, i32_w]
              rfl
            refine pure_ (i := 6) (N := some 17) (v := ?_) (a' := ?_) #[true, true, false, true, true, true, true, false, false, false, false, false] rfl rfl (any_of HT_.out (by kernel_rfl)) (fun _ _ _ h => h) (Or.inl ⟨by rfl, ?_⟩) ?_ ?_
            rotate_left
            · intro w'
              go_simp
              with_reducible rfl
            rotate_left
            · simp only [Act.put, List.setIfInBounds_toArray, List.set_cons_zero, List.set_cons_succ, i64_w, i32_w]
              rfl
            refine pure_ (i := 7) (N := some 18) (v := ?_) (a' := ?_) #[true, true, false, true, true, true, true, true, false, false, false, false] rfl rfl (any_of HT_.out (by kernel_rfl)) (fun _ _ _ h => h) (Or.inl ⟨by rfl, ?_⟩) ?_ ?_
            rotate_left
            · intro w'
              go_simp
              with_reducible rfl
            rotate_left
            · simp only [Act.put, List.setIfInBounds_toArray, List.set_cons_zero, List.set_cons_succ, i64_w, i32_w]
              rfl
            refine pure_ (i := 8) (N := some 19) (v := ?_) (a' := ?_) #[true, true, false, true, true, true, true, true, true, false, false, false] rfl rfl (any_of HT_.out (by kernel_rfl)) (fun _ _ _ h => h) (Or.inl ⟨by rfl, ?_⟩) ?_ ?_
            rotate_left
            · intro w'
              go_simp
              with_reducible rfl
            rotate_left
            · simp only [Act.put, List.setIfInBounds_toArray, List.set_cons_zero, List.set_cons_succ, i64_w, i32_w]
              rfl
            refine pure_ (i := 9) (N := some 20) (v := ?_) (a' := ?_) #[true, true, false, true, true, true, true, true, true, true, false, false] rfl rfl (any_of HT_.out (by kernel_rfl)) (fun _ _ _ h => h) (Or.inl ⟨by rfl, ?_⟩) ?_ ?_
            rotate_left
            · intro w'
              go_simp
              with_reducible rfl
            rotate_left
            · simp only [Act.put, List.setIfInBounds_toArray, List.set_cons_zero, List.set_cons_succ, i64_w, i32_w]
              rfl
            refine one_ (i := 2) (N := some 13) #[true, true, true, true, true, true, true, true, true, true, false, false] rfl rfl (one_of HT_.out (by kernel_rfl)) (by decide) (fun K hK => ?_)
            refine goes_ Tryd.func11 (by kernel_rfl) rfl #[.int .i64 (wrap64 (Int.tdiv a0 16))] (by rfl) rfl rfl (by (try simp only [List.map_toArray, List.map_cons, List.map_nil]); first | done | rfl | (simp only [List.length_drop, List.length_take]; rfl)) ?_
            with_reducible refine (ih k (by omega) (wrap64 (Int.tdiv a0 16)) t101 _ A6.out).mono ?_
            rintro e w13 ⟨rfl, hb⟩
            refine ⟨_, rfl, ?_⟩
            have n0_ := Aside0.mk (below_step (by repeat (first | (with_reducible first | exact HB.out | apply below_alloc | apply pw_below_drewN | apply below_drew1) | exact HB.out)) hb)
            clear HB
            have HB := n0_
            clear n0_
            (try clear hb)
            (try clear hb2)
            (try clear hk)
            (try clear hi)
            refine hK.out _ _ trivial (fun hHeld => ?_)
            clear hK K
            refine norm_ (a' := ?_) ?_ ?_
            rotate_left
            · show Act.put _ (some 13) _ = _
              simp only [Act.put, List.setIfInBounds_toArray, List.set_cons_zero, List.set_cons_succ, i64_w, i32_w]
              rfl
            refine pure_ (i := 10) (N := some 21) (v := ?_) (a' := ?_) #[true, true, true, true, true, true, true, true, true, true, true, false] rfl rfl (any_of HT_.out (by kernel_rfl)) (fun _ _ _ h => h) (Or.inl ⟨by rfl, ?_⟩) ?_ ?_
            rotate_left
            · intro w'
              go_simp
              with_reducible rfl
            rotate_left
            · simp only [Act.put, List.setIfInBounds_toArray, List.set_cons_zero, List.set_cons_succ, i64_w, i32_w]
              rfl
            refine pure_ (i := 11) (N := some 2) (v := ?_) (a' := ?_) #[true, true, true, true, true, true, true, true, true, true, true, true] rfl rfl (any_of HT_.out (by kernel_rfl)) (fun _ _ _ h => h) (Or.inl ⟨by rfl, ?_⟩) ?_ ?_
            rotate_left
            · intro w'
              go_simp
              with_reducible rfl
            rotate_left
            · simp only [Act.put, List.setIfInBounds_toArray, List.set_cons_zero, List.set_cons_succ, i64_w, i32_w]
              rfl
            refine done_ (done_of HT_.out (by kernel_rfl)) ?_
            try go_wp2
            go_ret
            exact ⟨by first | rfl | (simp [errW_none, errW_some] <;> rfl) | (simp only [← hji7]; first | rfl | (simp [errW_none, errW_some] <;> rfl)) | (simp [*, errW_none, errW_some] <;> rfl), by repeat (first | (with_reducible first | exact HB.out | apply below_alloc | apply pw_below_drewN | apply below_drew1) | exact HB.out)⟩
          · rw [if_neg c11] at H
            exact absurd H (by simp)
        · rw [if_neg c10] at H
          exact absurd H (by simp)
      · rw [if_neg c9] at H
        exact absurd H (by simp)
    · rw [if_neg c8] at H
      exact absurd H (by simp)

end Go.Proofs.YtgemnnamhoekjaaDoor.F
namespace Go.Proofs.YtgemnnamhoekjaaDoor.F
open Go Go.Shelf Go.RowKit Go.Proofs.YtgemnnamhoekjaaDoorW.PrintWords Go.Proofs.YtgemnnamhoekjaaDoorW.PrintLast Go.Proofs.YtgemnnamhoekjaaDoorW.PrintMore
attribute [local go_sem] max2_int min2_int max_two min_two max_three min_three max_four min_four   -- for this text's walks alone
set_option linter.unusedVariables false
set_option linter.unusedSimpArgs false

/-! ### spec_l02Num: function 12 -/
def spec_l02Num.l0 : Nat → ByteArray → Int → Int → Option (Int)
  | 0, _, _, _ => none
  | k + 1, x0, x3, x4 => if x4 < (x0.size : Int) then (if 0 ≤ x4 then (spec_l02Num.l0 k x0 (wrap64 ((wrap64 (x3 * 256)) + (wrap64 (bt x0 x4)))) (wrap64 (x4 + 1))) else (none)) else (some x3)
def spec_l02Num.f (k : Nat) (a0 : ByteArray) : Option (Int) := spec_l02Num.l0 k a0 0 0
theorem spec_l02Num.mono_l : ∀ k, (∀ y0 y1 y2, LeO (spec_l02Num.l0 k y0 y1 y2) (spec_l02Num.l0 (k + 1) y0 y1 y2))
  | 0 => fun _ _ _ r h => by simp [spec_l02Num.l0] at h
  | k + 1 => by
    have ih0 := spec_l02Num.mono_l k
    · intro y0 y1 y2
      unfold spec_l02Num.l0
      repeat' first
      | (with_reducible exact ih0 _ _ _)
      | (with_reducible exact LeO.refl _)
      | (with_reducible exact LeO.none _)
      | (with_reducible refine LeO.ite ?_ ?_)
      | (with_reducible refine LeO.bind ?_ (fun _ => ?_))
      | exact ih0 _ _ _
      | exact LeO.none _
      | refine LeO.ite ?_ ?_
      | refine LeO.bind ?_ (fun _ => ?_)
theorem spec_l02Num.mono : ∀ a0 k, LeO (spec_l02Num.f k a0) (spec_l02Num.f (k + 1) a0) := by
  intro a0 k
  have ih0 := spec_l02Num.mono_l k
  unfold spec_l02Num.f
  repeat' first
      | (with_reducible exact ih0 _ _ _)
      | (with_reducible exact LeO.refl _)
      | (with_reducible exact LeO.none _)
      | (with_reducible refine LeO.ite ?_ ?_)
      | (with_reducible refine LeO.bind ?_ (fun _ => ?_))
      | exact ih0 _ _ _
      | exact LeO.none _
      | refine LeO.ite ?_ ?_
      | refine LeO.bind ?_ (fun _ => ?_)
set_option maxHeartbeats 8000000 in
set_option maxRecDepth 100000 in
theorem spec_l02Num.calls (k : Nat) (a0 : ByteArray) (r : Int) (w : World) (h : spec_l02Num.f k a0 = some r) :
    Calls Tryd.prog 12 #[.string a0] w fun e w' => e = .returned (.int .i64 r) ∧ Drawn0 w w' := by
  have H : (spec_l02Num.l0 k a0 0 0) = some r := h
  clear h
  have H' := Aside0.mk H
  clear H
  go_enter Tryd.func12, Tryd.ntmps12
  go_wp2
  go_loopg [3, 4] k (fun kq v3 v4 w' => ∃ (x3_1 : Int) (x4_1 : Int), v3 = .int .i64 x3_1 ∧ v4 = .int .i64 x4_1 ∧ Aside0 (spec_l02Num.l0 kq a0 x3_1 x4_1 = some r) ∧ Aside0 (kq ≤ k) ∧ Drawn0 w w')
  case atStart => exact ⟨(0), (0), (by first | rfl | (simp; done) | (simp [*]; done)), (by first | rfl | (simp; done) | (simp [*]; done)), H', ⟨Nat.le_refl _⟩, by repeat (first | exact Drawn0.refl _ | apply Drawn0.step)⟩
  case round =>
    clear H'
    try clear c1
    obtain ⟨x3_1, x4_1, rfl, rfl, HA, HK1, ⟨m1, rfl⟩⟩ := hrel
    cases gk with
    | zero => exact absurd HA.out (by simp [spec_l02Num.l0])
    | succ k1 =>
      have H := HA.out
      clear HA
      simp only [spec_l02Num.l0] at H
      by_cases c2 : x4_1 < (a0.size : Int)
      · rw [if_pos c2] at H
        have c2b0 : decide (x4_1 < (a0.size : Int)) = true := decide_eq_true c2
        clear c2
        by_cases c3 : 0 ≤ x4_1
        · rw [if_pos c3] at H
          have c3b0 : decide (0 ≤ x4_1) = true := decide_eq_true c3
          clear c3
          have H' := Aside0.mk H
          clear H
          have p4 : 0 ≤ (x4_1 : Int) := of_decide_eq_true (by first | (with_reducible assumption) | assumption)
          have q4 : x4_1 < (a0.size : Int) := of_decide_eq_true (by first | (with_reducible assumption) | assumption)
          have hx4 := bt_at a0 x4_1
          replace p4 := eq_true p4
          replace q4 := eq_true q4
          go_wp2
          go_roundg k1
          case measure => have := HK1.out; omega
          case rel => exact ⟨(wrap64 ((wrap64 (x3_1 * 256)) + (wrap64 (bt a0 x4_1)))), (wrap64 (x4_1 + 1)), (by first | rfl | (simp; done) | (simp [*]; done)), (by first | rfl | (simp; done) | (simp [*]; done)), H', ⟨by have := HK1.out; omega⟩, by repeat (first | exact Drawn0.refl _ | apply Drawn0.step)⟩
        · rw [if_neg c3] at H
          exact absurd H (by simp)
      · rw [if_neg c2] at H
        have c2b0 : decide (x4_1 < (a0.size : Int)) = false := decide_eq_false c2
        clear c2
        obtain rfl := Option.some.inj H
        go_wp2
        go_ret
        exact ⟨by first | rfl | (simp; done) | (simp [*]; done), by repeat (first | exact Drawn0.refl _ | apply Drawn0.step)⟩

end Go.Proofs.YtgemnnamhoekjaaDoor.F
namespace Go.Proofs.YtgemnnamhoekjaaDoor.F
open Go Go.Shelf Go.RowKit Go.Proofs.YtgemnnamhoekjaaDoorW.PrintWords Go.Proofs.YtgemnnamhoekjaaDoorW.PrintLast Go.Proofs.YtgemnnamhoekjaaDoorW.PrintMore
attribute [local go_sem] max2_int min2_int max_two min_two max_three min_three max_four min_four   -- for this text's walks alone
set_option linter.unusedVariables false
set_option linter.unusedSimpArgs false

/-! ### spec_l03Row: function 6 -/
def spec_l03Row.l0 : Nat → ByteArray → Int → Int → ByteArray → Int → Option (ByteArray)
  | 0, _, _, _, _, _ => none
  | k + 1, x0, x1, x2, x7, x8 => if x8 < x2 then (if x8 > x1 then (if x7.size + 1 ≤ 9223372036854775807 then (if 0 ≤ (wrap64 (2 * x8)) then (if (wrap64 (2 * x8)) ≤ (wrap64 ((wrap64 (2 * x8)) + 2)) then (if (wrap64 ((wrap64 (2 * x8)) + 2)) ≤ (x0.size : Int) then ((spec_l02Num.f k (x0.extract ((wrap64 (2 * x8)) : Int).toNat ((wrap64 ((wrap64 (2 * x8)) + 2)) : Int).toNat)).bind fun t101 => ((spec_l03HexOf.f k t101).bind fun t102 => (if (x7 ++ (⟨#[58]⟩ : ByteArray)).size + t102.size ≤ 9223372036854775807 then (spec_l03Row.l0 k x0 x1 x2 ((x7 ++ (⟨#[58]⟩ : ByteArray)) ++ t102) (wrap64 (x8 + 1))) else (none)))) else (none)) else (none)) else (none)) else (none)) else (if 0 ≤ (wrap64 (2 * x8)) then (if (wrap64 (2 * x8)) ≤ (wrap64 ((wrap64 (2 * x8)) + 2)) then (if (wrap64 ((wrap64 (2 * x8)) + 2)) ≤ (x0.size : Int) then ((spec_l02Num.f k (x0.extract ((wrap64 (2 * x8)) : Int).toNat ((wrap64 ((wrap64 (2 * x8)) + 2)) : Int).toNat)).bind fun t103 => ((spec_l03HexOf.f k t103).bind fun t104 => (if x7.size + t104.size ≤ 9223372036854775807 then (spec_l03Row.l0 k x0 x1 x2 (x7 ++ t104) (wrap64 (x8 + 1))) else (none)))) else (none)) else (none)) else (none))) else (some x7)
def spec_l03Row.f (k : Nat) (a0 : ByteArray) (a1 : Int) (a2 : Int) : Option (ByteArray) := spec_l03Row.l0 k a0 a1 a2 (⟨#[]⟩ : ByteArray) a1
theorem spec_l03Row.mono_l : ∀ k, (∀ y0 y1 y2 y3 y4, LeO (spec_l03Row.l0 k y0 y1 y2 y3 y4) (spec_l03Row.l0 (k + 1) y0 y1 y2 y3 y4))
  | 0 => fun _ _ _ _ _ r h => by simp [spec_l03Row.l0] at h
  | k + 1 => by
    have ih0 := spec_l03Row.mono_l k
    · intro y0 y1 y2 y3 y4
      unfold spec_l03Row.l0
      repeat' first
      | (with_reducible exact ih0 _ _ _ _ _)
      | (with_reducible exact spec_l02Num.mono _ _)
      | (with_reducible exact spec_l03HexOf.mono _ _)
      | (with_reducible exact LeO.refl _)
      | (with_reducible exact LeO.none _)
      | (with_reducible refine LeO.ite ?_ ?_)
      | (with_reducible refine LeO.bind ?_ (fun _ => ?_))
      | exact ih0 _ _ _ _ _
      | exact spec_l02Num.mono _ _
      | exact spec_l03HexOf.mono _ _
      | exact LeO.none _
      | refine LeO.ite ?_ ?_
      | refine LeO.bind ?_ (fun _ => ?_)
theorem spec_l03Row.mono : ∀ a0 a1 a2 k, LeO (spec_l03Row.f k a0 a1 a2) (spec_l03Row.f (k + 1) a0 a1 a2) := by
  intro a0 a1 a2 k
  have ih0 := spec_l03Row.mono_l k
  unfold spec_l03Row.f
  repeat' first
      | (with_reducible exact ih0 _ _ _ _ _)
      | (with_reducible exact spec_l02Num.mono _ _)
      | (with_reducible exact spec_l03HexOf.mono _ _)
      | (with_reducible exact LeO.refl _)
      | (with_reducible exact LeO.none _)
      | (with_reducible refine LeO.ite ?_ ?_)
      | (with_reducible refine LeO.bind ?_ (fun _ => ?_))
      | exact ih0 _ _ _ _ _
      | exact spec_l02Num.mono _ _
      | exact spec_l03HexOf.mono _ _
      | exact LeO.none _
      | refine LeO.ite ?_ ?_
      | refine LeO.bind ?_ (fun _ => ?_)
set_option maxHeartbeats 8000000 in
set_option maxRecDepth 100000 in
theorem spec_l03Row.calls (k : Nat) (a0 : ByteArray) (a1 : Int) (a2 : Int) (r : ByteArray) (w : World) (h : spec_l03Row.f k a0 a1 a2 = some r) :
    Calls Tryd.prog 6 #[.string a0, .int .i64 a1, .int .i64 a2] w fun e w' => e = .returned (.string r) ∧ Below w.heap.size w w' := by
  have HB := Aside0.mk (Below.refl w.heap.size w)
  have H : (spec_l03Row.l0 k a0 a1 a2 (⟨#[]⟩ : ByteArray) a1) = some r := h
  clear h
  have H' := Aside0.mk H
  clear H
  go_enter Tryd.func6, Tryd.ntmps6
  go_wp2
  go_loopg [7, 8] k (fun kq v7 v8 w' => ∃ (x7_1 : ByteArray) (x8_1 : Int), v7 = .string x7_1 ∧ v8 = .int .i64 x8_1 ∧ Aside0 (spec_l03Row.l0 kq a0 a1 a2 x7_1 x8_1 = some r) ∧ Aside0 (kq ≤ k) ∧ Aside0 (Below w.heap.size w w'))
  case atStart => exact ⟨((⟨#[]⟩ : ByteArray)), (a1), (by first | rfl | (simp; done) | (simp [*]; done)), (by first | rfl | (simp; done) | (simp [*]; done)), H', ⟨Nat.le_refl _⟩, ⟨by repeat (first | (with_reducible first | exact HB.out | apply below_alloc | apply pw_below_drewN | apply below_drew1) | exact HB.out)⟩⟩
  case round =>
    clear H'
    try clear p2
    obtain ⟨x7_1, x8_1, rfl, rfl, HA, HK1, HB⟩ := hrel
    cases gk with
    | zero => exact absurd HA.out (by simp [spec_l03Row.l0])
    | succ k1 =>
      have H := HA.out
      clear HA
      simp only [spec_l03Row.l0] at H
      by_cases c4 : x8_1 < a2
      · rw [if_pos c4] at H
        have c4b0 : decide (x8_1 < a2) = true := decide_eq_true c4
        clear c4
        by_cases c5 : x8_1 > a1
        · rw [if_pos c5] at H
          have c5b0 : decide (a1 < x8_1) = true := decide_eq_true c5
          clear c5
          by_cases c6 : x7_1.size + 1 ≤ 9223372036854775807
          · rw [if_pos c6] at H
            have c6b0 := eq_true c6
            have c6b1 : decide (x7_1.size + 1 ≤ 9223372036854775807) = true := decide_eq_true c6
            try have c6b2 : (9223372036854775807 < x7_1.size + 1) = False := eq_false (Nat.not_lt.2 c6)
            try have c6b3 : (9223372036854775807 < x7_1.size + 1) = False := eq_false (Nat.not_lt.2 (by have h := c6; simp only [ByteArray.size_append, ByteArray.size_extract, Nat.min_self, Nat.sub_zero] at h; first | with_reducible exact h | omega))
            obtain ⟨ji7, hji7⟩ : ∃ j_ : Int, (wrap64 (2 * x8_1)) = j_ := ⟨_, rfl⟩
            replace H : (if 0 ≤ (ji7) then (if (ji7) ≤ (wrap64 ((ji7) + 2)) then (if (wrap64 ((ji7) + 2)) ≤ (a0.size : Int) then ((spec_l02Num.f k1 (a0.extract ((ji7) : Int).toNat ((wrap64 ((ji7) + 2)) : Int).toNat)).bind fun t101 => ((spec_l03HexOf.f k1 t101).bind fun t102 => (if (x7_1 ++ (⟨#[58]⟩ : ByteArray)).size + t102.size ≤ 9223372036854775807 then (spec_l03Row.l0 k1 a0 a1 a2 ((x7_1 ++ (⟨#[58]⟩ : ByteArray)) ++ t102) (wrap64 (x8_1 + 1))) else (none)))) else (none)) else (none)) else (none)) = some r := by first | (rw [hji7] at H; exact H) | (simp only [hji7] at H ⊢; exact H)
            have hji7w : (IntKind.i64.wrap (2 * x8_1)) = ji7 := (i64_w _).trans hji7
            by_cases c8 : 0 ≤ (ji7)
            · rw [if_pos c8] at H
              have c8b0 := eq_true c8
              have c8b1 : decide (0 ≤ (ji7)) = true := decide_eq_true c8
              clear c8
              by_cases c9 : (ji7) ≤ (wrap64 ((ji7) + 2))
              · rw [if_pos c9] at H
                have c9b0 := eq_true c9
                have c9b1 : decide ((ji7) ≤ (wrap64 ((ji7) + 2))) = true := decide_eq_true c9
                by_cases c10 : (wrap64 ((ji7) + 2)) ≤ (a0.size : Int)
                · rw [if_pos c10] at H
                  have c10b0 := eq_true c10
                  have c10b1 : decide ((wrap64 ((ji7) + 2)) ≤ (a0.size : Int)) = true := decide_eq_true c10
                  replace H := Option.bind_eq_some_iff.mp H
                  obtain ⟨t101, A110, H⟩ := H
                  replace H : ((spec_l03HexOf.f k1 t101).bind fun t102 => (if (x7_1 ++ (⟨#[58]⟩ : ByteArray)).size + t102.size ≤ 9223372036854775807 then (spec_l03Row.l0 k1 a0 a1 a2 ((x7_1 ++ (⟨#[58]⟩ : ByteArray)) ++ t102) (wrap64 (x8_1 + 1))) else (none))) = some r := H
                  have A11 := Aside0.mk A110
                  clear A110
                  replace H := Option.bind_eq_some_iff.mp H
                  obtain ⟨t102, A120, H⟩ := H
                  replace H : (if (x7_1 ++ (⟨#[58]⟩ : ByteArray)).size + t102.size ≤ 9223372036854775807 then (spec_l03Row.l0 k1 a0 a1 a2 ((x7_1 ++ (⟨#[58]⟩ : ByteArray)) ++ t102) (wrap64 (x8_1 + 1))) else (none)) = some r := H
                  have A12 := Aside0.mk A120
                  clear A120
                  by_cases c13 : (x7_1 ++ (⟨#[58]⟩ : ByteArray)).size + t102.size ≤ 9223372036854775807
                  · rw [if_pos c13] at H
                    have c13b0 := eq_true c13
                    have c13b1 : decide ((x7_1 ++ (⟨#[58]⟩ : ByteArray)).size + t102.size ≤ 9223372036854775807) = true := decide_eq_true c13
                    try have c13b2 : (9223372036854775807 < (x7_1 ++ (⟨#[58]⟩ : ByteArray)).size + t102.size) = False := eq_false (Nat.not_lt.2 c13)
                    try have c13b3 : (9223372036854775807 < (x7_1.size + 1) + t102.size) = False := eq_false (Nat.not_lt.2 (by have h := c13; simp only [ByteArray.size_append, ByteArray.size_extract, Nat.min_self, Nat.sub_zero, (show (⟨#[58]⟩ : ByteArray).size = 1 from rfl)] at h; first | with_reducible exact h | omega))
                    have H' := Aside0.mk H
                    clear H
                    go_wp2_with (first | ((with_reducible refine gate_callee (f := 12) rfl ?_); refine goesL_ (some 28) rfl rfl Tryd.func12 (by kernel_rfl) rfl #[.string (a0.extract ((ji7) : Int).toNat ((wrap64 ((ji7) + 2)) : Int).toNat)] rfl (by (try simp only [List.map_toArray, List.map_cons, List.map_nil]); first | done | (simp only [hji7]; rfl) | rfl | (simp only [List.length_drop, List.length_take]; rfl)) ?_; (with_reducible refine (spec_l02Num.calls k1 (a0.extract ((ji7) : Int).toNat ((wrap64 ((ji7) + 2)) : Int).toNat) t101 _ A11.out).mono ?_); rintro e w' ⟨rfl, ⟨nd, rfl⟩⟩; refine ⟨_, rfl, ?_⟩) | ((with_reducible refine gate_callee (f := 11) rfl ?_); refine goesL_ (some 29) rfl rfl Tryd.func11 (by kernel_rfl) rfl #[.int .i64 t101] rfl (by (try simp only [List.map_toArray, List.map_cons, List.map_nil]); first | done | rfl | (simp only [List.length_drop, List.length_take]; rfl)) ?_; (with_reducible refine (spec_l03HexOf.calls k1 t101 t102 _ A12.out).mono ?_); rintro e w14 ⟨rfl, hb⟩; refine ⟨_, rfl, ?_⟩; have n0_ := Aside0.mk (below_step (by repeat (first | (with_reducible first | exact HB.out | apply below_alloc | apply pw_below_drewN | apply below_drew1) | exact HB.out)) hb); clear HB; have HB := n0_; clear n0_; (try clear hb); (try clear hb2); (try clear hk); (try clear hi)))
                    go_roundg k1
                    case measure => have := HK1.out; omega
                    case rel => exact ⟨((x7_1 ++ (⟨#[58]⟩ : ByteArray)) ++ t102), (wrap64 (x8_1 + 1)), (by first | rfl | (simp; done) | (simp [*]; done)), (by first | rfl | (simp; done) | (simp [*]; done)), H', ⟨by have := HK1.out; omega⟩, ⟨by repeat (first | (with_reducible first | exact HB.out | apply below_alloc | apply pw_below_drewN | apply below_drew1) | exact HB.out)⟩⟩
                  · rw [if_neg c13] at H
                    exact absurd H (by simp)
                · rw [if_neg c10] at H
                  exact absurd H (by simp)
              · rw [if_neg c9] at H
                exact absurd H (by simp)
            · rw [if_neg c8] at H
              exact absurd H (by simp)
          · rw [if_neg c6] at H
            exact absurd H (by simp)
        · rw [if_neg c5] at H
          have c5b0 : decide (a1 < x8_1) = false := decide_eq_false c5
          clear c5
          obtain ⟨ji15, hji15⟩ : ∃ j_ : Int, (wrap64 (2 * x8_1)) = j_ := ⟨_, rfl⟩
          replace H : (if 0 ≤ (ji15) then (if (ji15) ≤ (wrap64 ((ji15) + 2)) then (if (wrap64 ((ji15) + 2)) ≤ (a0.size : Int) then ((spec_l02Num.f k1 (a0.extract ((ji15) : Int).toNat ((wrap64 ((ji15) + 2)) : Int).toNat)).bind fun t103 => ((spec_l03HexOf.f k1 t103).bind fun t104 => (if x7_1.size + t104.size ≤ 9223372036854775807 then (spec_l03Row.l0 k1 a0 a1 a2 (x7_1 ++ t104) (wrap64 (x8_1 + 1))) else (none)))) else (none)) else (none)) else (none)) = some r := by first | (rw [hji15] at H; exact H) | (simp only [hji15] at H ⊢; exact H)
          have hji15w : (IntKind.i64.wrap (2 * x8_1)) = ji15 := (i64_w _).trans hji15
          by_cases c16 : 0 ≤ (ji15)
          · rw [if_pos c16] at H
            have c16b0 := eq_true c16
            have c16b1 : decide (0 ≤ (ji15)) = true := decide_eq_true c16
            clear c16
            by_cases c17 : (ji15) ≤ (wrap64 ((ji15) + 2))
            · rw [if_pos c17] at H
              have c17b0 := eq_true c17
              have c17b1 : decide ((ji15) ≤ (wrap64 ((ji15) + 2))) = true := decide_eq_true c17
              by_cases c18 : (wrap64 ((ji15) + 2)) ≤ (a0.size : Int)
              · rw [if_pos c18] at H
                have c18b0 := eq_true c18
                have c18b1 : decide ((wrap64 ((ji15) + 2)) ≤ (a0.size : Int)) = true := decide_eq_true c18
                replace H := Option.bind_eq_some_iff.mp H
                obtain ⟨t103, A190, H⟩ := H
                replace H : ((spec_l03HexOf.f k1 t103).bind fun t104 => (if x7_1.size + t104.size ≤ 9223372036854775807 then (spec_l03Row.l0 k1 a0 a1 a2 (x7_1 ++ t104) (wrap64 (x8_1 + 1))) else (none))) = some r := H
                have A19 := Aside0.mk A190
                clear A190
                replace H := Option.bind_eq_some_iff.mp H
                obtain ⟨t104, A200, H⟩ := H
                replace H : (if x7_1.size + t104.size ≤ 9223372036854775807 then (spec_l03Row.l0 k1 a0 a1 a2 (x7_1 ++ t104) (wrap64 (x8_1 + 1))) else (none)) = some r := H
                have A20 := Aside0.mk A200
                clear A200
                by_cases c21 : x7_1.size + t104.size ≤ 9223372036854775807
                · rw [if_pos c21] at H
                  have c21b0 := eq_true c21
                  have c21b1 : decide (x7_1.size + t104.size ≤ 9223372036854775807) = true := decide_eq_true c21
                  try have c21b2 : (9223372036854775807 < x7_1.size + t104.size) = False := eq_false (Nat.not_lt.2 c21)
                  try have c21b3 : (9223372036854775807 < x7_1.size + t104.size) = False := eq_false (Nat.not_lt.2 (by have h := c21; simp only [ByteArray.size_append, ByteArray.size_extract, Nat.min_self, Nat.sub_zero] at h; first | with_reducible exact h | omega))
                  have H' := Aside0.mk H
                  clear H
                  go_wp2_with (first | ((with_reducible refine gate_callee (f := 12) rfl ?_); refine goesL_ (some 28) rfl rfl Tryd.func12 (by kernel_rfl) rfl #[.string (a0.extract ((ji15) : Int).toNat ((wrap64 ((ji15) + 2)) : Int).toNat)] rfl (by (try simp only [List.map_toArray, List.map_cons, List.map_nil]); first | done | (simp only [hji15]; rfl) | rfl | (simp only [List.length_drop, List.length_take]; rfl)) ?_; (with_reducible refine (spec_l02Num.calls k1 (a0.extract ((ji15) : Int).toNat ((wrap64 ((ji15) + 2)) : Int).toNat) t103 _ A19.out).mono ?_); rintro e w' ⟨rfl, ⟨nd, rfl⟩⟩; refine ⟨_, rfl, ?_⟩) | ((with_reducible refine gate_callee (f := 11) rfl ?_); refine goesL_ (some 29) rfl rfl Tryd.func11 (by kernel_rfl) rfl #[.int .i64 t103] rfl (by (try simp only [List.map_toArray, List.map_cons, List.map_nil]); first | done | rfl | (simp only [List.length_drop, List.length_take]; rfl)) ?_; (with_reducible refine (spec_l03HexOf.calls k1 t103 t104 _ A20.out).mono ?_); rintro e w22 ⟨rfl, hb⟩; refine ⟨_, rfl, ?_⟩; have n0_ := Aside0.mk (below_step (by repeat (first | (with_reducible first | exact HB.out | apply below_alloc | apply pw_below_drewN | apply below_drew1) | exact HB.out)) hb); clear HB; have HB := n0_; clear n0_; (try clear hb); (try clear hb2); (try clear hk); (try clear hi)))
                  go_roundg k1
                  case measure => have := HK1.out; omega
                  case rel => exact ⟨(x7_1 ++ t104), (wrap64 (x8_1 + 1)), (by first | rfl | (simp; done) | (simp [*]; done)), (by first | rfl | (simp; done) | (simp [*]; done)), H', ⟨by have := HK1.out; omega⟩, ⟨by repeat (first | (with_reducible first | exact HB.out | apply below_alloc | apply pw_below_drewN | apply below_drew1) | exact HB.out)⟩⟩
                · rw [if_neg c21] at H
                  exact absurd H (by simp)
              · rw [if_neg c18] at H
                exact absurd H (by simp)
            · rw [if_neg c17] at H
              exact absurd H (by simp)
          · rw [if_neg c16] at H
            exact absurd H (by simp)
      · rw [if_neg c4] at H
        have c4b0 : decide (x8_1 < a2) = false := decide_eq_false c4
        clear c4
        obtain rfl := Option.some.inj H
        go_wp2
        go_ret
        exact ⟨by first | rfl | (simp [errW_none, errW_some] <;> rfl) | (simp [*, errW_none, errW_some] <;> rfl), by repeat (first | (with_reducible first | exact HB.out | apply below_alloc | apply pw_below_drewN | apply below_drew1) | exact HB.out)⟩

end Go.Proofs.YtgemnnamhoekjaaDoor.F
namespace Go.Proofs.YtgemnnamhoekjaaDoor.F
open Go Go.Shelf Go.RowKit Go.Proofs.YtgemnnamhoekjaaDoorW.PrintWords Go.Proofs.YtgemnnamhoekjaaDoorW.PrintLast Go.Proofs.YtgemnnamhoekjaaDoorW.PrintMore
attribute [local go_sem] max2_int min2_int max_two min_two max_three min_three max_four min_four   -- for this text's walks alone
set_option linter.unusedVariables false
set_option linter.unusedSimpArgs false

/-! ### spec_ShowV6: function 4 -/
mutual
def spec_ShowV6.l0 : Nat → ByteArray → Int → Option (ByteArray × Int)
  | 0, _, _ => none
  | k + 1, x0, x4 => if x4 ≥ 2 then (spec_ShowV6.l1 k x0 x4 0) else ((spec_l03Row.f k x0 0 8).bind fun t101 => (some (t101, 0)))
def spec_ShowV6.l1 : Nat → ByteArray → Int → Int → Option (ByteArray × Int)
  | 0, _, _, _ => none
  | k + 1, x0, x4, x5 => if (wrap64 (x5 + x4)) ≤ 8 then (if 0 ≤ (wrap64 (2 * x5)) then (if (wrap64 (2 * x5)) ≤ (wrap64 (2 * (wrap64 (x5 + x4)))) then (if (wrap64 (2 * (wrap64 (x5 + x4)))) ≤ (x0.size : Int) then (if 0 ≤ (wrap64 (2 * x4)) then (if (wrap64 (2 * x4) : Int).toNat ≤ 281474976710656 then (if (x0.extract ((wrap64 (2 * x5)) : Int).toNat ((wrap64 (2 * (wrap64 (x5 + x4)))) : Int).toNat).toList = (strOfNums (List.replicate (wrap64 (2 * x4) : Int).toNat 0)).toList then ((spec_l03Row.f k x0 0 x5).bind fun t105 => (if t105.size + 2 ≤ 9223372036854775807 then ((spec_l03Row.f k x0 (wrap64 (x5 + x4)) 8).bind fun t106 => (if (t105 ++ (⟨#[58, 58]⟩ : ByteArray)).size + t106.size ≤ 9223372036854775807 then (some ((t105 ++ (⟨#[58, 58]⟩ : ByteArray)) ++ t106, 0)) else (none))) else (none))) else (spec_ShowV6.l1 k x0 x4 (wrap64 (x5 + 1)))) else (none)) else (none)) else (none)) else (none)) else (none)) else (spec_ShowV6.l0 k x0 (wrap64 (x4 - 1)))
end
def spec_ShowV6.f (k : Nat) (a0 : ByteArray) : Option (ByteArray × Int) := if (a0.size : Int) = 16 then (spec_ShowV6.l0 k a0 8) else (some ((⟨#[]⟩ : ByteArray), 7))
theorem spec_ShowV6.mono_l : ∀ k, (∀ y0 y1, LeO (spec_ShowV6.l0 k y0 y1) (spec_ShowV6.l0 (k + 1) y0 y1)) ∧ (∀ y0 y1 y2, LeO (spec_ShowV6.l1 k y0 y1 y2) (spec_ShowV6.l1 (k + 1) y0 y1 y2))
  | 0 => ⟨fun _ _ r h => by simp [spec_ShowV6.l0] at h, fun _ _ _ r h => by simp [spec_ShowV6.l1] at h⟩
  | k + 1 => by
    obtain ⟨ih0, ih1⟩ := spec_ShowV6.mono_l k
    refine ⟨?_, ?_⟩
    · intro y0 y1
      unfold spec_ShowV6.l0
      repeat' first
      | (with_reducible exact ih0 _ _)
      | (with_reducible exact ih1 _ _ _)
      | (with_reducible exact spec_l03Row.mono _ _ _ _)
      | (with_reducible exact LeO.refl _)
      | (with_reducible exact LeO.none _)
      | (with_reducible refine LeO.ite ?_ ?_)
      | (with_reducible refine LeO.bind ?_ (fun _ => ?_))
      | exact ih0 _ _
      | exact ih1 _ _ _
      | exact spec_l03Row.mono _ _ _ _
      | exact LeO.none _
      | refine LeO.ite ?_ ?_
      | refine LeO.bind ?_ (fun _ => ?_)
    · intro y0 y1 y2
      unfold spec_ShowV6.l1
      repeat' first
      | (with_reducible exact ih0 _ _)
      | (with_reducible exact ih1 _ _ _)
      | (with_reducible exact spec_l03Row.mono _ _ _ _)
      | (with_reducible exact LeO.refl _)
      | (with_reducible exact LeO.none _)
      | (with_reducible refine LeO.ite ?_ ?_)
      | (with_reducible refine LeO.bind ?_ (fun _ => ?_))
      | exact ih0 _ _
      | exact ih1 _ _ _
      | exact spec_l03Row.mono _ _ _ _
      | exact LeO.none _
      | refine LeO.ite ?_ ?_
      | refine LeO.bind ?_ (fun _ => ?_)
theorem spec_ShowV6.mono : ∀ a0 k, LeO (spec_ShowV6.f k a0) (spec_ShowV6.f (k + 1) a0) := by
  intro a0 k
  obtain ⟨ih0, ih1⟩ := spec_ShowV6.mono_l k
  unfold spec_ShowV6.f
  repeat' first
      | (with_reducible exact ih0 _ _)
      | (with_reducible exact ih1 _ _ _)
      | (with_reducible exact spec_l03Row.mono _ _ _ _)
      | (with_reducible exact LeO.refl _)
      | (with_reducible exact LeO.none _)
      | (with_reducible refine LeO.ite ?_ ?_)
      | (with_reducible refine LeO.bind ?_ (fun _ => ?_))
      | exact ih0 _ _
      | exact ih1 _ _ _
      | exact spec_l03Row.mono _ _ _ _
      | exact LeO.none _
      | refine LeO.ite ?_ ?_
      | refine LeO.bind ?_ (fun _ => ?_)
def spec_ShowV6.T9 : Bool × List (List Nat × List Nat) := (true, [([], []), ([], []), ([1], [1]), ([], []), ([], []), ([3, 4], [3, 4]), ([5], [5]), ([0, 2, 6], [0, 2, 6]), ([], []), ([8], [8]), ([9, 9], [9]), ([10], [10]), ([7, 11], [7, 11])])
def spec_ShowV6.B9 : List Nat := [0, 0, 2, 0, 0, 24, 56, 127, 0, 256, 768, 1792, 4095]
theorem spec_ShowV6.tab9 : rtab .any (opsOf Tryd.f4 9) = spec_ShowV6.T9 := by kernel_rfl
theorem spec_ShowV6.bits9 : waitsOk spec_ShowV6.T9.2 spec_ShowV6.B9 = true := by kernel_rfl
set_option maxHeartbeats 8000000 in
set_option maxRecDepth 100000 in
theorem spec_ShowV6.calls (k : Nat) (a0 : ByteArray) (r1 : ByteArray) (r2 : Int) (w : World) (h : spec_ShowV6.f k a0 = some (r1, r2)) :
    Calls Tryd.prog 4 #[.string a0] w fun e w' => e = .returned (.tuple #[.string r1, .int .i64 r2]) ∧ Below w.heap.size w w' := by
  have HB := Aside0.mk (Below.refl w.heap.size w)
  have H : (if (a0.size : Int) = 16 then (spec_ShowV6.l0 k a0 8) else (some ((⟨#[]⟩ : ByteArray), 7))) = some (r1, r2) := h
  clear h
  by_cases c2 : (a0.size : Int) = 16
  · rw [if_pos c2] at H
    have c2b0 : ((a0.size : Int) == 16) = true := beq_iff_eq.mpr c2
    have c2b1 : ((a0.size : Int) != 16) = false := bne_eq_false_iff_eq.mpr c2
    clear c2
    have H' := Aside0.mk H
    clear H
    go_enter Tryd.func4, Tryd.ntmps4
    go_wp2
    go_loopg [4] k (fun kq v4 w' => ∃ (x4_1 : Int), v4 = .int .i64 x4_1 ∧ Aside0 (spec_ShowV6.l0 kq a0 x4_1 = some (r1, r2)) ∧ Aside0 (kq ≤ k) ∧ Aside0 (Below w.heap.size w w'))
    case atStart => exact ⟨(8), (by first | rfl | (simp; done) | (simp [*]; done)), H', ⟨Nat.le_refl _⟩, ⟨by repeat (first | (with_reducible first | exact HB.out | apply below_alloc | apply pw_below_drewN | apply below_drew1) | exact HB.out)⟩⟩
    case round =>
      clear H'
      try clear c2
      try clear c2b0
      try clear c2b1
      try clear p2
      obtain ⟨x4_1, rfl, HA, HK1, HB⟩ := hrel
      cases gk with
      | zero => exact absurd HA.out (by simp [spec_ShowV6.l0])
      | succ k1 =>
        have H := HA.out
        clear HA
        simp only [spec_ShowV6.l0] at H
        by_cases c3 : x4_1 ≥ 2
        · rw [if_pos c3] at H
          have c3b0 : decide (2 ≤ x4_1) = true := decide_eq_true c3
          clear c3
          have H' := Aside0.mk H
          clear H
          go_wp2
          go_loopg [5] k1 (fun kq v5 w' => ∃ (x5_2 : Int), v5 = .int .i64 x5_2 ∧ Aside0 (spec_ShowV6.l1 kq a0 x4_1 x5_2 = some (r1, r2)) ∧ Aside0 (kq ≤ k1) ∧ Aside0 (Below w.heap.size w w'))
          case atStart => exact ⟨(0), (by first | rfl | (simp; done) | (simp [*]; done)), H', ⟨Nat.le_refl _⟩, ⟨by repeat (first | (with_reducible first | exact HB.out | apply below_alloc | apply pw_below_drewN | apply below_drew1) | exact HB.out)⟩⟩
          case round =>
            clear H'
            try clear c2
            try clear c2b0
            try clear c2b1
            try clear p2
            try clear c3
            try clear c3b0
            try clear p2
            obtain ⟨x5_2, rfl, HA, HK2, HB⟩ := hrel
            cases gk with
            | zero => exact absurd HA.out (by simp [spec_ShowV6.l1])
            | succ k2 =>
              have H := HA.out
              clear HA
              simp only [spec_ShowV6.l1] at H
              by_cases c4 : (wrap64 (x5_2 + x4_1)) ≤ 8
              · rw [if_pos c4] at H
                have c4b0 : decide ((wrap64 (x5_2 + x4_1)) ≤ 8) = true := decide_eq_true c4
                clear c4
                obtain ⟨ji5, hji5⟩ : ∃ j_ : Int, (wrap64 (2 * x5_2)) = j_ := ⟨_, rfl⟩
                replace H : (if 0 ≤ (ji5) then (if (ji5) ≤ (wrap64 (2 * (wrap64 (x5_2 + x4_1)))) then (if (wrap64 (2 * (wrap64 (x5_2 + x4_1)))) ≤ (a0.size : Int) then (if 0 ≤ (wrap64 (2 * x4_1)) then (if (wrap64 (2 * x4_1) : Int).toNat ≤ 281474976710656 then (if (a0.extract ((ji5) : Int).toNat ((wrap64 (2 * (wrap64 (x5_2 + x4_1)))) : Int).toNat).toList = (strOfNums (List.replicate (wrap64 (2 * x4_1) : Int).toNat 0)).toList then ((spec_l03Row.f k2 a0 0 x5_2).bind fun t105 => (if t105.size + 2 ≤ 9223372036854775807 then ((spec_l03Row.f k2 a0 (wrap64 (x5_2 + x4_1)) 8).bind fun t106 => (if (t105 ++ (⟨#[58, 58]⟩ : ByteArray)).size + t106.size ≤ 9223372036854775807 then (some ((t105 ++ (⟨#[58, 58]⟩ : ByteArray)) ++ t106, 0)) else (none))) else (none))) else (spec_ShowV6.l1 k2 a0 x4_1 (wrap64 (x5_2 + 1)))) else (none)) else (none)) else (none)) else (none)) else (none)) = some (r1, r2) := by first | (rw [hji5] at H; exact H) | (simp only [hji5] at H ⊢; exact H)
                have hji5w : (IntKind.i64.wrap (2 * x5_2)) = ji5 := (i64_w _).trans hji5
                by_cases c6 : 0 ≤ (ji5)
                · rw [if_pos c6] at H
                  have c6b0 := eq_true c6
                  have c6b1 : decide (0 ≤ (ji5)) = true := decide_eq_true c6
                  clear c6
                  by_cases c7 : (ji5) ≤ (wrap64 (2 * (wrap64 (x5_2 + x4_1))))
                  · rw [if_pos c7] at H
                    have c7b0 := eq_true c7
                    have c7b1 : decide ((ji5) ≤ (wrap64 (2 * (wrap64 (x5_2 + x4_1))))) = true := decide_eq_true c7
                    by_cases c8 : (wrap64 (2 * (wrap64 (x5_2 + x4_1)))) ≤ (a0.size : Int)
                    · rw [if_pos c8] at H
                      have c8b0 := eq_true c8
                      have c8b1 : decide ((wrap64 (2 * (wrap64 (x5_2 + x4_1)))) ≤ (a0.size : Int)) = true := decide_eq_true c8
                      obtain ⟨ji9, hji9⟩ : ∃ j_ : Int, (wrap64 (2 * x4_1)) = j_ := ⟨_, rfl⟩
                      replace H : (if 0 ≤ (ji9) then (if (ji9 : Int).toNat ≤ 281474976710656 then (if (a0.extract ((ji5) : Int).toNat ((wrap64 (2 * (wrap64 (x5_2 + x4_1)))) : Int).toNat).toList = (strOfNums (List.replicate (ji9 : Int).toNat 0)).toList then ((spec_l03Row.f k2 a0 0 x5_2).bind fun t105 => (if t105.size + 2 ≤ 9223372036854775807 then ((spec_l03Row.f k2 a0 (wrap64 (x5_2 + x4_1)) 8).bind fun t106 => (if (t105 ++ (⟨#[58, 58]⟩ : ByteArray)).size + t106.size ≤ 9223372036854775807 then (some ((t105 ++ (⟨#[58, 58]⟩ : ByteArray)) ++ t106, 0)) else (none))) else (none))) else (spec_ShowV6.l1 k2 a0 x4_1 (wrap64 (x5_2 + 1)))) else (none)) else (none)) = some (r1, r2) := by first | (rw [hji9] at H; exact H) | (simp only [hji9] at H ⊢; exact H)
                      have hji9w : (IntKind.i64.wrap (2 * x4_1)) = ji9 := (i64_w _).trans hji9
                      by_cases c10 : 0 ≤ (ji9)
                      · rw [if_pos c10] at H
                        have c10b0 := eq_true c10
                        have c10b1 : decide (0 ≤ (ji9)) = true := decide_eq_true c10
                        clear c10
                        by_cases c11 : (ji9 : Int).toNat ≤ 281474976710656
                        · rw [if_pos c11] at H
                          have c11b0 := eq_true c11
                          have c11b1 : decide ((ji9 : Int).toNat ≤ 281474976710656) = true := decide_eq_true c11
                          clear c11
                          obtain ⟨y102, hy102⟩ : ∃ y_ : List Int, y_ = (List.replicate (ji9 : Int).toNat 0) := ⟨_, rfl⟩
                          replace H : (if (a0.extract ((ji5) : Int).toNat ((wrap64 (2 * (wrap64 (x5_2 + x4_1)))) : Int).toNat).toList = (strOfNums y102).toList then ((spec_l03Row.f k2 a0 0 x5_2).bind fun t105 => (if t105.size + 2 ≤ 9223372036854775807 then ((spec_l03Row.f k2 a0 (wrap64 (x5_2 + x4_1)) 8).bind fun t106 => (if (t105 ++ (⟨#[58, 58]⟩ : ByteArray)).size + t106.size ≤ 9223372036854775807 then (some ((t105 ++ (⟨#[58, 58]⟩ : ByteArray)) ++ t106, 0)) else (none))) else (none))) else (spec_ShowV6.l1 k2 a0 x4_1 (wrap64 (x5_2 + 1)))) = some (r1, r2) := by first | (rw [hy102]; with_reducible exact H) | (have H2_ := (Option.bind_some _ _).symm.trans H; rw [hy102]; with_reducible exact H2_) | (have H2_ := (Option.bind_some _ _).symm.trans H; with_reducible exact H2_) | with_reducible exact H | (rw [hy102]; exact H) | exact H
                          have Ny102 := Aside0.mk hy102
                          clear hy102
                          by_cases c12 : (a0.extract ((ji5) : Int).toNat ((wrap64 (2 * (wrap64 (x5_2 + x4_1)))) : Int).toNat).toList = (strOfNums y102).toList
                          · rw [if_pos c12] at H
                            have c12b0 : ((a0.extract ((ji5) : Int).toNat ((wrap64 (2 * (wrap64 (x5_2 + x4_1)))) : Int).toNat).toList == (strOfNums y102).toList) = true := beq_iff_eq.mpr c12
                            have c12b1 : ((a0.extract ((ji5) : Int).toNat ((wrap64 (2 * (wrap64 (x5_2 + x4_1)))) : Int).toNat).toList != (strOfNums y102).toList) = false := bne_eq_false_iff_eq.mpr c12
                            clear c12
                            replace H := Option.bind_eq_some_iff.mp H
                            obtain ⟨t105, A130, H⟩ := H
                            replace H : (if t105.size + 2 ≤ 9223372036854775807 then ((spec_l03Row.f k2 a0 (wrap64 (x5_2 + x4_1)) 8).bind fun t106 => (if (t105 ++ (⟨#[58, 58]⟩ : ByteArray)).size + t106.size ≤ 9223372036854775807 then (some ((t105 ++ (⟨#[58, 58]⟩ : ByteArray)) ++ t106, 0)) else (none))) else (none)) = some (r1, r2) := H
                            have A13 := Aside0.mk A130
                            clear A130
                            by_cases c14 : t105.size + 2 ≤ 9223372036854775807
                            · rw [if_pos c14] at H
                              have c14b0 := eq_true c14
                              have c14b1 : decide (t105.size + 2 ≤ 9223372036854775807) = true := decide_eq_true c14
                              try have c14b2 : (9223372036854775807 < t105.size + 2) = False := eq_false (Nat.not_lt.2 c14)
                              try have c14b3 : (9223372036854775807 < t105.size + 2) = False := eq_false (Nat.not_lt.2 (by have h := c14; simp only [ByteArray.size_append, ByteArray.size_extract, Nat.min_self, Nat.sub_zero] at h; first | with_reducible exact h | omega))
                              replace H := Option.bind_eq_some_iff.mp H
                              obtain ⟨t106, A150, H⟩ := H
                              replace H : (if (t105 ++ (⟨#[58, 58]⟩ : ByteArray)).size + t106.size ≤ 9223372036854775807 then (some ((t105 ++ (⟨#[58, 58]⟩ : ByteArray)) ++ t106, 0)) else (none)) = some (r1, r2) := H
                              have A15 := Aside0.mk A150
                              clear A150
                              by_cases c16 : (t105 ++ (⟨#[58, 58]⟩ : ByteArray)).size + t106.size ≤ 9223372036854775807
                              · rw [if_pos c16] at H
                                have c16b0 := eq_true c16
                                have c16b1 : decide ((t105 ++ (⟨#[58, 58]⟩ : ByteArray)).size + t106.size ≤ 9223372036854775807) = true := decide_eq_true c16
                                try have c16b2 : (9223372036854775807 < (t105 ++ (⟨#[58, 58]⟩ : ByteArray)).size + t106.size) = False := eq_false (Nat.not_lt.2 c16)
                                try have c16b3 : (9223372036854775807 < (t105.size + 2) + t106.size) = False := eq_false (Nat.not_lt.2 (by have h := c16; simp only [ByteArray.size_append, ByteArray.size_extract, Nat.min_self, Nat.sub_zero, (show (⟨#[58, 58]⟩ : ByteArray).size = 2 from rfl)] at h; first | with_reducible exact h | omega))
                                simp only [Option.some.injEq, Prod.mk.injEq] at H
                                obtain ⟨rfl, rfl⟩ := H
                                try go_wp2
                                have n0_ := Aside0.mk (below_drew1 HB.out)
                                clear HB
                                have HB := n0_
                                clear n0_
                                refine start_ (n := 13) (S := fun w' => True) (ds := []) #[false, false, false, false, false, false, false, false, false, false, false, false, false] (by kernel_rfl) rfl rfl trivial (fun hHeld => ?_); refine with_tabW spec_ShowV6.tab9 spec_ShowV6.bits9 (fun HT_ HW_ => ?_)
                                generalize wr.drew = w17 at HB hHeld ⊢
                                refine pure_ (i := 0) (N := some 19) (v := ?_) (a' := ?_) #[true, false, false, false, false, false, false, false, false, false, false, false, false] rfl rfl (any_of HT_.out (by kernel_rfl)) (fun _ _ _ h => h) (Or.inl ⟨by rfl, ?_⟩) ?_ ?_
                                rotate_left
                                · intro w'
                                  go_simp
                                  with_reducible rfl
                                rotate_left
                                · simp only [Act.put, List.setIfInBounds_toArray, List.set_cons_zero, List.set_cons_succ, i64_w, i32_w]
                                  rfl
                                refine pure_ (i := 1) (N := some 20) (v := ?_) (a' := ?_) #[true, true, false, false, false, false, false, false, false, false, false, false, false] rfl rfl (any_of HT_.out (by kernel_rfl)) (fun _ _ _ h => h) (Or.inl ⟨by rfl, ?_⟩) ?_ ?_
                                rotate_left
                                · intro w'
                                  go_simp
                                  with_reducible rfl
                                rotate_left
                                · simp only [Act.put, List.setIfInBounds_toArray, List.set_cons_zero, List.set_cons_succ, i64_w, i32_w]
                                  rfl
                                refine pure_ (i := 2) (N := some 21) (v := ?_) (a' := ?_) #[true, true, true, false, false, false, false, false, false, false, false, false, false] rfl rfl (any_of HT_.out (by kernel_rfl)) (fun _ _ _ h => h) (Or.inl ⟨by rfl, ?_⟩) ?_ ?_
                                rotate_left
                                · intro w'
                                  go_simp
                                  with_reducible rfl
                                rotate_left
                                · simp only [Act.put, List.setIfInBounds_toArray, List.set_cons_zero, List.set_cons_succ, i64_w, i32_w]
                                  rfl
                                refine pure_ (i := 3) (N := some 22) (v := ?_) (a' := ?_) #[true, true, true, true, false, false, false, false, false, false, false, false, false] rfl rfl (any_of HT_.out (by kernel_rfl)) (fun _ _ _ h => h) (Or.inl ⟨by rfl, ?_⟩) ?_ ?_
                                rotate_left
                                · intro w'
                                  go_simp
                                  with_reducible rfl
                                rotate_left
                                · simp only [Act.put, List.setIfInBounds_toArray, List.set_cons_zero, List.set_cons_succ, i64_w, i32_w]
                                  rfl
                                refine pure_ (i := 4) (N := some 23) (v := ?_) (a' := ?_) #[true, true, true, true, true, false, false, false, false, false, false, false, false] rfl rfl (any_of HT_.out (by kernel_rfl)) (fun _ _ _ h => h) (Or.inl ⟨by rfl, ?_⟩) ?_ ?_
                                rotate_left
                                · intro w'
                                  go_simp
                                  with_reducible rfl
                                rotate_left
                                · simp only [Act.put, List.setIfInBounds_toArray, List.set_cons_zero, List.set_cons_succ, i64_w, i32_w]
                                  rfl
                                refine pure_ (i := 5) (N := some 24) (v := ?_) (a' := ?_) #[true, true, true, true, true, true, false, false, false, false, false, false, false] rfl rfl (any_of HT_.out (by kernel_rfl)) (fun _ _ _ h => h) (Or.inl ⟨by rfl, ?_⟩) ?_ ?_
                                rotate_left
                                · intro w'
                                  go_simp
                                  with_reducible rfl
                                rotate_left
                                · simp only [Act.put, List.setIfInBounds_toArray, List.set_cons_zero, List.set_cons_succ, i64_w, i32_w]
                                  rfl
                                refine pure_ (i := 6) (N := some 25) (v := ?_) (a' := ?_) #[true, true, true, true, true, true, true, false, false, false, false, false, false] rfl rfl (any_of HT_.out (by kernel_rfl)) (fun _ _ _ h => h) (Or.inl ⟨by rfl, ?_⟩) ?_ ?_
                                rotate_left
                                · intro w'
                                  go_simp
                                  with_reducible rfl
                                rotate_left
                                · simp only [Act.put, List.setIfInBounds_toArray, List.set_cons_zero, List.set_cons_succ, i64_w, i32_w]
                                  rfl
                                refine pure_ (i := 7) (N := some 26) (v := ?_) (a' := ?_) #[true, true, true, true, true, true, true, true, false, false, false, false, false] rfl rfl (any_of HT_.out (by kernel_rfl)) (fun _ _ _ h => h) (Or.inl ⟨by rfl, ?_⟩) ?_ ?_
                                rotate_left
                                · intro w'
                                  go_simp
                                  with_reducible rfl
                                rotate_left
                                · simp only [Act.put, List.setIfInBounds_toArray, List.set_cons_zero, List.set_cons_succ, i64_w, i32_w]
                                  rfl
                                refine pure_ (i := 8) (N := some 27) (v := ?_) (a' := ?_) #[true, true, true, true, true, true, true, true, true, false, false, false, false] rfl rfl (any_of HT_.out (by kernel_rfl)) (fun _ _ _ h => h) (Or.inl ⟨by rfl, ?_⟩) ?_ ?_
                                rotate_left
                                · intro w'
                                  go_simp
                                  with_reducible rfl
                                rotate_left
                                · simp only [Act.put, List.setIfInBounds_toArray, List.set_cons_zero, List.set_cons_succ, i64_w, i32_w]
                                  rfl
                                refine pure_ (i := 9) (N := some 28) (v := ?_) (a' := ?_) #[true, true, true, true, true, true, true, true, true, true, false, false, false] rfl rfl (any_of HT_.out (by kernel_rfl)) (fun _ _ _ h => h) (Or.inl ⟨by rfl, ?_⟩) ?_ ?_
                                rotate_left
                                · intro w'
                                  go_simp
                                  with_reducible rfl
                                rotate_left
                                · simp only [Act.put, List.setIfInBounds_toArray, List.set_cons_zero, List.set_cons_succ, i64_w, i32_w]
                                  rfl
                                refine one_ (i := 10) (N := some 29) #[true, true, true, true, true, true, true, true, true, true, true, false, false] rfl rfl (one_of HT_.out (by kernel_rfl)) (by decide) (fun K hK => ?_)
                                refine Kd.R_make_step (Kd.int .u8) _ 5 (by rfl) (N := 29) rfl 25 _ _ rfl ji9 rfl rfl Tryd.underlying25 (.int .u8 0) 1 info5 rfl (by decide) (by omega) 0 (ok := fun _ => True) (okp := fun _ => True) rfl (fun _ hk => hk) trivial (of_decide_eq_true (by first | (with_reducible assumption) | assumption)) (Nat.le_trans (Nat.mul_le_mul_right _ (of_decide_eq_true (by first | (with_reducible assumption) | assumption) : ji9.toNat ≤ 281474976710656)) (by omega)) (Below.refl _ _) (Nat.le_refl _) ?_
                                intro v103 w18 ho19 hb hg_ hnew_
                                clear hg_ hnew_
                                (first | rw [← Ny102.out] at ho19 | (simp only [Int.reduceToNat] at ho19; rw [← Ny102.out] at ho19))
                                have n0_ := Aside0.mk (Kd.R_lower ho19 (below_size (by repeat (first | (with_reducible first | exact HB.out | apply below_alloc | apply pw_below_drewN | apply below_drew1) | exact HB.out))))
                                have n1_ := Aside0.mk (below_step (by repeat (first | (with_reducible first | exact HB.out | apply below_alloc | apply pw_below_drewN | apply below_drew1) | exact HB.out)) hb)
                                clear HB
                                have HO104 := n0_
                                have HB := n1_
                                clear n0_ n1_
                                clear hb ho19
                                refine hK.out _ _ trivial (fun hHeld => ?_)
                                clear hK K
                                refine norm_ (a' := ?_) ?_ ?_
                                rotate_left
                                · show Act.put _ (some 29) _ = _
                                  simp only [Act.put, List.setIfInBounds_toArray, List.set_cons_zero, List.set_cons_succ, i64_w, i32_w]
                                  rfl
                                refine one_ (i := 11) (N := some 30) #[true, true, true, true, true, true, true, true, true, true, true, true, false] rfl rfl (one_of HT_.out (by kernel_rfl)) (by decide) (fun K hK => ?_)
                                have hcv20 := own_string (P := Tryd.prog) Tryd.underlying25 Tryd.underlying5 Tryd.underlying9 (Kd.own_of_R HO104.out)
                                refine value_ (w1 := ?_) (v := ?_) (by rfl) rfl ?_ ?_
                                rotate_left 2
                                · go_simp
                                  constructor
                                  · rfl
                                  · rfl
                                clear hcv20
                                refine hK.out _ _ trivial (fun hHeld => ?_)
                                clear hK K
                                refine norm_ (a' := ?_) ?_ ?_
                                rotate_left
                                · show Act.put _ (some 30) _ = _
                                  simp only [Act.put, List.setIfInBounds_toArray, List.set_cons_zero, List.set_cons_succ, i64_w, i32_w]
                                  rfl
                                refine pure_ (i := 12) (N := some 31) (v := ?_) (a' := ?_) #[true, true, true, true, true, true, true, true, true, true, true, true, true] rfl rfl (any_of HT_.out (by kernel_rfl)) (fun _ _ _ h => h) (Or.inl ⟨by rfl, ?_⟩) ?_ ?_
                                rotate_left
                                · intro w'
                                  go_simp
                                  with_reducible rfl
                                rotate_left
                                · simp only [Act.put, List.setIfInBounds_toArray, List.set_cons_zero, List.set_cons_succ, i64_w, i32_w]
                                  rfl
                                refine done_ (done_of HT_.out (by kernel_rfl)) ?_
                                try go_wp2_with (first | ((with_reducible refine gate_callee (f := 6) rfl ?_); refine goesL_ (some 34) rfl rfl Tryd.func6 (by kernel_rfl) rfl #[.string a0, .int .i64 0, .int .i64 x5_2] rfl (by (try simp only [List.map_toArray, List.map_cons, List.map_nil]); first | done | rfl | (simp only [List.length_drop, List.length_take]; rfl)) ?_; (with_reducible refine (spec_l03Row.calls k2 a0 0 x5_2 t105 _ A13.out).mono ?_); rintro e w21 ⟨rfl, hb⟩; refine ⟨_, rfl, ?_⟩; have n0_ := Aside0.mk (Kd.R_below (by (with_reducible repeat (first | apply Kd.R_alloc | apply Kd.R_drewN | apply Kd.R_drew)); exact HO104.out) hb); have n1_ := Aside0.mk (below_step (by repeat (first | (with_reducible first | exact HB.out | apply below_alloc | apply pw_below_drewN | apply below_drew1) | exact HB.out)) hb); clear HO104; clear HB; have HO104 := n0_; have HB := n1_; clear n0_ n1_; (try clear hb); (try clear hb2); (try clear hk); (try clear hi)) | ((with_reducible refine gate_callee (f := 6) rfl ?_); refine goesL_ (some 40) rfl rfl Tryd.func6 (by kernel_rfl) rfl #[.string a0, .int .i64 (wrap64 (x5_2 + x4_1)), .int .i64 8] rfl (by (try simp only [List.map_toArray, List.map_cons, List.map_nil]); first | done | rfl | (simp only [List.length_drop, List.length_take]; rfl)) ?_; (with_reducible refine (spec_l03Row.calls k2 a0 (wrap64 (x5_2 + x4_1)) 8 t106 _ A15.out).mono ?_); rintro e w22 ⟨rfl, hb⟩; refine ⟨_, rfl, ?_⟩; have n0_ := Aside0.mk (Kd.R_below (by (with_reducible repeat (first | apply Kd.R_alloc | apply Kd.R_drewN | apply Kd.R_drew)); exact HO104.out) hb); have n1_ := Aside0.mk (below_step (by repeat (first | (with_reducible first | exact HB.out | apply below_alloc | apply pw_below_drewN | apply below_drew1) | exact HB.out)) hb); clear HO104; clear HB; have HO104 := n0_; have HB := n1_; clear n0_ n1_; (try clear hb); (try clear hb2); (try clear hk); (try clear hi)))
                                go_ret2
                                exact ⟨by first | rfl | (simp [errW_none, errW_some] <;> rfl) | (simp only [← hji5, ← hji9]; first | rfl | (simp [errW_none, errW_some] <;> rfl)) | (simp [*, errW_none, errW_some] <;> rfl), by repeat (first | (with_reducible first | exact HB.out | apply below_alloc | apply pw_below_drewN | apply below_drew1) | exact HB.out)⟩
                              · rw [if_neg c16] at H
                                exact absurd H (by simp)
                            · rw [if_neg c14] at H
                              exact absurd H (by simp)
                          · rw [if_neg c12] at H
                            have c12b0 : ((a0.extract ((ji5) : Int).toNat ((wrap64 (2 * (wrap64 (x5_2 + x4_1)))) : Int).toNat).toList == (strOfNums y102).toList) = false := beq_eq_false_iff_ne.mpr c12
                            have c12b1 : ((a0.extract ((ji5) : Int).toNat ((wrap64 (2 * (wrap64 (x5_2 + x4_1)))) : Int).toNat).toList != (strOfNums y102).toList) = true := bne_iff_ne.mpr c12
                            have H' := Aside0.mk H
                            clear H
                            try go_wp2
                            have n0_ := Aside0.mk (below_drew1 HB.out)
                            clear HB
                            have HB := n0_
                            clear n0_
                            refine start_ (n := 13) (S := fun w' => True) (ds := []) #[false, false, false, false, false, false, false, false, false, false, false, false, false] (by kernel_rfl) rfl rfl trivial (fun hHeld => ?_); refine with_tabW spec_ShowV6.tab9 spec_ShowV6.bits9 (fun HT_ HW_ => ?_)
                            generalize wr.drew = w23 at HB hHeld ⊢
                            refine pure_ (i := 0) (N := some 19) (v := ?_) (a' := ?_) #[true, false, false, false, false, false, false, false, false, false, false, false, false] rfl rfl (any_of HT_.out (by kernel_rfl)) (fun _ _ _ h => h) (Or.inl ⟨by rfl, ?_⟩) ?_ ?_
                            rotate_left
                            · intro w'
                              go_simp
                              with_reducible rfl
                            rotate_left
                            · simp only [Act.put, List.setIfInBounds_toArray, List.set_cons_zero, List.set_cons_succ, i64_w, i32_w]
                              rfl
                            refine pure_ (i := 1) (N := some 20) (v := ?_) (a' := ?_) #[true, true, false, false, false, false, false, false, false, false, false, false, false] rfl rfl (any_of HT_.out (by kernel_rfl)) (fun _ _ _ h => h) (Or.inl ⟨by rfl, ?_⟩) ?_ ?_
                            rotate_left
                            · intro w'
                              go_simp
                              with_reducible rfl
                            rotate_left
                            · simp only [Act.put, List.setIfInBounds_toArray, List.set_cons_zero, List.set_cons_succ, i64_w, i32_w]
                              rfl
                            refine pure_ (i := 2) (N := some 21) (v := ?_) (a' := ?_) #[true, true, true, false, false, false, false, false, false, false, false, false, false] rfl rfl (any_of HT_.out (by kernel_rfl)) (fun _ _ _ h => h) (Or.inl ⟨by rfl, ?_⟩) ?_ ?_
                            rotate_left
                            · intro w'
                              go_simp
                              with_reducible rfl
                            rotate_left
                            · simp only [Act.put, List.setIfInBounds_toArray, List.set_cons_zero, List.set_cons_succ, i64_w, i32_w]
                              rfl
                            refine pure_ (i := 3) (N := some 22) (v := ?_) (a' := ?_) #[true, true, true, true, false, false, false, false, false, false, false, false, false] rfl rfl (any_of HT_.out (by kernel_rfl)) (fun _ _ _ h => h) (Or.inl ⟨by rfl, ?_⟩) ?_ ?_
                            rotate_left
                            · intro w'
                              go_simp
                              with_reducible rfl
                            rotate_left
                            · simp only [Act.put, List.setIfInBounds_toArray, List.set_cons_zero, List.set_cons_succ, i64_w, i32_w]
                              rfl
                            refine pure_ (i := 4) (N := some 23) (v := ?_) (a' := ?_) #[true, true, true, true, true, false, false, false, false, false, false, false, false] rfl rfl (any_of HT_.out (by kernel_rfl)) (fun _ _ _ h => h) (Or.inl ⟨by rfl, ?_⟩) ?_ ?_
                            rotate_left
                            · intro w'
                              go_simp
                              with_reducible rfl
                            rotate_left
                            · simp only [Act.put, List.setIfInBounds_toArray, List.set_cons_zero, List.set_cons_succ, i64_w, i32_w]
                              rfl
                            refine pure_ (i := 5) (N := some 24) (v := ?_) (a' := ?_) #[true, true, true, true, true, true, false, false, false, false, false, false, false] rfl rfl (any_of HT_.out (by kernel_rfl)) (fun _ _ _ h => h) (Or.inl ⟨by rfl, ?_⟩) ?_ ?_
                            rotate_left
                            · intro w'
                              go_simp
                              with_reducible rfl
                            rotate_left
                            · simp only [Act.put, List.setIfInBounds_toArray, List.set_cons_zero, List.set_cons_succ, i64_w, i32_w]
                              rfl
                            refine pure_ (i := 6) (N := some 25) (v := ?_) (a' := ?_) #[true, true, true, true, true, true, true, false, false, false, false, false, false] rfl rfl (any_of HT_.out (by kernel_rfl)) (fun _ _ _ h => h) (Or.inl ⟨by rfl, ?_⟩) ?_ ?_
                            rotate_left
                            · intro w'
                              go_simp
                              with_reducible rfl
                            rotate_left
                            · simp only [Act.put, List.setIfInBounds_toArray, List.set_cons_zero, List.set_cons_succ, i64_w, i32_w]
                              rfl
                            refine pure_ (i := 7) (N := some 26) (v := ?_) (a' := ?_) #[true, true, true, true, true, true, true, true, false, false, false, false, false] rfl rfl (any_of HT_.out (by kernel_rfl)) (fun _ _ _ h => h) (Or.inl ⟨by rfl, ?_⟩) ?_ ?_
                            rotate_left
                            · intro w'
                              go_simp
                              with_reducible rfl
                            rotate_left
                            · simp only [Act.put, List.setIfInBounds_toArray, List.set_cons_zero, List.set_cons_succ, i64_w, i32_w]
                              rfl
                            refine pure_ (i := 8) (N := some 27) (v := ?_) (a' := ?_) #[true, true, true, true, true, true, true, true, true, false, false, false, false] rfl rfl (any_of HT_.out (by kernel_rfl)) (fun _ _ _ h => h) (Or.inl ⟨by rfl, ?_⟩) ?_ ?_
                            rotate_left
                            · intro w'
                              go_simp
                              with_reducible rfl
                            rotate_left
                            · simp only [Act.put, List.setIfInBounds_toArray, List.set_cons_zero, List.set_cons_succ, i64_w, i32_w]
                              rfl
                            refine pure_ (i := 9) (N := some 28) (v := ?_) (a' := ?_) #[true, true, true, true, true, true, true, true, true, true, false, false, false] rfl rfl (any_of HT_.out (by kernel_rfl)) (fun _ _ _ h => h) (Or.inl ⟨by rfl, ?_⟩) ?_ ?_
                            rotate_left
                            · intro w'
                              go_simp
                              with_reducible rfl
                            rotate_left
                            · simp only [Act.put, List.setIfInBounds_toArray, List.set_cons_zero, List.set_cons_succ, i64_w, i32_w]
                              rfl
                            refine one_ (i := 10) (N := some 29) #[true, true, true, true, true, true, true, true, true, true, true, false, false] rfl rfl (one_of HT_.out (by kernel_rfl)) (by decide) (fun K hK => ?_)
                            refine Kd.R_make_step (Kd.int .u8) _ 5 (by rfl) (N := 29) rfl 25 _ _ rfl ji9 rfl rfl Tryd.underlying25 (.int .u8 0) 1 info5 rfl (by decide) (by omega) 0 (ok := fun _ => True) (okp := fun _ => True) rfl (fun _ hk => hk) trivial (of_decide_eq_true (by first | (with_reducible assumption) | assumption)) (Nat.le_trans (Nat.mul_le_mul_right _ (of_decide_eq_true (by first | (with_reducible assumption) | assumption) : ji9.toNat ≤ 281474976710656)) (by omega)) (Below.refl _ _) (Nat.le_refl _) ?_
                            intro v103 w24 ho25 hb hg_ hnew_
                            clear hg_ hnew_
                            (first | rw [← Ny102.out] at ho25 | (simp only [Int.reduceToNat] at ho25; rw [← Ny102.out] at ho25))
                            have n0_ := Aside0.mk (Kd.R_lower ho25 (below_size (by repeat (first | (with_reducible first | exact HB.out | apply below_alloc | apply pw_below_drewN | apply below_drew1) | exact HB.out))))
                            have n1_ := Aside0.mk (below_step (by repeat (first | (with_reducible first | exact HB.out | apply below_alloc | apply pw_below_drewN | apply below_drew1) | exact HB.out)) hb)
                            clear HB
                            have HO104 := n0_
                            have HB := n1_
                            clear n0_ n1_
                            clear hb ho25
                            refine hK.out _ _ trivial (fun hHeld => ?_)
                            clear hK K
                            refine norm_ (a' := ?_) ?_ ?_
                            rotate_left
                            · show Act.put _ (some 29) _ = _
                              simp only [Act.put, List.setIfInBounds_toArray, List.set_cons_zero, List.set_cons_succ, i64_w, i32_w]
                              rfl
                            refine one_ (i := 11) (N := some 30) #[true, true, true, true, true, true, true, true, true, true, true, true, false] rfl rfl (one_of HT_.out (by kernel_rfl)) (by decide) (fun K hK => ?_)
                            have hcv26 := own_string (P := Tryd.prog) Tryd.underlying25 Tryd.underlying5 Tryd.underlying9 (Kd.own_of_R HO104.out)
                            refine value_ (w1 := ?_) (v := ?_) (by rfl) rfl ?_ ?_
                            rotate_left 2
                            · go_simp
                              constructor
                              · rfl
                              · rfl
                            clear hcv26
                            refine hK.out _ _ trivial (fun hHeld => ?_)
                            clear hK K
                            refine norm_ (a' := ?_) ?_ ?_
                            rotate_left
                            · show Act.put _ (some 30) _ = _
                              simp only [Act.put, List.setIfInBounds_toArray, List.set_cons_zero, List.set_cons_succ, i64_w, i32_w]
                              rfl
                            refine pure_ (i := 12) (N := some 31) (v := ?_) (a' := ?_) #[true, true, true, true, true, true, true, true, true, true, true, true, true] rfl rfl (any_of HT_.out (by kernel_rfl)) (fun _ _ _ h => h) (Or.inl ⟨by rfl, ?_⟩) ?_ ?_
                            rotate_left
                            · intro w'
                              go_simp
                              with_reducible rfl
                            rotate_left
                            · simp only [Act.put, List.setIfInBounds_toArray, List.set_cons_zero, List.set_cons_succ, i64_w, i32_w]
                              rfl
                            refine done_ (done_of HT_.out (by kernel_rfl)) ?_
                            try go_wp2
                            go_roundg k2
                            case measure => have := HK1.out; have := HK2.out; omega
                            case rel => exact ⟨(wrap64 (x5_2 + 1)), (by first | rfl | (simp; done) | (simp [*]; done)), H', ⟨by have := HK1.out; have := HK2.out; omega⟩, ⟨by repeat (first | (with_reducible first | exact HB.out | apply below_alloc | apply pw_below_drewN | apply below_drew1) | exact HB.out)⟩⟩
                        · rw [if_neg c11] at H
                          exact absurd H (by simp)
                      · rw [if_neg c10] at H
                        exact absurd H (by simp)
                    · rw [if_neg c8] at H
                      exact absurd H (by simp)
                  · rw [if_neg c7] at H
                    exact absurd H (by simp)
                · rw [if_neg c6] at H
                  exact absurd H (by simp)
              · rw [if_neg c4] at H
                have c4b0 : decide ((wrap64 (x5_2 + x4_1)) ≤ 8) = false := decide_eq_false c4
                clear c4
                have H' := Aside0.mk H
                clear H
                go_wp2
                go_roundg k2
                case measure => have := HK1.out; have := HK2.out; omega
                case rel => exact ⟨(wrap64 (x4_1 - 1)), (by first | rfl | (simp; done) | (simp [*]; done)), H', ⟨by have := HK1.out; have := HK2.out; omega⟩, ⟨by repeat (first | (with_reducible first | exact HB.out | apply below_alloc | apply pw_below_drewN | apply below_drew1) | exact HB.out)⟩⟩
        · rw [if_neg c3] at H
          have c3b0 : decide (2 ≤ x4_1) = false := decide_eq_false c3
          clear c3
          replace H := Option.bind_eq_some_iff.mp H
          obtain ⟨t101, A270, H⟩ := H
          replace H : (some (t101, 0)) = some (r1, r2) := H
          have A27 := Aside0.mk A270
          clear A270
          simp only [Option.some.injEq, Prod.mk.injEq] at H
          obtain ⟨rfl, rfl⟩ := H
          go_wp2_with (first | ((with_reducible refine gate_callee (f := 6) rfl ?_); refine goesL_ (some 43) rfl rfl Tryd.func6 (by kernel_rfl) rfl #[.string a0, .int .i64 0, .int .i64 8] rfl (by (try simp only [List.map_toArray, List.map_cons, List.map_nil]); first | done | rfl | (simp only [List.length_drop, List.length_take]; rfl)) ?_; (with_reducible refine (spec_l03Row.calls k1 a0 0 8 t101 _ A27.out).mono ?_); rintro e w28 ⟨rfl, hb⟩; refine ⟨_, rfl, ?_⟩; have n0_ := Aside0.mk (below_step (by repeat (first | (with_reducible first | exact HB.out | apply below_alloc | apply pw_below_drewN | apply below_drew1) | exact HB.out)) hb); clear HB; have HB := n0_; clear n0_; (try clear hb); (try clear hb2); (try clear hk); (try clear hi)))
          go_ret2
          exact ⟨by first | rfl | (simp [errW_none, errW_some] <;> rfl) | (simp [*, errW_none, errW_some] <;> rfl), by repeat (first | (with_reducible first | exact HB.out | apply below_alloc | apply pw_below_drewN | apply below_drew1) | exact HB.out)⟩
  · rw [if_neg c2] at H
    have c2b0 : ((a0.size : Int) == 16) = false := beq_eq_false_iff_ne.mpr c2
    have c2b1 : ((a0.size : Int) != 16) = true := bne_iff_ne.mpr c2
    simp only [Option.some.injEq, Prod.mk.injEq] at H
    obtain ⟨rfl, rfl⟩ := H
    go_enter Tryd.func4, Tryd.ntmps4
    go_wp2
    go_ret2
    exact ⟨by first | rfl | (simp [errW_none, errW_some] <;> rfl) | (simp [*, errW_none, errW_some] <;> rfl), by repeat (first | (with_reducible first | exact HB.out | apply below_alloc | apply pw_below_drewN | apply below_drew1) | exact HB.out)⟩

end Go.Proofs.YtgemnnamhoekjaaDoor.F
namespace Go.Proofs.YtgemnnamhoekjaaDoor.F
open Go Go.Shelf Go.RowKit Go.Proofs.YtgemnnamhoekjaaDoorW.PrintWords Go.Proofs.YtgemnnamhoekjaaDoorW.PrintLast Go.Proofs.YtgemnnamhoekjaaDoorW.PrintMore
attribute [local go_sem] max2_int min2_int max_two min_two max_three min_three max_four min_four   -- for this text's walks alone
set_option linter.unusedVariables false
set_option linter.unusedSimpArgs false

/-! ### impl_u16: function 7 -/
def impl_u16.f (a0 : ByteArray) : Option (Int) := if 0 < (a0.size : Int) then (if 1 < (a0.size : Int) then (some (Go.bits .or .i64 (wrap64 ((wrap64 (bt a0 0)) * 256)) (wrap64 (bt a0 1)))) else (none)) else (none)
set_option maxHeartbeats 8000000 in
set_option maxRecDepth 100000 in
theorem impl_u16.calls (a0 : ByteArray) (r : Int) (w : World) (h : impl_u16.f a0 = some r) :
    Calls Tryd.prog 7 #[.string a0] w fun e w' => e = .returned (.int .i64 r) ∧ Drawn0 w w' := by
  have H : (if 0 < (a0.size : Int) then (if 1 < (a0.size : Int) then (some (Go.bits .or .i64 (wrap64 ((wrap64 (bt a0 0)) * 256)) (wrap64 (bt a0 1)))) else (none)) else (none)) = some r := h
  clear h
  by_cases c2 : 0 < (a0.size : Int)
  · rw [if_pos c2] at H
    have c2b0 : decide (0 < (a0.size : Int)) = true := decide_eq_true c2
    have c2b1 : decide (0 < a0.size) = true := decide_eq_true (by omega)
    clear c2
    by_cases c4 : 1 < (a0.size : Int)
    · rw [if_pos c4] at H
      have c4b0 : decide (1 < (a0.size : Int)) = true := decide_eq_true c4
      have c4b1 : decide (1 < a0.size) = true := decide_eq_true (by omega)
      clear c4
      obtain rfl := Option.some.inj H
      have p3 : 0 ≤ (0 : Int) := (by omega)
      have q3 : 0 < a0.size := (by have : (0 : Int) < (a0.size : Int) := of_decide_eq_true (by first | (with_reducible assumption) | assumption); omega)
      have hx3 : ∀ h : 0 < a0.size, ((a0[0]'h).toNat : Int) = bt a0 0 := bt_at a0 0
      clear p3
      have qi3 : (0 < (a0.size : Int)) = True := eq_true (of_decide_eq_true (by first | (with_reducible assumption) | assumption))
      replace q3 := eq_true q3
      have p5 : 0 ≤ (1 : Int) := (by omega)
      have q5 : 1 < a0.size := (by have : (1 : Int) < (a0.size : Int) := of_decide_eq_true (by first | (with_reducible assumption) | assumption); omega)
      have hx5 : ∀ h : 1 < a0.size, ((a0[1]'h).toNat : Int) = bt a0 1 := bt_at a0 1
      clear p5
      have qi5 : (1 < (a0.size : Int)) = True := eq_true (of_decide_eq_true (by first | (with_reducible assumption) | assumption))
      replace q5 := eq_true q5
      go_enter Tryd.func7, Tryd.ntmps7
      go_wp2
      repeat (go_quiet (fail); try go_wp2)
      go_ret
      exact ⟨by first | rfl | (simp; done) | (simp [*]; done), by repeat (first | exact Drawn0.refl _ | apply Drawn0.step)⟩
    · rw [if_neg c4] at H
      exact absurd H (by simp)
  · rw [if_neg c2] at H
    exact absurd H (by simp)

end Go.Proofs.YtgemnnamhoekjaaDoor.F
namespace Go.Proofs.YtgemnnamhoekjaaDoor.F
open Go Go.Shelf Go.RowKit Go.Proofs.YtgemnnamhoekjaaDoorW.PrintWords Go.Proofs.YtgemnnamhoekjaaDoorW.PrintLast Go.Proofs.YtgemnnamhoekjaaDoorW.PrintMore
attribute [local go_sem] max2_int min2_int max_two min_two max_three min_three max_four min_four   -- for this text's walks alone
set_option linter.unusedVariables false
set_option linter.unusedSimpArgs false

/-! ### stands 3 -/
-- stands: arrays of whole numbers in memory
/-- A block that holds an array of numbers of one kind. -/
def ArrI (q : IntKind) (w : World) (g : Nat) (t : TypeId) (xs : List Int) : Prop := w.heap[g]? = some (Obj.cells (xs.map (Value.int q)).toArray t (0, 0))
section
variable {q : IntKind} {w : World} {g : Nat} {t : TypeId} {xs : List Int}
theorem ArrI.cell (h : ArrI q w g t xs) (j : Nat) (hj : j < xs.length) : w.cell? ⟨g, j, none⟩ = some (.int q (xs.getD j 0)) := by
  rw [cell_of_row w g j _ _ _ h]
  simp [List.getD_eq_getElem?_getD, hj]
theorem ArrI.frozen (h : ArrI q w g t xs) (j : Nat) : w.frozen? ⟨g, j, none⟩ = false := by
  simp [World.frozen?, show w.heap[g]? = _ from h]
theorem ArrI.set (h : ArrI q w g t xs) (j : Nat) (v : Int) : ArrI q (w.setCell ⟨g, j, none⟩ (.int q v)) g t (xs.set j v) := by
  unfold ArrI at *
  simp [World.setCell, Array.getElem?_modify, h]
theorem ArrI.keep {W : World} (h : ArrI q w g t xs) (hb : W.heap[g]? = w.heap[g]?) : ArrI q W g t xs := hb.trans h
theorem ArrI.lt (h : ArrI q w g t xs) : g < w.heap.size := (Array.getElem?_eq_some_iff.1 h).1
theorem ArrI.below {W : World} (h : ArrI q w g t xs) (hb : Below w.heap.size w W) : ArrI q W g t xs := h.keep (hb.block g h.lt)
theorem ArrI.setOther (h : ArrI q w g t xs) {p : Addr} (hp : p.block ≠ g) (u : Value) : ArrI q (w.setCell p u) g t xs := h.keep (Below.heap_setCell w p u g (fun e => hp e.symm))
theorem ArrI.alloc (h : ArrI q w g t xs) (o : Obj) : ArrI q (w.alloc o) g t xs := h.keep (Below.heap_alloc w o g h.lt)
theorem ArrI.drew (h : ArrI q w g t xs) : ArrI q w.drew g t xs := h
theorem ArrI.new (w : World) (q : IntKind) (t : TypeId) (xs : List Int) : ArrI q (w.alloc (Obj.cells (xs.map (Value.int q)).toArray t)) w.heap.size t xs := blk_new w _
theorem ArrI.setRow (h : ArrI q w g t xs) (ys : List Int) : ArrI q (w.setRow g (ys.map (Value.int q)).toArray) g t ys := setRow_heap w g _ _ _ _ h
theorem ArrI.setRowOther (h : ArrI q w g t xs) {k : Nat} (hk : k ≠ g) (cs : Array Value) : ArrI q (w.setRow k cs) g t xs := h.keep (setRow_other w k g cs hk.symm)
end
theorem wpList_buildTo {P : Program} {ops : Array Oper} {rest : List Oper} {o : Oper} {a : Act} {w : World} {Q : Exit → Act → World → Prop} (hg : o.guard = none) (t : TypeId) (parts : Array (Nat × Operand)) (ho : o.op = .build t parts) (cells : Array Value)
    (hc : P.built t (parts.map fun (i, x) => (i, a.eval x)).toList = some cells) (h : wpList P ops Q rest (a.put o.dst (.agg cells)) w) : wpList P ops Q (o :: rest) a w :=
  wpList_build hg t parts ho (by rw [hc]; rfl) (by rw [hc]; exact h)
theorem gate_storeT {P : Program} {ops : Array Oper} {rest : List Oper} {o : Oper} {a : Act} {w : World} {Q : Exit → Act → World → Prop} {ty : TypeId} {x y : Operand} (ho : o.op = .store ty x y) (h : wpList P ops Q (o :: rest) a w) : wpList P ops Q (o :: rest) a w := h

end Go.Proofs.YtgemnnamhoekjaaDoor.F
namespace Go.Proofs.YtgemnnamhoekjaaDoor.F
open Go Go.Shelf Go.RowKit Go.Proofs.YtgemnnamhoekjaaDoorW.PrintWords Go.Proofs.YtgemnnamhoekjaaDoorW.PrintLast Go.Proofs.YtgemnnamhoekjaaDoorW.PrintMore
attribute [local go_sem] max2_int min2_int max_two min_two max_three min_three max_four min_four   -- for this text's walks alone
set_option linter.unusedVariables false
set_option linter.unusedSimpArgs false

/-! ### stands 23 -/
-- stands: strconv.FormatInt at base 16, of numbers below 65536
def tz_ren : Go.Shelf.Ren := ⟨fun | 27 => 27 | 28 => 30 | 29 => 31 | n => n, fun | 0 => 0 | 3 => 3 | 4 => 4 | 5 => 5 | 22 => 45 | 25 => 33 | 27 => 54 | 53 => 62 | 54 => 63 | n => n, fun | 0 => 2 | 1 => 3 | n => n⟩
theorem tz_lays : Go.Proofs.Lays7.n27 Tryd.prog tz_ren := {
  mixed := by kernel_rfl
  f27 := Tryd.func27.trans (congrArg some (by kernel_rfl))
  f28 := Tryd.func30.trans (congrArg some (by kernel_rfl))
  f29 := Tryd.func31.trans (congrArg some (by kernel_rfl))
  t0 := Tryd.underlying0
  a0 := Tryd.isAgg0
  z0 := Tryd.sizeOf0
  v0 := Tryd.zeroValue0
  i0 := by kernel_rfl
  t3 := Tryd.underlying3
  a3 := Tryd.isAgg3
  z3 := Tryd.sizeOf3
  v3 := Tryd.zeroValue3
  i3 := by kernel_rfl
  t4 := Tryd.underlying4
  a4 := Tryd.isAgg4
  z4 := Tryd.sizeOf4
  v4 := Tryd.zeroValue4
  i4 := by kernel_rfl
  t5 := Tryd.underlying5
  a5 := Tryd.isAgg5
  z5 := Tryd.sizeOf5
  v5 := Tryd.zeroValue5
  i5 := by kernel_rfl
  t22 := Tryd.underlying45
  a22 := Tryd.isAgg45
  z22 := Tryd.sizeOf45
  v22 := Tryd.zeroValue45
  i22 := by kernel_rfl
  t25 := Tryd.underlying33
  a25 := Tryd.isAgg33
  z25 := Tryd.sizeOf33
  v25 := Tryd.zeroValue33
  i25 := by kernel_rfl
  t27 := Tryd.underlying54
  a27 := Tryd.isAgg54
  z27 := Tryd.sizeOf54
  v27 := Tryd.zeroValue54
  i27 := by kernel_rfl
  t53 := Tryd.underlying62
  a53 := Tryd.isAgg62
  z53 := Tryd.sizeOf62
  v53 := Tryd.zeroValue62
  i53 := by kernel_rfl
  t54 := Tryd.underlying63
  a54 := Tryd.isAgg63
  z54 := Tryd.sizeOf63
  g0 := by kernel_rfl
  g1 := by kernel_rfl }
def GlobT (w : World) : Prop := Go.Proofs.TabAt 3 Lib.deBruijn64tab w
theorem GlobT.below {w W : World} (h : GlobT w) (hb : Below w.heap.size w W) : GlobT W := by
  intro j hj
  exact (hb.cell (World.block_lt_of_cell? w _ (h j hj))).trans (h j hj)
theorem xtz.calls (w : World) (hG : GlobT w) : Calls Tryd.prog 27 #[.int .u64 16] w fun e w' => e = .returned (.int .i64 4) ∧ w' = w :=
  (Go.Proofs.Any7.bits_TrailingZeros tz_lays 16 (by decide) w (fun _ => hG)).mono fun e w' ⟨he, hw⟩ => ⟨he, hw⟩
theorem xpow2.calls (w : World) : Calls Tryd.prog 26 #[.int .i64 16] w fun e w' => e = .returned (.bool true) ∧ w' = w := by
  have hb : Go.bits .and .i64 16 15 = 0 := by decide
  go_enter Tryd.func26, Tryd.ntmps26
  go_wp2
  go_ret
  exact ⟨rfl, rfl⟩
def hxD (d : Nat) : Int := if d < 10 then 48 + d else 87 + d
def hxA : Nat → Nat → List Int → List Int
  | 0, _, acc => acc
  | f + 1, u, acc => if 16 ≤ u then hxA f (u / 16) (hxD (u % 16) :: acc) else hxD u :: acc
def hxS (n : Nat) : ByteArray := strOfNums (hxA 4 n [])
theorem hxLen : ∀ (f u : Nat) (acc : List Int), (hxA f u acc).length ≤ f + acc.length
  | 0, _, acc => by simp [hxA]
  | f + 1, u, acc => by
    unfold hxA
    split
    · have := hxLen f (u / 16) (hxD (u % 16) :: acc)
      simp only [List.length_cons] at this
      omega
    · simp only [List.length_cons]
      omega
theorem hxSet (m : Nat) (acc : List Int) (d : Int) : (List.replicate (m + 1) (0 : Int) ++ acc).set m d = List.replicate m 0 ++ d :: acc := by
  rw [List.replicate_succ', List.append_assoc, List.set_append_right _ _ (by simp)]
  simp
def hxDigits : ByteArray := ⟨#[48, 49, 50, 51, 52, 53, 54, 55, 56, 57, 97, 98, 99, 100, 101, 102, 103, 104, 105, 106, 107, 108, 109, 110, 111, 112, 113, 114, 115, 116, 117, 118, 119, 120, 121, 122]⟩
theorem hxAt : ∀ d, d < 16 → ∃ h : d < hxDigits.size, ((hxDigits[d]'h).toNat : Int) = hxD d := by
  have key : ∀ d : Fin 16, ∃ h : d.val < hxDigits.size, ((hxDigits[d.val]'h).toNat : Int) = hxD d.val := by decide
  exact fun d hd => key ⟨d, hd⟩
theorem hxAnd (m : Nat) (hm : m < 65536) : Go.bits .and .u64 (m : Int) 15 = ((m % 16 : Nat) : Int) := by
  have h := Go.bits_and_u64_nat m 15 (by omega) (by decide)
  rw [show ((15 : Nat) : Int) = 15 from rfl] at h
  rw [h, show (15 : Nat) = 2 ^ 4 - 1 from rfl, Nat.and_two_pow_sub_one_eq_mod]
theorem index_event {P : Program} {ops : Array Oper} {rest : List Oper} {o : Oper} {a : Act} {W : World} {Q : Exit → Act → World → Prop} (hgd : o.guard = none) (ty : TypeId) (x y : Operand) (ho : o.op = .index ty x y) (hty : P.underlying ty = some .string)
    (s : ByteArray) (hx : a.eval x = .string s) (k : IntKind) (i : Nat) (hy : a.eval y = .int k (i : Int)) (z : Int) (hi : ∃ h : i < s.size, ((s[i]'h).toNat : Int) = z)
    (h : wpList P ops Q rest (a.put o.dst (.int .u8 z)) W) : wpList P ops Q (o :: rest) a W := by
  obtain ⟨h1, h2⟩ := hi
  refine wpList_plain hgd fun K hK => ?_
  unfold Oper.wp execOp
  have e := run_index_string W ty s k (i : Int) hty
  rw [dif_pos ⟨by omega, by omega⟩] at e
  simp only [Int.toNat_natCast, h2] at e
  simp only [ho, Sem.run_bind, Sem.run_pure, Result.andThen_ok, hx, hy, e]
  exact hK _ _ h
theorem getD_rep (J j : Nat) (l : List Int) : (List.replicate J (0 : Int) ++ l).getD (J + j) 0 = l.getD j 0 := by
  rw [List.getD_eq_getElem?_getD, List.getD_eq_getElem?_getD, List.getElem?_append_right (by simp)]
  simp
theorem addJ (b off i : Nat) : (⟨b, off, none⟩ : Addr).add i = ⟨b, off + i, none⟩ := by unfold Addr.add; split <;> simp_all
set_option maxHeartbeats 8000000 in
set_option maxRecDepth 100000 in
theorem xbits.calls (n : Nat) (hn : n < 65536) (w : World) (hG : GlobT w) :
    Calls Tryd.prog 20 #[.slice none 0 0, .int .u64 (n : Int), .int .i64 16, .bool false, .bool false] w fun e w' => e = .returned (.tuple #[.slice none 0 0, .string (hxS n)]) ∧ Below w.heap.size w w' := by
  have HG := Aside0.mk hG
  clear hG
  go_enter Tryd.func20, Tryd.ntmps20
  have zv : ∀ W, (zeroValue 55).run Tryd.prog W = .ok (.agg (Array.replicate 65 (Value.int IntKind.u8 0))) W := fun W => by kernel_rfl
  go_upto_region 4 with fail
  obtain ⟨wz, hwz⟩ : ∃ wz, wz = w.alloc (Obj.cells (Array.replicate 65 (Value.int IntKind.u8 0)) 55) := ⟨_, rfl⟩
  have hZ : Aside0 (ArrI .u8 wz w.heap.size 55 (List.replicate (62 + 3) 0 ++ [])) := ⟨by rw [hwz]; exact ArrI.new w .u8 55 (List.replicate 65 0)⟩
  have hBz : Aside0 (Below w.heap.size w wz) := ⟨by rw [hwz]; exact below_alloc (Below.refl _ _) _⟩
  have HGz := Aside0.mk (HG.out.below hBz.out)
  refine (show wz = _ from hwz) ▸ ?_
  clear hwz
  go_wp2_with (first | (go_at_call 26; refine (xpow2.calls _).mono ?_; rintro e w' ⟨rfl, rfl⟩) | (go_at_call 27; refine (xtz.calls _ HGz.out).mono ?_; rintro e w' ⟨rfl, rfl⟩))
  go_loopw [1, 13] (fun u i wr => ∃ (I m : Nat) (acc : List Int), 62 ≤ I ∧ I ≤ 65 ∧ m < 16 ^ (I - 61) ∧ u = .int .u64 (m : Int) ∧ i = .int .i64 (I : Int) ∧ Aside0 (acc.length = 65 - I) ∧ Aside0 (hxA (I - 61) m acc = hxA 4 n []) ∧ Aside0 (ArrI .u8 wr w.heap.size 55 (List.replicate I 0 ++ acc)) ∧ Aside0 (Below w.heap.size w wr)) (fun u _ _ => (intOf u).toNat)
  case atStart => exact ⟨65, n, [], by decide, Nat.le_refl _, hn, rfl, rfl, ⟨rfl⟩, ⟨rfl⟩, hZ, hBz⟩
  case round =>
    clear hZ hBz HGz
    obtain ⟨I, m, acc, hI1, hI2, hm, rfl, rfl, HL, HE, HA, HB⟩ := hrel
    have hm6 : m < 65536 := Nat.lt_of_lt_of_le hm (Nat.pow_le_pow_right (n := 16) (j := 4) (by decide) (by omega))
    obtain ⟨J, hJ⟩ : ∃ J, I = J + 1 := ⟨I - 1, by omega⟩
    have e2 : IntKind.i64.wrap ((I : Int) - 1) = (J : Int) := by rw [IntKind.wrap_i64]; omega
    have b0 : ((J : Int) < 65) = True := eq_true (by omega)
    have b1 : decide ((J : Int) < 65) = true := decide_eq_true (by omega)
    have b2 : (J < 65) = True := eq_true (by omega)
    have hx := ArrI.cell HA.out J (by rw [List.length_append, List.length_replicate, HL.out]; omega)
    have hf := ArrI.frozen HA.out J
    generalize (List.replicate I (0 : Int) ++ acc).getD J 0 = y0 at hx
    by_cases h16 : 16 ≤ m
    · have c1 : decide ((16 : Int) ≤ (m : Int)) = true := decide_eq_true (by omega)
      have c2 : ((16 : Int) ≤ (m : Int)) = True := eq_true (by omega)
      have hA1 := hxAnd m hm6
      have hI3 : 63 ≤ I := by
        refine Nat.lt_of_not_le fun h => ?_
        rw [show I - 61 = 1 by omega] at hm
        omega
      go_upto_region 14 with fail
      have hst : ArrI .u8 (wr.setCell ⟨w.heap.size, J, none⟩ (.int .u8 (hxD (m % 16)))) w.heap.size 55 (List.replicate J 0 ++ hxD (m % 16) :: acc) := by
        have h := HA.out.set J (hxD (m % 16))
        rw [hJ, hxSet] at h
        exact h
      go_wp2
      go_roundw
      case rel =>
        obtain ⟨hq, eq⟩ := hxAt (m % 16) (Nat.mod_lt _ (by decide))
        have hp : I - 61 = (J - 61) + 1 := by omega
        have hE := HE.out
        rw [hp] at hm hE
        rw [hxA, if_pos h16] at hE
        rw [Nat.pow_succ] at hm
        refine ⟨J, m / 16, hxD (m % 16) :: acc, by omega, by omega, by omega, by congr 1, rfl, ⟨by rw [List.length_cons, HL.out]; omega⟩, ⟨hE⟩, ⟨?_⟩, ⟨?_⟩⟩
        · have h : ArrI .u8 (wr.setCell ⟨w.heap.size, J, none⟩ (.int .u8 ((hxDigits[m % 16]'hq).toNat : Int))) w.heap.size 55 (List.replicate J 0 ++ hxD (m % 16) :: acc) := by
            rw [eq]
            exact hst
          exact h
        · exact HB.out.setCell (p := ⟨w.heap.size, J, none⟩) (Nat.le_refl _) _
      case measure => simp only [intOf]; omega
    · have c1 : decide ((16 : Int) ≤ (m : Int)) = false := decide_eq_false (by omega)
      have c2 : ((16 : Int) ≤ (m : Int)) = False := eq_false (by omega)
      obtain ⟨hq, eq⟩ := hxAt m (by omega)
      have hst : ArrI .u8 (wr.setCell ⟨w.heap.size, J, none⟩ (.int .u8 (hxD m))) w.heap.size 55 (List.replicate J 0 ++ hxD m :: acc) := by
        have h := HA.out.set J (hxD m)
        rw [hJ, hxSet] at h
        exact h
      have hB2 : Below w.heap.size w (wr.setCell ⟨w.heap.size, J, none⟩ (.int .u8 (hxD m))) := HB.out.setCell (p := ⟨w.heap.size, J, none⟩) (Nat.le_refl _) _
      rw [← eq] at hst hB2
      go_upto_region 30 with fail
      generalize hW : World.setCell _ _ _ = W
      have hst2 : ArrI .u8 W w.heap.size 55 (List.replicate J 0 ++ hxD m :: acc) := by
        rw [← hW, ← eq]
        exact hst
      have hB3 : Below w.heap.size w W := by
        rw [← hW]
        exact hB2
      have hlen : (hxD m :: acc).length = 65 - J := by rw [List.length_cons, HL.out]; omega
      have hC : Kd.C (Kd.int .u8) W (some ⟨w.heap.size, J, none⟩) (65 - J) (hxD m :: acc) :=
        Kd.C_of_reads (d := (0 : Int)) (enc := Value.int .u8) (h1 := fun _ => rfl) ⟨hlen, by omega, fun _ => ⟨_, rfl, fun j hj => by
          rw [addJ]
          have h := ArrI.cell hst2 (J + j) (by rw [List.length_append, List.length_replicate, hlen]; omega)
          rw [h, getD_rep]⟩⟩
      have hcv := Kd.C_string (P := Tryd.prog) (c := 65 - J) Tryd.underlying25 Tryd.underlying5 Tryd.underlying9 hC
      have hE := HE.out
      rw [show I - 61 = (J - 61) + 1 by omega, hxA, if_neg h16] at hE
      clear hst hB2 eq hW
      have b3 : ((J : Int) ≤ 65) = True := eq_true (by omega)
      have b4 : decide ((J : Int) ≤ 65) = true := decide_eq_true (by omega)
      have b5 : (J ≤ 65) = True := eq_true (by omega)
      go_wp2
      go_ret2
      exact ⟨by rw [hxS, ← hE]; rfl, hB3⟩
theorem xstrFmt.calls (n : Nat) (hn : n < 65536) (w : World) (hG : GlobT w) :
    Calls Tryd.prog 13 #[.int .i64 (n : Int), .int .i64 16] w fun e w' => e = .returned (.string (hxS n)) ∧ Below w.heap.size w w' := by
  have HG := Aside0.mk hG
  clear hG
  have e1 : IntKind.u64.wrap (n : Int) = (n : Int) := by rw [IntKind.wrap_u64]; omega
  have c1 : decide ((n : Int) < 0) = false := decide_eq_false (by omega)
  have c2 : ((n : Int) < 0) = False := eq_false (by omega)
  go_enter Tryd.func13, Tryd.ntmps13
  go_wp2_with (first | (go_at_call 20; refine (xbits.calls n hn _ HG.out).mono ?_; rintro e w1 ⟨rfl, hb⟩; have HB := Aside0.mk hb; clear hb))
  go_ret
  exact ⟨rfl, HB.out⟩
theorem xfmt.calls (n : Nat) (hn : n < 65536) (w : World) (hG : GlobT w) :
    Calls Tryd.prog 9 #[.int .i64 (n : Int), .int .i64 16] w fun e w' => e = .returned (.string (hxS n)) ∧ Below w.heap.size w w' := by
  have HG := Aside0.mk hG
  clear hG
  go_enter Tryd.func9, Tryd.ntmps9
  go_wp2_with (first | (go_at_call 13; refine (xstrFmt.calls n hn _ HG.out).mono ?_; rintro e w1 ⟨rfl, hb⟩; have HB := Aside0.mk hb; clear hb))
  go_ret
  exact ⟨rfl, HB.out⟩

end Go.Proofs.YtgemnnamhoekjaaDoor.F
namespace Go.Proofs.YtgemnnamhoekjaaDoor.F
open Go Go.Shelf Go.RowKit Go.Proofs.YtgemnnamhoekjaaDoorW.PrintWords Go.Proofs.YtgemnnamhoekjaaDoorW.PrintLast Go.Proofs.YtgemnnamhoekjaaDoorW.PrintMore
attribute [local go_sem] max2_int min2_int max_two min_two max_three min_three max_four min_four   -- for this text's walks alone
set_option linter.unusedVariables false
set_option linter.unusedSimpArgs false

/-! ### stands 24 -/
-- stands: strings.Join of a made row of short strings, between them a ':'
def join_ren : Go.Shelf.Ren := ⟨fun | 156 => 10 | 165 => 14 | 166 => 15 | 169 => 16 | 240 => 21 | 241 => 22 | 276 => 28 | 277 => 29 | n => n, fun | 0 => 0 | 3 => 3 | 4 => 4 | 9 => 9 | 20 => 20 | 31 => 28 | 37 => 25 | 70 => 34 | 72 => 36 | 75 => 39 | 76 => 40 | 80 => 42 | 127 => 50 | 164 => 58 | n => n, fun n => n⟩
theorem join_lays : Go.Proofs.Lays.n156 Tryd.prog join_ren := {
  mixed := by kernel_rfl
  f156 := Tryd.func10.trans (congrArg some (by kernel_rfl))
  f165 := Tryd.func14.trans (congrArg some (by kernel_rfl))
  f166 := Tryd.func15.trans (congrArg some (by kernel_rfl))
  f169 := Tryd.func16.trans (congrArg some (by kernel_rfl))
  f240 := Tryd.func21.trans (congrArg some (by kernel_rfl))
  f241 := Tryd.func22.trans (congrArg some (by kernel_rfl))
  f276 := Tryd.func28.trans (congrArg some (by kernel_rfl))
  f277 := Tryd.func29.trans (congrArg some (by kernel_rfl))
  t0 := Tryd.underlying0
  a0 := Tryd.isAgg0
  z0 := Tryd.sizeOf0
  v0 := Tryd.zeroValue0
  t3 := Tryd.underlying3
  a3 := Tryd.isAgg3
  z3 := Tryd.sizeOf3
  v3 := Tryd.zeroValue3
  t4 := Tryd.underlying4
  a4 := Tryd.isAgg4
  z4 := Tryd.sizeOf4
  v4 := Tryd.zeroValue4
  t9 := Tryd.underlying9
  a9 := Tryd.isAgg9
  z9 := Tryd.sizeOf9
  v9 := Tryd.zeroValue9
  t20 := Tryd.underlying20
  a20 := Tryd.isAgg20
  z20 := Tryd.sizeOf20
  v20 := Tryd.zeroValue20
  t31 := Tryd.underlying28
  a31 := Tryd.isAgg28
  z31 := Tryd.sizeOf28
  v31 := Tryd.zeroValue28
  t37 := Tryd.underlying25
  a37 := Tryd.isAgg25
  z37 := Tryd.sizeOf25
  v37 := Tryd.zeroValue25
  t70 := Tryd.underlying34
  a70 := Tryd.isAgg34
  z70 := Tryd.sizeOf34
  v70 := Tryd.zeroValue34
  t72 := Tryd.underlying36
  a72 := Tryd.isAgg36
  z72 := Tryd.sizeOf36
  v72 := Tryd.zeroValue36
  t75 := Tryd.underlying39
  a75 := Tryd.isAgg39
  z75 := Tryd.sizeOf39
  v75 := Tryd.zeroValue39
  t76 := Tryd.underlying40
  a76 := Tryd.isAgg40
  z76 := Tryd.sizeOf40
  v76 := Tryd.zeroValue40
  t127 := Tryd.underlying50
  a127 := Tryd.isAgg50
  z127 := Tryd.sizeOf50
  v127 := Tryd.zeroValue50
  t164 := Tryd.underlying58
  a164 := Tryd.isAgg58
  z164 := Tryd.sizeOf58
  v164 := Tryd.zeroValue58 }
theorem join_extra : Go.Proofs.Builder.Extra Tryd.prog join_ren := {
  sizeBuilder := by kernel_rfl
  liesBuilder := by kernel_rfl
  t5 := Tryd.underlying5
  a5 := Tryd.isAgg5
  z5 := Tryd.sizeOf5
  v5 := Tryd.zeroValue5
  infoByte := by kernel_rfl
  cellsByte := by kernel_rfl
  sizeByte := by kernel_rfl
  neB5 := by decide }
def joinS (l : List ByteArray) : ByteArray := ⟨(Lib.join (l.map (·.data.toList)) [58]).toArray⟩
theorem hxS_size (n : Nat) : (hxS n).data.toList.length ≤ 4 := by
  have h := hxLen 4 n []
  simp only [hxS, strOfNums, List.length_map, List.length_nil, Nat.add_zero] at h ⊢
  exact h
theorem join_small : ∀ (l : List ByteArray), (∀ x ∈ l, x.data.toList.length ≤ 4) → (Lib.join (l.map (·.data.toList)) [58]).length ≤ 5 * l.length
  | [], _ => by simp [Lib.join_nil]
  | x :: r, h => by
    have key : ∀ (r : List ByteArray), (∀ x ∈ r, x.data.toList.length ≤ 4) → Lib.lens (r.map (·.data.toList)) ≤ 4 * r.length := by
      intro r
      induction r with
      | nil => intro _; simp [Lib.lens]
      | cons y r ih =>
        intro h
        have h1 := ih (fun x hx => h x (List.mem_cons_of_mem _ hx))
        have h2 := h y (List.mem_cons_self)
        simp only [Lib.lens, List.map_cons, List.sum_cons, List.length_cons] at h1 ⊢
        omega
    have h1 := key r (fun y hy => h y (List.mem_cons_of_mem _ hy))
    have h2 := h x (List.mem_cons_self)
    rw [List.map_cons, Lib.join_cons, List.length_append, Lib.joinTail_length, List.length_map]
    simp only [List.length_cons, List.length_nil]
    omega
theorem xjoin.calls {W : World} {B e : Nat} {ok : Nat → Prop} {v : Value} {l : List ByteArray} (hR : Kd.R Kd.string e W B ok v l) (h4 : ∀ x ∈ l, x.data.toList.length ≤ 4) (h8 : l.length ≤ 8) :
    Calls Tryd.prog 10 #[v, .string ⟨#[58]⟩] W fun e w' => e = .returned (.string (joinS l)) ∧ Below W.heap.size W w' := by
  have hj := join_small l h4
  by_cases h0 : 0 < l.length
  · obtain ⟨g, c, rfl, _, hg, _⟩ := Kd.R_form hR h0
    obtain ⟨_, hc, hC⟩ := Kd.R_reads' hR
    refine Any.strings_Join join_lays join_extra g 0 c l ⟨#[58]⟩ W ?_ hg (by omega) hc (by show (Lib.join _ [58]).length ≤ _; omega)
    intro j x hx
    have hlt : j < l.length := by
      rcases Nat.lt_or_ge j l.length with h | h
      · exact h
      · rw [List.getElem?_eq_none h] at hx
        cases hx
    obtain ⟨ad, e0, hy⟩ := Kd.at_string hC (j : Int) (by omega) (by omega)
    cases e0
    rw [add_plain, Int.toNat_natCast] at hy
    rw [Nat.zero_add, hy]
    have e1 : l[j]? = some (l[j]) := List.getElem?_eq_getElem hlt
    rw [e1] at hx
    cases hx
    simp [rdOf, List.getD_eq_getElem?_getD, hlt]
  · have e0 : l = [] := List.length_eq_zero_iff.1 (by omega)
    subst e0
    obtain ⟨A, c, rfl⟩ := Kd.R_slice hR
    exact (Any.strings_Join_none join_lays join_extra A c ⟨#[58]⟩ W).mono fun e w' ⟨he, hw⟩ => ⟨he, hw ▸ Below.refl _ _⟩
/-- The numbers' letters, from the A-th on, N of them. -/
def gr (l : List Nat) (a n : Nat) : List ByteArray := (List.range n).map fun j => hxS (l.getD (a + j) 0)
theorem gr_succ (l : List Nat) (a n : Nat) : gr l a (n + 1) = gr l a n ++ [hxS (l.getD (a + n) 0)] := by
  simp [gr, List.range_succ]
theorem gr_len (l : List Nat) (a n : Nat) : (gr l a n).length = n := by simp [gr]
theorem gr_small (l : List Nat) (a n : Nat) : ∀ x ∈ gr l a n, x.data.toList.length ≤ 4 := by
  intro x hx
  simp only [gr, List.mem_map] at hx
  obtain ⟨j, _, rfl⟩ := hx
  exact hxS_size _

end Go.Proofs.YtgemnnamhoekjaaDoor.F
namespace Go.Proofs.YtgemnnamhoekjaaDoor.F
open Go Go.Shelf Go.RowKit Go.Proofs.YtgemnnamhoekjaaDoorW.PrintWords Go.Proofs.YtgemnnamhoekjaaDoorW.PrintLast Go.Proofs.YtgemnnamhoekjaaDoorW.PrintMore
attribute [local go_sem] max2_int min2_int max_two min_two max_three min_three max_four min_four   -- for this text's walks alone
set_option linter.unusedVariables false
set_option linter.unusedSimpArgs false

/-! ### impl_ShowV6: function 5 -/
theorem xinfoS : (Tryd.prog.info? 9).map (fun i => (i.zero, i.size, i.bytes)) = some (some (.string ⟨#[]⟩), 1, 16) := by kernel_rfl
/-- The eight numbers of 16 bytes. -/
def v6H (s : ByteArray) (l : List Nat) : Prop := ∀ k, k < 8 → impl_u16.f (s.extract (2 * k) s.size) = some ((l.getD k 0 : Nat) : Int) ∧ l.getD k 0 < 65536
set_option maxHeartbeats 8000000 in
set_option maxRecDepth 100000 in
theorem xShow.calls (s : ByteArray) (l : List Nat) (a b g : Nat) (w : World) (hs : s.size = 16) (hl : v6H s l) (hab : a ≤ b) (hb8 : b ≤ 8) (hc : w.cell? ⟨g, 0, none⟩ = some (.string s)) (hG : GlobT w) :
    Calls Tryd.prog 8 #[.int .i64 (a : Int), .int .i64 (b : Int), .pointer (some ⟨g, 0, none⟩)] w fun e w' => e = .returned (.string (joinS (gr l a (b - a)))) ∧ Below w.heap.size w w' := by
  have HS := Aside0.mk hs
  have HLL := Aside0.mk hl
  have HC := Aside0.mk hc
  have HG := Aside0.mk hG
  clear hs hl hc hG
  go_enter Tryd.func8, Tryd.ntmps8
  go_wp2
  go_loopw [6, 7] (fun v i wr => ∃ k : Nat, a ≤ k ∧ k ≤ b ∧ i = .int .i64 (k : Int) ∧ Aside0 (Kd.R Kd.string 9 wr w.heap.size (fun _ => True) v (gr l a (k - a))) ∧ Aside0 (Below w.heap.size w wr)) (fun _ i _ => b - (intOf i).toNat)
  case atStart => exact ⟨a, Nat.le_refl _, hab, rfl, ⟨by rw [Nat.sub_self]; exact Kd.R_nil _ _ _ _ _⟩, ⟨Below.refl _ _⟩⟩
  case round =>
    obtain ⟨k, hk1, hk2, rfl, HR, HB⟩ := hrel
    have x0 := (HB.out.cell (World.block_lt_of_cell? w _ HC.out)).trans HC.out
    by_cases h9 : k < b
    · have l4 : ((k : Int) < (b : Int)) = True := eq_true (by omega)
      have l5 : decide ((k : Int) < (b : Int)) = true := decide_eq_true (by omega)
      obtain ⟨hu, hu2⟩ := HLL.out k (by omega)
      have es := gr_succ l a (k - a)
      rw [show a + (k - a) = k by omega] at es
      have hlen : (gr l a (k - a)).length ≤ 8 := by rw [gr_len]; omega
      obtain ⟨x, hx⟩ : ∃ x, x = l.getD k 0 := ⟨_, rfl⟩
      rw [← hx] at hu hu2 es
      obtain ⟨m, hm⟩ : ∃ m, m = 2 * k := ⟨_, rfl⟩
      rw [← hm] at hu
      have e1 : IntKind.i64.wrap (2 * (k : Int)) = (m : Int) := by rw [IntKind.wrap_i64]; omega
      have b0 : ((m : Int) ≤ (s.size : Int)) = True := eq_true (by have := HS.out; omega)
      have b1 : decide ((m : Int) ≤ (s.size : Int)) = true := decide_eq_true (by have := HS.out; omega)
      have b2 : (m ≤ s.size) = True := eq_true (by have := HS.out; omega)
      replace hm := Aside0.mk hm
      replace hx := Aside0.mk hx
      generalize gr l a (k - a) = xs at HR es hlen
      replace es := Aside0.mk es
      have HU := Aside0.mk hu
      have HGr := Aside0.mk (HG.out.below HB.out)
      clear hu
      go_wp2_with (first | (go_at_call 7; refine (impl_u16.calls _ _ _ HU.out).mono ?_; rintro e w1 ⟨rfl, ⟨nd, rfl⟩⟩; have HB1 := Aside0.mk (pw_below_drewN HB.out nd); have HR1 := Aside0.mk (Kd.R_drewN HR.out nd); have HG1 := Aside0.mk (HG.out.below HB1.out); generalize wr.drewN nd = w1_ at *; clear HB HR HGr x0) | (go_at_call 9; refine (xfmt.calls x hu2 _ HG1.out).mono ?_; rintro e w2 ⟨rfl, hb⟩; have HB2 := Aside0.mk (below_step HB1.out hb); have HR2 := Aside0.mk (Kd.R_below HR1.out hb); clear hb HR1 HB1 HG1) | ((with_reducible refine gate_builtin (b := .append) (xs := #[.tmp 14, .tmp 21]) rfl ?_); (at_builtin; refine Kd.R_append Kd.string (w0 := w) w.heap.size rfl (.tmp 14) (.tmp 21) 28 9 (.string ⟨#[]⟩) 16 rfl Tryd.underlying28 xinfoS rfl (by decide) (by omega) _ xs (hxS x) [.string (hxS x)] (fun _ => True) (fun _ => False) rfl rfl ?aP (fun _ hk => hk.elim) ?aF ?aO ?aB ?aS ?aL ?_; (case aP => exact rfl); (case aB => exact HB2.out); (case aF => exact (fun _ _ => trivial)); (case aO => exact HR2.out); (case aS => exact (below_size HB2.out)); (case aL => omega); intro v9 w9 ho hb hg hat; rw [← es.out] at ho; have HR3 := Aside0.mk ho; have HB3 := Aside0.mk hb; clear ho hb hg hat HR2 HB2)))
      go_roundw
      case rel => exact ⟨k + 1, by omega, by omega, by go_num, ⟨by rw [show k + 1 - a = k - a + 1 by omega]; exact HR3.out⟩, HB3⟩
      case measure => simp only [intOf]; omega
    · have l4 : ((k : Int) < (b : Int)) = False := eq_false (by omega)
      have l5 : decide ((k : Int) < (b : Int)) = false := decide_eq_false (by omega)
      obtain rfl : k = b := by omega
      have hj := xjoin.calls HR.out (gr_small l a (k - a)) (by rw [gr_len]; omega)
      go_wp2_with (go_at_call 10; refine hj.mono ?_; rintro e w2 ⟨rfl, hb⟩; have HB2 := Aside0.mk (below_step HB.out hb); clear hb)
      go_ret
      exact ⟨rfl, HB2.out⟩
theorem xShow.at (s : ByteArray) (l : List Nat) (a b g : Nat) (w : World) (A : ByteArray) (hA : joinS (gr l a (b - a)) = A) (hs : s.size = 16) (hl : v6H s l) (hab : a ≤ b) (hb8 : b ≤ 8) (hc : w.cell? ⟨g, 0, none⟩ = some (.string s)) (hG : GlobT w) :
    Calls Tryd.prog 8 #[.int .i64 (a : Int), .int .i64 (b : Int), .pointer (some ⟨g, 0, none⟩)] w fun e w' => e = .returned (.string A) ∧ Below w.heap.size w w' := by
  subst hA
  exact xShow.calls s l a b g w hs hl hab hb8 hc hG
def runE (l : List Nat) : Nat → Nat → Nat
  | 0, k => k
  | f + 1, k => if l.getD k 0 = 0 then runE l f (k + 1) else k
def bestV (l : List Nat) : Nat → Nat × Nat
  | 0 => (0, 1)
  | n + 1 => if (bestV l n).2 < runE l (8 - n) n - n then (n, runE l (8 - n) n - n) else bestV l n
theorem runE_le (l : List Nat) : ∀ f k, k ≤ runE l f k ∧ runE l f k ≤ k + f
  | 0, k => ⟨Nat.le_refl _, Nat.le_refl _⟩
  | f + 1, k => by
    unfold runE
    split
    · have := runE_le l f (k + 1); omega
    · omega
theorem bestV_le (l : List Nat) : ∀ n, n ≤ 8 → (bestV l n).1 + (bestV l n).2 ≤ 8 ∧ 1 ≤ (bestV l n).2
  | 0, _ => ⟨by show 0 + 1 ≤ 8; decide, Nat.le_refl 1⟩
  | n + 1, h => by
    have h1 := bestV_le l n (by omega)
    have h2 := runE_le l (8 - n) n
    unfold bestV
    split
    · simp only; omega
    · exact h1
def showV6 (l : List Nat) : ByteArray := if (bestV l 8).2 < 2 then joinS (gr l 0 8) else joinS (gr l 0 (bestV l 8).1) ++ ⟨#[58, 58]⟩ ++ joinS (gr l ((bestV l 8).1 + (bestV l 8).2) (8 - ((bestV l 8).1 + (bestV l 8).2)))
theorem showV6_of {l : List Nat} {F R : Nat} (h : bestV l 8 = (F, R)) : F + R ≤ 8 ∧ (R < 2 → showV6 l = joinS (gr l 0 8)) ∧ (¬ R < 2 → showV6 l = joinS (gr l 0 F) ++ (⟨#[58, 58]⟩ : ByteArray) ++ joinS (gr l (F + R) (8 - (F + R)))) := by
  have hle := (bestV_le l 8 (Nat.le_refl _)).1
  unfold showV6
  rw [h] at hle ⊢
  exact ⟨hle, fun h2 => if_pos h2, fun h2 => if_neg h2⟩
theorem joinS_size (l : List Nat) (a n : Nat) (h : n ≤ 8) : (joinS (gr l a n)).size ≤ 40 := by
  have h1 := join_small (gr l a n) (gr_small l a n)
  rw [gr_len] at h1
  show (joinS (gr l a n)).data.size ≤ 40
  simp only [joinS, List.size_toArray]
  omega
/-- The eight numbers, if impl.u16 tells them. -/
def v6L (s : ByteArray) : Option (List Nat) := (List.range 8).mapM fun k => (impl_u16.f (s.extract (2 * k) s.size)).bind fun r => if 0 ≤ r ∧ r < 65536 then some r.toNat else none
theorem mapM_at {α β : Type} (f : α → Option β) : ∀ (xs : List α) (ys : List β), xs.mapM f = some ys → ∀ k (h : k < xs.length), ∃ y, ys[k]? = some y ∧ f xs[k] = some y
  | [], _, _, k, h => by simp at h
  | x :: xs, ys, h, k, hk => by
    rw [List.mapM_cons] at h
    obtain ⟨y, hy, h⟩ := Option.bind_eq_some_iff.1 h
    obtain ⟨zs, hz, h⟩ := Option.bind_eq_some_iff.1 h
    cases h
    cases k with
    | zero => exact ⟨y, rfl, hy⟩
    | succ k => exact mapM_at f xs zs hz k (by simpa using hk)
theorem v6L_H {s : ByteArray} {l : List Nat} (h : v6L s = some l) : v6H s l := by
  intro k hk
  obtain ⟨y, hy, hf⟩ := mapM_at _ _ _ h k (by simpa using hk)
  simp only [List.getElem_range] at hf
  obtain ⟨r, hr, hc⟩ := Option.bind_eq_some_iff.1 hf
  split at hc
  case isFalse => cases hc
  case isTrue hc2 =>
    cases hc
    have e : l.getD k 0 = r.toNat := by rw [List.getD_eq_getElem?_getD, hy]; rfl
    rw [e]
    exact ⟨by rw [hr]; congr 1; omega, by omega⟩
def impl_ShowV6.f (a0 : ByteArray) : Option (ByteArray × Int) := if a0.size = 16 then (v6L a0).bind fun l => some (showV6 l, 0) else some (⟨#[]⟩, 7)
set_option maxHeartbeats 8000000 in
set_option maxRecDepth 100000 in
theorem impl_ShowV6.calls (a0 : ByteArray) (r1 : ByteArray) (r2 : Int) (w : World) (h : impl_ShowV6.f a0 = some (r1, r2)) (hGlobT : GlobT w) :
    Calls Tryd.prog 5 #[.string a0] w fun e w' => e = .returned (.tuple #[.string r1, .int .i64 r2]) ∧ Below w.heap.size w w' := by
  unfold impl_ShowV6.f at h
  split at h
  case isFalse hs =>
    cases h
    have HB := Aside0.mk (Below.refl w.heap.size w)
    have c1 : ((a0.size : Int) == 16) = false := beq_eq_false_iff_ne.mpr (by omega)
    have c2 : ((a0.size : Int) != 16) = true := bne_iff_ne.mpr (by omega)
    have c3 : (a0.size == 16) = false := beq_eq_false_iff_ne.mpr hs
    have c4 : (a0.size != 16) = true := bne_iff_ne.mpr hs
    go_enter Tryd.func5, Tryd.ntmps5
    go_wp2
    go_ret2
    exact ⟨rfl, below_alloc HB.out _⟩
  case isTrue hs =>
    obtain ⟨l, hl, h⟩ := Option.bind_eq_some_iff.1 h
    cases h
    have HL := Aside0.mk (v6L_H hl)
    have HG := Aside0.mk hGlobT
    clear hl hGlobT h
    have c1 : ((a0.size : Int) == 16) = true := beq_iff_eq.mpr (by omega)
    have c2 : ((a0.size : Int) != 16) = false := bne_eq_false_iff_eq.mpr (by omega)
    have c3 : (a0.size == 16) = true := beq_iff_eq.mpr hs
    have c4 : (a0.size != 16) = false := bne_eq_false_iff_eq.mpr hs
    have HS := Aside0.mk hs
    clear hs
    go_enter Tryd.func5, Tryd.ntmps5
    go_upto_region 1 with fail
    have hc0 : (w.alloc (Obj.cells #[.string a0] 9)).cell? ⟨w.heap.size, 0, none⟩ = some (.string a0) := by
      rw [cell_of_row _ w.heap.size 0 _ _ _ (blk_new w _)]
      rfl
    have hb0 : Below w.heap.size w (w.alloc (Obj.cells #[.string a0] 9)) := below_alloc (Below.refl _ _) _
    refine (show ∀ W2, W2 = w.alloc (Obj.cells #[.string a0] 9) → Code.wp _ _ _ _ W2 from fun w1 hW2 => ?_) _ rfl
    rw [← hW2] at hc0 hb0
    clear hW2
    have HC := Aside0.mk hc0
    have HB0 := Aside0.mk hb0
    have HG1 := Aside0.mk (HG.out.below hb0)
    have x0 := hc0
    clear hb0
    go_wp2
    clear x0 hc0
    go_loopw [4, 5, 6] (fun f r i wr => ∃ n F R : Nat, n ≤ 8 ∧ f = .int .i64 (F : Int) ∧ r = .int .i64 (R : Int) ∧ i = .int .i64 (n : Int) ∧ Aside0 (bestV l n = (F, R)) ∧ Aside0 (Below w1.heap.size w1 wr)) (fun _ _ i _ => 8 - (intOf i).toNat)
    case atStart => exact ⟨0, 0, 1, Nat.zero_le _, rfl, rfl, rfl, ⟨rfl⟩, ⟨Below.refl _ _⟩⟩
    case round =>
      obtain ⟨n, F, R, hn, rfl, rfl, rfl, HBV, HB⟩ := hrel
      by_cases h9 : n < 8
      · have l4 : ((n : Int) < 8) = True := eq_true (by omega)
        have l5 : decide ((n : Int) < 8) = true := decide_eq_true (by omega)
        go_wp2
        go_loopw [7] (fun kk wr => ∃ j : Nat, n ≤ j ∧ j ≤ 8 ∧ kk = .int .i64 (j : Int) ∧ Aside0 (runE l (8 - j) j = runE l (8 - n) n) ∧ Aside0 (Below w1.heap.size w1 wr)) (fun kk _ => 8 - (intOf kk).toNat)
        case atStart => exact ⟨n, Nat.le_refl _, hn, rfl, ⟨rfl⟩, HB⟩
        case round =>
          clear HB l4 l5
          obtain ⟨j, hj1, hj2, rfl, HE, HB⟩ := hrel
          have x0 := (HB.out.cell (World.block_lt_of_cell? w1 _ HC.out)).trans HC.out
          by_cases h8 : j < 8
          · have l4 : ((j : Int) < 8) = True := eq_true (by omega)
            have l5 : decide ((j : Int) < 8) = true := decide_eq_true (by omega)
            obtain ⟨hu, hu2⟩ := HL.out j h8
            have hE := HE.out
            rw [show 8 - j = (8 - (j + 1)) + 1 by omega, runE] at hE
            obtain ⟨x, hx⟩ : ∃ x, x = l.getD j 0 := ⟨_, rfl⟩
            rw [← hx] at hu hE
            obtain ⟨m, hm⟩ : ∃ m, m = 2 * j := ⟨_, rfl⟩
            rw [← hm] at hu
            have e1 : IntKind.i64.wrap (2 * (j : Int)) = (m : Int) := by rw [IntKind.wrap_i64]; omega
            have b0 : ((m : Int) ≤ (a0.size : Int)) = True := eq_true (by have := HS.out; omega)
            have b1 : decide ((m : Int) ≤ (a0.size : Int)) = true := decide_eq_true (by have := HS.out; omega)
            have b2 : (m ≤ a0.size) = True := eq_true (by have := HS.out; omega)
            replace hm := Aside0.mk hm
            replace hx := Aside0.mk hx
            have HU := Aside0.mk hu
            clear hu
            by_cases hz : x = 0
            · rw [if_pos hz] at hE
              subst hz
              replace hE := Aside0.mk hE
              go_upto_region 9 with (go_at_call 7; refine (impl_u16.calls _ _ _ HU.out).mono ?_; rintro e w2 ⟨rfl, ⟨nd, rfl⟩⟩; have HB2 := Aside0.mk (pw_below_drewN HB.out nd); clear HU hx)
              generalize wr.drewN nd = w2 at *
              clear HB x0 b0 b1 b2 e1 hu2
              go_wp2
              go_roundw
              case rel => exact ⟨j + 1, by omega, by omega, by go_num, hE, HB2⟩
              case measure => simp only [intOf]; omega
            · rw [if_neg hz] at hE
              have z0 : ((x : Int) == 0) = false := beq_eq_false_iff_ne.mpr (by omega)
              have z1 : (x == 0) = false := beq_eq_false_iff_ne.mpr hz
              have z2 : ((x : Int) = 0) = False := eq_false (by omega)
              replace hE := Aside0.mk hE
              clear HE hz
              go_upto_region 10 with (go_at_call 7; refine (impl_u16.calls _ _ _ HU.out).mono ?_; rintro e w2 ⟨rfl, ⟨nd, rfl⟩⟩; have HB2 := Aside0.mk (pw_below_drewN HB.out nd); clear HU hx)
              generalize wr.drewN nd = w2 at *
              clear HB x0 b0 b1 b2 e1 hu2 z0 z1 z2
              have hbv : bestV l (n + 1) = if R < j - n then (n, j - n) else (F, R) := by
                rw [bestV, ← hE.out, HBV.out]
              clear hE
              obtain ⟨d, hd⟩ : ∃ d, d = j - n := ⟨_, rfl⟩
              rw [← hd] at hbv
              have e3 : IntKind.i64.wrap ((j : Int) - (n : Int)) = (d : Int) := by rw [IntKind.wrap_i64]; omega
              have hd8 : d ≤ 8 := by omega
              replace hd := Aside0.mk hd
              by_cases hr : R < d
              · have r1 : decide ((R : Int) < (d : Int)) = true := decide_eq_true (by omega)
                have r2 : ((R : Int) < (d : Int)) = True := eq_true (by omega)
                rw [if_pos hr] at hbv
                replace hbv := Aside0.mk hbv
                go_wp2
                go_roundw
                case rel => exact ⟨n + 1, n, d, by omega, rfl, rfl, by go_num, hbv, HB2⟩
                case measure => simp only [intOf]; omega
              · have r1 : decide ((R : Int) < (d : Int)) = false := decide_eq_false (by omega)
                have r2 : ((R : Int) < (d : Int)) = False := eq_false (by omega)
                rw [if_neg hr] at hbv
                replace hbv := Aside0.mk hbv
                go_wp2
                go_roundw
                case rel => exact ⟨n + 1, F, R, by omega, rfl, rfl, by go_num, hbv, HB2⟩
                case measure => simp only [intOf]; omega
          · have l4 : ((j : Int) < 8) = False := eq_false (by omega)
            have l5 : decide ((j : Int) < 8) = false := decide_eq_false (by omega)
            have hE := HE.out
            rw [show 8 - j = 0 by omega, runE] at hE
            replace hE := Aside0.mk hE
            clear HE
            go_upto_region 10 with fail
            clear x0
            have hbv : bestV l (n + 1) = if R < j - n then (n, j - n) else (F, R) := by
              rw [bestV, ← hE.out, HBV.out]
            clear hE
            obtain ⟨d, hd⟩ : ∃ d, d = j - n := ⟨_, rfl⟩
            rw [← hd] at hbv
            have e3 : IntKind.i64.wrap ((j : Int) - (n : Int)) = (d : Int) := by rw [IntKind.wrap_i64]; omega
            have hd8 : d ≤ 8 := by omega
            replace hd := Aside0.mk hd
            by_cases hr : R < d
            · have r1 : decide ((R : Int) < (d : Int)) = true := decide_eq_true (by omega)
              have r2 : ((R : Int) < (d : Int)) = True := eq_true (by omega)
              rw [if_pos hr] at hbv
              replace hbv := Aside0.mk hbv
              go_wp2
              go_roundw
              case rel => exact ⟨n + 1, n, d, by omega, rfl, rfl, by go_num, hbv, HB⟩
              case measure => simp only [intOf]; omega
            · have r1 : decide ((R : Int) < (d : Int)) = false := decide_eq_false (by omega)
              have r2 : ((R : Int) < (d : Int)) = False := eq_false (by omega)
              rw [if_neg hr] at hbv
              replace hbv := Aside0.mk hbv
              go_wp2
              go_roundw
              case rel => exact ⟨n + 1, F, R, by omega, rfl, rfl, by go_num, hbv, HB⟩
              case measure => simp only [intOf]; omega
      · have l4 : ((n : Int) < 8) = False := eq_false (by omega)
        have l5 : decide ((n : Int) < 8) = false := decide_eq_false (by omega)
        obtain rfl : n = 8 := by omega
        obtain ⟨hle, hsh1, hsh2⟩ := showV6_of HBV.out
        have x0 := (HB.out.cell (World.block_lt_of_cell? w1 _ HC.out)).trans HC.out
        have HX := Aside0.mk x0
        have HGr := Aside0.mk (HG1.out.below HB.out)
        clear x0 HBV
        by_cases h2 : R < 2
        · have hsh := Aside0.mk (hsh1 h2)
          clear hsh1 hsh2
          have r1 : decide ((R : Int) < 2) = true := decide_eq_true (by omega)
          have r2 : ((R : Int) < 2) = True := eq_true (by omega)
          go_wp2_with (go_at_call 8; refine (xShow.calls a0 l 0 8 w.heap.size wr HS.out HL.out (by decide) (by decide) HX.out HGr.out).mono ?_; rintro e w2 ⟨rfl, hb⟩; have HB2 := Aside0.mk (below_step HB.out hb); clear hb)
          go_ret2
          exact ⟨by rw [hsh.out]; rfl, below_step HB0.out HB2.out⟩
        · have hsh := Aside0.mk (hsh2 h2)
          clear hsh1 hsh2
          have r1 : decide ((R : Int) < 2) = false := decide_eq_false (by omega)
          have r2 : ((R : Int) < 2) = False := eq_false (by omega)
          go_upto_region 15 with fail
          have hA0 := joinS_size l 0 F (by omega)
          have hB0 := joinS_size l (F + R) (8 - (F + R)) (by omega)
          obtain ⟨A, hA⟩ : ∃ A, joinS (gr l 0 (F - 0)) = A := ⟨_, rfl⟩
          obtain ⟨B, hB⟩ : ∃ B, joinS (gr l (F + R) (8 - (F + R))) = B := ⟨_, rfl⟩
          rw [Nat.sub_zero] at hA
          rw [hA] at hA0
          rw [hB] at hB0
          have hsh2 := hsh.out
          rw [hA, hB] at hsh2
          clear hsh
          have hsh := Aside0.mk hsh2
          clear hsh2
          have f1 : (9223372036854775807 < A.size + 2) = False := eq_false (by omega)
          have f2 : (9223372036854775807 < A.size + 2 + B.size) = False := eq_false (by omega)
          have f3 : (9223372036854775807 < (A ++ (⟨#[58, 58]⟩ : ByteArray)).size + B.size) = False := eq_false (by rw [ByteArray.size_append]; show ¬ (_ < A.size + 2 + B.size); omega)
          have HA := Aside0.mk hA
          have HBq := Aside0.mk hB
          clear hA hB hA0 hB0
          obtain ⟨S, hS⟩ : ∃ S, S = F + R := ⟨_, rfl⟩
          have e50 : IntKind.i64.wrap ((F : Int) + (R : Int)) = (S : Int) := by rw [IntKind.wrap_i64]; omega
          have HBq2 := HBq.out
          rw [← hS] at HBq2
          have HBr := Aside0.mk HBq2
          rw [← hS] at hle
          replace hle := Aside0.mk hle
          replace hS := Aside0.mk hS
          clear HBq HBq2 l4 l5 c1 c2 c3 c4 hn h9
          go_wp2_with (first | (go_at_call 8; refine (xShow.at a0 l 0 F w.heap.size wr A HA.out HS.out HL.out (Nat.zero_le _) (by have := hle.out; have := hS.out; omega) HX.out HGr.out).mono ?_; rintro e w2 ⟨rfl, hb⟩; have HX2 := Aside0.mk ((hb.cell (World.block_lt_of_cell? _ _ HX.out)).trans HX.out); have HG2 := Aside0.mk (HGr.out.below hb); have HB2 := Aside0.mk (below_step HB.out hb); clear hb HX HGr HB) | (go_at_call 8; refine (xShow.at a0 l S 8 w.heap.size w2 B HBr.out HS.out HL.out hle.out (Nat.le_refl _) HX2.out HG2.out).mono ?_; rintro e w3 ⟨rfl, hb⟩; have HB3 := Aside0.mk (below_step HB2.out hb); clear hb HX2 HG2 HB2))
          go_ret2
          exact ⟨by rw [hsh.out]; rfl, below_step HB0.out HB3.out⟩

end Go.Proofs.YtgemnnamhoekjaaDoor.F
namespace Go.Proofs.YtgemnnamhoekjaaDoor.F
open Go Go.Shelf Go.RowKit Go.Proofs.YtgemnnamhoekjaaDoorW.PrintWords Go.Proofs.YtgemnnamhoekjaaDoorW.PrintLast Go.Proofs.YtgemnnamhoekjaaDoorW.PrintMore
attribute [local go_sem] max2_int min2_int max_two min_two max_three min_three max_four min_four   -- for this text's walks alone
set_option linter.unusedVariables false
set_option linter.unusedSimpArgs false

/-! ### laws_FnExactShowV6: function 3 -/
def laws_FnExactShowV6.f (k : Nat) (a0 : ByteArray) : Option (Bool) := if (a0.size : Int) > 1048576 then (some true) else ((spec_ShowV6.f k a0).bind fun bt101 => ((impl_ShowV6.f a0).bind fun bt103 => (if bt103.1.toList = bt101.1.toList then (if bt103.2 = bt101.2 then (some true) else (some false)) else (some false))))
theorem laws_FnExactShowV6.mono : ∀ a0 k, LeO (laws_FnExactShowV6.f k a0) (laws_FnExactShowV6.f (k + 1) a0) := by
  intro a0 k
  unfold laws_FnExactShowV6.f
  repeat' first
      | (with_reducible exact spec_ShowV6.mono _ _)
      | (with_reducible exact LeO.refl _)
      | (with_reducible exact LeO.none _)
      | (with_reducible refine LeO.ite ?_ ?_)
      | (with_reducible refine LeO.bind ?_ (fun _ => ?_))
      | exact spec_ShowV6.mono _ _
      | exact LeO.none _
      | refine LeO.ite ?_ ?_
      | refine LeO.bind ?_ (fun _ => ?_)
set_option maxHeartbeats 8000000 in
set_option maxRecDepth 100000 in
theorem laws_FnExactShowV6.calls (k : Nat) (a0 : ByteArray) (r : Bool) (w : World) (h : laws_FnExactShowV6.f k a0 = some r) (hGT : GlobT w) :
    Calls Tryd.prog 3 #[.string a0] w fun e w' => e = .returned (.bool r) ∧ Below w.heap.size w w' := by
  have HGT := Aside0.mk hGT
  clear hGT
  have HB := Aside0.mk (Below.refl w.heap.size w)
  have H : (if (a0.size : Int) > 1048576 then (some true) else ((spec_ShowV6.f k a0).bind fun bt101 => ((impl_ShowV6.f a0).bind fun bt103 => (if bt103.1.toList = bt101.1.toList then (if bt103.2 = bt101.2 then (some true) else (some false)) else (some false))))) = some r := h
  clear h
  by_cases c2 : (a0.size : Int) > 1048576
  · rw [if_pos c2] at H
    have c2b0 : decide (1048576 < (a0.size : Int)) = true := decide_eq_true c2
    have c2b1 : decide (1048576 < a0.size) = true := decide_eq_true (by omega)
    clear c2
    obtain rfl := Option.some.inj H
    go_enter Tryd.func3, Tryd.ntmps3
    go_wp2
    go_ret
    exact ⟨by first | rfl | (simp [errW_none, errW_some] <;> rfl) | (simp [*, errW_none, errW_some] <;> rfl), by repeat (first | (with_reducible first | exact HB.out | apply below_alloc | apply pw_below_drewN | apply below_drew1) | exact HB.out)⟩
  · rw [if_neg c2] at H
    have c2b0 : decide (1048576 < (a0.size : Int)) = false := decide_eq_false c2
    have c2b1 : decide (1048576 < a0.size) = false := decide_eq_false (by omega)
    clear c2
    replace H := Option.bind_eq_some_iff.mp H
    obtain ⟨⟨t101, t102⟩, A30, H⟩ := H
    replace H : ((impl_ShowV6.f a0).bind fun bt103 => (if bt103.1.toList = t101.toList then (if bt103.2 = t102 then (some true) else (some false)) else (some false))) = some r := H
    have A3 := Aside0.mk A30
    clear A30
    replace H := Option.bind_eq_some_iff.mp H
    obtain ⟨⟨t103, t104⟩, A40, H⟩ := H
    replace H : (if t103.toList = t101.toList then (if t104 = t102 then (some true) else (some false)) else (some false)) = some r := H
    have A4 := Aside0.mk A40
    clear A40
    by_cases c5 : t103.toList = t101.toList
    · rw [if_pos c5] at H
      have c5b0 : (t103.toList == t101.toList) = true := beq_iff_eq.mpr c5
      have c5b1 : (t103.toList != t101.toList) = false := bne_eq_false_iff_eq.mpr c5
      clear c5
      by_cases c6 : t104 = t102
      · rw [if_pos c6] at H
        have c6b0 : (t104 == t102) = true := beq_iff_eq.mpr c6
        have c6b1 : (t104 != t102) = false := bne_eq_false_iff_eq.mpr c6
        clear c6
        obtain rfl := Option.some.inj H
        go_enter Tryd.func3, Tryd.ntmps3
        go_wp2_with (first | ((with_reducible refine gate_callee (f := 4) rfl ?_); refine goesL_ (some 12) rfl rfl Tryd.func4 (by kernel_rfl) rfl #[.string a0] rfl (by (try simp only [List.map_toArray, List.map_cons, List.map_nil]); first | done | rfl | (simp only [List.length_drop, List.length_take]; rfl)) ?_; (with_reducible refine (spec_ShowV6.calls k a0 t101 t102 _ A3.out).mono ?_); rintro e w7 ⟨rfl, hb⟩; refine ⟨_, rfl, ?_⟩; have n0_ := Aside0.mk (below_step (by repeat (first | (with_reducible first | exact HB.out | apply below_alloc | apply pw_below_drewN | apply below_drew1) | exact HB.out)) hb); clear HB; have HB := n0_; clear n0_; (try clear hb); (try clear hb2); (try clear hk); (try clear hi)) | ((with_reducible refine gate_callee (f := 5) rfl ?_); refine goesL_ (some 17) rfl rfl Tryd.func5 (by kernel_rfl) rfl #[.string a0] rfl (by (try simp only [List.map_toArray, List.map_cons, List.map_nil]); first | done | rfl | (simp only [List.length_drop, List.length_take]; rfl)) ?_; (with_reducible refine (impl_ShowV6.calls a0 t103 t104 _ A4.out (HGT.out.below (by repeat (first | (with_reducible first | exact HB.out | apply below_alloc | apply pw_below_drewN | apply below_drew1) | exact HB.out)))).mono ?_); rintro e w8 ⟨rfl, hb⟩; refine ⟨_, rfl, ?_⟩; have n0_ := Aside0.mk (below_step (by repeat (first | (with_reducible first | exact HB.out | apply below_alloc | apply pw_below_drewN | apply below_drew1) | exact HB.out)) hb); clear HB; have HB := n0_; clear n0_; (try clear hb); (try clear hb2); (try clear hk); (try clear hi)))
        go_ret
        exact ⟨by first | rfl | (simp [errW_none, errW_some] <;> rfl) | (simp [*, errW_none, errW_some] <;> rfl), by repeat (first | (with_reducible first | exact HB.out | apply below_alloc | apply pw_below_drewN | apply below_drew1) | exact HB.out)⟩
      · rw [if_neg c6] at H
        have c6b0 : (t104 == t102) = false := beq_eq_false_iff_ne.mpr c6
        have c6b1 : (t104 != t102) = true := bne_iff_ne.mpr c6
        obtain rfl := Option.some.inj H
        go_enter Tryd.func3, Tryd.ntmps3
        go_wp2_with (first | ((with_reducible refine gate_callee (f := 4) rfl ?_); refine goesL_ (some 12) rfl rfl Tryd.func4 (by kernel_rfl) rfl #[.string a0] rfl (by (try simp only [List.map_toArray, List.map_cons, List.map_nil]); first | done | rfl | (simp only [List.length_drop, List.length_take]; rfl)) ?_; (with_reducible refine (spec_ShowV6.calls k a0 t101 t102 _ A3.out).mono ?_); rintro e w9 ⟨rfl, hb⟩; refine ⟨_, rfl, ?_⟩; have n0_ := Aside0.mk (below_step (by repeat (first | (with_reducible first | exact HB.out | apply below_alloc | apply pw_below_drewN | apply below_drew1) | exact HB.out)) hb); clear HB; have HB := n0_; clear n0_; (try clear hb); (try clear hb2); (try clear hk); (try clear hi)) | ((with_reducible refine gate_callee (f := 5) rfl ?_); refine goesL_ (some 17) rfl rfl Tryd.func5 (by kernel_rfl) rfl #[.string a0] rfl (by (try simp only [List.map_toArray, List.map_cons, List.map_nil]); first | done | rfl | (simp only [List.length_drop, List.length_take]; rfl)) ?_; (with_reducible refine (impl_ShowV6.calls a0 t103 t104 _ A4.out (HGT.out.below (by repeat (first | (with_reducible first | exact HB.out | apply below_alloc | apply pw_below_drewN | apply below_drew1) | exact HB.out)))).mono ?_); rintro e w10 ⟨rfl, hb⟩; refine ⟨_, rfl, ?_⟩; have n0_ := Aside0.mk (below_step (by repeat (first | (with_reducible first | exact HB.out | apply below_alloc | apply pw_below_drewN | apply below_drew1) | exact HB.out)) hb); clear HB; have HB := n0_; clear n0_; (try clear hb); (try clear hb2); (try clear hk); (try clear hi)))
        go_ret
        exact ⟨by first | rfl | (simp [errW_none, errW_some] <;> rfl) | (simp [*, errW_none, errW_some] <;> rfl), by repeat (first | (with_reducible first | exact HB.out | apply below_alloc | apply pw_below_drewN | apply below_drew1) | exact HB.out)⟩
    · rw [if_neg c5] at H
      have c5b0 : (t103.toList == t101.toList) = false := beq_eq_false_iff_ne.mpr c5
      have c5b1 : (t103.toList != t101.toList) = true := bne_iff_ne.mpr c5
      obtain rfl := Option.some.inj H
      go_enter Tryd.func3, Tryd.ntmps3
      go_wp2_with (first | ((with_reducible refine gate_callee (f := 4) rfl ?_); refine goesL_ (some 12) rfl rfl Tryd.func4 (by kernel_rfl) rfl #[.string a0] rfl (by (try simp only [List.map_toArray, List.map_cons, List.map_nil]); first | done | rfl | (simp only [List.length_drop, List.length_take]; rfl)) ?_; (with_reducible refine (spec_ShowV6.calls k a0 t101 t102 _ A3.out).mono ?_); rintro e w11 ⟨rfl, hb⟩; refine ⟨_, rfl, ?_⟩; have n0_ := Aside0.mk (below_step (by repeat (first | (with_reducible first | exact HB.out | apply below_alloc | apply pw_below_drewN | apply below_drew1) | exact HB.out)) hb); clear HB; have HB := n0_; clear n0_; (try clear hb); (try clear hb2); (try clear hk); (try clear hi)) | ((with_reducible refine gate_callee (f := 5) rfl ?_); refine goesL_ (some 17) rfl rfl Tryd.func5 (by kernel_rfl) rfl #[.string a0] rfl (by (try simp only [List.map_toArray, List.map_cons, List.map_nil]); first | done | rfl | (simp only [List.length_drop, List.length_take]; rfl)) ?_; (with_reducible refine (impl_ShowV6.calls a0 t103 t104 _ A4.out (HGT.out.below (by repeat (first | (with_reducible first | exact HB.out | apply below_alloc | apply pw_below_drewN | apply below_drew1) | exact HB.out)))).mono ?_); rintro e w12 ⟨rfl, hb⟩; refine ⟨_, rfl, ?_⟩; have n0_ := Aside0.mk (below_step (by repeat (first | (with_reducible first | exact HB.out | apply below_alloc | apply pw_below_drewN | apply below_drew1) | exact HB.out)) hb); clear HB; have HB := n0_; clear n0_; (try clear hb); (try clear hb2); (try clear hk); (try clear hi)))
      go_ret
      exact ⟨by first | rfl | (simp [errW_none, errW_some] <;> rfl) | (simp [*, errW_none, errW_some] <;> rfl), by repeat (first | (with_reducible first | exact HB.out | apply below_alloc | apply pw_below_drewN | apply below_drew1) | exact HB.out)⟩

/-- THE ONE PURE STATEMENT of laws_FnExactShowV6: yours. -/
def laws_FnExactShowV6.Pure : Prop := ∀ (a0 : ByteArray), a0.size ≤ 140737488351232 → ∃ k, laws_FnExactShowV6.f k a0 = some true
theorem laws_FnExactShowV6.walk (P : laws_FnExactShowV6.Pure) (a0 : ByteArray) (w : World) (w0 : a0.size ≤ 140737488351232) (hGT : GlobT w) :
    Calls Tryd.prog 3 #[.string a0] w fun e w' => e = .returned (.bool true) ∧ Below w.heap.size w w' := by
  obtain ⟨k, h⟩ := P a0 w0
  refine (laws_FnExactShowV6.calls k a0 true w h hGT).mono ?_
  rintro e w' ⟨rfl, hd⟩
  exact ⟨rfl, hd⟩

end Go.Proofs.YtgemnnamhoekjaaDoor.F
namespace Go.Proofs.YtgemnnamhoekjaaDoor.Base
open Go.RowKit Go.Proofs.YtgemnnamhoekjaaDoorW.PrintWords Go.Proofs.YtgemnnamhoekjaaDoorW.PrintMore

theorem w64 {x : Int} (h0 : -9223372036854775808 ≤ x) (h1 : x ≤ 9223372036854775807) : wrap64 x = x := by
  unfold wrap64
  omega

def L (s : ByteArray) : List UInt8 := s.data.toList
def B (l : List UInt8) : ByteArray := ⟨l.toArray⟩
theorem L_B (l : List UInt8) : L (B l) = l := by simp [L, B]
theorem B_L (s : ByteArray) : B (L s) = s := by simp [L, B]
theorem L_inj {a b : ByteArray} (h : L a = L b) : a = b := by rw [← B_L a, ← B_L b, h]
theorem L_iff {a b : ByteArray} : L a = L b ↔ a = b := ⟨L_inj, fun h => by rw [h]⟩
theorem size_L (s : ByteArray) : s.size = (L s).length := by simp [L]
theorem toL (s : ByteArray) : s.toList = L s := Lib.toList_data s
theorem L_extract (s : ByteArray) (i j : Nat) : L (s.extract i j) = ((L s).drop i).take (j - i) := by
  simp [L, ByteArray.data_extract]
theorem L_append (a b : ByteArray) : L (a ++ b) = L a ++ L b := by
  simp [L, ByteArray.data_append]
theorem bt_L (s : ByteArray) (i : Int) : bt s i = (((L s).getD i.toNat 0).toNat : Int) := by
  unfold bt
  split
  · rename_i h
    have h' : i.toNat < (L s).length := by rw [← size_L]; exact h
    rw [List.getD_eq_getElem?_getD, List.getElem?_eq_getElem h']
    rfl
  · rename_i h
    have h' : (L s).length ≤ i.toNat := by rw [← size_L]; omega
    rw [List.getD_eq_getElem?_getD, List.getElem?_eq_none h']
    rfl
theorem bt_mid {x : ByteArray} {p : List UInt8} {c : UInt8} {r : List UInt8} (h : L x = p ++ c :: r) {i : Int} (hi : i = (p.length : Int)) : bt x i = (c.toNat : Int) := by
  rw [bt_L, h, hi]
  simp [List.getD_eq_getElem?_getD]
theorem bt_cons {x : ByteArray} {c : UInt8} {r : List UInt8} (h : L x = c :: r) : bt x 0 = (c.toNat : Int) := bt_mid (p := []) h rfl
theorem L_strOfNums (xs : List Int) : L (strOfNums xs) = xs.map fun n => UInt8.ofNat n.toNat := by simp [L, strOfNums]
theorem byte_le (c : UInt8) : (c.toNat : Int) ≤ 255 := by have := c.toNat_lt; omega
theorem byte_id (c : UInt8) : UInt8.ofNat ((c.toNat : Int)).toNat = c := by simp

theorem drop_len {α : Type} (p t : List α) (k : Nat) : (p ++ t).drop (p.length + k) = t.drop k := by
  rw [List.drop_append, List.drop_eq_nil_of_le (by omega), List.nil_append, Nat.add_sub_cancel_left]
theorem getD_len {α : Type} (p t : List α) (k : Nat) (d : α) : (p ++ t).getD (p.length + k) d = t.getD k d := by
  simp [List.getD_eq_getElem?_getD, List.getElem?_append_right]

/-- The labels of a name's bytes; none: they are no name (but for the limit on the whole). -/
def labs : List UInt8 → Option (List ByteArray)
  | [] => none
  | c :: r => if c.toNat = 0 then (if r = [] then some [] else none) else if 63 < c.toNat then none else if r.length < c.toNat then none else (labs (r.drop c.toNat)).map (B (r.take c.toNat) :: ·)
  termination_by l => l.length
  decreasing_by simp; omega

/-- The labels of a name. -/
def names (l : List UInt8) : Option (List ByteArray) := if l.length < 1 ∨ 255 < l.length then none else labs l

/-- What a cut in labels answers that had come to some. -/
def res (acc : List ByteArray) : Option (List ByteArray) → List ByteArray × Bool
  | none => ([], false)
  | some ls => (acc ++ ls, true)
theorem res_map (acc : List ByteArray) (b : ByteArray) (o : Option (List ByteArray)) : res acc (o.map (b :: ·)) = res (acc ++ [b]) o := by
  cases o <;> simp [res]

/-- What the other cut in labels leaves where it fails. -/
def jk (acc : List ByteArray) : List UInt8 → List ByteArray
  | [] => []
  | c :: r => if c.toNat = 0 then acc else if 63 < c.toNat then [] else if r.length < c.toNat then [] else jk (acc ++ [B (r.take c.toNat)]) (r.drop c.toNat)
  termination_by l => l.length
  decreasing_by simp; omega
def res2 (acc : List ByteArray) (l : List UInt8) : List ByteArray × Bool := match labs l with
  | none => (jk acc l, false)
  | some ls => (acc ++ ls, true)
theorem labs_count : ∀ (n : Nat) (l : List UInt8), l.length ≤ n → ∀ ls, labs l = some ls → ls.length + 1 ≤ l.length := by
  intro n
  induction n with
  | zero =>
    intro l hl ls h
    obtain rfl : l = [] := List.length_eq_zero_iff.1 (by omega)
    simp [labs] at h
  | succ n ih =>
    intro l hl ls h
    cases l with
    | nil => simp [labs] at h
    | cons c r =>
      simp only [List.length_cons] at hl ⊢
      rw [labs] at h
      by_cases h0 : c.toNat = 0
      · rw [if_pos h0] at h
        by_cases hr : r = []
        · rw [if_pos hr] at h
          obtain rfl := Option.some.inj h
          simp
        · rw [if_neg hr] at h
          cases h
      · rw [if_neg h0] at h
        by_cases h63 : 63 < c.toNat
        · rw [if_pos h63] at h
          cases h
        · rw [if_neg h63] at h
          by_cases hl2 : r.length < c.toNat
          · rw [if_pos hl2] at h
            cases h
          · rw [if_neg hl2] at h
            obtain ⟨t, ht, rfl⟩ := Option.map_eq_some_iff.1 h
            have := ih (r.drop c.toNat) (by simp; omega) t ht
            simp at this ⊢
            omega
theorem names_count {l : List UInt8} {ls : List ByteArray} (h : names l = some ls) : ls.length ≤ 254 := by
  unfold names at h
  split at h
  · cases h
  · have := labs_count _ l (Nat.le_refl _) ls h
    omega
end Go.Proofs.YtgemnnamhoekjaaDoor.Base
namespace Go.Proofs.YtgemnnamhoekjaaDoor.Base
open Go Go.RowKit Go.Proofs.YtgemnnamhoekjaaDoorW.PrintWords Go.Proofs.YtgemnnamhoekjaaDoorW.PrintMore

def low (c : UInt8) : UInt8 := if 65 ≤ c.toNat ∧ c.toNat ≤ 90 then UInt8.ofNat (c.toNat + 32) else c
theorem low_toNat (c : UInt8) : (low c).toNat = if 65 ≤ c.toNat ∧ c.toNat ≤ 90 then c.toNat + 32 else c.toNat := by
  unfold low
  split
  · rw [UInt8.toNat_ofNat']
    omega
  · rfl
theorem low_small {c : UInt8} (h : c.toNat ≤ 64) : low c = c := by
  unfold low
  rw [if_neg (by omega)]
theorem low_low (c : UInt8) : low (low c) = low c := by
  apply UInt8.toNat_inj.1
  rw [low_toNat (low c), low_toNat c]
  by_cases h : 65 ≤ c.toNat ∧ c.toNat ≤ 90
  · rw [if_pos h, if_neg (by omega)]
  · rw [if_neg h, if_neg h]
def foldB (s : ByteArray) : ByteArray := B ((L s).map low)
theorem L_foldB (s : ByteArray) : L (foldB s) = (L s).map low := L_B _
theorem foldB_size (s : ByteArray) : (foldB s).size = s.size := by rw [size_L, size_L, L_foldB, List.length_map]
theorem foldB_foldB (s : ByteArray) : foldB (foldB s) = foldB s := by
  apply L_inj
  rw [L_foldB, L_foldB, List.map_map]
  exact List.map_congr_left fun c _ => low_low c
def joinL (ls : List ByteArray) : List UInt8 := ls.flatMap fun s => UInt8.ofNat s.size :: L s
def join (ls : List ByteArray) : ByteArray := B (joinL ls ++ [0])
theorem joinL_cons (s : ByteArray) (t : List ByteArray) : joinL (s :: t) = UInt8.ofNat s.size :: (L s ++ joinL t) := by simp [joinL]
theorem joinL_append (a b : List ByteArray) : joinL (a ++ b) = joinL a ++ joinL b := by simp [joinL]
theorem L_join (ls : List ByteArray) : L (join ls) = joinL ls ++ [0] := L_B _
theorem size_join (ls : List ByteArray) : (join ls).size = (joinL ls).length + 1 := by rw [size_L, L_join]; simp
/-- A name's bytes are its labels joined, and each label has from 1 to 63 bytes. -/
theorem labs_join : ∀ (n : Nat) (l : List UInt8), l.length ≤ n → ∀ ls, labs l = some ls → l = joinL ls ++ [0] ∧ ∀ s ∈ ls, 1 ≤ s.size ∧ s.size ≤ 63 := by
  intro n
  induction n with
  | zero =>
    intro l hl ls h
    obtain rfl : l = [] := List.length_eq_zero_iff.1 (by omega)
    simp [labs] at h
  | succ n ih =>
    intro l hl ls h
    cases l with
    | nil => simp [labs] at h
    | cons c r =>
      simp only [List.length_cons] at hl
      rw [labs] at h
      by_cases h0 : c.toNat = 0
      · rw [if_pos h0] at h
        by_cases hr : r = []
        · rw [if_pos hr] at h
          obtain rfl := Option.some.inj h
          subst hr
          have : c = 0 := UInt8.toNat_inj.1 h0
          subst this
          exact ⟨by simp [joinL], by simp⟩
        · rw [if_neg hr] at h; cases h
      · rw [if_neg h0] at h
        by_cases h63 : 63 < c.toNat
        · rw [if_pos h63] at h; cases h
        · rw [if_neg h63] at h
          by_cases hl2 : r.length < c.toNat
          · rw [if_pos hl2] at h; cases h
          · rw [if_neg hl2] at h
            obtain ⟨t, ht, rfl⟩ := Option.map_eq_some_iff.1 h
            obtain ⟨h1, h2⟩ := ih (r.drop c.toNat) (by simp; omega) t ht
            have hs : (B (r.take c.toNat)).size = c.toNat := by rw [size_L, L_B, List.length_take]; omega
            refine ⟨?_, ?_⟩
            · rw [joinL_cons, hs, L_B, List.cons_append, List.append_assoc, ← h1, List.take_append_drop]
              simp
            · intro s hm
              rcases List.mem_cons.1 hm with rfl | hm
              · rw [hs]; omega
              · exact h2 s hm
theorem names_join {l : List UInt8} {ls : List ByteArray} (h : names l = some ls) : l = joinL ls ++ [0] ∧ (∀ s ∈ ls, 1 ≤ s.size ∧ s.size ≤ 63) ∧ l.length ≤ 255 := by
  unfold names at h
  split at h
  · cases h
  · obtain ⟨h1, h2⟩ := labs_join _ l (Nat.le_refl _) ls h
    exact ⟨h1, h2, by omega⟩
/-- Labels of good length, joined, are cut into just these labels. -/
theorem labs_of_join : ∀ (ls : List ByteArray), (∀ s ∈ ls, 1 ≤ s.size ∧ s.size ≤ 63) → labs (joinL ls ++ [0]) = some ls := by
  intro ls
  induction ls with
  | nil => intro _; simp [joinL, labs]
  | cons s t ih =>
    intro h
    have hs := h s (by simp)
    have ht := ih fun x hx => h x (by simp [hx])
    have hl := size_L s
    have hn : (UInt8.ofNat s.size).toNat = s.size := by rw [UInt8.toNat_ofNat']; omega
    rw [joinL_cons, List.cons_append, labs, hn, if_neg (by omega), if_neg (by omega), if_neg (by simp; omega)]
    have e1 : (L s ++ joinL t ++ [0]).drop s.size = joinL t ++ [0] := by rw [List.append_assoc, hl, List.drop_left]
    have e2 : (L s ++ joinL t ++ [0]).take s.size = L s := by rw [List.append_assoc, hl, List.take_left]
    rw [e1, e2, ht, B_L]
    rfl
theorem names_of_join {ls : List ByteArray} (h : ∀ s ∈ ls, 1 ≤ s.size ∧ s.size ≤ 63) (hn : (joinL ls).length + 1 ≤ 255) : names (joinL ls ++ [0]) = some ls := by
  unfold names
  rw [if_neg (by simp; omega), labs_of_join ls h]
theorem joinL_fold : ∀ (ls : List ByteArray), (∀ s ∈ ls, s.size ≤ 63) → (joinL ls).map low = joinL (ls.map foldB) := by
  intro ls
  induction ls with
  | nil => intro _; simp [joinL]
  | cons s t ih =>
    intro h
    have hs := h s (by simp)
    rw [joinL_cons, List.map_cons, List.map_append, ih fun x hx => h x (by simp [hx]), List.map_cons, joinL_cons, foldB_size, L_foldB, low_small (by rw [UInt8.toNat_ofNat']; omega)]
theorem fold_join {ls : List ByteArray} (h : ∀ s ∈ ls, s.size ≤ 63) : foldB (join ls) = join (ls.map foldB) := by
  apply L_inj
  rw [L_foldB, L_join, L_join, List.map_append, joinL_fold ls h]
  simp [low_small]
theorem join_names {a : ByteArray} {ls : List ByteArray} (h : names (L a) = some ls) : join ls = a := L_inj (by rw [L_join, ← (names_join h).1])
theorem mem_size {ls : List ByteArray} (h : ∀ s ∈ ls, 1 ≤ s.size ∧ s.size ≤ 63) : ∀ s ∈ ls, s.size ≤ 63 := fun s hs => (h s hs).2
theorem joinL_len_fold (ls : List ByteArray) : (joinL (ls.map foldB)).length = (joinL ls).length := by
  induction ls with
  | nil => rfl
  | cons s t ih => rw [List.map_cons, joinL_cons, joinL_cons]; simp [ih, L_foldB]
theorem joinL_len_drop (ls : List ByteArray) (n : Nat) : (joinL (ls.drop n)).length ≤ (joinL ls).length := by
  have h : joinL ls = joinL (ls.take n) ++ joinL (ls.drop n) := by rw [← joinL_append, List.take_append_drop]
  rw [h, List.length_append]; omega
theorem joinL_len_ge (ls : List ByteArray) : ls.length ≤ (joinL ls).length := by
  induction ls with
  | nil => simp
  | cons s t ih => rw [joinL_cons]; simp; omega
theorem mem_len_le {ls : List ByteArray} {s : ByteArray} (h : s ∈ ls) : s.size ≤ (joinL ls).length := by
  induction ls with
  | nil => cases h
  | cons x t ih =>
    rw [joinL_cons, size_L]
    rcases List.mem_cons.1 h with rfl | h
    · simp; omega
    · have := ih h
      rw [size_L] at this
      simp; omega
def sameN (a b : ByteArray) : Bool := (names (L a)).isSome && ((names (L b)).isSome && (L (foldB a) == L (foldB b)))
theorem foldB_ne {a : ByteArray} {ls : List ByteArray} (h : names (L a) = some ls) : L (foldB a) ≠ [] := by
  rw [L_foldB, (names_join h).1]
  simp
/-- A name without its first labels. -/
def ancN (o : Option (List ByteArray)) (n : Int) : ByteArray × Int := match o with
  | none => (⟨#[]⟩, 32)
  | some ls => if n < 0 ∨ n > (ls.length : Int) then (⟨#[]⟩, 32) else (join (ls.drop n.toNat), 0)
/-- The order of two names by their labels from the right, given turned round. -/
def cmpR : List ByteArray → List ByteArray → Int
  | [], [] => 0
  | [], _ :: _ => -1
  | _ :: _, [] => 1
  | a :: x, b :: y => if Lib.compareBytes (L (foldB a)) (L (foldB b)) = 0 then cmpR x y else Lib.compareBytes (L (foldB a)) (L (foldB b))
/-- The order of two names. -/
def cmpN (a b : ByteArray) : Int := match names (L a), names (L b) with
  | some x, some y => cmpR x.reverse y.reverse
  | _, _ => 0
theorem rev_drop (l : List ByteArray) (i : Nat) (h : i < l.length) : l.reverse.drop i = l.getD (l.length - (i + 1)) ByteArray.empty :: l.reverse.drop (i + 1) := by
  rw [List.drop_eq_getElem_cons (by simpa using h)]
  congr 1
  rw [List.getElem_reverse, List.getD_eq_getElem?_getD, List.getElem?_eq_getElem (by omega)]
  simp only [Option.getD_some]
  congr 1
  omega
/-- The name that labels make. -/
def mkN (ls : List ByteArray) : ByteArray × Int := if 127 < ls.length then (⟨#[]⟩, 3) else if ∃ s ∈ ls, s.size < 1 ∨ 63 < s.size then (⟨#[]⟩, 2) else if 255 < (joinL ls).length + 1 then (⟨#[]⟩, 3) else (join ls, 0)
def GoodL (ls : List ByteArray) : Prop := ∀ s ∈ ls, 1 ≤ s.size ∧ s.size ≤ 63
theorem join_inj {x y : List ByteArray} (hx : GoodL x) (hy : GoodL y) (h : join x = join y) : x = y := by
  have h2 : labs (L (join x)) = labs (L (join y)) := by rw [h]
  rw [L_join, L_join, labs_of_join x hx, labs_of_join y hy] at h2
  exact Option.some.inj h2
theorem GoodL.fold {x : List ByteArray} (hx : GoodL x) : GoodL (x.map foldB) := by
  intro s hs
  obtain ⟨t, ht, rfl⟩ := List.mem_map.1 hs
  rw [foldB_size]
  exact hx t ht
theorem GoodL.drop {x : List ByteArray} (hx : GoodL x) (n : Nat) : GoodL (x.drop n) := fun s hs => hx s (List.mem_of_mem_drop hs)
theorem GoodL.take {x : List ByteArray} (hx : GoodL x) (n : Nat) : GoodL (x.take n) := fun s hs => hx s (List.mem_of_mem_take hs)
theorem GoodL.append {x y : List ByteArray} (hx : GoodL x) (hy : GoodL y) : GoodL (x ++ y) := fun s hs => (List.mem_append.1 hs).elim (hx s) (hy s)
theorem foldB_join_iff {x y : List ByteArray} (hx : GoodL x) (hy : GoodL y) : foldB (join x) = foldB (join y) ↔ x.map foldB = y.map foldB := by
  rw [fold_join (mem_size hx), fold_join (mem_size hy)]
  exact ⟨join_inj hx.fold hy.fold, fun h => by rw [h]⟩
theorem names_good {a : ByteArray} {ls : List ByteArray} (h : names (L a) = some ls) : GoodL ls ∧ join ls = a ∧ (joinL ls).length + 1 ≤ 255 := by
  obtain ⟨h1, h2, h3⟩ := names_join h
  exact ⟨h2, join_names h, by rw [h1] at h3; simpa using h3⟩
theorem joinL_good_ge : ∀ {ls : List ByteArray}, GoodL ls → 2 * ls.length ≤ (joinL ls).length := by
  intro ls
  induction ls with
  | nil => intro _; simp
  | cons s t ih =>
    intro h
    have h1 := h s (by simp)
    have h2 := ih fun x hx => h x (by simp [hx])
    have := size_L s
    rw [joinL_cons]
    simp only [List.length_cons, List.length_append]
    omega
/-- The name of good labels. -/
def mkG (ls : List ByteArray) : ByteArray × Int := if 255 < (joinL ls).length + 1 then (⟨#[]⟩, 3) else (join ls, 0)
theorem mkN_good {ls : List ByteArray} (h : GoodL ls) : mkN ls = mkG ls := by
  have hl := joinL_good_ge h
  have hne : ¬ ∃ s ∈ ls, s.size < 1 ∨ 63 < s.size := by
    rintro ⟨s, hs, hb⟩
    have := h s hs
    omega
  unfold mkN mkG
  by_cases h1 : 127 < ls.length
  · rw [if_pos h1, if_pos (by omega)]
  · rw [if_neg h1, if_neg hne]
/-- Is a name another one or below it: by their labels. -/
def underL (x y : List ByteArray) : Bool := decide (y.length ≤ x.length ∧ (x.drop (x.length - y.length)).map foldB = y.map foldB)
def underN (a b : ByteArray) : Bool := match names (L a), names (L b) with
  | some x, some y => underL x y
  | _, _ => false
theorem sameN_iff {a b : ByteArray} {x y : List ByteArray} (hx : names (L a) = some x) (hy : names (L b) = some y) : sameN a b = decide (x.map foldB = y.map foldB) := by
  obtain ⟨gx, jx, _⟩ := names_good hx
  obtain ⟨gy, jy, _⟩ := names_good hy
  unfold sameN
  rw [hx, hy]
  simp only [Option.isSome_some, Bool.true_and]
  by_cases h : x.map foldB = y.map foldB
  · rw [decide_eq_true h, beq_iff_eq, ← jx, ← jy, (foldB_join_iff gx gy).2 h]
  · rw [decide_eq_false h, beq_eq_false_iff_ne]
    intro e
    rw [← jx, ← jy] at e
    exact h ((foldB_join_iff gx gy).1 (L_inj e))
/-- A name put below another one. -/
def tailN (a b c : ByteArray) : ByteArray × Int := match names (L a), names (L b), names (L c) with
  | some x, some y, some z => if underL x y = true ∧ x.length ≠ y.length then mkG (x.take (x.length - y.length) ++ z) else (⟨#[]⟩, 22)
  | _, _, _ => (⟨#[]⟩, 32)
end Go.Proofs.YtgemnnamhoekjaaDoor.Base
namespace Go.Proofs.YtgemnnamhoekjaaDoor.Base
open Go Go.RowKit Go.Proofs.YtgemnnamhoekjaaDoorW.PrintWords Go.Proofs.YtgemnnamhoekjaaDoorW.PrintMore

def Bytes (b : List Int) : Prop := ∀ x ∈ b, 0 ≤ x ∧ x ≤ 255
theorem Bytes.rd {b : List Int} (h : Bytes b) (i : Int) : 0 ≤ rd b i ∧ rd b i ≤ 255 := by
  unfold Go.Proofs.YtgemnnamhoekjaaDoorW.PrintWords.rd
  rw [List.getD_eq_getElem?_getD]
  by_cases hi : i.toNat < b.length
  · rw [List.getElem?_eq_getElem hi]
    exact h _ (List.getElem_mem _)
  · rw [List.getElem?_eq_none (by omega)]
    simp
theorem wraps_i64 (n : Int) (h₀ : 0 ≤ n) (h₁ : n < 2 ^ 63) : IntKind.i64.wrap n = n := by rw [IntKind.wrap_i64]; omega
theorem p63 : (2 : Int) ^ 63 = 9223372036854775808 := by decide
theorem i64_and63 (x : Int) (h0 : 0 ≤ x) (h1 : x ≤ 255) : bits .and .i64 x 63 = x % 64 := bits_mask .i64 63 (by decide) wraps_i64 6 (by decide) x h0 (by rw [p63]; omega)
theorem i64_or8 (x y : Int) (hx : 0 ≤ x) (hx2 : x % 256 = 0) (hx1 : x ≤ 100000) (h0 : 0 ≤ y) (h1 : y < 256) : bits .or .i64 x y = x + y := bits_join .i64 63 (by decide) wraps_i64 8 x y hx (by rw [show (2 : Int) ^ 8 = 256 from by decide]; exact hx2) (by rw [p63]; omega) h0 (by rw [show (2 : Int) ^ 8 = 256 from by decide]; exact h1) (by rw [p63]; omega)
theorem off_eq (h l : Int) (h0 : 192 ≤ h) (h1 : h ≤ 255) (l0 : 0 ≤ l) (l1 : l ≤ 255) : bits .or .i64 (wrap64 (bits .and .i64 h 63 * 256)) (wrap64 l) = (h - 192) * 256 + l := by
  rw [i64_and63 h (by omega) (by omega), w64 (x := h % 64 * 256) (by omega) (by omega), w64 (x := l) (by omega) (by omega), i64_or8 _ _ (by omega) (by omega) (by omega) (by omega) (by omega)]
  omega
/-- A label's bytes out of a message. -/
def lab (b : List Int) (at_ n : Int) : ByteArray := strOfNums ((b.take (at_ + 1 + n).toNat).drop (at_ + 1).toNat)
/-- A name within a message's bytes: its bytes, the place behind it, a code. start: where this part of it began; next: the place behind it, if it is known. -/
def dn (b : List Int) : Nat → Int → Int → Int → List ByteArray → ByteArray × Int × Int
  | 0, _, _, _, _ => (⟨#[]⟩, 0, 0)
  | f + 1, p, start, next, ls =>
    if p ≥ (b.length : Int) then (⟨#[]⟩, 0, 8) else
    if rd b p = 0 then (join ls, if next < 0 then p + 1 else next, 0) else
    if rd b p ≥ 192 then (if p + 1 ≥ (b.length : Int) then (⟨#[]⟩, 0, 8) else
      if (rd b p - 192) * 256 + rd b (p + 1) ≥ start then (⟨#[]⟩, 0, 9) else
      dn b f ((rd b p - 192) * 256 + rd b (p + 1)) ((rd b p - 192) * 256 + rd b (p + 1)) (if next < 0 then p + 2 else next) ls) else
    if rd b p > 63 then (⟨#[]⟩, 0, 2) else
    if p + 1 + rd b p > (b.length : Int) then (⟨#[]⟩, 0, 8) else
    if ((joinL ls).length : Int) + 2 + rd b p > 255 then (⟨#[]⟩, 0, 3) else
    dn b f (p + 1 + rd b p) start next (ls ++ [lab b p (rd b p)])
def decN (b : List Int) (p : Int) : ByteArray × Int × Int := if p < 0 ∨ p > (b.length : Int) then (⟨#[]⟩, 0, 32) else dn b (b.length + 300) p p (-1) []
theorem lab_size (b : List Int) (p n : Int) (h0 : 0 ≤ p) (h1 : 0 ≤ n) (h2 : p + 1 + n ≤ (b.length : Int)) : ((lab b p n).size : Int) = n := by
  unfold lab
  rw [size_L, L_strOfNums, List.length_map, List.length_drop, List.length_take]
  omega
theorem joinL_snoc (ls : List ByteArray) (s : ByteArray) : joinL (ls ++ [s]) = joinL ls ++ UInt8.ofNat s.size :: L s := by
  rw [joinL_append]
  simp [joinL]
end Go.Proofs.YtgemnnamhoekjaaDoor.Base
namespace Go.Proofs.YtgemnnamhoekjaaDoor.Pure
open Go.RowKit Go.Proofs.YtgemnnamhoekjaaDoor.F Go.Proofs.YtgemnnamhoekjaaDoor.Base Go.Proofs.YtgemnnamhoekjaaDoorW.PrintWords Go.Proofs.YtgemnnamhoekjaaDoorW.PrintLast Go.Proofs.YtgemnnamhoekjaaDoorW.PrintMore
set_option linter.unusedVariables false
set_option linter.unusedSimpArgs false
-- base: BaseDec
theorem impl_u16_eq {s : ByteArray} {a b : UInt8} {r : List UInt8} (h : L s = a :: b :: r) : impl_u16.f s = some ((a.toNat : Int) * 256 + b.toNat) := by
  have hs : s.size = r.length + 2 := by rw [size_L, h]; rfl
  have ha := byte_le a
  have hb := byte_le b
  unfold impl_u16.f
  rw [if_pos (by omega), if_pos (by omega), bt_cons h, bt_mid (p := [a]) h (by rfl), w64 (x := (a.toNat : Int)) (by omega) (by omega), w64 (x := (a.toNat : Int) * 256) (by omega) (by omega), w64 (x := (b.toNat : Int)) (by omega) (by omega), i64_or8 _ _ (by omega) (by omega) (by omega) (by omega) (by omega)]

end Go.Proofs.YtgemnnamhoekjaaDoor.Pure
namespace Go.Proofs.YtgemnnamhoekjaaDoor.Base
open Go.RowKit Go.Proofs.YtgemnnamhoekjaaDoorW.PrintWords Go.Proofs.YtgemnnamhoekjaaDoorW.PrintLast
/-- The number of some bytes behind a number. -/
def num (n : Int) : List UInt8 → Int
  | [] => n
  | c :: r => num (n * 256 + c.toNat) r
theorem list12 {α : Type} {l : List α} (h : l.length = 12) : ∃ c0 c1 c2 c3 c4 c5 c6 c7 c8 c9 c10 c11, l = [c0, c1, c2, c3, c4, c5, c6, c7, c8, c9, c10, c11] := by
  match l, h with
  | [c0, c1, c2, c3, c4, c5, c6, c7, c8, c9, c10, c11], _ => exact ⟨_, _, _, _, _, _, _, _, _, _, _, _, rfl⟩
end Go.Proofs.YtgemnnamhoekjaaDoor.Base
namespace Go.Proofs.YtgemnnamhoekjaaDoor.Pure
open Go.RowKit Go.Proofs.YtgemnnamhoekjaaDoor.F Go.Proofs.YtgemnnamhoekjaaDoor.Base Go.Proofs.YtgemnnamhoekjaaDoorW.PrintWords Go.Proofs.YtgemnnamhoekjaaDoorW.PrintLast Go.Proofs.YtgemnnamhoekjaaDoorW.PrintMore
set_option linter.unusedVariables false
set_option linter.unusedSimpArgs false
-- base: BaseNum
theorem spec_l02Num_l0 (s : ByteArray) (hs : s.size ≤ 7) : ∀ (l p : List UInt8) (n : Int) (k : Nat), L s = p ++ l → 0 ≤ n → n < 256 ^ p.length → l.length < k → spec_l02Num.l0 k s n (p.length : Int) = some (num n l) := by
  intro l
  induction l with
  | nil =>
    intro p n k h h0 h1 hk
    obtain ⟨k, rfl⟩ : ∃ m, k = m + 1 := ⟨k - 1, by simp at hk; omega⟩
    have hz : s.size = p.length := by rw [size_L, h]; simp
    rw [spec_l02Num.l0, if_neg (by omega)]
    rfl
  | cons c r ih =>
    intro p n k h h0 h1 hk
    obtain ⟨k, rfl⟩ : ∃ m, k = m + 1 := ⟨k - 1, by simp at hk; omega⟩
    have hz : s.size = p.length + (r.length + 1) := by rw [size_L, h]; simp
    have hc := byte_le c
    have hp : (256 : Int) ^ p.length ≤ 281474976710656 := by
      rcases (by omega : p.length = 0 ∨ p.length = 1 ∨ p.length = 2 ∨ p.length = 3 ∨ p.length = 4 ∨ p.length = 5 ∨ p.length = 6) with e | e | e | e | e | e | e <;> rw [e] <;> decide
    rw [spec_l02Num.l0, if_pos (by omega), if_pos (by omega), bt_mid h rfl, w64 (x := n * 256) (by omega) (by omega), w64 (x := (c.toNat : Int)) (by omega) (by omega), w64 (x := n * 256 + (c.toNat : Int)) (by omega) (by omega), w64 (x := (p.length : Int) + 1) (by omega) (by omega)]
    have e : (p.length : Int) + 1 = ((p ++ [c]).length : Int) := by simp
    rw [e]
    exact ih (p ++ [c]) _ k (by rw [h]; simp) (by omega) (by rw [List.length_append, Int.pow_add]; simp only [List.length_cons, List.length_nil]; omega) (by simp at hk; omega)
theorem spec_l02Num_eq (s : ByteArray) (hs : s.size ≤ 7) (k : Nat) (hk : s.size < k) : spec_l02Num.f k s = some (num 0 (L s)) := by
  unfold spec_l02Num.f
  have := spec_l02Num_l0 s hs (L s) [] 0 k rfl (by decide) (by decide) (by rw [← size_L]; exact hk)
  simpa using this
theorem spec_l02Num_two {s : ByteArray} {a b : UInt8} (h : L s = [a, b]) (k : Nat) (hk : 3 ≤ k) : spec_l02Num.f k s = some ((a.toNat : Int) * 256 + b.toNat) := by
  have hs : s.size = 2 := by rw [size_L, h]; rfl
  rw [spec_l02Num_eq s (by omega) k (by omega), h]
  simp [num]

end Go.Proofs.YtgemnnamhoekjaaDoor.Pure
namespace Go.Proofs.YtgemnnamhoekjaaDoor.Pure
open Go.RowKit Go.Proofs.YtgemnnamhoekjaaDoor.F Go.Proofs.YtgemnnamhoekjaaDoor.Base Go.Proofs.YtgemnnamhoekjaaDoorW.PrintWords Go.Proofs.YtgemnnamhoekjaaDoorW.PrintLast Go.Proofs.YtgemnnamhoekjaaDoorW.PrintMore
set_option linter.unusedVariables false
set_option linter.unusedSimpArgs false
theorem hxA_acc : ∀ (f u : Nat) (acc : List Int), hxA f u acc = hxA f u [] ++ acc
  | 0, _, acc => by simp [hxA]
  | f + 1, u, acc => by
    unfold hxA
    split
    · rw [hxA_acc f (u / 16) (hxD (u % 16) :: acc), hxA_acc f (u / 16) [hxD (u % 16)], List.append_assoc]
      rfl
    · simp
theorem dig_eq : ∀ d, d < 16 → (⟨#[48, 49, 50, 51, 52, 53, 54, 55, 56, 57, 97, 98, 99, 100, 101, 102]⟩ : ByteArray).extract d (d + 1) = strOfNums [hxD d] := by
  intro d hd
  apply L_inj
  rw [L_extract, L_strOfNums]
  have key : ∀ d : Fin 16, (([48, 49, 50, 51, 52, 53, 54, 55, 56, 57, 97, 98, 99, 100, 101, 102] : List UInt8).drop d.val).take (d.val + 1 - d.val) = [UInt8.ofNat (hxD d.val).toNat] := by decide
  exact key ⟨d, hd⟩
theorem strOf_app (a b : List Int) : strOfNums (a ++ b) = strOfNums a ++ strOfNums b := by
  apply L_inj
  rw [L_append, L_strOfNums, L_strOfNums, L_strOfNums, List.map_append]
theorem strOf_size (a : List Int) : (strOfNums a).size = a.length := by rw [size_L, L_strOfNums, List.length_map]
theorem hex_eq : ∀ (f n k : Nat), n < 16 ^ (f + 1) → f ≤ 3 → f < k → spec_l03HexOf.f k (n : Int) = some (strOfNums (hxA (f + 1) n []))
  | 0, n, k, hn, _, hk => by
    obtain ⟨k, rfl⟩ : ∃ m, k = m + 1 := ⟨k - 1, by omega⟩
    have hn : n < 16 := by simpa using hn
    rw [spec_l03HexOf.f, if_pos (by omega), if_pos (by omega), w64 (x := (n : Int) + 1) (by omega) (by omega), if_pos (by omega), if_pos (by omega)]
    have e1 : ((n : Int)).toNat = n := by omega
    have e2 : ((n : Int) + 1).toNat = n + 1 := by omega
    rw [e1, e2, dig_eq n hn, hxA, if_neg (by omega)]
  | f + 1, n, k, hn, hf, hk => by
    obtain ⟨k, rfl⟩ : ∃ m, k = m + 1 := ⟨k - 1, by omega⟩
    have hn2 : n < 65536 := Nat.lt_of_lt_of_le hn (Nat.pow_le_pow_right (n := 16) (j := 4) (by decide) (by omega))
    by_cases h16 : n < 16
    · rw [spec_l03HexOf.f, if_pos (by omega), if_pos (by omega), w64 (x := (n : Int) + 1) (by omega) (by omega), if_pos (by omega), if_pos (by omega)]
      have e1 : ((n : Int)).toNat = n := by omega
      have e2 : ((n : Int) + 1).toNat = n + 1 := by omega
      rw [e1, e2, dig_eq n h16, hxA, if_neg (by omega)]
    · have t1 : Int.tdiv (n : Int) 16 = ((n / 16 : Nat) : Int) := by rw [Int.tdiv_eq_ediv_of_nonneg (by omega)]; omega
      have t2 : Int.tmod (n : Int) 16 = ((n % 16 : Nat) : Int) := by rw [Int.tmod_eq_emod_of_nonneg (by omega)]; omega
      have hm : n % 16 < 16 := Nat.mod_lt _ (by decide)
      have ih := hex_eq f (n / 16) k (by rw [Nat.pow_succ] at hn; omega) (by omega) (by omega)
      have hsz := hxLen (f + 1) (n / 16) []
      rw [List.length_nil] at hsz
      have e1 : (((n % 16 : Nat) : Int)).toNat = n % 16 := by omega
      have e2 : (((n % 16 : Nat) : Int) + 1).toNat = n % 16 + 1 := by omega
      rw [spec_l03HexOf.f, if_neg (by omega), t1, t2, w64 (x := ((n / 16 : Nat) : Int)) (by omega) (by omega), ih, Option.bind_some, if_pos (by omega), w64 (x := ((n % 16 : Nat) : Int) + 1) (by omega) (by omega), if_pos (by omega), if_pos (by omega), e1, e2, dig_eq _ hm, if_pos (by rw [strOf_size, strOf_size]; simp only [List.length_cons, List.length_nil]; omega)]
      rw [hxA.eq_def (f + 1 + 1) n []]
      simp only
      rw [if_pos (by omega), hxA_acc (f + 1) (n / 16) [hxD (n % 16)], strOf_app]
theorem hex_hxS (n k : Nat) (hn : n < 65536) (hk : 4 ≤ k) : spec_l03HexOf.f k (n : Int) = some (hxS n) := hex_eq 3 n k hn (by decide) (by omega)
theorem join_snoc (xs : List (List UInt8)) (y sep : List UInt8) (h : xs ≠ []) : Lib.join (xs ++ [y]) sep = Lib.join xs sep ++ sep ++ y := by
  cases xs with
  | nil => exact absurd rfl h
  | cons x r =>
    rw [List.cons_append, Lib.join_cons, Lib.join_cons, Lib.joinTail, Lib.joinTail, List.map_append, List.flatten_append]
    simp
theorem joinS_zero (l : List Nat) (a : Nat) : joinS (gr l a 0) = (⟨#[]⟩ : ByteArray) := rfl
theorem joinS_one (l : List Nat) (a : Nat) : joinS (gr l a 1) = hxS (l.getD a 0) := by
  apply L_inj
  simp [joinS, gr, L, Lib.join_one]
theorem joinS_succ (l : List Nat) (a n : Nat) (hn : n ≠ 0) : joinS (gr l a (n + 1)) = joinS (gr l a n) ++ (⟨#[58]⟩ : ByteArray) ++ hxS (l.getD (a + n) 0) := by
  apply L_inj
  rw [L_append, L_append, gr_succ]
  have h : (gr l a n).map (·.data.toList) ≠ [] := by
    intro h
    have := congrArg List.length h
    rw [List.length_map, gr_len] at this
    exact hn this
  simp only [joinS, L, List.map_append, List.map_cons, List.map_nil]
  rw [join_snoc _ _ _ h]
/-- What the walks ask of 16 bytes and their eight numbers. -/
structure W8 (s : ByteArray) (l : List Nat) : Prop where
  sz : s.size = 16
  lt : ∀ k, k < 8 → l.getD k 0 < 65536
  im : ∀ k, k < 8 → impl_u16.f (s.extract (2 * k) s.size) = some ((l.getD k 0 : Nat) : Int)
  sp : ∀ k K, k < 8 → 3 ≤ K → spec_l02Num.f K (s.extract (2 * k) (2 * k + 2)) = some ((l.getD k 0 : Nat) : Int)
  ze : ∀ i n, i + n ≤ 8 → ((s.extract (2 * i) (2 * (i + n))).toList = (strOfNums (List.replicate (2 * n) 0)).toList ↔ ∀ j, j < n → l.getD (i + j) 0 = 0)
theorem row_l0 {s : ByteArray} {l : List Nat} (h : W8 s l) (a b : Nat) (hb : b ≤ 8) : ∀ (m k i : Nat), b - i = m → a ≤ i → i ≤ b → m + 8 ≤ k → spec_l03Row.l0 k s (a : Int) (b : Int) (joinS (gr l a (i - a))) (i : Int) = some (joinS (gr l a (b - a))) := by
  intro m
  induction m with
  | zero =>
    intro k i hm h1 h2 hk
    obtain ⟨k, rfl⟩ : ∃ m, k = m + 1 := ⟨k - 1, by omega⟩
    obtain rfl : i = b := by omega
    rw [spec_l03Row.l0, if_neg (by omega)]
  | succ m ih =>
    intro k i hm h1 h2 hk
    obtain ⟨k, rfl⟩ : ∃ m, k = m + 1 := ⟨k - 1, by omega⟩
    have hs := h.sz
    have q0 : (i : Int) < (b : Int) := by omega
    have q1 : i = a → ¬ ((i : Int) > (a : Int)) := by omega
    have q1' : ¬ i = a → (i : Int) > (a : Int) := by omega
    have q2 : (0 : Int) ≤ ((2 * i : Nat) : Int) := by omega
    have q3 : ((2 * i : Nat) : Int) ≤ ((2 * i : Nat) : Int) + 2 := by omega
    have q4 : ((2 * i : Nat) : Int) + 2 ≤ (s.size : Int) := by omega
    have q5 : i + 1 - a = (i - a) + 1 := by omega
    have q6 : a + (i - a) = i := by omega
    have q7 : ¬ i = a → i - a ≠ 0 := by omega
    have q8 : i + 1 - i = 1 := by omega
    have hj := joinS_size l a (i - a) (by omega)
    have e1 : (((2 * i : Nat) : Int)).toNat = 2 * i := by omega
    have e2 : (((2 * i : Nat) : Int) + 2).toNat = 2 * i + 2 := by omega
    have hh : (hxS (l.getD i 0)).size ≤ 4 := by
      have := hxS_size (l.getD i 0)
      rw [size_L]
      exact this
    have hx := hex_hxS (l.getD i 0) k (h.lt i (by omega)) (by omega)
    have hn := h.sp i k (by omega) (by omega)
    have hi := ih k (i + 1) (by omega) (by omega) (by omega) (by omega)
    have ec : ((i + 1 : Nat) : Int) = (i : Int) + 1 := by omega
    rw [ec] at hi
    rw [spec_l03Row.l0, if_pos q0]
    have w1 : wrap64 (2 * (i : Int)) = ((2 * i : Nat) : Int) := by rw [w64 (by omega) (by omega)]; omega
    have w2 : wrap64 (((2 * i : Nat) : Int) + 2) = ((2 * i : Nat) : Int) + 2 := w64 (by omega) (by omega)
    have w3 : wrap64 ((i : Int) + 1) = (i : Int) + 1 := w64 (by omega) (by omega)
    rw [w1, w2, w3, e1, e2, hn]
    simp only [Option.bind_some, hx]
    by_cases h0 : i = a
    · subst h0
      rw [Nat.sub_self, joinS_zero]
      have z1 : (⟨#[]⟩ : ByteArray).size + (hxS (l.getD i 0)).size ≤ 9223372036854775807 := by
        rw [show (⟨#[]⟩ : ByteArray).size = 0 from rfl, Nat.zero_add]
        exact Nat.le_trans hh (by decide)
      clear hj hh
      rw [if_neg (q1 rfl), if_pos q2, if_pos q3, if_pos q4, if_pos z1]
      have e : (⟨#[]⟩ : ByteArray) ++ hxS (l.getD i 0) = joinS (gr l i (i + 1 - i)) := by
        rw [q8, joinS_one]
        apply L_inj
        rw [L_append]
        rfl
      rw [e]
      exact hi
    · have e3 : (joinS (gr l a (i - a)) ++ (⟨#[58]⟩ : ByteArray)).size = (joinS (gr l a (i - a))).size + 1 := by rw [ByteArray.size_append, show (⟨#[58]⟩ : ByteArray).size = 1 from rfl]
      have z1 : (joinS (gr l a (i - a))).size + 1 ≤ 9223372036854775807 := Nat.le_trans (Nat.add_le_add_right hj 1) (by decide)
      have z2 : (joinS (gr l a (i - a)) ++ (⟨#[58]⟩ : ByteArray)).size + (hxS (l.getD i 0)).size ≤ 9223372036854775807 := by
        rw [e3]
        exact Nat.le_trans (Nat.add_le_add (Nat.add_le_add_right hj 1) hh) (by decide)
      clear hj hh e3
      rw [if_pos (q1' h0), if_pos z1, if_pos q2, if_pos q3, if_pos q4, if_pos z2]
      have e : joinS (gr l a (i - a)) ++ (⟨#[58]⟩ : ByteArray) ++ hxS (l.getD i 0) = joinS (gr l a (i + 1 - a)) := by
        rw [q5, joinS_succ _ _ _ (q7 h0), q6]
      rw [e]
      exact hi
theorem row_eq {s : ByteArray} {l : List Nat} (h : W8 s l) (a b k : Nat) (hab : a ≤ b) (hb : b ≤ 8) (hk : 16 ≤ k) : spec_l03Row.f k s (a : Int) (b : Int) = some (joinS (gr l a (b - a))) := by
  have := row_l0 h a b hb (b - a) k a rfl (Nat.le_refl _) hab (by omega)
  rw [Nat.sub_self, joinS_zero] at this
  exact this
/-! The longest run of noughts: as the program looks for it, as the specification does. -/
def zr (z : Nat → Bool) (i n : Nat) : Bool := (List.range n).all fun j => z (i + j)
def runZ (z : Nat → Bool) : Nat → Nat → Nat
  | 0, k => k
  | f + 1, k => if z k then runZ z f (k + 1) else k
def bestZ (z : Nat → Bool) : Nat → Nat × Nat
  | 0 => (0, 1)
  | n + 1 => if (bestZ z n).2 < runZ z (8 - n) n - n then (n, runZ z (8 - n) n - n) else bestZ z n
def sp1 (z : Nat → Bool) (n : Nat) : Nat → Nat → Option (Nat × Nat)
  | 0, _ => none
  | f + 1, i => if zr z i n then some (i, n) else sp1 z n f (i + 1)
def sp0 (z : Nat → Bool) : Nat → Option (Nat × Nat)
  | 0 => none
  | m + 1 => match sp1 z (m + 2) (8 - (m + 1)) 0 with
    | some r => some r
    | none => sp0 z m
theorem same8 : ∀ b0 b1 b2 b3 b4 b5 b6 b7 : Bool, (if (bestZ (fun k => [b0, b1, b2, b3, b4, b5, b6, b7].getD k true) 8).2 < 2 then none else some (bestZ (fun k => [b0, b1, b2, b3, b4, b5, b6, b7].getD k true) 8)) = sp0 (fun k => [b0, b1, b2, b3, b4, b5, b6, b7].getD k true) 7 := by decide +kernel
def zl (l : List Nat) : Nat → Bool := fun k => decide (l.getD k 0 = 0)
theorem runE_Z (l : List Nat) : ∀ f k, runE l f k = runZ (zl l) f k
  | 0, _ => rfl
  | f + 1, k => by
    rw [runE, runZ, runE_Z l f (k + 1)]
    by_cases h : l.getD k 0 = 0
    · rw [if_pos h, if_pos (show zl l k = true from decide_eq_true h)]
    · rw [if_neg h, if_neg (by rw [show zl l k = false from decide_eq_false h]; exact Bool.false_ne_true)]
theorem bestV_Z (l : List Nat) : ∀ n, bestV l n = bestZ (zl l) n
  | 0 => rfl
  | n + 1 => by rw [bestV, bestZ, bestV_Z l n, runE_Z]
theorem zl_eq {l : List Nat} (h : l.length = 8) : ∃ b0 b1 b2 b3 b4 b5 b6 b7 : Bool, zl l = fun k => [b0, b1, b2, b3, b4, b5, b6, b7].getD k true := by
  match l, h with
  | [x0, x1, x2, x3, x4, x5, x6, x7], _ =>
    refine ⟨decide (x0 = 0), decide (x1 = 0), decide (x2 = 0), decide (x3 = 0), decide (x4 = 0), decide (x5 = 0), decide (x6 = 0), decide (x7 = 0), ?_⟩
    funext k
    match k with
    | 0 | 1 | 2 | 3 | 4 | 5 | 6 | 7 => rfl
    | k + 8 => simp [zl, List.getD_eq_getElem?_getD]
theorem same {l : List Nat} (h : l.length = 8) : (if (bestV l 8).2 < 2 then none else some (bestV l 8)) = sp0 (zl l) 7 := by
  obtain ⟨b0, b1, b2, b3, b4, b5, b6, b7, e⟩ := zl_eq h
  rw [bestV_Z, e]
  exact same8 _ _ _ _ _ _ _ _
/-- What is shown where noughts are left out. -/
def cutAt (l : List Nat) (p : Nat × Nat) : ByteArray := joinS (gr l 0 p.1) ++ (⟨#[58, 58]⟩ : ByteArray) ++ joinS (gr l (p.1 + p.2) (8 - (p.1 + p.2)))
theorem showV6_sp {l : List Nat} (h : l.length = 8) : showV6 l = match sp0 (zl l) 7 with
    | some p => cutAt l p
    | none => joinS (gr l 0 8) := by
  rw [← same h, showV6]
  by_cases h2 : (bestV l 8).2 < 2
  · rw [if_pos h2, if_pos h2]
  · rw [if_neg h2, if_neg h2]
    rfl
theorem zr_iff (l : List Nat) (i n : Nat) : zr (zl l) i n = true ↔ ∀ j, j < n → l.getD (i + j) 0 = 0 := by
  simp [zr, zl, List.all_eq_true]
theorem w64n {x : Int} {m : Nat} (h : x = (m : Int)) (hm : m ≤ 100) : wrap64 x = (m : Int) := by
  rw [h]
  exact w64 (by omega) (by omega)
theorem l1_eq {s : ByteArray} {l : List Nat} (h : W8 s l) (n : Nat) (hn2 : 2 ≤ n) (hn : n ≤ 8) (q : ByteArray × Int) (K : Nat) (hq : ∀ k, K ≤ k → spec_ShowV6.l0 k s ((n : Int) - 1) = some q) : ∀ (f i k : Nat), i + f = 9 - n → f + 20 + K ≤ k →
    spec_ShowV6.l1 k s (n : Int) (i : Int) = some (match sp1 (zl l) n f i with
      | some p => (cutAt l p, 0)
      | none => q) := by
  intro f
  induction f with
  | zero =>
    intro i k hi hk
    obtain ⟨k, rfl⟩ : ∃ m, k = m + 1 := ⟨k - 1, by omega⟩
    rw [spec_ShowV6.l1, w64 (x := (i : Int) + (n : Int)) (by omega) (by omega), if_neg (by omega), w64 (x := (n : Int) - 1) (by omega) (by omega), hq k (by omega)]
    rfl
  | succ f ih =>
    intro i k hi hk
    obtain ⟨k, rfl⟩ : ∃ m, k = m + 1 := ⟨k - 1, by omega⟩
    have hs := h.sz
    have q1 : ((i + n : Nat) : Int) ≤ 8 := by omega
    have q2 : (0 : Int) ≤ ((2 * i : Nat) : Int) := by omega
    have q3 : ((2 * i : Nat) : Int) ≤ ((2 * (i + n) : Nat) : Int) := by omega
    have q4 : ((2 * (i + n) : Nat) : Int) ≤ (s.size : Int) := by omega
    have q5 : (0 : Int) ≤ ((2 * n : Nat) : Int) := by omega
    have q6 : 2 * n ≤ 281474976710656 := by omega
    have q7 : i + n ≤ 8 := by omega
    have q8 : i ≤ 8 := by omega
    have q9 : 16 ≤ k := by omega
    have q10 : i - 0 ≤ 8 := by omega
    have q11 : 8 - (i + n) ≤ 8 := by omega
    have q12 : i + 1 + f = 9 - n := by omega
    have q13 : f + 20 + K ≤ k := by omega
    have p1 : 2 * (i : Int) = ((2 * i : Nat) : Int) := by omega
    have p2 : (i : Int) + (n : Int) = ((i + n : Nat) : Int) := by omega
    have p3 : 2 * ((i + n : Nat) : Int) = ((2 * (i + n) : Nat) : Int) := by omega
    have p4 : 2 * (n : Int) = ((2 * n : Nat) : Int) := by omega
    have p5 : (i : Int) + 1 = ((i + 1 : Nat) : Int) := by omega
    have m1 : 2 * i ≤ 100 := by omega
    have m3 : 2 * (i + n) ≤ 100 := by omega
    have m4 : 2 * n ≤ 100 := by omega
    have m2 : i + n ≤ 100 := by omega
    have m5 : i + 1 ≤ 100 := by omega
    have w1 : wrap64 (2 * (i : Int)) = ((2 * i : Nat) : Int) := w64n p1 m1
    have w2 : wrap64 ((i : Int) + (n : Int)) = ((i + n : Nat) : Int) := w64n p2 m2
    have w3 : wrap64 (2 * ((i + n : Nat) : Int)) = ((2 * (i + n) : Nat) : Int) := w64n p3 m3
    have w4 : wrap64 (2 * (n : Int)) = ((2 * n : Nat) : Int) := w64n p4 m4
    have w5 : wrap64 ((i : Int) + 1) = ((i + 1 : Nat) : Int) := w64n p5 m5
    rw [spec_ShowV6.l1]
    simp only [w1, w2, w3, w4, w5, Int.toNat_natCast]
    rw [if_pos q1, if_pos q2, if_pos q3, if_pos q4, if_pos q5, if_pos q6]
    have hz := (h.ze i n q7).trans (zr_iff l i n).symm
    by_cases hc : zr (zl l) i n = true
    · have hr1 := row_eq h 0 i k (Nat.zero_le _) q8 q9
      have hr2 := row_eq h (i + n) 8 k q7 (Nat.le_refl _) q9
      have s1 := joinS_size l 0 (i - 0) q10
      have s2 := joinS_size l (i + n) (8 - (i + n)) q11
      have s3 : (joinS (gr l 0 (i - 0)) ++ (⟨#[58, 58]⟩ : ByteArray)).size = (joinS (gr l 0 (i - 0))).size + 2 := by rw [ByteArray.size_append, show (⟨#[58, 58]⟩ : ByteArray).size = 2 from rfl]
      have hr1' : spec_l03Row.f k s 0 (i : Int) = some (joinS (gr l 0 (i - 0))) := hr1
      have hr2' : spec_l03Row.f k s ((i + n : Nat) : Int) 8 = some (joinS (gr l (i + n) (8 - (i + n)))) := hr2
      have z1 : (joinS (gr l 0 (i - 0))).size + 2 ≤ 9223372036854775807 := Nat.le_trans (Nat.add_le_add_right s1 2) (by decide)
      have z2 : (joinS (gr l 0 (i - 0)) ++ (⟨#[58, 58]⟩ : ByteArray)).size + (joinS (gr l (i + n) (8 - (i + n)))).size ≤ 9223372036854775807 := by
        rw [s3]
        exact Nat.le_trans (Nat.add_le_add (Nat.add_le_add_right s1 2) s2) (by decide)
      rw [if_pos (hz.2 hc), hr1', Option.bind_some, if_pos z1, hr2', Option.bind_some, if_pos z2, sp1, if_pos hc]
      rfl
    · rw [if_neg (fun e => hc (hz.1 e)), sp1, if_neg hc]
      exact ih (i + 1) k q12 q13
theorem l0_eq {s : ByteArray} {l : List Nat} (h : W8 s l) : ∀ (m k : Nat), m ≤ 7 → 100 + 40 * m ≤ k →
    spec_ShowV6.l0 k s ((m : Int) + 1) = some (match sp0 (zl l) m with
      | some p => (cutAt l p, 0)
      | none => (joinS (gr l 0 8), 0)) := by
  intro m
  induction m with
  | zero =>
    intro k _ hk
    obtain ⟨k, rfl⟩ : ∃ m, k = m + 1 := ⟨k - 1, by omega⟩
    have hr : spec_l03Row.f k s 0 8 = some (joinS (gr l 0 (8 - 0))) := row_eq h 0 8 k (Nat.zero_le _) (Nat.le_refl _) (by omega)
    rw [spec_ShowV6.l0, if_neg (by omega), hr]
    rfl
  | succ m ih =>
    intro k hm hk
    obtain ⟨k, rfl⟩ : ∃ m, k = m + 1 := ⟨k - 1, by omega⟩
    rw [spec_ShowV6.l0, if_pos (by omega)]
    have h1 := l1_eq h (m + 2) (by omega) (by omega) _ (100 + 40 * m) (fun k hk => by
      have := ih k (by omega) hk
      rw [show (((m + 2 : Nat) : Int) - 1) = (m : Int) + 1 by omega]
      exact this) (8 - (m + 1)) 0 k (by omega) (by omega)
    have e : ((m + 2 : Nat) : Int) = (((m + 1 : Nat) : Int) + 1) := by omega
    rw [e] at h1
    have h2 : spec_ShowV6.l1 k s (((m + 1 : Nat) : Int) + 1) 0 = _ := h1
    rw [h2, sp0]
    cases sp1 (zl l) (m + 2) (8 - (m + 1)) 0 <;> rfl
/-- The eight numbers of a row of bytes. -/
def wd (b : List UInt8) (k : Nat) : Nat := (b.getD (2 * k) 0).toNat * 256 + (b.getD (2 * k + 1) 0).toNat
theorem wd_at (b : List UInt8) (k : Nat) (hk : k < 8) : ((List.range 8).map (wd b)).getD k 0 = wd b k := by
  rw [List.getD_eq_getElem?_getD, List.getElem?_map, List.getElem?_range hk]
  rfl
theorem drop_two (b : List UInt8) (k : Nat) (h : 2 * k + 2 ≤ b.length) : b.drop (2 * k) = b.getD (2 * k) 0 :: b.getD (2 * k + 1) 0 :: b.drop (2 * k + 2) := by
  rw [List.drop_eq_getElem_cons (by omega), List.drop_eq_getElem_cons (by omega)]
  simp [List.getD_eq_getElem?_getD, List.getElem?_eq_getElem (show 2 * k < b.length by omega), List.getElem?_eq_getElem (show 2 * k + 1 < b.length by omega)]
theorem w8 {s : ByteArray} (hs : s.size = 16) : W8 s ((List.range 8).map (wd (L s))) := by
  have hl : (L s).length = 16 := by rw [← size_L]; exact hs
  refine ⟨hs, fun k hk => ?_, fun k hk => ?_, fun k K hk hK => ?_, fun i n hin => ?_⟩
  · rw [wd_at _ _ hk, wd]
    have h1 := ((L s).getD (2 * k) 0).toNat_lt
    have h2 := ((L s).getD (2 * k + 1) 0).toNat_lt
    omega
  · rw [wd_at _ _ hk, wd]
    have e : L (s.extract (2 * k) s.size) = (L s).getD (2 * k) 0 :: (L s).getD (2 * k + 1) 0 :: (L s).drop (2 * k + 2) := by
      rw [L_extract, drop_two _ _ (by omega), List.take_of_length_le (by simp only [List.length_cons, List.length_drop]; omega)]
    rw [impl_u16_eq e]
    congr 1 <;> omega
  · rw [wd_at _ _ hk, wd]
    have e : L (s.extract (2 * k) (2 * k + 2)) = [(L s).getD (2 * k) 0, (L s).getD (2 * k + 1) 0] := by
      rw [L_extract, drop_two _ _ (by omega), show 2 * k + 2 - 2 * k = 2 by omega]
      rfl
    rw [spec_l02Num_two e K hK]
    congr 1 <;> omega
  · rw [toL, toL, L_extract, L_strOfNums, List.map_replicate, show 2 * (i + n) - 2 * i = 2 * n by omega]
    constructor
    · intro h j hj
      rw [wd_at _ _ (by omega), wd]
      have at0 : ∀ q, q < 2 * n → (L s).getD (2 * i + q) 0 = 0 := by
        intro q hq
        have := congrArg (fun x => x.getD q 0) h
        simp only [List.getD_eq_getElem?_getD, List.getElem?_take_of_lt hq, List.getElem?_drop] at this
        rw [List.getD_eq_getElem?_getD, this, List.getElem?_replicate]
        split <;> rfl
      have a0 := at0 (2 * j) (by omega)
      have a1 := at0 (2 * j + 1) (by omega)
      rw [show 2 * (i + j) = 2 * i + 2 * j by omega, show 2 * i + 2 * j + 1 = 2 * i + (2 * j + 1) by omega, a0, a1]
      rfl
    · intro h
      apply List.ext_getElem?
      intro q
      by_cases hq : q < 2 * n
      · rw [List.getElem?_take_of_lt hq, List.getElem?_drop, List.getElem?_replicate, if_pos hq, List.getElem?_eq_getElem (by omega)]
        have hj := h (q / 2) (by omega)
        rw [wd_at _ _ (by omega), wd] at hj
        have z0 : ((L s).getD (2 * (i + q / 2)) 0).toNat = 0 := by omega
        have z1 : ((L s).getD (2 * (i + q / 2) + 1) 0).toNat = 0 := by omega
        have hz : ((L s).getD (2 * i + q) 0).toNat = 0 := by
          rcases Nat.mod_two_eq_zero_or_one q with e | e
          · rw [show 2 * i + q = 2 * (i + q / 2) by omega]; exact z0
          · rw [show 2 * i + q = 2 * (i + q / 2) + 1 by omega]; exact z1
        rw [List.getD_eq_getElem?_getD, List.getElem?_eq_getElem (by omega)] at hz
        congr 1
        exact UInt8.toNat_inj.1 hz
      · rw [List.getElem?_eq_none (by rw [List.length_take]; omega), List.getElem?_eq_none (by rw [List.length_replicate]; omega)]
theorem v6L_eq {s : ByteArray} {l : List Nat} (h : W8 s l) (hl : l.length = 8) : v6L s = some l := by
  have key : ∀ k, k < 8 → ((impl_u16.f (s.extract (2 * k) s.size)).bind fun r => if 0 ≤ r ∧ r < 65536 then some r.toNat else none) = some (l.getD k 0) := by
    intro k hk
    have := h.lt k hk
    rw [h.im k hk, Option.bind_some, if_pos (by omega)]
    rfl
  match l, hl with
  | [x0, x1, x2, x3, x4, x5, x6, x7], _ =>
    unfold v6L
    have e : List.range 8 = [0, 1, 2, 3, 4, 5, 6, 7] := rfl
    rw [e]
    simp only [List.mapM_cons, List.mapM_nil]
    rw [key 0 (by decide), key 1 (by decide), key 2 (by decide), key 3 (by decide), key 4 (by decide), key 5 (by decide), key 6 (by decide), key 7 (by decide)]
    rfl
theorem FnExactShowV6 : laws_FnExactShowV6.Pure := by
  intro a _
  refine ⟨1100000, ?_⟩
  unfold laws_FnExactShowV6.f spec_ShowV6.f impl_ShowV6.f
  by_cases h : (a.size : Int) > 1048576
  · rw [if_pos h]
  · rw [if_neg h]
    by_cases hs : a.size = 16
    · have hw := w8 hs
      have hl : ((List.range 8).map (wd (L a))).length = 8 := by simp
      have h0 := l0_eq hw 7 1100000 (by decide) (by decide)
      have h0' : spec_ShowV6.l0 1100000 a 8 = _ := h0
      have e : (match sp0 (zl ((List.range 8).map (wd (L a)))) 7 with
        | some p => ((cutAt ((List.range 8).map (wd (L a))) p, 0) : ByteArray × Int)
        | none => (joinS (gr ((List.range 8).map (wd (L a))) 0 8), 0)) = (showV6 ((List.range 8).map (wd (L a))), 0) := by
        rw [showV6_sp hl]
        cases sp0 (zl ((List.range 8).map (wd (L a)))) 7 <;> rfl
      rw [if_pos (by omega), if_pos hs, h0', e, v6L_eq hw hl]
      simp
    · rw [if_neg (by omega), if_neg hs]
      simp

end Go.Proofs.YtgemnnamhoekjaaDoor.Pure
namespace Go.Proofs.YtgemnnamhoekjaaDoor.fnExactShowV6
open Go.ChangeShapes Go.WideShapes Go.ChangeAt Go.RowKit
open Go.ChangeMaps (open_string shut_string)
set_option linter.unusedVariables false
abbrev laidS : List (String × DataW Unit) := [("math/bits.deBruijn32tab", Rows.laid_math_bits_deBruijn32tab), ("math/bits.deBruijn64tab", Rows.laid_math_bits_deBruijn64tab), ("internal/strconv.uint64pow10", Rows.laid_internal_strconv_uint64pow10)]
theorem own : ownKnob Tryd.prog.godebug = none := by kernel_rfl
theorem gB : Tryd.prog.globalNamed "math/bits.deBruijn64tab" = some 3 := by kernel_rfl
theorem tB : (Tryd.prog.globals[3]?).map (·.type) = some 63 := by kernel_rfl
theorem dB : Rows.laid_math_bits_deBruijn64tab (H := Unit) = .agg (Lib.deBruijn64tab.map fun (n : Nat) => .lit (.int .u8 (n : Int))) := rfl
set_option maxRecDepth 100000 in
theorem globT_of_laid {W : World} (h : laidMetH Tryd.prog laidS W) : F.GlobT W := by
  rw [MakeChecks.laidMetH_plain _ _ _ (by kernel_rfl)] at h
  obtain ⟨ps, ⟨_, _, _, _, _, q, _, _, _, _, ⟨g0, t0, cs0, f0, p0, q0, hg0, ht0, hv0, hd0, _, _⟩, _⟩, _, _⟩ := h
  obtain rfl := Option.some.inj (gB.symm.trans hg0)
  obtain rfl := Option.some.inj (tB.symm.trans ht0)
  obtain ⟨xs, m, _, hx, hlen, hxl, hel⟩ := DataW.trod_array Tryd.underlying63 hd0
  have ce : Tryd.prog.cellsOf 5 = 1 := by kernel_rfl
  have hx1 : Lib.deBruijn64tab.map (fun (n : Nat) => (DataW.lit (.int .u8 (n : Int)) : DataW Unit)) = xs.map (·.1) := by
    have h1 := congrArg Prod.fst hx
    rw [dB] at h1
    injection h1
  intro j hj
  have hj64 : j < 64 := hj
  rw [World.var?_cell hg0 hv0 j]
  have h1 := hel j hj64
  rw [ce, Nat.mul_one] at h1
  obtain ⟨y, hy⟩ : ∃ y, xs[j]? = some y := ⟨_, List.getElem?_eq_getElem (by omega)⟩
  rw [hy] at h1
  obtain ⟨n, e, hd, _⟩ := DataW.trod_int Tryd.underlying5 h1
  have e2 : cs0[j]? = some (.int .u8 n) := by
    have h2 : ((cs0.toList.drop j).take 1)[0]? = some (.int .u8 n) := by rw [e]; rfl
    rw [List.getElem?_take_of_lt (by omega), List.getElem?_drop] at h2
    simpa using h2
  have h3 : (Lib.deBruijn64tab.map (fun (n : Nat) => (DataW.lit (.int .u8 (n : Int)) : DataW Unit)))[j]? = some (DataW.lit (.int .u8 n)) := by
    rw [hx1, List.getElem?_map, hy]
    rw [hd]; rfl
  rw [e2]
  rw [List.getElem?_map] at h3
  obtain ⟨n', hn', hn2⟩ := Option.map_eq_some_iff.1 h3
  have e3 : (n' : Int) = n := by injection hn2 with hn2; injection hn2
  subst e3
  simp [List.getD_eq_getElem?_getD, hn']
set_option maxRecDepth 100000 in
theorem lifted (os : Os) (started : os.Started) (H : Type) (enc : TypeId × Value → H) :
    ReturnsInHanded {} Tryd.checked os 3 .any (fun w args => (Rows.fnExactShowV6Spec.pre enc Tryd.prog Tryd.f3 [] false w args ∧ laidMetH Tryd.prog laidS w) ∧ sizedMet enc Tryd.prog Tryd.f3 (OpenSpec.ofChange Rows.fnExactShowV6Spec) false w args) (Rows.fnExactShowV6Spec.post enc Tryd.prog Tryd.f3 false true false false) := by
  refine XShape.shaped_and (C := Tryd.checked) (X := fun w _ => laidMetH Tryd.prog laidS w) (fun _ _ _ hh h => h.of_heap hh) own started (by kernel_rfl) Tryd.func3
    (ChangeSpec.witness_shaped (enc := enc) (C := Tryd.checked) (os := os) (X := fun w _ => laidMetH Tryd.prog laidS w) false (World.laidAll Tryd.prog os laidS) #[.string ByteArray.empty] 8 (World.laidAll_os _ _ _) (World.shaped_of_ZipB (by kernel_rfl) (by kernel_rfl)) (by kernel_rfl) (by kernel_rfl) (by kernel_rfl)
      (by rw [MakeChecks.laidMetH_plain _ _ _ (by kernel_rfl)]; exact laidMet_laidAll _ (by kernel_rfl) (by kernel_rfl))) ?_
  intro W base args ds gs before hval0 hW hcnd hsz0 hsh hL _
  have hsz : (DataW.weightsEach Tryd.prog (Tryd.f3.params.toList ++ Rows.fnExactShowV6Spec.plain.varTypes Tryd.prog) (ds ++ gs)).all (· ≤ reachBytes) = true := hsz0
  have hval : ∀ (j : Nat) t v, Tryd.f3.params[j]? = some t → args[j]? = some v → Value.okWide Tryd.prog W .any base t v := hval0
  have hW' := hW
  obtain ⟨p, q, hA0, hV, rfl, hfz, hnd⟩ := hW
  have hA : DataW.TrodAll enc Tryd.prog W 0 (fun _ => true) true Tryd.f3.params.toList args.toList ds p := hA0
  rw [Tryd.params3] at hA hval hsz
  obtain ⟨v0, vs0, d0, ds0, p0, q0, hargs, rfl, rfl, h0, r0⟩ := trodAll_cons hA
  obtain ⟨rfl, rfl, rfl⟩ := trodAll_nil r0
  obtain rfl : args = #[v0] := by cases args; simp_all
  obtain ⟨rfl, rfl⟩ := trodVars_none hV
  obtain ⟨a0, rfl, rfl, rfl, y0⟩ := open_string Tryd.underlying9 (hval 0 9 v0 rfl rfl) h0
  have w0 : a0.size ≤ 140737488351232 := by
    have z := sized_string hsz (j := 0) (t := 9) rfl rfl
    rw [Array.length_toList] at z
    exact z
  clear hA0 hval0 hsz0 hsz
  refine (F.laws_FnExactShowV6.walk Pure.FnExactShowV6 a0 W w0 (globT_of_laid hL)).mono fun e W' ⟨he, bel⟩ => ?_
  subst he
  exact ⟨_, rfl, _, _, _, [], _, [], hW', trodAll_mk1 (shut_bool Tryd.underlying4 _), (trodAll_cons_mk (shut_string Tryd.underlying9 y0) trodAll_mk0), rfl, bel.frame _, fun h => by cases h⟩
theorem over : Rows.fnExactShowV6Row.holds Tryd.pinned (OpenSpec.ofChange Rows.fnExactShowV6Spec) :=
  OpenClaim.holds_of_wide 3 Tryd.f3 rfl rfl rfl rfl rfl rfl rfl ⟨rfl, rfl, rfl, rfl, rfl⟩ rfl rfl rfl rfl rfl (by kernel_rfl) Tryd.func3 (by kernel_rfl)
    (of_decide_eq_true (by kernel_rfl)) (by unfold Func.isWrapper; first | (rw [if_pos (by decide +kernel)]; kernel_rfl) | (rw [if_neg (by decide +kernel)]; exact ⟨rfl, rfl⟩))
    (fun os started H enc _ => lifted os started H enc)
end Go.Proofs.YtgemnnamhoekjaaDoor.fnExactShowV6
namespace Go.Proofs.YtgemnnamhoekjaaDoor
open Go
/-- The tied card. -/
theorem fnExactShowV6_holds : Rows.FnExactShowV6CardSaid :=
  Claim7.holds_tied_plain_at .later [] [.data, .data, .data] true (true, "57e6d734388ecaf302b6b2093e3541af57a7062bfd79d3acaba7bcf6f2d9a927") false
    fnExactShowV6.over (fun _ h => by cases h) (by kernel_rfl) (fun _ h => by cases h) fnExactShowV6_row_tie rfl ⟨rfl, rfl⟩ (by kernel_rfl) rfl
    (fun f fn hf hfn => by
      obtain rfl : f = 3 := Option.some.inj ((show Tryd.prog.funcNamed "loop.example/s01858/laws.FnExactShowV6" = some 3 by kernel_rfl).symm.trans hf) |>.symm
      obtain rfl : fn = Tryd.f3 := (Option.some.inj (Tryd.func3.symm.trans hfn)).symm
      exact ⟨by kernel_rfl, fun j t ht => by
        rw [Tryd.params3] at ht
        have hm : t ∈ [9] := by simpa using Array.mem_of_getElem? ht
        have hall : ([9].all fun u => !Tryd.prog.wantsStandIn u) = true := by kernel_rfl
        exact (show Tryd.prog.wantsStandIn t = false by simpa using List.all_eq_true.1 hall t hm)⟩)
    (by kernel_rfl)
#print axioms fnExactShowV6_holds
end Go.Proofs.YtgemnnamhoekjaaDoor
