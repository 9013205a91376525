/- Part 1 of 1 of the proof of FnExactShowType: what each Go function on its way computes, that the Go code does just this, and what the law says of it. No condition beyond the statement's own. -/
import Derived.Test.YtjffefbgeaabjaaDoorRows
import Derived.HandedShaped
import Derived.Shelf.Vars
import Derived.WalkKit
import Derived.ProofKit
import Derived.LaidMore
import Derived.Lay
import Derived.OpenShut
import Derived.Stop.Joined
import Derived.Test.YtjffefbgeaabjaaDoorWWords
import Derived.Test.YtjffefbgeaabjaaDoorWLast
import Derived.Test.YtjffefbgeaabjaaDoorWMore
import Derived.Test.YtjffefbgeaabjaaDoorProg
import Derived.Below
import Derived.Deep.Draws
import Derived.Deep.AppendLies
import Derived.Maps.AppendAt
import Derived.OwnWalk
import Derived.Laws.BytesArg
import Derived.Laws.MakeOwn
import Derived.Laws.OwnMore
import Derived.Deep.OwnRows
import Derived.Tactics
import Derived.Lib.ConvBytes
import Derived.Laws.Slices
import Derived.KernelRfl
import Derived.RowKit3
import Derived.Deep.LoopGhost
import Derived.Deep.QuietTactic
import Derived.BigQuiet
import Derived.WideLaws
import Derived.Deep.DeepCutAuto
import Derived.Deep.CutBlock
import Derived.Deep.RegionHeld3
import Derived.Laws.Rows
import Derived.Lib.AppendStr
import Derived.ArgAppend
import Derived.Laws.IdiomCopy
import Derived.OrdersHeld
import Derived.Laws.BitsLemmas
import Derived.RowKit
import Derived.Lib.Builder
import Derived.Lib.UnsafeStr
import Derived.Laws.Externs
import Derived.Lib.Walk
import Derived.Shelf.Strings.Builder1
import Derived.Shelf.Small.Strs
import Derived.RegionTactic
import Derived.BigRegion
import Derived.ChangeAlike
import Derived.Test.YtjffefbgeaabjaaDoorWTab
import Derived.Test.YtjffefbgeaabjaaDoorWFour
import Derived.Test.YtjffefbgeaabjaaDoorWQPut
import Derived.Test.YtjffefbgeaabjaaDoorWApart
import Derived.Test.YtjffefbgeaabjaaDoorWArr
import Derived.Test.YtjffefbgeaabjaaDoorWZeros
import Derived.Test.YtjffefbgeaabjaaDoorWFoot
import Derived.Test.YtjffefbgeaabjaaDoorWKept
import Derived.Test.YtjffefbgeaabjaaDoorWShare
import Derived.Test.YtjffefbgeaabjaaDoorWN
import Derived.Test.YtjffefbgeaabjaaDoorWFootNe
import Derived.Test.YtjffefbgeaabjaaDoorWAt
import Derived.Test.YtjffefbgeaabjaaDoorWEqStruct
import Derived.Test.YtjffefbgeaabjaaDoorWRepsOne
import Derived.Test.YtjffefbgeaabjaaDoorWInv
import Derived.Test.YtjffefbgeaabjaaDoorWInvWords
import Derived.Test.YtjffefbgeaabjaaDoorWGuard
import Derived.Test.YtjffefbgeaabjaaDoorWNEv
import Derived.Laws.IdiomRangeMap
import Derived.Shelf.Strconv.Itoa4
import Derived.Shelf.Strings.OnBuilder
import Derived.Maps.RangeRun
import Derived.Lib.Bytes
import Derived.Test.YtjffefbgeaabjaaDoorTie
import Derived.Test.YtjffefbgeaabjaaDoorCards
import Derived.OpenVars
import Derived.Maps.Own
import Derived.Maps.OwnSet
import Derived.StringKeys
import Derived.Maps.StringElems
import Derived.ShutString
import Derived.ChangeOld
import Derived.SizedLaws
namespace Go.Proofs.YtjffefbgeaabjaaDoor.XShape
open Go Go.RowKit Go.ChangeShapes Go.WideShapes Go.ChangeAt
theorem shaped_and {H : Type} {enc : TypeId × Value → H} {a : Assume} {C : Checked} {os : Os} {f : FuncId} {fn : Func} {s : ChangeSpec} {conds : List PathCond} {apart fresh handsOn again : Bool} {X : World → Array Value → Prop}
    (hX : ∀ (w w' : World) (args : Array Value), w.heap = w'.heap → X w args → X w' args)
    (own : ownKnob C.prog.godebug = none) (started : os.Started) (noInit : C.prog.inits.idxOf? f = none) (hfn : C.prog.funcs[f]? = some fn)
    (witness : ∃ (w : World) (tape : Tape) (i : Input), w.os = os ∧ (w.forCall tape i).Shaped C.prog ∧ i.vars = [] ∧ Input.okWide C.prog (w.forCall tape i) .any w.heap.size f i ∧
      ((s.pre enc C.prog fn conds apart (w.forCall tape i).memory i.args ∧ X (w.forCall tape i).memory i.args) ∧ sizedMet enc C.prog fn (OpenSpec.ofChange s) apart (w.forCall tape i).memory i.args) ∧ a.holds C.prog (lone (Frame.enter C.prog f i.args .normal) [] (w.forCall tape i)))
    (contract : ∀ (W : World) (base : Nat) (args : Array Value) (ds gs : List (DataW H)) (before : List MemPlace),
      (∀ (j : Nat) t v, fn.params[j]? = some t → args[j]? = some v → Value.okWide C.prog W .any base t v) →
      DataW.Whole enc C.prog fn.params.toList s.vars apart W args.toList ds gs before →
      conds.all (PathCond.test C.prog ⟨fn.params.toList, ds, s.plain.varTypes C.prog, gs⟩) = true →
      (DataW.weightsEach C.prog (fn.params.toList ++ s.plain.varTypes C.prog) (ds ++ gs)).all (· ≤ reachBytes) = true → W.ShapedOpen C.prog → X W args →
      a.holds C.prog (lone (Frame.enter C.prog f args .normal) [] W) →
      Calls C.prog f args W fun e W' => ∃ v, e = .returned v ∧ s.post enc C.prog fn apart fresh handsOn again W args v W') :
    ReturnsInHanded a C os f .any (fun w args => (s.pre enc C.prog fn conds apart w args ∧ X w args) ∧ sizedMet enc C.prog fn (OpenSpec.ofChange s) apart w args) (s.post enc C.prog fn apart fresh handsOn again) := by
  refine returnsInHanded_of_calls own started noInit witness ?_
  intro w tape i _ hsh _ hok hpre hholds
  obtain ⟨_, _, _, fn', hfn', _, _, _, _, hval⟩ := hok
  have e : fn' = fn := Option.some.inj (hfn'.symm.trans hfn)
  subst e
  obtain ⟨⟨⟨ds, gs, before, hw, hc⟩, hx⟩, hz⟩ := hpre
  have hw' := DataW.Whole.of_heap (w' := w.forCall tape i) (by rfl) hw
  refine (contract (w.forCall tape i) w.heap.size i.args ds gs before hval hw' hc (hz.weights hw) hsh (hX _ _ _ (by rfl) hx) hholds).mono fun e W' ⟨v, he, hp⟩ => ?_
  subst he
  exact ChangeSpec.post_blind hp
end Go.Proofs.YtjffefbgeaabjaaDoor.XShape
namespace Go.Proofs.YtjffefbgeaabjaaDoorW.XConv
open Go Go.RowKit Go.Proofs.YtjffefbgeaabjaaDoorW.PrintWords Go.Proofs.YtjffefbgeaabjaaDoorW.PrintMore

def Row8 (w : World) (g : Nat) (e : TypeId) (xs : List Int) : Prop :=
  ∃ (cur : Array Value) (fr : Nat × Nat), w.heap[g]? = some (.cells cur e fr) ∧ xs.length ≤ cur.size ∧ xs.length ≤ fr.1 ∧ ∀ j, j < xs.length → cur[j]? = some (.int .u8 (xs.getD j 0))
variable {w : World} {g : Nat} {e : TypeId} {xs : List Int}
theorem Row8.cell (h : Row8 w g e xs) (j : Nat) (hj : j < xs.length) : w.cell? ⟨g, j, none⟩ = some (.int .u8 (xs.getD j 0)) := by
  obtain ⟨cur, fr, hb, _, _, hc⟩ := h
  exact (cell_of_row w g j cur e fr hb).trans (hc j hj)
theorem Row8.frozen (h : Row8 w g e xs) (j : Nat) (hj : j < xs.length) : w.frozen? ⟨g, j, none⟩ = false := by
  obtain ⟨cur, fr, hb, _, hf, _⟩ := h
  simp only [World.frozen?, hb]
  have : ¬ (fr.1 ≤ j) := by omega
  simp [this]
theorem Row8.set (h : Row8 w g e xs) (j : Nat) (v : Int) : Row8 (w.setCell ⟨g, j, none⟩ (.int .u8 v)) g e (xs.set j v) := by
  obtain ⟨cur, fr, hb, hs, hf, hc⟩ := h
  refine ⟨cur.setIfInBounds j (.int .u8 v), fr, ?_, by simpa using hs, by simpa using hf, ?_⟩
  · have hlt : g < w.heap.size := (Array.getElem?_eq_some_iff.1 hb).1
    simp [World.setCell, Array.getElem?_modify, hb]
  · intro i hi
    rw [List.length_set] at hi
    rw [Array.getElem?_setIfInBounds]
    by_cases hij : j = i
    · subst hij
      rw [if_pos rfl, if_pos (by omega)]
      simp [List.getD_eq_getElem?_getD, hi]
    · rw [if_neg hij, hc i hi]
      simp [List.getD_eq_getElem?_getD, hij]
theorem Row8.conv (w : World) (e : TypeId) (s : ByteArray) : Row8 (Lib.bytesWorld w e s) w.heap.size e (bytesOf s) := by
  refine ⟨_, _, Lib.bytesWorld_at_new w e s, ?_, ?_, ?_⟩
  · rw [bytesOf_length]; simp [Lib.bytesCells]
  · rw [bytesOf_length]; simp [Lib.bytesCells]
  · intro j hj
    have h1 := Lib.bytesWorld_cell w e s j (by rw [bytesOf_length] at hj; exact hj)
    have h2 := cell_of_row (Lib.bytesWorld w e s) w.heap.size j _ e _ (Lib.bytesWorld_at_new w e s)
    rw [← h2, h1]
    rw [bytesOf_length] at hj
    have hj2 : j < s.data.toList.length := by rw [← data_length] at hj; exact hj
    have hj3 : (bytesOf s).getD j 0 = ((s.data.toList.getD j 0).toNat : Int) := by
      simp only [bytesOf, List.getD_eq_getElem?_getD, List.getElem?_map, List.getElem?_eq_getElem hj2]
      rfl
    rw [hj3]
theorem Row8.lt (h : Row8 w g e xs) : g < w.heap.size := by
  obtain ⟨cur, fr, hb, _⟩ := h
  exact (Array.getElem?_eq_some_iff.1 hb).1
theorem Row8.keep {W : World} (h : Row8 w g e xs) (hb : W.heap[g]? = w.heap[g]?) : Row8 W g e xs := by
  obtain ⟨cur, fr, h1, h2⟩ := h
  exact ⟨cur, fr, hb.trans h1, h2⟩
theorem Row8.drewN (h : Row8 w g e xs) (n : Nat) : Row8 (w.drewN n) g e xs := h.keep rfl
theorem Row8.drew (h : Row8 w g e xs) : Row8 w.drew g e xs := h.keep rfl
theorem Row8.below {W : World} (h : Row8 w g e xs) (hb : Below w.heap.size w W) : Row8 W g e xs := h.keep (hb.block g h.lt)
theorem Row8.reads (h : Row8 w g e xs) (hm : xs.length ≤ 9223372036854775807) {n : Nat} (hn : n = xs.length) : ReadsInt w .u8 (some ⟨g, 0, none⟩) n xs := by
  subst hn
  refine ⟨rfl, hm, fun _ => ⟨_, rfl, fun j hj => ?_⟩⟩
  rw [add_plain]
  exact h.cell j hj
end Go.Proofs.YtjffefbgeaabjaaDoorW.XConv
namespace Go.Proofs.YtjffefbgeaabjaaDoor.F
open Go Go.Shelf Go.RowKit Go.Proofs.YtjffefbgeaabjaaDoorW.PrintWords Go.Proofs.YtjffefbgeaabjaaDoorW.PrintLast Go.Proofs.YtjffefbgeaabjaaDoorW.PrintMore
attribute [local go_sem] max2_int min2_int max_two min_two max_three min_three max_four min_four   -- for this text's walks alone
set_option linter.unusedVariables false
set_option linter.unusedSimpArgs false



def errW : Option Int → Value
  | none => .nilIface
  | some c => .iface 0 (.int .i64 c)
theorem errW_none : errW none = .nilIface := rfl
theorem errW_some (c : Int) : errW (some c) = .iface 0 (.int .i64 c) := rfl

theorem info5 : (Tryd.prog.info? 5).map (fun i => (i.zero, i.size, i.bytes)) = some (some (.int .u8 0), 1, 1) := by kernel_rfl
-- the values' own types

end Go.Proofs.YtjffefbgeaabjaaDoor.F
namespace Go.Proofs.YtjffefbgeaabjaaDoor.F
open Go Go.Shelf Go.RowKit Go.Proofs.YtjffefbgeaabjaaDoorW.PrintWords Go.Proofs.YtjffefbgeaabjaaDoorW.PrintLast Go.Proofs.YtjffefbgeaabjaaDoorW.PrintMore
attribute [local go_sem] max2_int min2_int max_two min_two max_three min_three max_four min_four   -- for this text's walks alone
set_option linter.unusedVariables false
set_option linter.unusedSimpArgs false

/-! ### spec_l03Mnemonic: function 6 -/
def spec_l03Mnemonic.f (a0 : Int) : Option (ByteArray) := if a0 = 1 then (some (⟨#[65]⟩ : ByteArray)) else (if a0 = 2 then (some (⟨#[78, 83]⟩ : ByteArray)) else (if a0 = 5 then (some (⟨#[67, 78, 65, 77, 69]⟩ : ByteArray)) else (if a0 = 6 then (some (⟨#[83, 79, 65]⟩ : ByteArray)) else (if a0 = 12 then (some (⟨#[80, 84, 82]⟩ : ByteArray)) else (if a0 = 13 then (some (⟨#[72, 73, 78, 70, 79]⟩ : ByteArray)) else (if a0 = 15 then (some (⟨#[77, 88]⟩ : ByteArray)) else (if a0 = 16 then (some (⟨#[84, 88, 84]⟩ : ByteArray)) else (if a0 = 28 then (some (⟨#[65, 65, 65, 65]⟩ : ByteArray)) else (if a0 = 33 then (some (⟨#[83, 82, 86]⟩ : ByteArray)) else (if a0 = 35 then (some (⟨#[78, 65, 80, 84, 82]⟩ : ByteArray)) else (if a0 = 39 then (some (⟨#[68, 78, 65, 77, 69]⟩ : ByteArray)) else (if a0 = 41 then (some (⟨#[79, 80, 84]⟩ : ByteArray)) else (if a0 = 47 then (some (⟨#[78, 83, 69, 67]⟩ : ByteArray)) else (if a0 = 250 then (some (⟨#[84, 83, 73, 71]⟩ : ByteArray)) else (if a0 = 251 then (some (⟨#[73, 88, 70, 82]⟩ : ByteArray)) else (if a0 = 252 then (some (⟨#[65, 88, 70, 82]⟩ : ByteArray)) else (if a0 = 255 then (some (⟨#[65, 78, 89]⟩ : ByteArray)) else (if a0 = 257 then (some (⟨#[67, 65, 65]⟩ : ByteArray)) else (some (⟨#[]⟩ : ByteArray))))))))))))))))))))
set_option maxHeartbeats 8000000 in
set_option maxRecDepth 100000 in
theorem spec_l03Mnemonic.calls (a0 : Int) (r : ByteArray) (w : World) (h : spec_l03Mnemonic.f a0 = some r) :
    Calls Tryd.prog 6 #[.int .i64 a0] w fun e w' => e = .returned (.string r) ∧ Drawn0 w w' := by
  have H : (if a0 = 1 then (some (⟨#[65]⟩ : ByteArray)) else (if a0 = 2 then (some (⟨#[78, 83]⟩ : ByteArray)) else (if a0 = 5 then (some (⟨#[67, 78, 65, 77, 69]⟩ : ByteArray)) else (if a0 = 6 then (some (⟨#[83, 79, 65]⟩ : ByteArray)) else (if a0 = 12 then (some (⟨#[80, 84, 82]⟩ : ByteArray)) else (if a0 = 13 then (some (⟨#[72, 73, 78, 70, 79]⟩ : ByteArray)) else (if a0 = 15 then (some (⟨#[77, 88]⟩ : ByteArray)) else (if a0 = 16 then (some (⟨#[84, 88, 84]⟩ : ByteArray)) else (if a0 = 28 then (some (⟨#[65, 65, 65, 65]⟩ : ByteArray)) else (if a0 = 33 then (some (⟨#[83, 82, 86]⟩ : ByteArray)) else (if a0 = 35 then (some (⟨#[78, 65, 80, 84, 82]⟩ : ByteArray)) else (if a0 = 39 then (some (⟨#[68, 78, 65, 77, 69]⟩ : ByteArray)) else (if a0 = 41 then (some (⟨#[79, 80, 84]⟩ : ByteArray)) else (if a0 = 47 then (some (⟨#[78, 83, 69, 67]⟩ : ByteArray)) else (if a0 = 250 then (some (⟨#[84, 83, 73, 71]⟩ : ByteArray)) else (if a0 = 251 then (some (⟨#[73, 88, 70, 82]⟩ : ByteArray)) else (if a0 = 252 then (some (⟨#[65, 88, 70, 82]⟩ : ByteArray)) else (if a0 = 255 then (some (⟨#[65, 78, 89]⟩ : ByteArray)) else (if a0 = 257 then (some (⟨#[67, 65, 65]⟩ : ByteArray)) else (some (⟨#[]⟩ : ByteArray))))))))))))))))))))) = some r := h
  clear h
  by_cases c2 : a0 = 1
  · rw [if_pos c2] at H
    have c2b0 : (a0 == 1) = true := beq_iff_eq.mpr c2
    have c2b1 : (a0 != 1) = false := bne_eq_false_iff_eq.mpr c2
    clear c2
    obtain rfl := Option.some.inj H
    go_enter Tryd.func6, Tryd.ntmps6
    go_wp2
    go_ret
    exact ⟨by first | rfl | (simp; done) | (simp [*]; done), by repeat (first | exact Drawn0.refl _ | apply Drawn0.step)⟩
  · rw [if_neg c2] at H
    have c2b0 : (a0 == 1) = false := beq_eq_false_iff_ne.mpr c2
    have c2b1 : (a0 != 1) = true := bne_iff_ne.mpr c2
    by_cases c3 : a0 = 2
    · rw [if_pos c3] at H
      have c3b0 : (a0 == 2) = true := beq_iff_eq.mpr c3
      have c3b1 : (a0 != 2) = false := bne_eq_false_iff_eq.mpr c3
      clear c3
      obtain rfl := Option.some.inj H
      go_enter Tryd.func6, Tryd.ntmps6
      go_wp2
      go_ret
      exact ⟨by first | rfl | (simp; done) | (simp [*]; done), by repeat (first | exact Drawn0.refl _ | apply Drawn0.step)⟩
    · rw [if_neg c3] at H
      have c3b0 : (a0 == 2) = false := beq_eq_false_iff_ne.mpr c3
      have c3b1 : (a0 != 2) = true := bne_iff_ne.mpr c3
      by_cases c4 : a0 = 5
      · rw [if_pos c4] at H
        have c4b0 : (a0 == 5) = true := beq_iff_eq.mpr c4
        have c4b1 : (a0 != 5) = false := bne_eq_false_iff_eq.mpr c4
        clear c4
        obtain rfl := Option.some.inj H
        go_enter Tryd.func6, Tryd.ntmps6
        go_wp2
        go_ret
        exact ⟨by first | rfl | (simp; done) | (simp [*]; done), by repeat (first | exact Drawn0.refl _ | apply Drawn0.step)⟩
      · rw [if_neg c4] at H
        have c4b0 : (a0 == 5) = false := beq_eq_false_iff_ne.mpr c4
        have c4b1 : (a0 != 5) = true := bne_iff_ne.mpr c4
        by_cases c5 : a0 = 6
        · rw [if_pos c5] at H
          have c5b0 : (a0 == 6) = true := beq_iff_eq.mpr c5
          have c5b1 : (a0 != 6) = false := bne_eq_false_iff_eq.mpr c5
          clear c5
          obtain rfl := Option.some.inj H
          go_enter Tryd.func6, Tryd.ntmps6
          go_wp2
          go_ret
          exact ⟨by first | rfl | (simp; done) | (simp [*]; done), by repeat (first | exact Drawn0.refl _ | apply Drawn0.step)⟩
        · rw [if_neg c5] at H
          have c5b0 : (a0 == 6) = false := beq_eq_false_iff_ne.mpr c5
          have c5b1 : (a0 != 6) = true := bne_iff_ne.mpr c5
          by_cases c6 : a0 = 12
          · rw [if_pos c6] at H
            have c6b0 : (a0 == 12) = true := beq_iff_eq.mpr c6
            have c6b1 : (a0 != 12) = false := bne_eq_false_iff_eq.mpr c6
            clear c6
            obtain rfl := Option.some.inj H
            go_enter Tryd.func6, Tryd.ntmps6
            go_wp2
            go_ret
            exact ⟨by first | rfl | (simp; done) | (simp [*]; done), by repeat (first | exact Drawn0.refl _ | apply Drawn0.step)⟩
          · rw [if_neg c6] at H
            have c6b0 : (a0 == 12) = false := beq_eq_false_iff_ne.mpr c6
            have c6b1 : (a0 != 12) = true := bne_iff_ne.mpr c6
            by_cases c7 : a0 = 13
            · rw [if_pos c7] at H
              have c7b0 : (a0 == 13) = true := beq_iff_eq.mpr c7
              have c7b1 : (a0 != 13) = false := bne_eq_false_iff_eq.mpr c7
              clear c7
              obtain rfl := Option.some.inj H
              go_enter Tryd.func6, Tryd.ntmps6
              go_wp2
              go_ret
              exact ⟨by first | rfl | (simp; done) | (simp [*]; done), by repeat (first | exact Drawn0.refl _ | apply Drawn0.step)⟩
            · rw [if_neg c7] at H
              have c7b0 : (a0 == 13) = false := beq_eq_false_iff_ne.mpr c7
              have c7b1 : (a0 != 13) = true := bne_iff_ne.mpr c7
              by_cases c8 : a0 = 15
              · rw [if_pos c8] at H
                have c8b0 : (a0 == 15) = true := beq_iff_eq.mpr c8
                have c8b1 : (a0 != 15) = false := bne_eq_false_iff_eq.mpr c8
                clear c8
                obtain rfl := Option.some.inj H
                go_enter Tryd.func6, Tryd.ntmps6
                go_wp2
                go_ret
                exact ⟨by first | rfl | (simp; done) | (simp [*]; done), by repeat (first | exact Drawn0.refl _ | apply Drawn0.step)⟩
              · rw [if_neg c8] at H
                have c8b0 : (a0 == 15) = false := beq_eq_false_iff_ne.mpr c8
                have c8b1 : (a0 != 15) = true := bne_iff_ne.mpr c8
                by_cases c9 : a0 = 16
                · rw [if_pos c9] at H
                  have c9b0 : (a0 == 16) = true := beq_iff_eq.mpr c9
                  have c9b1 : (a0 != 16) = false := bne_eq_false_iff_eq.mpr c9
                  clear c9
                  obtain rfl := Option.some.inj H
                  go_enter Tryd.func6, Tryd.ntmps6
                  go_wp2
                  go_ret
                  exact ⟨by first | rfl | (simp; done) | (simp [*]; done), by repeat (first | exact Drawn0.refl _ | apply Drawn0.step)⟩
                · rw [if_neg c9] at H
                  have c9b0 : (a0 == 16) = false := beq_eq_false_iff_ne.mpr c9
                  have c9b1 : (a0 != 16) = true := bne_iff_ne.mpr c9
                  by_cases c10 : a0 = 28
                  · rw [if_pos c10] at H
                    have c10b0 : (a0 == 28) = true := beq_iff_eq.mpr c10
                    have c10b1 : (a0 != 28) = false := bne_eq_false_iff_eq.mpr c10
                    clear c10
                    obtain rfl := Option.some.inj H
                    go_enter Tryd.func6, Tryd.ntmps6
                    go_wp2
                    go_ret
                    exact ⟨by first | rfl | (simp; done) | (simp [*]; done), by repeat (first | exact Drawn0.refl _ | apply Drawn0.step)⟩
                  · rw [if_neg c10] at H
                    have c10b0 : (a0 == 28) = false := beq_eq_false_iff_ne.mpr c10
                    have c10b1 : (a0 != 28) = true := bne_iff_ne.mpr c10
                    by_cases c11 : a0 = 33
                    · rw [if_pos c11] at H
                      have c11b0 : (a0 == 33) = true := beq_iff_eq.mpr c11
                      have c11b1 : (a0 != 33) = false := bne_eq_false_iff_eq.mpr c11
                      clear c11
                      obtain rfl := Option.some.inj H
                      go_enter Tryd.func6, Tryd.ntmps6
                      go_wp2
                      go_ret
                      exact ⟨by first | rfl | (simp; done) | (simp [*]; done), by repeat (first | exact Drawn0.refl _ | apply Drawn0.step)⟩
                    · rw [if_neg c11] at H
                      have c11b0 : (a0 == 33) = false := beq_eq_false_iff_ne.mpr c11
                      have c11b1 : (a0 != 33) = true := bne_iff_ne.mpr c11
                      by_cases c12 : a0 = 35
                      · rw [if_pos c12] at H
                        have c12b0 : (a0 == 35) = true := beq_iff_eq.mpr c12
                        have c12b1 : (a0 != 35) = false := bne_eq_false_iff_eq.mpr c12
                        clear c12
                        obtain rfl := Option.some.inj H
                        go_enter Tryd.func6, Tryd.ntmps6
                        go_wp2
                        go_ret
                        exact ⟨by first | rfl | (simp; done) | (simp [*]; done), by repeat (first | exact Drawn0.refl _ | apply Drawn0.step)⟩
                      · rw [if_neg c12] at H
                        have c12b0 : (a0 == 35) = false := beq_eq_false_iff_ne.mpr c12
                        have c12b1 : (a0 != 35) = true := bne_iff_ne.mpr c12
                        by_cases c13 : a0 = 39
                        · rw [if_pos c13] at H
                          have c13b0 : (a0 == 39) = true := beq_iff_eq.mpr c13
                          have c13b1 : (a0 != 39) = false := bne_eq_false_iff_eq.mpr c13
                          clear c13
                          obtain rfl := Option.some.inj H
                          go_enter Tryd.func6, Tryd.ntmps6
                          go_wp2
                          go_ret
                          exact ⟨by first | rfl | (simp; done) | (simp [*]; done), by repeat (first | exact Drawn0.refl _ | apply Drawn0.step)⟩
                        · rw [if_neg c13] at H
                          have c13b0 : (a0 == 39) = false := beq_eq_false_iff_ne.mpr c13
                          have c13b1 : (a0 != 39) = true := bne_iff_ne.mpr c13
                          by_cases c14 : a0 = 41
                          · rw [if_pos c14] at H
                            have c14b0 : (a0 == 41) = true := beq_iff_eq.mpr c14
                            have c14b1 : (a0 != 41) = false := bne_eq_false_iff_eq.mpr c14
                            clear c14
                            obtain rfl := Option.some.inj H
                            go_enter Tryd.func6, Tryd.ntmps6
                            go_wp2
                            go_ret
                            exact ⟨by first | rfl | (simp; done) | (simp [*]; done), by repeat (first | exact Drawn0.refl _ | apply Drawn0.step)⟩
                          · rw [if_neg c14] at H
                            have c14b0 : (a0 == 41) = false := beq_eq_false_iff_ne.mpr c14
                            have c14b1 : (a0 != 41) = true := bne_iff_ne.mpr c14
                            by_cases c15 : a0 = 47
                            · rw [if_pos c15] at H
                              have c15b0 : (a0 == 47) = true := beq_iff_eq.mpr c15
                              have c15b1 : (a0 != 47) = false := bne_eq_false_iff_eq.mpr c15
                              clear c15
                              obtain rfl := Option.some.inj H
                              go_enter Tryd.func6, Tryd.ntmps6
                              go_wp2
                              go_ret
                              exact ⟨by first | rfl | (simp; done) | (simp [*]; done), by repeat (first | exact Drawn0.refl _ | apply Drawn0.step)⟩
                            · rw [if_neg c15] at H
                              have c15b0 : (a0 == 47) = false := beq_eq_false_iff_ne.mpr c15
                              have c15b1 : (a0 != 47) = true := bne_iff_ne.mpr c15
                              by_cases c16 : a0 = 250
                              · rw [if_pos c16] at H
                                have c16b0 : (a0 == 250) = true := beq_iff_eq.mpr c16
                                have c16b1 : (a0 != 250) = false := bne_eq_false_iff_eq.mpr c16
                                clear c16
                                obtain rfl := Option.some.inj H
                                go_enter Tryd.func6, Tryd.ntmps6
                                go_wp2
                                go_ret
                                exact ⟨by first | rfl | (simp; done) | (simp [*]; done), by repeat (first | exact Drawn0.refl _ | apply Drawn0.step)⟩
                              · rw [if_neg c16] at H
                                have c16b0 : (a0 == 250) = false := beq_eq_false_iff_ne.mpr c16
                                have c16b1 : (a0 != 250) = true := bne_iff_ne.mpr c16
                                by_cases c17 : a0 = 251
                                · rw [if_pos c17] at H
                                  have c17b0 : (a0 == 251) = true := beq_iff_eq.mpr c17
                                  have c17b1 : (a0 != 251) = false := bne_eq_false_iff_eq.mpr c17
                                  clear c17
                                  obtain rfl := Option.some.inj H
                                  go_enter Tryd.func6, Tryd.ntmps6
                                  go_wp2
                                  go_ret
                                  exact ⟨by first | rfl | (simp; done) | (simp [*]; done), by repeat (first | exact Drawn0.refl _ | apply Drawn0.step)⟩
                                · rw [if_neg c17] at H
                                  have c17b0 : (a0 == 251) = false := beq_eq_false_iff_ne.mpr c17
                                  have c17b1 : (a0 != 251) = true := bne_iff_ne.mpr c17
                                  by_cases c18 : a0 = 252
                                  · rw [if_pos c18] at H
                                    have c18b0 : (a0 == 252) = true := beq_iff_eq.mpr c18
                                    have c18b1 : (a0 != 252) = false := bne_eq_false_iff_eq.mpr c18
                                    clear c18
                                    obtain rfl := Option.some.inj H
                                    go_enter Tryd.func6, Tryd.ntmps6
                                    go_wp2
                                    go_ret
                                    exact ⟨by first | rfl | (simp; done) | (simp [*]; done), by repeat (first | exact Drawn0.refl _ | apply Drawn0.step)⟩
                                  · rw [if_neg c18] at H
                                    have c18b0 : (a0 == 252) = false := beq_eq_false_iff_ne.mpr c18
                                    have c18b1 : (a0 != 252) = true := bne_iff_ne.mpr c18
                                    by_cases c19 : a0 = 255
                                    · rw [if_pos c19] at H
                                      have c19b0 : (a0 == 255) = true := beq_iff_eq.mpr c19
                                      have c19b1 : (a0 != 255) = false := bne_eq_false_iff_eq.mpr c19
                                      clear c19
                                      obtain rfl := Option.some.inj H
                                      go_enter Tryd.func6, Tryd.ntmps6
                                      go_wp2
                                      go_ret
                                      exact ⟨by first | rfl | (simp; done) | (simp [*]; done), by repeat (first | exact Drawn0.refl _ | apply Drawn0.step)⟩
                                    · rw [if_neg c19] at H
                                      have c19b0 : (a0 == 255) = false := beq_eq_false_iff_ne.mpr c19
                                      have c19b1 : (a0 != 255) = true := bne_iff_ne.mpr c19
                                      by_cases c20 : a0 = 257
                                      · rw [if_pos c20] at H
                                        have c20b0 : (a0 == 257) = true := beq_iff_eq.mpr c20
                                        have c20b1 : (a0 != 257) = false := bne_eq_false_iff_eq.mpr c20
                                        clear c20
                                        obtain rfl := Option.some.inj H
                                        go_enter Tryd.func6, Tryd.ntmps6
                                        go_wp2
                                        go_ret
                                        exact ⟨by first | rfl | (simp; done) | (simp [*]; done), by repeat (first | exact Drawn0.refl _ | apply Drawn0.step)⟩
                                      · rw [if_neg c20] at H
                                        have c20b0 : (a0 == 257) = false := beq_eq_false_iff_ne.mpr c20
                                        have c20b1 : (a0 != 257) = true := bne_iff_ne.mpr c20
                                        obtain rfl := Option.some.inj H
                                        go_enter Tryd.func6, Tryd.ntmps6
                                        go_wp2
                                        go_ret
                                        exact ⟨by first | rfl | (simp; done) | (simp [*]; done), by repeat (first | exact Drawn0.refl _ | apply Drawn0.step)⟩

end Go.Proofs.YtjffefbgeaabjaaDoor.F
namespace Go.Proofs.YtjffefbgeaabjaaDoor.F
open Go Go.Shelf Go.RowKit Go.Proofs.YtjffefbgeaabjaaDoorW.PrintWords Go.Proofs.YtjffefbgeaabjaaDoorW.PrintLast Go.Proofs.YtjffefbgeaabjaaDoorW.PrintMore
attribute [local go_sem] max2_int min2_int max_two min_two max_three min_three max_four min_four   -- for this text's walks alone
set_option linter.unusedVariables false
set_option linter.unusedSimpArgs false

/-! ### spec_l03Dec: function 7 -/
def spec_l03Dec.f : Nat → Int → Option (ByteArray)
  | 0, _ => none
  | k + 1, a0 => if a0 < 10 then (some (strOfNums (([(wrap64 (48 + a0)) % 256] : List Int)))) else ((spec_l03Dec.f k (wrap64 (Int.tdiv a0 10))).bind fun t104 => ((some (([(wrap64 (48 + (Int.tmod a0 10))) % 256] : List Int) : List Int)).bind fun y105 => (if t104.size + (strOfNums y105).size ≤ 9223372036854775807 then (some (t104 ++ (strOfNums y105))) else (none))))
theorem spec_l03Dec.mono_l : ∀ k, (∀ y0, LeO (spec_l03Dec.f k y0) (spec_l03Dec.f (k + 1) y0))
  | 0 => fun _ r h => by simp [spec_l03Dec.f] at h
  | k + 1 => by
    have ih0 := spec_l03Dec.mono_l k
    · intro y0
      unfold spec_l03Dec.f
      repeat' first
      | (with_reducible exact ih0 _)
      | (with_reducible exact LeO.refl _)
      | (with_reducible exact LeO.none _)
      | (with_reducible refine LeO.ite ?_ ?_)
      | (with_reducible refine LeO.bind ?_ (fun _ => ?_))
      | exact ih0 _
      | exact LeO.none _
      | refine LeO.ite ?_ ?_
      | refine LeO.bind ?_ (fun _ => ?_)
theorem spec_l03Dec.mono : ∀ a0 k, LeO (spec_l03Dec.f k a0) (spec_l03Dec.f (k + 1) a0) := by
  intro a0 k
  have ih0 := spec_l03Dec.mono_l k
  exact ih0 a0
def spec_l03Dec.T3 : Bool × List (List Nat × List Nat) := (true, [([], []), ([0], [0]), ([1], [1]), ([], []), ([3], [3]), ([4], [4]), ([5], [5]), ([6], [6]), ([7], [7]), ([2, 8], [2, 8]), ([9, 2, 0, 1, 2, 3, 4, 5, 6, 7, 8, 9], [9])])
def spec_l03Dec.B3 : List Nat := [0, 1, 3, 0, 8, 24, 56, 120, 248, 511, 1023]
theorem spec_l03Dec.tab3 : rtab .any (opsOf Tryd.f7 3) = spec_l03Dec.T3 := by kernel_rfl
theorem spec_l03Dec.bits3 : waitsOk spec_l03Dec.T3.2 spec_l03Dec.B3 = true := by kernel_rfl
set_option maxHeartbeats 8000000 in
set_option maxRecDepth 100000 in
theorem spec_l03Dec.calls (k : Nat) : ∀ (a0 : Int) (r : ByteArray) (w : World) (h : spec_l03Dec.f k a0 = some r),
    Calls Tryd.prog 7 #[.int .i64 a0] w fun e w' => e = .returned (.string r) ∧ Below w.heap.size w w' := by
  induction k using Nat.strongRecOn with
  | _ k ih =>
  intro a0 r w h
  cases k with
  | zero => exact absurd h (by simp [spec_l03Dec.f])
  | succ k =>
  simp only [spec_l03Dec.f] at h
  have HB := Aside0.mk (Below.refl w.heap.size w)
  have H : (if a0 < 10 then (some (strOfNums (([(wrap64 (48 + a0)) % 256] : List Int)))) else ((spec_l03Dec.f k (wrap64 (Int.tdiv a0 10))).bind fun t104 => ((some (([(wrap64 (48 + (Int.tmod a0 10))) % 256] : List Int) : List Int)).bind fun y105 => (if t104.size + (strOfNums y105).size ≤ 9223372036854775807 then (some (t104 ++ (strOfNums y105))) else (none))))) = some r := h
  clear h
  by_cases c2 : a0 < 10
  · rw [if_pos c2] at H
    have c2b0 : decide (a0 < 10) = true := decide_eq_true c2
    clear c2
    obtain ⟨y101, hy101⟩ : ∃ y_ : List Int, y_ = (([(wrap64 (48 + a0)) % 256] : List Int)) := ⟨_, rfl⟩
    replace H : (some (strOfNums y101)) = some r := by first | (rw [hy101]; with_reducible exact H) | (have H2_ := (Option.bind_some _ _).symm.trans H; rw [hy101]; with_reducible exact H2_) | (have H2_ := (Option.bind_some _ _).symm.trans H; with_reducible exact H2_) | with_reducible exact H | (rw [hy101]; exact H) | exact H
    have Ny101 := Aside0.mk hy101
    clear hy101
    obtain rfl := Option.some.inj H
    go_enter Tryd.func7, Tryd.ntmps7
    go_wp2_with (first | ((with_reducible refine gate_dst (N := 8) rfl ?_); refine Kd.R_lit (Kd.int .u8) _ 5 ?hg (N := 8) ?hd (xs := ([(wrap64 (48 + a0)) % 256] : List Int)) (inner := [.int .u8 ((wrap64 (48 + a0)) % 256)]) (ok := fun _ => True) (okp := fun _ => True) ?hr ?hp (fun _ hk => hk) trivial (Below.refl _ _) (Nat.le_refl _) (by simp) ?_; (case hd => rfl); (case hg => rfl); (case hr => first | (go_simp; done) | (go_simp; rfl)); (case hp => exact (Reps.one (show Kd.M (Kd.int .u8) _ _ _ ((wrap64 (48 + a0)) % 256) [.int .u8 ((wrap64 (48 + a0)) % 256)] from rfl) (Reps.none _ _))); intro v102 w3 ho4 hb hg_ hnew_; clear hg_ hnew_; (first | rw [← Ny101.out] at ho4 | (simp only [Int.reduceToNat] at ho4; rw [← Ny101.out] at ho4)); have n0_ := Aside0.mk (Kd.R_lower ho4 (below_size (by repeat (first | (with_reducible first | exact HB.out | apply below_alloc | apply pw_below_drewN | apply below_drew1) | exact HB.out)))); have n1_ := Aside0.mk (below_step (by repeat (first | (with_reducible first | exact HB.out | apply below_alloc | apply pw_below_drewN | apply below_drew1) | exact HB.out)) hb); clear HB; have HO103 := n0_; have HB := n1_; clear n0_ n1_; clear hb ho4; have hcv5 := own_string (P := Tryd.prog) Tryd.underlying27 Tryd.underlying5 Tryd.underlying9 (Kd.own_of_R HO103.out)))
    go_ret
    exact ⟨by first | rfl | (simp [errW_none, errW_some] <;> rfl) | (simp [*, errW_none, errW_some] <;> rfl), by repeat (first | (with_reducible first | exact HB.out | apply below_alloc | apply pw_below_drewN | apply below_drew1) | exact HB.out)⟩
  · rw [if_neg c2] at H
    have c2b0 : decide (a0 < 10) = false := decide_eq_false c2
    clear c2
    replace H := Option.bind_eq_some_iff.mp H
    obtain ⟨t104, A60, H⟩ := H
    replace H : ((some (([(wrap64 (48 + (Int.tmod a0 10))) % 256] : List Int) : List Int)).bind fun y105 => (if t104.size + (strOfNums y105).size ≤ 9223372036854775807 then (some (t104 ++ (strOfNums y105))) else (none))) = some r := H
    have A6 := Aside0.mk A60
    clear A60
    obtain ⟨y105, hy105⟩ : ∃ y_ : List Int, y_ = (([(wrap64 (48 + (Int.tmod a0 10))) % 256] : List Int)) := ⟨_, rfl⟩
    replace H : (if t104.size + (strOfNums y105).size ≤ 9223372036854775807 then (some (t104 ++ (strOfNums y105))) else (none)) = some r := by first | (rw [hy105]; with_reducible exact H) | (have H2_ := (Option.bind_some _ _).symm.trans H; rw [hy105]; with_reducible exact H2_) | (have H2_ := (Option.bind_some _ _).symm.trans H; with_reducible exact H2_) | with_reducible exact H | (rw [hy105]; exact H) | exact H
    have Ny105 := Aside0.mk hy105
    clear hy105
    by_cases c7 : t104.size + (strOfNums y105).size ≤ 9223372036854775807
    · rw [if_pos c7] at H
      have c7b0 := eq_true c7
      have c7b1 : decide (t104.size + (strOfNums y105).size ≤ 9223372036854775807) = true := decide_eq_true c7
      try have c7b2 : (9223372036854775807 < t104.size + (strOfNums y105).size) = False := eq_false (Nat.not_lt.2 c7)
      obtain rfl := Option.some.inj H
      go_enter Tryd.func7, Tryd.ntmps7
      try go_wp2
      have n0_ := Aside0.mk (below_drew1 HB.out)
      clear HB
      have HB := n0_
      clear n0_
      refine start_ (n := 11) (S := fun w' => True) (ds := []) #[false, false, false, false, false, false, false, false, false, false, false] (by kernel_rfl) rfl rfl trivial (fun hHeld => ?_); refine with_tabW spec_l03Dec.tab3 spec_l03Dec.bits3 (fun HT_ HW_ => ?_)
      generalize w.drew = w8 at HB hHeld ⊢
      refine pure_ (i := 0) (N := some 10) (v := ?_) (a' := ?_) #[true, false, false, false, false, false, false, false, false, false, false] rfl rfl (any_of HT_.out (by kernel_rfl)) (fun _ _ _ h => h) (Or.inl ⟨by rfl, ?_⟩) ?_ ?_
      rotate_left
      · intro w'
        go_simp
        with_reducible rfl
      rotate_left
      · simp only [Act.put, List.setIfInBounds_toArray, List.set_cons_zero, List.set_cons_succ, i64_w, i32_w]
        rfl
      refine pure_ (i := 1) (N := some 11) (v := ?_) (a' := ?_) #[true, true, false, false, false, false, false, false, false, false, false] rfl rfl (any_of HT_.out (by kernel_rfl)) (fun _ _ _ h => h) (Or.inl ⟨by rfl, ?_⟩) ?_ ?_
      rotate_left
      · intro w'
        go_simp
        with_reducible rfl
      rotate_left
      · simp only [Act.put, List.setIfInBounds_toArray, List.set_cons_zero, List.set_cons_succ, i64_w, i32_w]
        rfl
      refine pure_ (i := 3) (N := some 13) (v := ?_) (a' := ?_) #[true, true, false, true, false, false, false, false, false, false, false] rfl rfl (any_of HT_.out (by kernel_rfl)) (fun _ _ _ h => h) (Or.inl ⟨by rfl, ?_⟩) ?_ ?_
      rotate_left
      · intro w'
        go_simp
        with_reducible rfl
      rotate_left
      · simp only [Act.put, List.setIfInBounds_toArray, List.set_cons_zero, List.set_cons_succ, i64_w, i32_w]
        rfl
      refine pure_ (i := 4) (N := some 14) (v := ?_) (a' := ?_) #[true, true, false, true, true, false, false, false, false, false, false] rfl rfl (any_of HT_.out (by kernel_rfl)) (fun _ _ _ h => h) (Or.inl ⟨by rfl, ?_⟩) ?_ ?_
      rotate_left
      · intro w'
        go_simp
        with_reducible rfl
      rotate_left
      · simp only [Act.put, List.setIfInBounds_toArray, List.set_cons_zero, List.set_cons_succ, i64_w, i32_w]
        rfl
      refine pure_ (i := 5) (N := some 15) (v := ?_) (a' := ?_) #[true, true, false, true, true, true, false, false, false, false, false] rfl rfl (any_of HT_.out (by kernel_rfl)) (fun _ _ _ h => h) (Or.inl ⟨by rfl, ?_⟩) ?_ ?_
      rotate_left
      · intro w'
        go_simp
        with_reducible rfl
      rotate_left
      · simp only [Act.put, List.setIfInBounds_toArray, List.set_cons_zero, List.set_cons_succ, i64_w, i32_w]
        rfl
      refine pure_ (i := 6) (N := some 16) (v := ?_) (a' := ?_) #[true, true, false, true, true, true, true, false, false, false, false] rfl rfl (any_of HT_.out (by kernel_rfl)) (fun _ _ _ h => h) (Or.inl ⟨by rfl, ?_⟩) ?_ ?_
      rotate_left
      · intro w'
        go_simp
        with_reducible rfl
      rotate_left
      · simp only [Act.put, List.setIfInBounds_toArray, List.set_cons_zero, List.set_cons_succ, i64_w, i32_w]
        rfl
      refine join_ (σ := Value) 2 #[true, true, true, true, true, true, true, true, true, false, false] (fun s_ => [(12, .string t104), (17, s_), (18, .string (strOfNums y105))]) (fun s_ w' => (Kd.R (Kd.int .u8) 5 w' w.heap.size (fun _ => True) s_ y105) ∧ (Below w.heap.size w w')) ?_ ?_
      rotate_left
      · intro hCont
        refine two_ (i := 2) (j := 7) (Ni := some 12) (Nj := some 17) #[true, true, true, true, true, true, true, false, false, false, false] #[true, true, false, true, true, true, true, true, false, false, false] rfl rfl rfl rfl (two_of HT_.out (by kernel_rfl)) (by decide) (by decide) (fun K hK => ?_) (fun K hK => ?_)
        · skip
          refine goes_ Tryd.func7 (by kernel_rfl) rfl #[.int .i64 (wrap64 (Int.tdiv a0 10))] (by rfl) rfl rfl (by (try simp only [List.map_toArray, List.map_cons, List.map_nil]); first | done | rfl | (simp only [List.length_drop, List.length_take]; rfl)) ?_
          with_reducible refine (ih k (by omega) (wrap64 (Int.tdiv a0 10)) t104 _ A6.out).mono ?_
          rintro e w9 ⟨rfl, hb⟩
          refine ⟨_, rfl, ?_⟩
          have n0_ := Aside0.mk (below_step (by repeat (first | (with_reducible first | exact HB.out | apply below_alloc | apply pw_below_drewN | apply below_drew1) | exact HB.out)) hb)
          clear HB
          have HB := n0_
          clear n0_
          (try clear hb)
          (try clear hb2)
          (try clear hk)
          (try clear hi)
          refine hK.out _ _ trivial (fun hHeld => ?_)
          clear hK K
          refine norm_ (a' := ?_) ?_ ?_
          rotate_left
          · show Act.put _ (some 12) _ = _
            simp only [Act.put, List.setIfInBounds_toArray, List.set_cons_zero, List.set_cons_succ, i64_w, i32_w]
            rfl
          refine one_ (i := 7) (N := some 17) #[true, true, true, true, true, true, true, true, false, false, false] rfl rfl (one_of HT_.out (by kernel_rfl)) (by decide) (fun K hK => ?_)
          refine Kd.R_lit_step (Kd.int .u8) _ 5 ?hg (N := 17) ?hd (xs := ([(wrap64 (48 + (Int.tmod a0 10))) % 256] : List Int)) (inner := [.int .u8 ((wrap64 (48 + (Int.tmod a0 10))) % 256)]) (ok := fun _ => True) (okp := fun _ => True) ?hr ?hp (fun _ hk => hk) trivial (Below.refl _ _) (Nat.le_refl _) (by simp) ?_; (case hd => rfl); (case hg => rfl); (case hr => first | (go_simp; done) | (go_simp; rfl)); (case hp => exact (Reps.one (show Kd.M (Kd.int .u8) _ _ _ ((wrap64 (48 + (Int.tmod a0 10))) % 256) [.int .u8 ((wrap64 (48 + (Int.tmod a0 10))) % 256)] from rfl) (Reps.none _ _)))
          intro v106 w10 ho11 hb hg_ hnew_
          clear hg_ hnew_
          (first | rw [← Ny105.out] at ho11 | (simp only [Int.reduceToNat] at ho11; rw [← Ny105.out] at ho11))
          have n0_ := Aside0.mk (Kd.R_lower ho11 (below_size (by repeat (first | (with_reducible first | exact HB.out | apply below_alloc | apply pw_below_drewN | apply below_drew1) | exact HB.out))))
          have n1_ := Aside0.mk (below_step (by repeat (first | (with_reducible first | exact HB.out | apply below_alloc | apply pw_below_drewN | apply below_drew1) | exact HB.out)) hb)
          clear HB
          have HO107 := n0_
          have HB := n1_
          clear n0_ n1_
          clear hb ho11
          refine hK.out _ _ trivial (fun hHeld => ?_)
          clear hK K
          refine norm_ (a' := ?_) ?_ ?_
          rotate_left
          · show Act.put _ (some 17) _ = _
            simp only [Act.put, List.setIfInBounds_toArray, List.set_cons_zero, List.set_cons_succ, i64_w, i32_w]
            rfl
          refine one_ (i := 8) (N := some 18) #[true, true, true, true, true, true, true, true, true, false, false] rfl rfl (one_of HT_.out (by kernel_rfl)) (by decide) (fun K hK => ?_)
          have hcv12 := own_string (P := Tryd.prog) Tryd.underlying27 Tryd.underlying5 Tryd.underlying9 (Kd.own_of_R HO107.out)
          refine value_ (w1 := ?_) (v := ?_) (by rfl) rfl ?_ ?_
          rotate_left 2
          · go_simp
            constructor
            · rfl
            · rfl
          clear hcv12
          refine hK.out _ _ trivial (fun hHeld => ?_)
          clear hK K
          refine norm_ (a' := ?_) ?_ ?_
          rotate_left
          · show Act.put _ (some 18) _ = _
            simp only [Act.put, List.setIfInBounds_toArray, List.set_cons_zero, List.set_cons_succ, i64_w, i32_w]
            rfl
          exact norm_ (by simp only [putAll, Act.put, List.setIfInBounds_toArray, List.set_cons_zero, List.set_cons_succ]) (hCont (v106) _ ⟨(by (with_reducible repeat (first | apply Kd.R_alloc | apply Kd.R_drewN | apply Kd.R_drew)); exact HO107.out), (by repeat (first | (with_reducible first | exact HB.out | apply below_alloc | apply pw_below_drewN | apply below_drew1) | exact HB.out))⟩)
        · skip
          refine Kd.R_lit_step (Kd.int .u8) _ 5 ?hg (N := 17) ?hd (xs := ([(wrap64 (48 + (Int.tmod a0 10))) % 256] : List Int)) (inner := [.int .u8 ((wrap64 (48 + (Int.tmod a0 10))) % 256)]) (ok := fun _ => True) (okp := fun _ => True) ?hr ?hp (fun _ hk => hk) trivial (Below.refl _ _) (Nat.le_refl _) (by simp) ?_; (case hd => rfl); (case hg => rfl); (case hr => first | (go_simp; done) | (go_simp; rfl)); (case hp => exact (Reps.one (show Kd.M (Kd.int .u8) _ _ _ ((wrap64 (48 + (Int.tmod a0 10))) % 256) [.int .u8 ((wrap64 (48 + (Int.tmod a0 10))) % 256)] from rfl) (Reps.none _ _)))
          intro v106 w9 ho10 hb hg_ hnew_
          clear hg_ hnew_
          (first | rw [← Ny105.out] at ho10 | (simp only [Int.reduceToNat] at ho10; rw [← Ny105.out] at ho10))
          have n0_ := Aside0.mk (Kd.R_lower ho10 (below_size (by repeat (first | (with_reducible first | exact HB.out | apply below_alloc | apply pw_below_drewN | apply below_drew1) | exact HB.out))))
          have n1_ := Aside0.mk (below_step (by repeat (first | (with_reducible first | exact HB.out | apply below_alloc | apply pw_below_drewN | apply below_drew1) | exact HB.out)) hb)
          clear HB
          have HO107 := n0_
          have HB := n1_
          clear n0_ n1_
          clear hb ho10
          refine hK.out _ _ trivial (fun hHeld => ?_)
          clear hK K
          refine norm_ (a' := ?_) ?_ ?_
          rotate_left
          · show Act.put _ (some 17) _ = _
            simp only [Act.put, List.setIfInBounds_toArray, List.set_cons_zero, List.set_cons_succ, i64_w, i32_w]
            rfl
          refine two_ (i := 2) (j := 8) (Ni := some 12) (Nj := some 18) #[true, true, true, true, true, true, true, true, false, false, false] #[true, true, false, true, true, true, true, true, true, false, false] rfl rfl rfl rfl (two_of HT_.out (by kernel_rfl)) (by decide) (by decide) (fun K hK => ?_) (fun K hK => ?_)
          · skip
            refine goes_ Tryd.func7 (by kernel_rfl) rfl #[.int .i64 (wrap64 (Int.tdiv a0 10))] (by rfl) rfl rfl (by (try simp only [List.map_toArray, List.map_cons, List.map_nil]); first | done | rfl | (simp only [List.length_drop, List.length_take]; rfl)) ?_
            with_reducible refine (ih k (by omega) (wrap64 (Int.tdiv a0 10)) t104 _ A6.out).mono ?_
            rintro e w11 ⟨rfl, hb⟩
            refine ⟨_, rfl, ?_⟩
            have n0_ := Aside0.mk (Kd.R_below (by (with_reducible repeat (first | apply Kd.R_alloc | apply Kd.R_drewN | apply Kd.R_drew)); exact HO107.out) hb)
            have n1_ := Aside0.mk (below_step (by repeat (first | (with_reducible first | exact HB.out | apply below_alloc | apply pw_below_drewN | apply below_drew1) | exact HB.out)) hb)
            clear HO107
            clear HB
            have HO107 := n0_
            have HB := n1_
            clear n0_ n1_
            (try clear hb)
            (try clear hb2)
            (try clear hk)
            (try clear hi)
            refine hK.out _ _ trivial (fun hHeld => ?_)
            clear hK K
            refine norm_ (a' := ?_) ?_ ?_
            rotate_left
            · show Act.put _ (some 12) _ = _
              simp only [Act.put, List.setIfInBounds_toArray, List.set_cons_zero, List.set_cons_succ, i64_w, i32_w]
              rfl
            refine one_ (i := 8) (N := some 18) #[true, true, true, true, true, true, true, true, true, false, false] rfl rfl (one_of HT_.out (by kernel_rfl)) (by decide) (fun K hK => ?_)
            have hcv12 := own_string (P := Tryd.prog) Tryd.underlying27 Tryd.underlying5 Tryd.underlying9 (Kd.own_of_R HO107.out)
            refine value_ (w1 := ?_) (v := ?_) (by rfl) rfl ?_ ?_
            rotate_left 2
            · go_simp
              constructor
              · rfl
              · rfl
            clear hcv12
            refine hK.out _ _ trivial (fun hHeld => ?_)
            clear hK K
            refine norm_ (a' := ?_) ?_ ?_
            rotate_left
            · show Act.put _ (some 18) _ = _
              simp only [Act.put, List.setIfInBounds_toArray, List.set_cons_zero, List.set_cons_succ, i64_w, i32_w]
              rfl
            exact norm_ (by simp only [putAll, Act.put, List.setIfInBounds_toArray, List.set_cons_zero, List.set_cons_succ]) (hCont (v106) _ ⟨(by (with_reducible repeat (first | apply Kd.R_alloc | apply Kd.R_drewN | apply Kd.R_drew)); exact HO107.out), (by repeat (first | (with_reducible first | exact HB.out | apply below_alloc | apply pw_below_drewN | apply below_drew1) | exact HB.out))⟩)
          · skip
            have hcv11 := own_string (P := Tryd.prog) Tryd.underlying27 Tryd.underlying5 Tryd.underlying9 (Kd.own_of_R HO107.out)
            refine value_ (w1 := ?_) (v := ?_) (by rfl) rfl ?_ ?_
            rotate_left 2
            · go_simp
              constructor
              · rfl
              · rfl
            clear hcv11
            refine hK.out _ _ trivial (fun hHeld => ?_)
            clear hK K
            refine norm_ (a' := ?_) ?_ ?_
            rotate_left
            · show Act.put _ (some 18) _ = _
              simp only [Act.put, List.setIfInBounds_toArray, List.set_cons_zero, List.set_cons_succ, i64_w, i32_w]
              rfl
            refine one_ (i := 2) (N := some 12) #[true, true, true, true, true, true, true, true, true, false, false] rfl rfl (one_of HT_.out (by kernel_rfl)) (by decide) (fun K hK => ?_)
            refine goes_ Tryd.func7 (by kernel_rfl) rfl #[.int .i64 (wrap64 (Int.tdiv a0 10))] (by rfl) rfl rfl (by (try simp only [List.map_toArray, List.map_cons, List.map_nil]); first | done | rfl | (simp only [List.length_drop, List.length_take]; rfl)) ?_
            with_reducible refine (ih k (by omega) (wrap64 (Int.tdiv a0 10)) t104 _ A6.out).mono ?_
            rintro e w12 ⟨rfl, hb⟩
            refine ⟨_, rfl, ?_⟩
            have n0_ := Aside0.mk (Kd.R_below (by (with_reducible repeat (first | apply Kd.R_alloc | apply Kd.R_drewN | apply Kd.R_drew)); exact HO107.out) hb)
            have n1_ := Aside0.mk (below_step (by repeat (first | (with_reducible first | exact HB.out | apply below_alloc | apply pw_below_drewN | apply below_drew1) | exact HB.out)) hb)
            clear HO107
            clear HB
            have HO107 := n0_
            have HB := n1_
            clear n0_ n1_
            (try clear hb)
            (try clear hb2)
            (try clear hk)
            (try clear hi)
            refine hK.out _ _ trivial (fun hHeld => ?_)
            clear hK K
            refine norm_ (a' := ?_) ?_ ?_
            rotate_left
            · show Act.put _ (some 12) _ = _
              simp only [Act.put, List.setIfInBounds_toArray, List.set_cons_zero, List.set_cons_succ, i64_w, i32_w]
              rfl
            exact norm_ (by simp only [putAll, Act.put, List.setIfInBounds_toArray, List.set_cons_zero, List.set_cons_succ]) (hCont (v106) _ ⟨(by (with_reducible repeat (first | apply Kd.R_alloc | apply Kd.R_drewN | apply Kd.R_drew)); exact HO107.out), (by repeat (first | (with_reducible first | exact HB.out | apply below_alloc | apply pw_below_drewN | apply below_drew1) | exact HB.out))⟩)
      rintro v106 w13 ⟨h0_, h1_⟩
      have n0_ : Aside0 (Kd.R (Kd.int .u8) 5 w13 w.heap.size (fun _ => True) v106 y105) := ⟨h0_⟩
      have n1_ : Aside0 (Below w.heap.size w w13) := ⟨h1_⟩
      clear HB
      clear h0_ h1_
      have HO107 := n0_
      have HB := n1_
      clear n0_ n1_
      have hHeld := trivial
      refine norm_ (a' := ?_) ?_ ?_
      rotate_left
      · simp only [putAll, Act.put, List.setIfInBounds_toArray, List.set_cons_zero, List.set_cons_succ]
        rfl
      refine pure_ (i := 9) (N := some 19) (v := ?_) (a' := ?_) #[true, true, true, true, true, true, true, true, true, true, false] rfl rfl (any_of HT_.out (by kernel_rfl)) (fun _ _ _ h => h) (Or.inl ⟨by rfl, ?_⟩) ?_ ?_
      rotate_left
      · intro w'
        go_simp
        with_reducible rfl
      rotate_left
      · simp only [Act.put, List.setIfInBounds_toArray, List.set_cons_zero, List.set_cons_succ, i64_w, i32_w]
        rfl
      refine pure_ (i := 10) (N := some 2) (v := ?_) (a' := ?_) #[true, true, true, true, true, true, true, true, true, true, true] rfl rfl (any_of HT_.out (by kernel_rfl)) (fun _ _ _ h => h) (Or.inl ⟨by rfl, ?_⟩) ?_ ?_
      rotate_left
      · intro w'
        go_simp
        with_reducible rfl
      rotate_left
      · simp only [Act.put, List.setIfInBounds_toArray, List.set_cons_zero, List.set_cons_succ, i64_w, i32_w]
        rfl
      refine done_ (done_of HT_.out (by kernel_rfl)) ?_
      try go_wp2
      go_ret
      exact ⟨by first | rfl | (simp [errW_none, errW_some] <;> rfl) | (simp [*, errW_none, errW_some] <;> rfl), by repeat (first | (with_reducible first | exact HB.out | apply below_alloc | apply pw_below_drewN | apply below_drew1) | exact HB.out)⟩
    · rw [if_neg c7] at H
      exact absurd H (by simp)

end Go.Proofs.YtjffefbgeaabjaaDoor.F
namespace Go.Proofs.YtjffefbgeaabjaaDoor.F
open Go Go.Shelf Go.RowKit Go.Proofs.YtjffefbgeaabjaaDoorW.PrintWords Go.Proofs.YtjffefbgeaabjaaDoorW.PrintLast Go.Proofs.YtjffefbgeaabjaaDoorW.PrintMore
attribute [local go_sem] max2_int min2_int max_two min_two max_three min_three max_four min_four   -- for this text's walks alone
set_option linter.unusedVariables false
set_option linter.unusedSimpArgs false

/-! ### spec_ShowType: function 4 -/
def spec_ShowType.j0 : Nat → Int → Bool → Option (ByteArray)
  | 0, _, _ => none
  | k + 1, x0, x8 => if x8 = true then (some (⟨#[]⟩ : ByteArray)) else ((spec_l03Mnemonic.f x0).bind fun t101 => (if t101.toList = ([] : List UInt8) then ((spec_l03Dec.f k x0).bind fun t102 => (if 4 + t102.size ≤ 9223372036854775807 then (some ((⟨#[84, 89, 80, 69]⟩ : ByteArray) ++ t102)) else (none))) else ((spec_l03Mnemonic.f x0).bind fun t103 => (some t103))))
def spec_ShowType.f (k : Nat) (a0 : Int) : Option (ByteArray) := if a0 < 0 then (spec_ShowType.j0 k a0 true) else (spec_ShowType.j0 k a0 (decide (a0 > 65535)))
theorem spec_ShowType.mono_l : ∀ k, (∀ y0 y1, LeO (spec_ShowType.j0 k y0 y1) (spec_ShowType.j0 (k + 1) y0 y1))
  | 0 => fun _ _ r h => by simp [spec_ShowType.j0] at h
  | k + 1 => by
    have ih0 := spec_ShowType.mono_l k
    · intro y0 y1
      unfold spec_ShowType.j0
      repeat' first
      | (with_reducible exact ih0 _ _)
      | (with_reducible exact spec_l03Dec.mono _ _)
      | (with_reducible exact LeO.refl _)
      | (with_reducible exact LeO.none _)
      | (with_reducible refine LeO.ite ?_ ?_)
      | (with_reducible refine LeO.bind ?_ (fun _ => ?_))
      | exact ih0 _ _
      | exact spec_l03Dec.mono _ _
      | exact LeO.none _
      | refine LeO.ite ?_ ?_
      | refine LeO.bind ?_ (fun _ => ?_)
theorem spec_ShowType.mono : ∀ a0 k, LeO (spec_ShowType.f k a0) (spec_ShowType.f (k + 1) a0) := by
  intro a0 k
  have ih0 := spec_ShowType.mono_l k
  unfold spec_ShowType.f
  repeat' first
      | (with_reducible exact ih0 _ _)
      | (with_reducible exact spec_l03Dec.mono _ _)
      | (with_reducible exact LeO.refl _)
      | (with_reducible exact LeO.none _)
      | (with_reducible refine LeO.ite ?_ ?_)
      | (with_reducible refine LeO.bind ?_ (fun _ => ?_))
      | exact ih0 _ _
      | exact spec_l03Dec.mono _ _
      | exact LeO.none _
      | refine LeO.ite ?_ ?_
      | refine LeO.bind ?_ (fun _ => ?_)
set_option maxHeartbeats 8000000 in
set_option maxRecDepth 100000 in
theorem spec_ShowType.calls (k : Nat) (a0 : Int) (r : ByteArray) (w : World) (h : spec_ShowType.f k a0 = some r) :
    Calls Tryd.prog 4 #[.int .i64 a0] w fun e w' => e = .returned (.string r) ∧ Below w.heap.size w w' := by
  have HB := Aside0.mk (Below.refl w.heap.size w)
  have H : (if a0 < 0 then (spec_ShowType.j0 k a0 true) else (spec_ShowType.j0 k a0 (decide (a0 > 65535)))) = some r := h
  clear h
  have HC2 := Aside0.mk H
  clear H
  go_enter Tryd.func4, Tryd.ntmps4
  go_upto_region 1 with (fail)
  go_cut [8] (fun v8 wc => ∃ (kq : Nat) (x8_1 : Bool), v8 = .bool x8_1 ∧ Aside0 (spec_ShowType.j0 kq a0 x8_1 = some r) ∧ Aside0 (kq ≤ k) ∧ Aside0 (Below w.heap.size w wc))
  case first =>
    have H := HC2.out
    clear HC2
    by_cases c3 : a0 < 0
    · rw [if_pos c3] at H
      have c3b0 : decide (a0 < 0) = true := decide_eq_true c3
      clear c3
      (first | rw [c3b0] | (simp only [i64_w, i32_w]; rw [c3b0]) | skip)
      have H' := Aside0.mk H
      clear H
      go_wp2
      go_meet
      case rel => exact ⟨_, (true), (by first | rfl | (simp; done) | (simp [*]; done)), H', ⟨by first | omega | exact Nat.le_refl _⟩, ⟨by repeat (first | (with_reducible first | exact HB.out | apply below_alloc | apply pw_below_drewN | apply below_drew1) | exact HB.out)⟩⟩
    · rw [if_neg c3] at H
      have c3b0 : decide (a0 < 0) = false := decide_eq_false c3
      clear c3
      (first | rw [c3b0] | (simp only [i64_w, i32_w]; rw [c3b0]) | skip)
      have H' := Aside0.mk H
      clear H
      go_wp2
      go_meet
      case rel => exact ⟨_, (decide (a0 > 65535)), (by first | rfl | (simp; done) | (simp [*]; done)), H', ⟨by first | omega | exact Nat.le_refl _⟩, ⟨by repeat (first | (with_reducible first | exact HB.out | apply below_alloc | apply pw_below_drewN | apply below_drew1) | exact HB.out)⟩⟩
  case rest =>
    clear HC2
    try clear p2
    try clear c3
    try clear c3b0
    obtain ⟨kq, x8_1, rfl, HA, HJ1, HB⟩ := hcut
    cases kq with
    | zero => exact absurd HA.out (by simp [spec_ShowType.j0])
    | succ kj1 =>
      have H := HA.out
      clear HA
      simp only [spec_ShowType.j0] at H
      by_cases c4 : x8_1 = true
      · subst c4
        have H1 : (some (⟨#[]⟩ : ByteArray)) = some r := by rw [if_pos rfl] at H; exact H
        clear H
        have H := H1
        clear H1
        obtain rfl := Option.some.inj H
        go_wp2
        go_ret
        exact ⟨by first | rfl | (simp [errW_none, errW_some] <;> rfl) | (simp [*, errW_none, errW_some] <;> rfl), by repeat (first | (with_reducible first | exact HB.out | apply below_alloc | apply pw_below_drewN | apply below_drew1) | exact HB.out)⟩
      · replace c4 := Bool.eq_false_iff.mpr c4
        subst c4
        have H1 : ((spec_l03Mnemonic.f a0).bind fun t101 => (if t101.toList = ([] : List UInt8) then ((spec_l03Dec.f kj1 a0).bind fun t102 => (if 4 + t102.size ≤ 9223372036854775807 then (some ((⟨#[84, 89, 80, 69]⟩ : ByteArray) ++ t102)) else (none))) else ((spec_l03Mnemonic.f a0).bind fun t103 => (some t103)))) = some r := by rw [if_neg (show ¬ (false = true) by decide)] at H; exact H
        clear H
        have H := H1
        clear H1
        replace H := Option.bind_eq_some_iff.mp H
        obtain ⟨t101, A50, H⟩ := H
        replace H : (if t101.toList = ([] : List UInt8) then ((spec_l03Dec.f kj1 a0).bind fun t102 => (if 4 + t102.size ≤ 9223372036854775807 then (some ((⟨#[84, 89, 80, 69]⟩ : ByteArray) ++ t102)) else (none))) else ((spec_l03Mnemonic.f a0).bind fun t103 => (some t103))) = some r := H
        have A5 := Aside0.mk A50
        clear A50
        by_cases c6 : t101.toList = ([] : List UInt8)
        · rw [if_pos c6] at H
          have c6b0 : (t101.toList == ([] : List UInt8)) = true := beq_iff_eq.mpr c6
          have c6b1 : (t101.toList != ([] : List UInt8)) = false := bne_eq_false_iff_eq.mpr c6
          clear c6
          replace H := Option.bind_eq_some_iff.mp H
          obtain ⟨t102, A70, H⟩ := H
          replace H : (if 4 + t102.size ≤ 9223372036854775807 then (some ((⟨#[84, 89, 80, 69]⟩ : ByteArray) ++ t102)) else (none)) = some r := H
          have A7 := Aside0.mk A70
          clear A70
          by_cases c8 : 4 + t102.size ≤ 9223372036854775807
          · rw [if_pos c8] at H
            have c8b0 := eq_true c8
            have c8b1 : decide (4 + t102.size ≤ 9223372036854775807) = true := decide_eq_true c8
            try have c8b2 : (9223372036854775807 < 4 + t102.size) = False := eq_false (Nat.not_lt.2 c8)
            obtain rfl := Option.some.inj H
            go_wp2_with (first | ((with_reducible refine gate_callee (f := 6) rfl ?_); refine goesL_ (some 10) rfl rfl Tryd.func6 (by kernel_rfl) rfl #[.int .i64 a0] rfl (by (try simp only [List.map_toArray, List.map_cons, List.map_nil]); first | done | rfl | (simp only [List.length_drop, List.length_take]; rfl)) ?_; (with_reducible refine (spec_l03Mnemonic.calls a0 t101 _ A5.out).mono ?_); rintro e w' ⟨rfl, ⟨nd, rfl⟩⟩; refine ⟨_, rfl, ?_⟩) | ((with_reducible refine gate_callee (f := 7) rfl ?_); refine goesL_ (some 15) rfl rfl Tryd.func7 (by kernel_rfl) rfl #[.int .i64 a0] rfl (by (try simp only [List.map_toArray, List.map_cons, List.map_nil]); first | done | rfl | (simp only [List.length_drop, List.length_take]; rfl)) ?_; (with_reducible refine (spec_l03Dec.calls kj1 a0 t102 _ A7.out).mono ?_); rintro e w9 ⟨rfl, hb⟩; refine ⟨_, rfl, ?_⟩; have n0_ := Aside0.mk (below_step (by repeat (first | (with_reducible first | exact HB.out | apply below_alloc | apply pw_below_drewN | apply below_drew1) | exact HB.out)) hb); clear HB; have HB := n0_; clear n0_; (try clear hb); (try clear hb2); (try clear hk); (try clear hi)))
            go_ret
            exact ⟨by first | rfl | (simp [errW_none, errW_some] <;> rfl) | (simp [*, errW_none, errW_some] <;> rfl), by repeat (first | (with_reducible first | exact HB.out | apply below_alloc | apply pw_below_drewN | apply below_drew1) | exact HB.out)⟩
          · rw [if_neg c8] at H
            exact absurd H (by simp)
        · rw [if_neg c6] at H
          have c6b0 : (t101.toList == ([] : List UInt8)) = false := beq_eq_false_iff_ne.mpr c6
          have c6b1 : (t101.toList != ([] : List UInt8)) = true := bne_iff_ne.mpr c6
          replace H := Option.bind_eq_some_iff.mp H
          obtain ⟨t103, A100, H⟩ := H
          replace H : (some t103) = some r := H
          have A10 := Aside0.mk A100
          clear A100
          obtain rfl := Option.some.inj H
          go_wp2_with (first | ((with_reducible refine gate_callee (f := 6) rfl ?_); refine goesL_ (some 10) rfl rfl Tryd.func6 (by kernel_rfl) rfl #[.int .i64 a0] rfl (by (try simp only [List.map_toArray, List.map_cons, List.map_nil]); first | done | rfl | (simp only [List.length_drop, List.length_take]; rfl)) ?_; (with_reducible refine (spec_l03Mnemonic.calls a0 t101 _ A5.out).mono ?_); rintro e w' ⟨rfl, ⟨nd, rfl⟩⟩; refine ⟨_, rfl, ?_⟩) | ((with_reducible refine gate_callee (f := 6) rfl ?_); refine goesL_ (some 13) rfl rfl Tryd.func6 (by kernel_rfl) rfl #[.int .i64 a0] rfl (by (try simp only [List.map_toArray, List.map_cons, List.map_nil]); first | done | rfl | (simp only [List.length_drop, List.length_take]; rfl)) ?_; (with_reducible refine (spec_l03Mnemonic.calls a0 t103 _ A10.out).mono ?_); rintro e w' ⟨rfl, ⟨nd, rfl⟩⟩; refine ⟨_, rfl, ?_⟩))
          go_ret
          exact ⟨by first | rfl | (simp [errW_none, errW_some] <;> rfl) | (simp [*, errW_none, errW_some] <;> rfl), by repeat (first | (with_reducible first | exact HB.out | apply below_alloc | apply pw_below_drewN | apply below_drew1) | exact HB.out)⟩

end Go.Proofs.YtjffefbgeaabjaaDoor.F
namespace Go.Proofs.YtjffefbgeaabjaaDoor.F
open Go Go.Shelf Go.RowKit Go.Proofs.YtjffefbgeaabjaaDoorW.PrintWords Go.Proofs.YtjffefbgeaabjaaDoorW.PrintLast Go.Proofs.YtjffefbgeaabjaaDoorW.PrintMore
attribute [local go_sem] max2_int min2_int max_two min_two max_three min_three max_four min_four   -- for this text's walks alone
set_option linter.unusedVariables false
set_option linter.unusedSimpArgs false

/-! ### stands 8 -/
-- stands: the package variable 'mnemonics', as the card lays it
/-- The type of a mnemonic. -/
def mnemTable : List (List UInt8 × Int) := [([97], 1), ([97, 97, 97, 97], 28), ([97, 110, 121], 255), ([97, 120, 102, 114], 252), ([99, 97, 97], 257), ([99, 110, 97, 109, 101], 5), ([100, 110, 97, 109, 101], 39), ([104, 105, 110, 102, 111], 13), ([105, 120, 102, 114], 251), ([109, 120], 15), ([110, 97, 112, 116, 114], 35), ([110, 115], 2), ([110, 115, 101, 99], 47), ([111, 112, 116], 41), ([112, 116, 114], 12), ([115, 111, 97], 6), ([115, 114, 118], 33), ([116, 115, 105, 103], 250), ([116, 120, 116], 16)]
def mnemOf (s : List UInt8) : Option Int := (mnemTable.find? fun p => p.1 == s).map (·.2)
/-- The variable's block and its map's block lie there; whatever world holds these two blocks answers the look-ups. -/
def Glob (w : World) : Prop := ∃ (bm : Nat) (og om : Obj), w.heap[0]? = some og ∧ w.heap[bm]? = some om ∧
  (∀ W : World, W.heap[0]? = some og → W.cell? ⟨0, 0, none⟩ = some (.map (some bm))) ∧
  (∀ (W : World) (s : ByteArray), W.heap[bm]? = some om → s.size ≤ maxLen → (Instr.lookup 24 (.map (some bm)) (.string s) true).run Tryd.prog W = .ok (.tuple #[.int .i64 ((mnemOf s.data.toList).getD 0), .bool (mnemOf s.data.toList).isSome]) W)
theorem Glob.below {w W : World} (h : Glob w) (hb : Below w.heap.size w W) : Glob W := by
  obtain ⟨bm, og, om, h1, h2, h3⟩ := h
  exact ⟨bm, og, om, blk_below h1 hb, blk_below h2 hb, h3⟩
theorem Glob.alloc {w : World} (h : Glob w) (o : Obj) : Glob (w.alloc o) := h.below (below_alloc (Below.refl _ _) o)
theorem Glob.drew {w : World} (h : Glob w) : Glob w.drew := h
theorem Glob.drewN {w : World} (h : Glob w) (n : Nat) : Glob (w.drewN n) := h

end Go.Proofs.YtjffefbgeaabjaaDoor.F
namespace Go.Proofs.YtjffefbgeaabjaaDoor.F
open Go Go.Shelf Go.RowKit Go.Proofs.YtjffefbgeaabjaaDoorW.PrintWords Go.Proofs.YtjffefbgeaabjaaDoorW.PrintLast Go.Proofs.YtjffefbgeaabjaaDoorW.PrintMore
attribute [local go_sem] max2_int min2_int max_two min_two max_three min_three max_four min_four   -- for this text's walks alone
set_option linter.unusedVariables false
set_option linter.unusedSimpArgs false

/-! ### stands 24 -/
-- stands: the map 'mnemonics' as it is ranged over; strings.ToUpper of a mnemonic; strconv.FormatInt at base 10
def upper_ren : Go.Shelf.Ren := ⟨fun | 118 => 20 | 158 => 8 | 165 => 10 | 166 => 11 | 167 => 12 | 168 => 21 | 169 => 13 | 197 => 19 | 203 => 15 | 230 => 14 | 240 => 17 | 241 => 18 | 242 => 31 | 260 => 30 | 262 => 23 | 270 => 22 | 274 => 39 | 275 => 40 | 276 => 28 | 277 => 29 | 278 => 38 | 313 => 32 | n => n, fun | 0 => 0 | 3 => 3 | 4 => 4 | 5 => 5 | 9 => 9 | 20 => 20 | 21 => 21 | 37 => 27 | 46 => 67 | 51 => 64 | 70 => 28 | 72 => 30 | 75 => 33 | 76 => 34 | 80 => 37 | 105 => 41 | 107 => 39 | 119 => 69 | 127 => 40 | 138 => 71 | 139 => 72 | 160 => 73 | 162 => 60 | 164 => 54 | 203 => 58 | 206 => 78 | 208 => 80 | n => n, fun | 3 => 4 | 4 => 5 | 13 => 1 | n => n⟩
theorem upper_lays : Go.Proofs.Lays.n158 Tryd.prog upper_ren := {
  mixed := by kernel_rfl
  f118 := Tryd.func20.trans (congrArg some (by kernel_rfl))
  f158 := Tryd.func8.trans (congrArg some (by kernel_rfl))
  f165 := Tryd.func10.trans (congrArg some (by kernel_rfl))
  f166 := Tryd.func11.trans (congrArg some (by kernel_rfl))
  f167 := Tryd.func12.trans (congrArg some (by kernel_rfl))
  f168 := Tryd.func21.trans (congrArg some (by kernel_rfl))
  f169 := Tryd.func13.trans (congrArg some (by kernel_rfl))
  f197 := Tryd.func19.trans (congrArg some (by kernel_rfl))
  f203 := Tryd.func15.trans (congrArg some (by kernel_rfl))
  f230 := Tryd.func14.trans (congrArg some (by kernel_rfl))
  f240 := Tryd.func17.trans (congrArg some (by kernel_rfl))
  f241 := Tryd.func18.trans (congrArg some (by kernel_rfl))
  f242 := Tryd.func31.trans (congrArg some (by kernel_rfl))
  f260 := Tryd.func30.trans (congrArg some (by kernel_rfl))
  f262 := Tryd.func23.trans (congrArg some (by kernel_rfl))
  f270 := Tryd.func22.trans (congrArg some (by kernel_rfl))
  f274 := Tryd.func39.trans (congrArg some (by kernel_rfl))
  f275 := Tryd.func40.trans (congrArg some (by kernel_rfl))
  f276 := Tryd.func28.trans (congrArg some (by kernel_rfl))
  f277 := Tryd.func29.trans (congrArg some (by kernel_rfl))
  f278 := Tryd.func38.trans (congrArg some (by kernel_rfl))
  f313 := Tryd.func32.trans (congrArg some (by kernel_rfl))
  t0 := Tryd.underlying0
  a0 := Tryd.isAgg0
  z0 := Tryd.sizeOf0
  v0 := Tryd.zeroValue0
  t3 := Tryd.underlying3
  a3 := Tryd.isAgg3
  z3 := Tryd.sizeOf3
  v3 := Tryd.zeroValue3
  t4 := Tryd.underlying4
  a4 := Tryd.isAgg4
  z4 := Tryd.sizeOf4
  v4 := Tryd.zeroValue4
  t5 := Tryd.underlying5
  a5 := Tryd.isAgg5
  z5 := Tryd.sizeOf5
  v5 := Tryd.zeroValue5
  t9 := Tryd.underlying9
  a9 := Tryd.isAgg9
  z9 := Tryd.sizeOf9
  v9 := Tryd.zeroValue9
  t20 := Tryd.underlying20
  a20 := Tryd.isAgg20
  z20 := Tryd.sizeOf20
  v20 := Tryd.zeroValue20
  t21 := Tryd.underlying21
  a21 := Tryd.isAgg21
  z21 := Tryd.sizeOf21
  v21 := Tryd.zeroValue21
  t37 := Tryd.underlying27
  a37 := Tryd.isAgg27
  z37 := Tryd.sizeOf27
  v37 := Tryd.zeroValue27
  t46 := Tryd.underlying67
  a46 := Tryd.isAgg67
  z46 := Tryd.sizeOf67
  v46 := Tryd.zeroValue67
  t51 := Tryd.underlying64
  a51 := Tryd.isAgg64
  z51 := Tryd.sizeOf64
  v51 := Tryd.zeroValue64
  t70 := Tryd.underlying28
  a70 := Tryd.isAgg28
  z70 := Tryd.sizeOf28
  v70 := Tryd.zeroValue28
  t72 := Tryd.underlying30
  a72 := Tryd.isAgg30
  z72 := Tryd.sizeOf30
  v72 := Tryd.zeroValue30
  t75 := Tryd.underlying33
  a75 := Tryd.isAgg33
  z75 := Tryd.sizeOf33
  v75 := Tryd.zeroValue33
  t76 := Tryd.underlying34
  a76 := Tryd.isAgg34
  z76 := Tryd.sizeOf34
  v76 := Tryd.zeroValue34
  t105 := Tryd.underlying41
  a105 := Tryd.isAgg41
  z105 := Tryd.sizeOf41
  v105 := Tryd.zeroValue41
  t107 := Tryd.underlying39
  a107 := Tryd.isAgg39
  z107 := Tryd.sizeOf39
  v107 := Tryd.zeroValue39
  t119 := Tryd.underlying69
  a119 := Tryd.isAgg69
  z119 := Tryd.sizeOf69
  t127 := Tryd.underlying40
  a127 := Tryd.isAgg40
  z127 := Tryd.sizeOf40
  v127 := Tryd.zeroValue40
  t138 := Tryd.underlying71
  a138 := Tryd.isAgg71
  z138 := Tryd.sizeOf71
  v138 := Tryd.zeroValue71
  t139 := Tryd.underlying72
  a139 := Tryd.isAgg72
  z139 := Tryd.sizeOf72
  v139 := Tryd.zeroValue72
  t160 := Tryd.underlying73
  a160 := Tryd.isAgg73
  z160 := Tryd.sizeOf73
  v160 := Tryd.zeroValue73
  t162 := Tryd.underlying60
  a162 := Tryd.isAgg60
  z162 := Tryd.sizeOf60
  v162 := Tryd.zeroValue60
  t164 := Tryd.underlying54
  a164 := Tryd.isAgg54
  z164 := Tryd.sizeOf54
  v164 := Tryd.zeroValue54
  t203 := Tryd.underlying58
  a203 := Tryd.isAgg58
  z203 := Tryd.sizeOf58
  v203 := Tryd.zeroValue58
  t206 := Tryd.underlying78
  a206 := Tryd.isAgg78
  z206 := Tryd.sizeOf78
  v206 := Tryd.zeroValue78
  t208 := Tryd.underlying80
  a208 := Tryd.isAgg80
  z208 := Tryd.sizeOf80
  v208 := Tryd.zeroValue80
  g3 := by kernel_rfl
  g4 := by kernel_rfl
  g13 := by kernel_rfl }
theorem upper_extra : Go.Proofs.Builder.Extra Tryd.prog upper_ren := {
  sizeBuilder := by kernel_rfl
  liesBuilder := by kernel_rfl
  t5 := Tryd.underlying5
  a5 := Tryd.isAgg5
  z5 := Tryd.sizeOf5
  v5 := Tryd.zeroValue5
  infoByte := by kernel_rfl
  cellsByte := by kernel_rfl
  sizeByte := by kernel_rfl
  neB5 := by decide }
def fmt10_ren : Go.Shelf.Ren := ⟨fun | 129 => 34 | 173 => 9 | 246 => 16 | 283 => 24 | 284 => 25 | 285 => 26 | 286 => 27 | 317 => 33 | 318 => 35 | 319 => 36 | 320 => 37 | 337 => 41 | 338 => 42 | n => n, fun | 0 => 0 | 2 => 2 | 3 => 3 | 4 => 4 | 5 => 5 | 9 => 9 | 20 => 20 | 37 => 27 | 46 => 67 | 51 => 64 | 53 => 49 | 171 => 48 | 173 => 52 | 212 => 63 | 213 => 65 | 232 => 81 | 233 => 82 | n => n, fun | 17 => 2 | 18 => 6 | 19 => 7 | n => n⟩
theorem fmt10_lays0 : Go.Proofs.Lays.n173 Tryd.prog fmt10_ren := {
  mixed := by kernel_rfl
  f129 := Tryd.func34.trans (congrArg some (by kernel_rfl))
  f173 := Tryd.func9.trans (congrArg some (by kernel_rfl))
  f246 := Tryd.func16.trans (congrArg some (by kernel_rfl))
  f283 := Tryd.func24.trans (congrArg some (by kernel_rfl))
  f284 := Tryd.func25.trans (congrArg some (by kernel_rfl))
  f285 := Tryd.func26.trans (congrArg some (by kernel_rfl))
  f286 := Tryd.func27.trans (congrArg some (by kernel_rfl))
  f317 := Tryd.func33.trans (congrArg some (by kernel_rfl))
  f318 := Tryd.func35.trans (congrArg some (by kernel_rfl))
  f319 := Tryd.func36.trans (congrArg some (by kernel_rfl))
  f320 := Tryd.func37.trans (congrArg some (by kernel_rfl))
  f337 := Tryd.func41.trans (congrArg some (by kernel_rfl))
  f338 := Tryd.func42.trans (congrArg some (by kernel_rfl))
  t0 := Tryd.underlying0
  a0 := Tryd.isAgg0
  z0 := Tryd.sizeOf0
  v0 := Tryd.zeroValue0
  t2 := Tryd.underlying2
  a2 := Tryd.isAgg2
  z2 := Tryd.sizeOf2
  v2 := Tryd.zeroValue2
  t3 := Tryd.underlying3
  a3 := Tryd.isAgg3
  z3 := Tryd.sizeOf3
  v3 := Tryd.zeroValue3
  t4 := Tryd.underlying4
  a4 := Tryd.isAgg4
  z4 := Tryd.sizeOf4
  v4 := Tryd.zeroValue4
  t5 := Tryd.underlying5
  a5 := Tryd.isAgg5
  z5 := Tryd.sizeOf5
  v5 := Tryd.zeroValue5
  t9 := Tryd.underlying9
  a9 := Tryd.isAgg9
  z9 := Tryd.sizeOf9
  v9 := Tryd.zeroValue9
  t20 := Tryd.underlying20
  a20 := Tryd.isAgg20
  z20 := Tryd.sizeOf20
  v20 := Tryd.zeroValue20
  t37 := Tryd.underlying27
  a37 := Tryd.isAgg27
  z37 := Tryd.sizeOf27
  v37 := Tryd.zeroValue27
  t46 := Tryd.underlying67
  a46 := Tryd.isAgg67
  z46 := Tryd.sizeOf67
  v46 := Tryd.zeroValue67
  t51 := Tryd.underlying64
  a51 := Tryd.isAgg64
  z51 := Tryd.sizeOf64
  v51 := Tryd.zeroValue64
  t53 := Tryd.underlying49
  a53 := Tryd.isAgg49
  z53 := Tryd.sizeOf49
  v53 := Tryd.zeroValue49
  t171 := Tryd.underlying48
  a171 := Tryd.isAgg48
  z171 := Tryd.sizeOf48
  v171 := Tryd.zeroValue48
  t173 := Tryd.underlying52
  a173 := Tryd.isAgg52
  z173 := Tryd.sizeOf52
  v173 := Tryd.zeroValue52
  t212 := Tryd.underlying63
  a212 := Tryd.isAgg63
  z212 := Tryd.sizeOf63
  v212 := Tryd.zeroValue63
  t213 := Tryd.underlying65
  a213 := Tryd.isAgg65
  z213 := Tryd.sizeOf65
  t232 := Tryd.underlying81
  a232 := Tryd.isAgg81
  z232 := Tryd.sizeOf81
  v232 := Tryd.zeroValue81
  t233 := Tryd.underlying82
  a233 := Tryd.isAgg82
  z233 := Tryd.sizeOf82
  v233 := Tryd.zeroValue82
  g17 := by kernel_rfl
  g18 := by kernel_rfl
  g19 := by kernel_rfl }
theorem fmt10_lays : Go.Proofs.LaysM.n173 Tryd.prog fmt10_ren := { fmt10_lays0 with
  i0 := by kernel_rfl
  i2 := by kernel_rfl
  i3 := by kernel_rfl
  i4 := by kernel_rfl
  i5 := by kernel_rfl
  i9 := by kernel_rfl
  i20 := by kernel_rfl
  i37 := by kernel_rfl
  i46 := by kernel_rfl
  i51 := by kernel_rfl
  i53 := by kernel_rfl
  i171 := by kernel_rfl
  i173 := by kernel_rfl
  i212 := by kernel_rfl
  i232 := by kernel_rfl
  i233 := by kernel_rfl
  m17 := by kernel_rfl
  m18 := by kernel_rfl
  m19 := by kernel_rfl }
theorem belowG (w : World) (k : Nat) (os : Array Obj) : Below w.heap.size w (Sort.grow (w.drewN k) os) :=
  ⟨rfl, rfl, rfl, by show w.heap.size ≤ (w.heap ++ os).size; rw [Array.size_append]; omega, fun j hj => by show (w.heap ++ os)[j]? = _; rw [Array.getElem?_append_left hj]⟩
def nameOf (n : Int) : Option (List UInt8) := (mnemTable.find? fun p => p.2 == n).map (·.1)
theorem mnem_facts : ∀ p ∈ mnemTable, mnemOf p.1 = some p.2 ∧ nameOf p.2 = some p.1 ∧ p.1.length ≤ 5 ∧ (p.1.all fun b => decide (b.toNat < 128)) = true := by decide +kernel
theorem mnemOf_mem {s : List UInt8} {n : Int} (h : mnemOf s = some n) : (s, n) ∈ mnemTable := by
  unfold mnemOf at h
  obtain ⟨p, hp, rfl⟩ := Option.map_eq_some_iff.1 h
  have h1 := List.mem_of_find?_eq_some hp
  have h2 := List.find?_some hp
  have e : p.1 = s := by simpa using h2
  subst e
  exact h1
theorem nameOf_mem {s : List UInt8} {n : Int} (h : nameOf n = some s) : (s, n) ∈ mnemTable := by
  unfold nameOf at h
  obtain ⟨p, hp, rfl⟩ := Option.map_eq_some_iff.1 h
  have h1 := List.mem_of_find?_eq_some hp
  have h2 := List.find?_some hp
  have e : p.2 = n := by simpa using h2
  subst e
  exact h1
/-- The map's entries are the mnemonics. -/
def MapM (es : Array MapEntry) : Prop := (∀ e ∈ es.toList, ∃ (s : ByteArray) (n : Int), e.key = .string s ∧ e.val = .int .i64 n ∧ mnemOf s.data.toList = some n) ∧ (∀ (s : List UInt8) (n : Int), mnemOf s = some n → ∃ e ∈ es.toList, e.val = .int .i64 n)
def GlobM (w : World) : Prop := (∃ (bm : Nat) (es : Array MapEntry) (clock : Nat), w.cell? ⟨0, 0, none⟩ = some (.map (some bm)) ∧ w.heap[bm]? = some (.map es clock) ∧ MapKept.Stamped es clock ∧ MapM es) ∧ Lib.TabIs Tryd.prog w "internal/strconv.uint64pow10" .u64 Lib.pow10Tab
theorem GlobM.below {w W : World} (h : GlobM w) (hb : Below w.heap.size w W) : GlobM W := by
  obtain ⟨⟨bm, es, clock, h1, h2, h3⟩, h4⟩ := h
  refine ⟨⟨bm, es, clock, (hb.cell (World.block_lt_of_cell? w _ h1)).trans h1, blk_below h2 hb, h3⟩, ?_⟩
  have hg : Tryd.prog.globalNamed "internal/strconv.uint64pow10" = some 2 := by kernel_rfl
  unfold Lib.TabIs World.var? at h4 ⊢
  rw [hg] at h4 ⊢
  simp only [Option.bind_some] at h4 ⊢
  have hlt : 2 < w.heap.size := by
    rcases Nat.lt_or_ge 2 w.heap.size with h' | h'
    · exact h'
    · rw [Array.getElem?_eq_none h'] at h4
      simp at h4
  rw [hb.block _ hlt]
  exact h4
theorem xupper.calls (s : ByteArray) (n : Int) (hs : mnemOf s.data.toList = some n) (w : World) :
    Calls Tryd.prog 8 #[.string s] w fun e w' => e = .returned (.string ⟨(Lib.toUpperA s.data.toList).toArray⟩) ∧ Below w.heap.size w w' := by
  obtain ⟨_, _, h5, ha⟩ := mnem_facts _ (mnemOf_mem hs)
  have hz : s.size = s.data.toList.length := by simp
  have h6 : s.size ≤ 140737488355328 := by
    rw [hz]
    exact Nat.le_trans h5 (by decide)
  refine Any.strings_ToUpper_ascii upper_lays upper_extra s w h6 ?_
  intro j b hb
  have := List.all_eq_true.1 ha b (List.mem_of_getElem? hb)
  exact of_decide_eq_true this
theorem xfmt10.calls (n : Int) (h0 : 0 ≤ n) (h1 : n ≤ 65535) (w : World) (hG : GlobM w) :
    Calls Tryd.prog 9 #[.int .i64 n, .int .i64 10] w fun e w' => e = .returned (.string ⟨(Lib.itoa n).toArray⟩) ∧ Below w.heap.size w w' := by
  refine (Any.strconv_FormatInt_10 fmt10_lays n (by omega) (by omega) w hG.2).mono fun e w' ⟨he, k, os, hw⟩ => ⟨he, ?_⟩
  subst hw
  exact belowG w k os

end Go.Proofs.YtjffefbgeaabjaaDoor.F
namespace Go.Proofs.YtjffefbgeaabjaaDoor.F
open Go Go.Shelf Go.RowKit Go.Proofs.YtjffefbgeaabjaaDoorW.PrintWords Go.Proofs.YtjffefbgeaabjaaDoorW.PrintLast Go.Proofs.YtjffefbgeaabjaaDoorW.PrintMore
attribute [local go_sem] max2_int min2_int max_two min_two max_three min_three max_four min_four   -- for this text's walks alone
set_option linter.unusedVariables false
set_option linter.unusedSimpArgs false

/-! ### impl_ShowType: function 5 -/
def typeS : ByteArray := ⟨#[84, 89, 80, 69]⟩
def impl_ShowType.v (a0 : Int) : ByteArray := match nameOf a0 with
  | some s => ⟨(Lib.toUpperA s).toArray⟩
  | none => if 0 ≤ a0 ∧ a0 ≤ 65535 then (⟨#[84, 89, 80, 69]⟩ : ByteArray) ++ (⟨(Lib.itoa a0).toArray⟩ : ByteArray) else ⟨#[]⟩
def impl_ShowType.f (a0 : Int) : Option ByteArray := some (impl_ShowType.v a0)
theorem nodup_inj {α β : Type} (f : α → β) : ∀ l : List α, (l.map f).Nodup → ∀ a ∈ l, ∀ b ∈ l, f a = f b → a = b
  | [], _, a, ha, _, _, _ => absurd ha (by simp)
  | x :: l, h, a, ha, b, hb, e => by
    rw [List.map_cons, List.nodup_cons] at h
    rcases List.mem_cons.1 ha with ha2 | ha2
    · rcases List.mem_cons.1 hb with hb2 | hb2
      · rw [ha2, hb2]
      · rw [ha2] at e
        exact absurd (e ▸ List.mem_map_of_mem (f := f) hb2) h.1
    · rcases List.mem_cons.1 hb with hb2 | hb2
      · rw [hb2] at e
        exact absurd (e ▸ List.mem_map_of_mem (f := f) ha2) h.1
      · exact nodup_inj f l h.2 a ha2 b hb2 e
theorem setBlock_alloc (w : World) (o o' : Obj) : ChangeMaps.setBlock (w.alloc o) w.heap.size o' = w.alloc o' := by
  have e : (w.heap.push o).setIfInBounds w.heap.size o' = w.heap.push o' := by
    apply Array.ext
    · simp
    · intro i h1 h2
      rw [Array.getElem_setIfInBounds (by rw [Array.size_push] at h2 ⊢; exact h2), Array.getElem_push, Array.getElem_push]
      by_cases hi : w.heap.size = i
      · rw [if_pos hi, dif_neg (by omega)]
      · rw [if_neg hi]
        rw [Array.size_push] at h2
        rw [dif_pos (by omega), dif_pos (by omega)]
  show ({ w with heap := (w.heap.push o).setIfInBounds w.heap.size o' } : World) = { w with heap := w.heap.push o' }
  rw [e]
/-- A round of 'range' over a map: the world but for the iterator is as it was, or one draw on. -/
theorem next_drewN {P : Program} (w : World) (m : Nat) (ty : TypeId) (bm clock : Nat) (seen : Array Nat) (es : Array MapEntry) (hb : w.heap[bm]? = some (.map es clock)) (hold : ∀ x ∈ es.toList, x.born < clock) :
    ((leftOf es seen).size = 0 ∧ (Instr.next (.pointer (some ⟨w.heap.size, 0, none⟩)) false ty).run P ((w.drewN m).alloc (.mapIter (some bm) clock seen clock)) = .ok (.tuple #[.bool false]) ((w.drewN m).alloc (.mapIter (some bm) clock seen clock))) ∨
    ∃ e ∈ (leftOf es seen).toList, ∃ m1 : Nat, (Instr.next (.pointer (some ⟨w.heap.size, 0, none⟩)) false ty).run P ((w.drewN m).alloc (.mapIter (some bm) clock seen clock)) = .ok (.tuple #[.bool true, e.key, e.val]) ((w.drewN m1).alloc (.mapIter (some bm) clock (seen.push e.born) clock)) := by
  have hlt : bm < w.heap.size := by
    rcases Nat.lt_or_ge bm w.heap.size with h | h
    · exact h
    · simp [Array.getElem?_eq_none h] at hb
  have hb' : ((w.drewN m).alloc (.mapIter (some bm) clock seen clock)).heap[bm]? = some (.map es clock) := by
    exact (Below.heap_alloc (w.drewN m) _ bm hlt).trans hb
  have hr : ((w.drewN m).alloc (.mapIter (some bm) clock seen clock)).heap[w.heap.size]? = some (.mapIter (some bm) clock seen clock) := by
    show (w.heap.push _)[w.heap.size]? = _
    simp
  rcases run_next_at (P := P) _ ty w.heap.size bm clock clock seen es clock hr hb' hold (Nat.le_refl _) with h | ⟨e, he, w1, hw, hrun⟩
  · exact Or.inl h
  · refine Or.inr ⟨e, he, ?_⟩
    rcases hw with rfl | rfl
    · exact ⟨m, hrun.trans (by rw [show ChangeMaps.setBlock ((w.drewN m).alloc (.mapIter (some bm) clock seen clock)) w.heap.size _ = _ from setBlock_alloc (w.drewN m) _ _])⟩
    · exact ⟨m + 1, hrun.trans (by rw [show ChangeMaps.setBlock ((w.drewN m).alloc (.mapIter (some bm) clock seen clock)).drew w.heap.size _ = _ from setBlock_alloc (w.drewN (m + 1)) (.mapIter (some bm) clock seen clock) _])⟩
theorem itoa_small : ∀ n : Nat, n < 100000 → (Lib.itoa (n : Int)).length ≤ 6 := by
  intro n hn
  have key : ∀ (f n : Nat), n < 10 ^ (f + 1) → (Lib.decDigits n).length ≤ f + 1 := by
    intro f
    induction f with
    | zero =>
      intro n hn
      rw [Lib.decDigits, dif_pos (by simpa using hn)]
      simp
    | succ f ih =>
      intro n hn
      rw [Lib.decDigits]
      split
      · simp
      · rw [List.length_append]
        have := ih (n / 10) (by rw [Nat.pow_succ] at hn; omega)
        simp only [List.length_cons, List.length_nil]
        omega
  unfold Lib.itoa
  rw [if_neg (by omega), Int.toNat_natCast]
  exact Nat.le_trans (key 4 n hn) (by decide)
set_option maxHeartbeats 8000000 in
set_option maxRecDepth 100000 in
theorem impl_ShowType.calls (a0 : Int) (r : ByteArray) (w : World) (h : impl_ShowType.f a0 = some r) (hGlobM : GlobM w) :
    Calls Tryd.prog 5 #[.int .i64 a0] w fun e w' => e = .returned (.string r) ∧ Below w.heap.size w w' := by
  obtain rfl := Option.some.inj h
  clear h
  obtain ⟨⟨bm, es, clock, hc, hb, hst, hM⟩, _⟩ := id hGlobM
  have HG := Aside0.mk hGlobM
  have HM := Aside0.mk hM
  have HST := Aside0.mk hst
  clear hGlobM hM hst
  have hrg := run_range_map (P := Tryd.prog) w 24 9 2 bm es clock Tryd.underlying24 hb
  generalize hR : impl_ShowType.v a0 = R
  replace hR := Aside0.mk hR
  go_enter Tryd.func5, Tryd.ntmps5
  go_wp2
  go_loopw [3, 4] (fun _ _ w' => ∃ (m : Nat) (seen : Array Nat), w' = (w.drewN m).alloc (.mapIter (some bm) clock seen clock) ∧ Aside0 (∀ e ∈ es.toList, seen.contains e.born = true → e.val ≠ .int .i64 a0)) (fun _ _ w' => (leftOf es (w'.iterSeen w.heap.size)).size)
  case atStart => exact ⟨0, #[], rfl, ⟨fun e _ hs => by simp at hs⟩⟩
  case round =>
    obtain ⟨m, seen, rfl, HN⟩ := hrel
    have law := next_drewN (P := Tryd.prog) w m 0 bm clock seen es hb HST.out.1
    have hbel : ∀ (m2 : Nat) (s2 : Array Nat), Below w.heap.size w ((w.drewN m2).alloc (.mapIter (some bm) clock s2 clock)) := fun m2 s2 => below_alloc (pw_below_drewN (Below.refl _ _) m2) _
    rcases law with ⟨h0, hrun⟩ | ⟨e, he, m2, hrun⟩
    · have hnx : ∀ ty, (Instr.next (.pointer (some ⟨w.heap.size, 0, none⟩)) false ty).run Tryd.prog ((w.drewN m).alloc (.mapIter (some bm) clock seen clock)) = _ := fun _ => hrun
      have hnone : nameOf a0 = none := by
        cases hh : nameOf a0 with
        | none => rfl
        | some s =>
          obtain ⟨h1, _⟩ := mnem_facts _ (nameOf_mem hh)
          obtain ⟨e, he, hv⟩ := HM.out.2 s a0 h1
          refine absurd hv (HN.out e he ?_)
          cases hc : seen.contains e.born with
          | true => rfl
          | false =>
            have : e ∈ leftOf es seen := Array.mem_filter.2 ⟨Array.mem_toList_iff.1 he, by rw [hc]; rfl⟩
            have := Array.size_pos_of_mem this
            omega
      have hR2 := hR.out
      rw [impl_ShowType.v, hnone] at hR2
      simp only at hR2
      have HBw := Aside0.mk (hbel m seen)
      have HGw := Aside0.mk (HG.out.below HBw.out)
      clear hrg hc hbel hrun hnone
      by_cases c0 : 0 ≤ a0
      · by_cases c1 : a0 ≤ 65535
        · rw [if_pos ⟨c0, c1⟩] at hR2
          have hit : (Lib.itoa a0).length ≤ 6 := by
            have := itoa_small a0.toNat (by omega)
            rw [show ((a0.toNat : Nat) : Int) = a0 by omega] at this
            exact this
          obtain ⟨I, hI⟩ : ∃ I, (⟨(Lib.itoa a0).toArray⟩ : ByteArray) = I := ⟨_, rfl⟩
          have hIs : I.size ≤ 6 := by
            rw [← hI]
            show (Lib.itoa a0).toArray.size ≤ 6
            rw [List.size_toArray]
            exact hit
          rw [hI] at hR2
          replace hR2 := Aside0.mk hR2
          replace hI := Aside0.mk hI
          clear hit
          have f1 : (9223372036854775807 < 4 + I.size) = False := eq_false (by omega)
          have d0 : decide (a0 < 0) = false := decide_eq_false (by omega)
          have d1 : decide (65535 < a0) = false := decide_eq_false (by omega)
          have d2 : (a0 < 0) = False := eq_false (by omega)
          have d3 : (65535 < a0) = False := eq_false (by omega)
          go_wp2_with (first | (go_at_call 9; refine (xfmt10.calls a0 c0 c1 _ HGw.out).mono ?_; rintro e w3 ⟨rfl, hb⟩; rw [hI.out]; have HB2 := Aside0.mk (below_step HBw.out hb); clear hb))
          go_ret
          exact ⟨by rw [← hR2.out]; rfl, HB2.out⟩
        · rw [if_neg (fun h => c1 h.2)] at hR2
          replace hR2 := Aside0.mk hR2
          have d0 : decide (a0 < 0) = false := decide_eq_false (by omega)
          have d1 : decide (65535 < a0) = true := decide_eq_true (by omega)
          have d2 : (a0 < 0) = False := eq_false (by omega)
          have d3 : (65535 < a0) = True := eq_true (by omega)
          go_wp2
          go_ret
          exact ⟨by rw [← hR2.out]; rfl, HBw.out⟩
      · rw [if_neg (fun h => c0 h.1)] at hR2
        replace hR2 := Aside0.mk hR2
        have d0 : decide (a0 < 0) = true := decide_eq_true (by omega)
        have d2 : (a0 < 0) = True := eq_true (by omega)
        go_wp2
        go_ret
        exact ⟨by rw [← hR2.out]; rfl, HBw.out⟩
    · obtain ⟨hm1, hm2⟩ := mem_left he
      obtain ⟨s, n, hk, hv, hmn⟩ := HM.out.1 e hm1
      rw [hk, hv] at hrun
      have hnx : ∀ ty, (Instr.next (.pointer (some ⟨w.heap.size, 0, none⟩)) false ty).run Tryd.prog ((w.drewN m).alloc (.mapIter (some bm) clock seen clock)) = _ := fun _ => hrun
      have hen := run_entry_map (P := Tryd.prog) (w.drewN m2) bm clock seen es clock e hb hm1 HST.out.2.1
      rw [hk, hv, show (w.drewN m2).heap.size = w.heap.size from rfl] at hen
      by_cases hq : n = a0
      · subst hq
        have hR2 := hR.out
        rw [impl_ShowType.v, (mnem_facts _ (mnemOf_mem hmn)).2.1] at hR2
        simp only at hR2
        replace hR2 := Aside0.mk hR2
        have q0 : (n == n) = true := beq_self_eq_true n
        have HBw := Aside0.mk (hbel m2 (seen.push e.born))
        have HMN := Aside0.mk hmn
        clear hrg hc hbel hrun hmn
        go_wp2_with (first | (go_at_call 8; refine (xupper.calls s n HMN.out _).mono ?_; rintro e2 w3 ⟨rfl, hb⟩; have HB2 := Aside0.mk (below_step HBw.out hb); clear hb))
        go_ret
        exact ⟨by rw [← hR2.out]; rfl, HB2.out⟩
      · have q0 : (n == a0) = false := beq_eq_false_iff_ne.mpr hq
        clear hrg hc hbel
        go_wp2
        go_roundw
        case rel =>
          refine ⟨m2, seen.push e.born, rfl, ⟨fun e' he' hs' => ?_⟩⟩
          by_cases hbe : e'.born = e.born
          · have : e' = e := nodup_inj _ _ HST.out.2.1 e' he' e hm1 hbe
            rw [this, hv]
            intro hcon
            injection hcon with _ hcon
            exact hq hcon
          · refine HN.out e' he' ?_
            simp at hs' ⊢
            rcases hs' with h | h
            · exact h
            · exact absurd h hbe
        case measure =>
          have e1 := World.iterSeen_alloc (w.drewN m2) (some bm) clock (seen.push e.born) clock
          have e2 := World.iterSeen_alloc (w.drewN m) (some bm) clock seen clock
          rw [show (w.drewN m2).heap.size = w.heap.size from rfl] at e1
          rw [show (w.drewN m).heap.size = w.heap.size from rfl] at e2
          rw [e1, e2]
          exact left_shrinks es seen e he

end Go.Proofs.YtjffefbgeaabjaaDoor.F
namespace Go.Proofs.YtjffefbgeaabjaaDoor.F
open Go Go.Shelf Go.RowKit Go.Proofs.YtjffefbgeaabjaaDoorW.PrintWords Go.Proofs.YtjffefbgeaabjaaDoorW.PrintLast Go.Proofs.YtjffefbgeaabjaaDoorW.PrintMore
attribute [local go_sem] max2_int min2_int max_two min_two max_three min_three max_four min_four   -- for this text's walks alone
set_option linter.unusedVariables false
set_option linter.unusedSimpArgs false

/-! ### laws_FnExactShowType: function 3 -/
def laws_FnExactShowType.f (k : Nat) (a0 : Int) : Option (Bool) := (spec_ShowType.f k a0).bind fun t101 => ((impl_ShowType.f a0).bind fun t102 => (if t102.toList = t101.toList then (some true) else (some false)))
theorem laws_FnExactShowType.mono : ∀ a0 k, LeO (laws_FnExactShowType.f k a0) (laws_FnExactShowType.f (k + 1) a0) := by
  intro a0 k
  unfold laws_FnExactShowType.f
  repeat' first
      | (with_reducible exact spec_ShowType.mono _ _)
      | (with_reducible exact LeO.refl _)
      | (with_reducible exact LeO.none _)
      | (with_reducible refine LeO.ite ?_ ?_)
      | (with_reducible refine LeO.bind ?_ (fun _ => ?_))
      | exact spec_ShowType.mono _ _
      | exact LeO.none _
      | refine LeO.ite ?_ ?_
      | refine LeO.bind ?_ (fun _ => ?_)
set_option maxHeartbeats 8000000 in
set_option maxRecDepth 100000 in
theorem laws_FnExactShowType.calls (k : Nat) (a0 : Int) (r : Bool) (w : World) (h : laws_FnExactShowType.f k a0 = some r) (hGM : GlobM w) :
    Calls Tryd.prog 3 #[.int .i64 a0] w fun e w' => e = .returned (.bool r) ∧ Below w.heap.size w w' := by
  have HGM := Aside0.mk hGM
  clear hGM
  have HB := Aside0.mk (Below.refl w.heap.size w)
  have H : ((spec_ShowType.f k a0).bind fun t101 => ((impl_ShowType.f a0).bind fun t102 => (if t102.toList = t101.toList then (some true) else (some false)))) = some r := h
  clear h
  replace H := Option.bind_eq_some_iff.mp H
  obtain ⟨t101, A20, H⟩ := H
  replace H : ((impl_ShowType.f a0).bind fun t102 => (if t102.toList = t101.toList then (some true) else (some false))) = some r := H
  have A2 := Aside0.mk A20
  clear A20
  replace H := Option.bind_eq_some_iff.mp H
  obtain ⟨t102, A30, H⟩ := H
  replace H : (if t102.toList = t101.toList then (some true) else (some false)) = some r := H
  have A3 := Aside0.mk A30
  clear A30
  by_cases c4 : t102.toList = t101.toList
  · rw [if_pos c4] at H
    have c4b0 : (t102.toList == t101.toList) = true := beq_iff_eq.mpr c4
    have c4b1 : (t102.toList != t101.toList) = false := bne_eq_false_iff_eq.mpr c4
    clear c4
    obtain rfl := Option.some.inj H
    go_enter Tryd.func3, Tryd.ntmps3
    go_wp2_with (first | ((with_reducible refine gate_callee (f := 4) rfl ?_); refine goesL_ (some 6) rfl rfl Tryd.func4 (by kernel_rfl) rfl #[.int .i64 a0] rfl (by (try simp only [List.map_toArray, List.map_cons, List.map_nil]); first | done | rfl | (simp only [List.length_drop, List.length_take]; rfl)) ?_; (with_reducible refine (spec_ShowType.calls k a0 t101 _ A2.out).mono ?_); rintro e w5 ⟨rfl, hb⟩; refine ⟨_, rfl, ?_⟩; have n0_ := Aside0.mk (below_step (by repeat (first | (with_reducible first | exact HB.out | apply below_alloc | apply pw_below_drewN | apply below_drew1) | exact HB.out)) hb); clear HB; have HB := n0_; clear n0_; (try clear hb); (try clear hb2); (try clear hk); (try clear hi)) | ((with_reducible refine gate_callee (f := 5) rfl ?_); refine goesL_ (some 8) rfl rfl Tryd.func5 (by kernel_rfl) rfl #[.int .i64 a0] rfl (by (try simp only [List.map_toArray, List.map_cons, List.map_nil]); first | done | rfl | (simp only [List.length_drop, List.length_take]; rfl)) ?_; (with_reducible refine (impl_ShowType.calls a0 t102 _ A3.out (HGM.out.below (by repeat (first | (with_reducible first | exact HB.out | apply below_alloc | apply pw_below_drewN | apply below_drew1) | exact HB.out)))).mono ?_); rintro e w6 ⟨rfl, hb⟩; refine ⟨_, rfl, ?_⟩; have n0_ := Aside0.mk (below_step (by repeat (first | (with_reducible first | exact HB.out | apply below_alloc | apply pw_below_drewN | apply below_drew1) | exact HB.out)) hb); clear HB; have HB := n0_; clear n0_; (try clear hb); (try clear hb2); (try clear hk); (try clear hi)))
    go_ret
    exact ⟨by first | rfl | (simp [errW_none, errW_some] <;> rfl) | (simp [*, errW_none, errW_some] <;> rfl), by repeat (first | (with_reducible first | exact HB.out | apply below_alloc | apply pw_below_drewN | apply below_drew1) | exact HB.out)⟩
  · rw [if_neg c4] at H
    have c4b0 : (t102.toList == t101.toList) = false := beq_eq_false_iff_ne.mpr c4
    have c4b1 : (t102.toList != t101.toList) = true := bne_iff_ne.mpr c4
    obtain rfl := Option.some.inj H
    go_enter Tryd.func3, Tryd.ntmps3
    go_wp2_with (first | ((with_reducible refine gate_callee (f := 4) rfl ?_); refine goesL_ (some 6) rfl rfl Tryd.func4 (by kernel_rfl) rfl #[.int .i64 a0] rfl (by (try simp only [List.map_toArray, List.map_cons, List.map_nil]); first | done | rfl | (simp only [List.length_drop, List.length_take]; rfl)) ?_; (with_reducible refine (spec_ShowType.calls k a0 t101 _ A2.out).mono ?_); rintro e w7 ⟨rfl, hb⟩; refine ⟨_, rfl, ?_⟩; have n0_ := Aside0.mk (below_step (by repeat (first | (with_reducible first | exact HB.out | apply below_alloc | apply pw_below_drewN | apply below_drew1) | exact HB.out)) hb); clear HB; have HB := n0_; clear n0_; (try clear hb); (try clear hb2); (try clear hk); (try clear hi)) | ((with_reducible refine gate_callee (f := 5) rfl ?_); refine goesL_ (some 8) rfl rfl Tryd.func5 (by kernel_rfl) rfl #[.int .i64 a0] rfl (by (try simp only [List.map_toArray, List.map_cons, List.map_nil]); first | done | rfl | (simp only [List.length_drop, List.length_take]; rfl)) ?_; (with_reducible refine (impl_ShowType.calls a0 t102 _ A3.out (HGM.out.below (by repeat (first | (with_reducible first | exact HB.out | apply below_alloc | apply pw_below_drewN | apply below_drew1) | exact HB.out)))).mono ?_); rintro e w8 ⟨rfl, hb⟩; refine ⟨_, rfl, ?_⟩; have n0_ := Aside0.mk (below_step (by repeat (first | (with_reducible first | exact HB.out | apply below_alloc | apply pw_below_drewN | apply below_drew1) | exact HB.out)) hb); clear HB; have HB := n0_; clear n0_; (try clear hb); (try clear hb2); (try clear hk); (try clear hi)))
    go_ret
    exact ⟨by first | rfl | (simp [errW_none, errW_some] <;> rfl) | (simp [*, errW_none, errW_some] <;> rfl), by repeat (first | (with_reducible first | exact HB.out | apply below_alloc | apply pw_below_drewN | apply below_drew1) | exact HB.out)⟩

/-- THE ONE PURE STATEMENT of laws_FnExactShowType: yours. -/
def laws_FnExactShowType.Pure : Prop := ∀ (a0 : Int), (Lit.int .i64 a0).wf = true → ∃ k, laws_FnExactShowType.f k a0 = some true
theorem laws_FnExactShowType.walk (P : laws_FnExactShowType.Pure) (a0 : Int) (w : World) (w0 : (Lit.int .i64 a0).wf = true) (hGM : GlobM w) :
    Calls Tryd.prog 3 #[.int .i64 a0] w fun e w' => e = .returned (.bool true) ∧ Below w.heap.size w w' := by
  obtain ⟨k, h⟩ := P a0 w0
  refine (laws_FnExactShowType.calls k a0 true w h hGM).mono ?_
  rintro e w' ⟨rfl, hd⟩
  exact ⟨rfl, hd⟩

end Go.Proofs.YtjffefbgeaabjaaDoor.F
namespace Go.Proofs.YtjffefbgeaabjaaDoor.Base
open Go.RowKit Go.Proofs.YtjffefbgeaabjaaDoorW.PrintWords Go.Proofs.YtjffefbgeaabjaaDoorW.PrintMore

theorem w64 {x : Int} (h0 : -9223372036854775808 ≤ x) (h1 : x ≤ 9223372036854775807) : wrap64 x = x := by
  unfold wrap64
  omega

def L (s : ByteArray) : List UInt8 := s.data.toList
def B (l : List UInt8) : ByteArray := ⟨l.toArray⟩
theorem L_B (l : List UInt8) : L (B l) = l := by simp [L, B]
theorem B_L (s : ByteArray) : B (L s) = s := by simp [L, B]
theorem L_inj {a b : ByteArray} (h : L a = L b) : a = b := by rw [← B_L a, ← B_L b, h]
theorem L_iff {a b : ByteArray} : L a = L b ↔ a = b := ⟨L_inj, fun h => by rw [h]⟩
theorem size_L (s : ByteArray) : s.size = (L s).length := by simp [L]
theorem toL (s : ByteArray) : s.toList = L s := Lib.toList_data s
theorem L_extract (s : ByteArray) (i j : Nat) : L (s.extract i j) = ((L s).drop i).take (j - i) := by
  simp [L, ByteArray.data_extract]
theorem L_append (a b : ByteArray) : L (a ++ b) = L a ++ L b := by
  simp [L, ByteArray.data_append]
theorem bt_L (s : ByteArray) (i : Int) : bt s i = (((L s).getD i.toNat 0).toNat : Int) := by
  unfold bt
  split
  · rename_i h
    have h' : i.toNat < (L s).length := by rw [← size_L]; exact h
    rw [List.getD_eq_getElem?_getD, List.getElem?_eq_getElem h']
    rfl
  · rename_i h
    have h' : (L s).length ≤ i.toNat := by rw [← size_L]; omega
    rw [List.getD_eq_getElem?_getD, List.getElem?_eq_none h']
    rfl
theorem bt_mid {x : ByteArray} {p : List UInt8} {c : UInt8} {r : List UInt8} (h : L x = p ++ c :: r) {i : Int} (hi : i = (p.length : Int)) : bt x i = (c.toNat : Int) := by
  rw [bt_L, h, hi]
  simp [List.getD_eq_getElem?_getD]
theorem bt_cons {x : ByteArray} {c : UInt8} {r : List UInt8} (h : L x = c :: r) : bt x 0 = (c.toNat : Int) := bt_mid (p := []) h rfl
theorem L_strOfNums (xs : List Int) : L (strOfNums xs) = xs.map fun n => UInt8.ofNat n.toNat := by simp [L, strOfNums]
theorem byte_le (c : UInt8) : (c.toNat : Int) ≤ 255 := by have := c.toNat_lt; omega
theorem byte_id (c : UInt8) : UInt8.ofNat ((c.toNat : Int)).toNat = c := by simp

theorem drop_len {α : Type} (p t : List α) (k : Nat) : (p ++ t).drop (p.length + k) = t.drop k := by
  rw [List.drop_append, List.drop_eq_nil_of_le (by omega), List.nil_append, Nat.add_sub_cancel_left]
theorem getD_len {α : Type} (p t : List α) (k : Nat) (d : α) : (p ++ t).getD (p.length + k) d = t.getD k d := by
  simp [List.getD_eq_getElem?_getD, List.getElem?_append_right]

/-- The labels of a name's bytes; none: they are no name (but for the limit on the whole). -/
def labs : List UInt8 → Option (List ByteArray)
  | [] => none
  | c :: r => if c.toNat = 0 then (if r = [] then some [] else none) else if 63 < c.toNat then none else if r.length < c.toNat then none else (labs (r.drop c.toNat)).map (B (r.take c.toNat) :: ·)
  termination_by l => l.length
  decreasing_by simp; omega

/-- The labels of a name. -/
def names (l : List UInt8) : Option (List ByteArray) := if l.length < 1 ∨ 255 < l.length then none else labs l

/-- What a cut in labels answers that had come to some. -/
def res (acc : List ByteArray) : Option (List ByteArray) → List ByteArray × Bool
  | none => ([], false)
  | some ls => (acc ++ ls, true)
theorem res_map (acc : List ByteArray) (b : ByteArray) (o : Option (List ByteArray)) : res acc (o.map (b :: ·)) = res (acc ++ [b]) o := by
  cases o <;> simp [res]

/-- What the other cut in labels leaves where it fails. -/
def jk (acc : List ByteArray) : List UInt8 → List ByteArray
  | [] => []
  | c :: r => if c.toNat = 0 then acc else if 63 < c.toNat then [] else if r.length < c.toNat then [] else jk (acc ++ [B (r.take c.toNat)]) (r.drop c.toNat)
  termination_by l => l.length
  decreasing_by simp; omega
def res2 (acc : List ByteArray) (l : List UInt8) : List ByteArray × Bool := match labs l with
  | none => (jk acc l, false)
  | some ls => (acc ++ ls, true)
theorem labs_count : ∀ (n : Nat) (l : List UInt8), l.length ≤ n → ∀ ls, labs l = some ls → ls.length + 1 ≤ l.length := by
  intro n
  induction n with
  | zero =>
    intro l hl ls h
    obtain rfl : l = [] := List.length_eq_zero_iff.1 (by omega)
    simp [labs] at h
  | succ n ih =>
    intro l hl ls h
    cases l with
    | nil => simp [labs] at h
    | cons c r =>
      simp only [List.length_cons] at hl ⊢
      rw [labs] at h
      by_cases h0 : c.toNat = 0
      · rw [if_pos h0] at h
        by_cases hr : r = []
        · rw [if_pos hr] at h
          obtain rfl := Option.some.inj h
          simp
        · rw [if_neg hr] at h
          cases h
      · rw [if_neg h0] at h
        by_cases h63 : 63 < c.toNat
        · rw [if_pos h63] at h
          cases h
        · rw [if_neg h63] at h
          by_cases hl2 : r.length < c.toNat
          · rw [if_pos hl2] at h
            cases h
          · rw [if_neg hl2] at h
            obtain ⟨t, ht, rfl⟩ := Option.map_eq_some_iff.1 h
            have := ih (r.drop c.toNat) (by simp; omega) t ht
            simp at this ⊢
            omega
theorem names_count {l : List UInt8} {ls : List ByteArray} (h : names l = some ls) : ls.length ≤ 254 := by
  unfold names at h
  split at h
  · cases h
  · have := labs_count _ l (Nat.le_refl _) ls h
    omega
end Go.Proofs.YtjffefbgeaabjaaDoor.Base
namespace Go.Proofs.YtjffefbgeaabjaaDoor.Pure
open Go.RowKit Go.Proofs.YtjffefbgeaabjaaDoor.F Go.Proofs.YtjffefbgeaabjaaDoor.Base Go.Proofs.YtjffefbgeaabjaaDoorW.PrintWords Go.Proofs.YtjffefbgeaabjaaDoorW.PrintLast Go.Proofs.YtjffefbgeaabjaaDoorW.PrintMore
set_option linter.unusedVariables false
set_option linter.unusedSimpArgs false
theorem dec_eq : ∀ (f n k : Nat), n < 10 ^ (f + 1) → f ≤ 5 → f < k → spec_l03Dec.f k (n : Int) = some (B (Lib.decDigits n)) ∧ (Lib.decDigits n).length ≤ f + 1
  | 0, n, k, hn, _, hk => by
    obtain ⟨k, rfl⟩ : ∃ m, k = m + 1 := ⟨k - 1, by omega⟩
    have hn : n < 10 := by simpa using hn
    rw [spec_l03Dec.f, if_pos (by omega), w64 (x := 48 + (n : Int)) (by omega) (by omega), Lib.decDigits, dif_pos hn]
    refine ⟨?_, by simp⟩
    congr 1
    apply L_inj
    rw [L_strOfNums, L_B]
    simp only [List.map_cons, List.map_nil]
    congr 1
    rw [show ((48 + (n : Int)) % 256).toNat = 48 + n by omega]
  | f + 1, n, k, hn, hf, hk => by
    obtain ⟨k, rfl⟩ : ∃ m, k = m + 1 := ⟨k - 1, by omega⟩
    by_cases h10 : n < 10
    · rw [spec_l03Dec.f, if_pos (by omega), w64 (x := 48 + (n : Int)) (by omega) (by omega), Lib.decDigits, dif_pos h10]
      refine ⟨?_, by simp⟩
      congr 1
      apply L_inj
      rw [L_strOfNums, L_B]
      simp only [List.map_cons, List.map_nil]
      congr 1
      rw [show ((48 + (n : Int)) % 256).toNat = 48 + n by omega]
    · have t1 : Int.tdiv (n : Int) 10 = ((n / 10 : Nat) : Int) := by rw [Int.tdiv_eq_ediv_of_nonneg (by omega)]; omega
      have t2 : Int.tmod (n : Int) 10 = ((n % 10 : Nat) : Int) := by rw [Int.tmod_eq_emod_of_nonneg (by omega)]; omega
      have hb : n < 1000000 := Nat.lt_of_lt_of_le hn (Nat.pow_le_pow_right (n := 10) (j := 6) (by decide) (by omega)) |> fun h => by simpa using h
      have p1 : n / 10 < 10 ^ (f + 1) := by rw [Nat.pow_succ] at hn; omega
      obtain ⟨ih, il⟩ := dec_eq f (n / 10) k p1 (by omega) (by omega)
      have w1 : wrap64 ((n / 10 : Nat) : Int) = ((n / 10 : Nat) : Int) := w64 (by omega) (by omega)
      have w2 : wrap64 (48 + ((n % 10 : Nat) : Int)) = 48 + ((n % 10 : Nat) : Int) := w64 (by omega) (by omega)
      have w3 : ((48 + ((n % 10 : Nat) : Int)) % 256).toNat = 48 + n % 10 := by omega
      have hd : Lib.decDigits n = Lib.decDigits (n / 10) ++ [UInt8.ofNat (48 + n % 10)] := by rw [Lib.decDigits, dif_neg h10]
      have c1 : ¬ ((n : Int) < 10) := by omega
      have e1 : strOfNums [(48 + ((n % 10 : Nat) : Int)) % 256] = B [UInt8.ofNat (48 + n % 10)] := by
        apply L_inj
        rw [L_strOfNums, L_B]
        simp only [List.map_cons, List.map_nil]
        rw [w3]
      have z1 : (B (Lib.decDigits (n / 10))).size + (B [UInt8.ofNat (48 + n % 10)]).size ≤ 9223372036854775807 := by
        rw [size_L, size_L, L_B, L_B]
        simp only [List.length_cons, List.length_nil]
        exact Nat.le_trans (Nat.add_le_add_right (Nat.le_trans il (show f + 1 ≤ 100 by omega)) 1) (by decide)
      rw [spec_l03Dec.f, if_neg c1, t1, t2, w1, ih, w2]
      simp only [Option.bind_some]
      rw [e1, if_pos z1, hd]
      refine ⟨?_, by rw [List.length_append]; simp only [List.length_cons, List.length_nil]; omega⟩
      refine congrArg some (L_inj ?_)
      rw [L_append, L_B, L_B, L_B]
theorem dec_some (n k : Nat) (hn : n < 100000) (hk : 6 ≤ k) : spec_l03Dec.f k (n : Int) = some (B (Lib.itoa (n : Int))) := by
  rw [(dec_eq 4 n k (by simpa using hn) (by decide) (by omega)).1, Lib.itoa, if_neg (by omega), Int.toNat_natCast]
theorem mnem_eq (n : Int) : spec_l03Mnemonic.f n = some (match nameOf n with
    | some s => (⟨(Lib.toUpperA s).toArray⟩ : ByteArray)
    | none => ⟨#[]⟩) := by
  cases hh : nameOf n with
  | some s =>
    have key : ∀ p ∈ mnemTable, (spec_l03Mnemonic.f p.2).map L = some (Lib.toUpperA p.1) := by decide +kernel
    have h1 := key _ (nameOf_mem hh)
    obtain ⟨r, hr, hl⟩ := Option.map_eq_some_iff.1 h1
    simp only at hr hl
    rw [hr]
    congr 1
    apply L_inj
    rw [hl]
    simp [L]
  | none =>
    have hne : ∀ p ∈ mnemTable, n ≠ p.2 := by
      intro p hp e
      have := (mnem_facts p hp).2.1
      rw [← e, hh] at this
      cases this
    unfold spec_l03Mnemonic.f
    have c : ∀ q ∈ [1, 2, 5, 6, 12, 13, 15, 16, 28, 33, 35, 39, 41, 47, 250, 251, 252, 255, 257], n ≠ q := by
      intro q hq
      have key : ∀ q ∈ ([1, 2, 5, 6, 12, 13, 15, 16, 28, 33, 35, 39, 41, 47, 250, 251, 252, 255, 257] : List Int), ∃ p ∈ mnemTable, p.2 = q := by decide +kernel
      obtain ⟨p, hp, rfl⟩ := key q hq
      exact hne p hp
    rw [if_neg (c 1 (by simp)), if_neg (c 2 (by simp)), if_neg (c 5 (by simp)), if_neg (c 6 (by simp)), if_neg (c 12 (by simp)), if_neg (c 13 (by simp)), if_neg (c 15 (by simp)), if_neg (c 16 (by simp)), if_neg (c 28 (by simp)), if_neg (c 33 (by simp)), if_neg (c 35 (by simp)), if_neg (c 39 (by simp)), if_neg (c 41 (by simp)), if_neg (c 47 (by simp)), if_neg (c 250 (by simp)), if_neg (c 251 (by simp)), if_neg (c 252 (by simp)), if_neg (c 255 (by simp)), if_neg (c 257 (by simp))]
theorem upper_ne {n : Int} {s : List UInt8} (h : nameOf n = some s) : Lib.toUpperA s ≠ [] := by
  have key : ∀ p ∈ mnemTable, p.1 ≠ [] := by decide +kernel
  have := key _ (nameOf_mem h)
  intro e
  simp only [Lib.toUpperA, List.map_eq_nil_iff] at e
  exact this e
theorem name_rng {n : Int} {s : List UInt8} (h : nameOf n = some s) : 0 ≤ n ∧ n ≤ 65535 := by
  have key : ∀ p ∈ mnemTable, 0 ≤ p.2 ∧ p.2 ≤ 65535 := by decide +kernel
  exact key _ (nameOf_mem h)
theorem out_v {n : Int} (h : ¬ (0 ≤ n ∧ n ≤ 65535)) : impl_ShowType.v n = ⟨#[]⟩ := by
  unfold impl_ShowType.v
  cases hh : nameOf n with
  | some s => exact absurd (name_rng hh) h
  | none => exact if_neg h
theorem j0_eq (n : Int) (h0 : 0 ≤ n) (h1 : n ≤ 65535) (k : Nat) (hk : 7 ≤ k) : spec_ShowType.j0 k n (decide (n > 65535)) = some (impl_ShowType.v n) := by
  obtain ⟨k, rfl⟩ : ∃ m, k = m + 1 := ⟨k - 1, by omega⟩
  rw [show decide (n > 65535) = false from decide_eq_false (by omega), spec_ShowType.j0, if_neg (by decide), mnem_eq]
  simp only [Option.bind_some]
  unfold impl_ShowType.v
  cases hh : nameOf n with
  | some s =>
    simp only
    rw [if_neg]
    rw [toL]
    show ¬ (⟨(Lib.toUpperA s).toArray⟩ : ByteArray).data.toList = []
    simpa using upper_ne hh
  | none =>
    simp only
    have hd := dec_some n.toNat k (by omega) (by omega)
    have hl := (dec_eq 4 n.toNat k (by have : n.toNat < 100000 := by omega
                                       simpa using this) (by decide) (by omega)).2
    have e : ((n.toNat : Nat) : Int) = n := by omega
    have hi : Lib.itoa n = Lib.decDigits n.toNat := by rw [Lib.itoa, if_neg (by omega)]
    rw [e] at hd
    have z : 4 + (B (Lib.itoa n)).size ≤ 9223372036854775807 := by
      rw [size_L, L_B, hi]
      exact Nat.le_trans (Nat.add_le_add_left hl 4) (by decide)
    rw [if_pos (by rw [toL]; rfl), hd, Option.bind_some, if_pos z, if_pos ⟨h0, h1⟩]
    rfl
theorem FnExactShowType : laws_FnExactShowType.Pure := by
  intro a _
  refine ⟨100, ?_⟩
  have hs : spec_ShowType.f 100 a = some (impl_ShowType.v a) := by
    unfold spec_ShowType.f
    by_cases h0 : a < 0
    · rw [if_pos h0, spec_ShowType.j0, if_pos rfl, out_v (by omega)]
    · rw [if_neg h0]
      by_cases h1 : a ≤ 65535
      · exact j0_eq a (by omega) h1 100 (by decide)
      · rw [show decide (a > 65535) = true from decide_eq_true (by omega), spec_ShowType.j0, if_pos rfl, out_v (by omega)]
  unfold laws_FnExactShowType.f impl_ShowType.f
  rw [hs]
  simp

end Go.Proofs.YtjffefbgeaabjaaDoor.Pure
namespace Go.Proofs.YtjffefbgeaabjaaDoor.fnExactShowType
open Go.ChangeShapes Go.WideShapes Go.ChangeAt Go.RowKit
open Go.WideMaps Go.WideElems Go.Maps
open Go.ChangeMaps (open_string shut_string)
set_option linter.unusedVariables false
abbrev laidS : List (String × DataW Unit) := [("math/bits.deBruijn32tab", Rows.laid_math_bits_deBruijn32tab), ("math/bits.deBruijn64tab", Rows.laid_math_bits_deBruijn64tab), ("internal/strconv.uint64pow10", Rows.laid_internal_strconv_uint64pow10), ("unicode/utf8.acceptRanges", Rows.laid_unicode_utf8_acceptRanges), ("loop.example/s01858/impl.mnemonics", Rows.laid_loop_example_s01858_impl_mnemonics), ("unicode.CaseRanges", Rows.laid_unicode_CaseRanges), ("unicode/utf8.first", Rows.laid_unicode_utf8_first)]
theorem laidOut : laidOutB Tryd.prog = true := by kernel_rfl
theorem own : ownKnob Tryd.prog.godebug = none := by kernel_rfl
abbrev greatS : List String := ["math/bits.deBruijn32tab", "math/bits.deBruijn64tab", "internal/strconv.uint64pow10", "unicode/utf8.acceptRanges", "unicode.CaseRanges", "unicode/utf8.first"]
noncomputable abbrev wM (os : Os) : World := (World.doorLaid Tryd.prog 200 os).layVars Tryd.prog (laidS.filter fun x => greatS.contains x.1)
noncomputable abbrev wW (os : Os) : World := (wM os).forCall (fun _ _ => 0) ⟨#[], #[.int .i64 0], []⟩
set_option maxRecDepth 1000000 in
theorem wM_fits (os : Os) : (World.doorLaid Tryd.prog 200 os).layFits Tryd.prog (laidS.filter fun x => greatS.contains x.1) [0, 13] = true := by kernel_rfl
set_option maxRecDepth 1000000 in
theorem wM_ifaces (os : Os) : (World.doorLaid Tryd.prog 200 os).layIfaces Tryd.prog (laidS.filter fun x => greatS.contains x.1) (wW os).memory = true := by kernel_rfl
set_option maxRecDepth 1000000 in
theorem wM_in (os : Os) : LaidIn Tryd.prog (wW os).memory (laidS.filter fun x => !greatS.contains x.1) [0, 13] :=
  LaidIn.of_run [0, 13] 8 (by kernel_rfl) (by kernel_rfl) (by kernel_rfl) (by kernel_rfl)
theorem heap_for (w : World) (args : Array Value) : (w.forCall (fun _ _ => 0) ⟨#[], args, []⟩).memory.heap = w.heap := by simp [World.memory, World.forCall, Input.heap]
theorem wM_met (os : Os) : laidMetH Tryd.prog laidS (wW os).memory := by
  rw [MakeChecks.laidMetH_plain _ _ _ (by kernel_rfl)]
  exact laidMet_layVars (w0 := World.doorLaid Tryd.prog 200 os) greatS [0, 13] (heap_for (wM os) _) (wM_fits os) (wM_ifaces os) (wM_in os)
set_option maxRecDepth 1000000 in
theorem wM_shaped (os : Os) : (wW os).Shaped Tryd.prog := World.shaped_of_ZipB (by kernel_rfl) (by kernel_rfl)
set_option maxRecDepth 1000000 in
theorem wM_ok (os : Os) : Input.okWideB Tryd.prog (wW os) 3 ⟨#[], #[.int .i64 0], []⟩ = true := by kernel_rfl
set_option maxRecDepth 1000000 in
theorem wM_sz (os : Os) (H : Type) (enc : TypeId × Value → H) : Rows.fnExactShowTypeSpec.sizedB enc Tryd.prog Tryd.f3 false (wW os).memory #[.int .i64 0] 8 = true := by kernel_rfl
set_option maxRecDepth 1000000 in
theorem wM_pre (os : Os) (H : Type) (enc : TypeId × Value → H) : Rows.fnExactShowTypeSpec.preB enc Tryd.prog Tryd.f3 [] false (wW os).memory #[.int .i64 0] 8 = true := by kernel_rfl
theorem keyS {P : Program} {k : TypeId} (hk : P.underlying k = some .string) {key : Value} {kl : Lit} (h : keyOf P k key = some kl) : ∃ s : ByteArray, key = .string s ∧ s.size ≤ maxLen := by
  cases key <;> simp [keyOf, hk, mapKey] at h
  exact ⟨_, rfl, h.1⟩
theorem gM : Tryd.prog.globalNamed "loop.example/s01858/impl.mnemonics" = some 0 := by kernel_rfl
theorem tM : (Tryd.prog.globals[0]?).map (·.type) = some 24 := by kernel_rfl
theorem gP : Tryd.prog.globalNamed "internal/strconv.uint64pow10" = some 2 := by kernel_rfl
theorem tP : (Tryd.prog.globals[2]?).map (·.type) = some 63 := by kernel_rfl
theorem dP : Rows.laid_internal_strconv_uint64pow10 (H := Unit) = Lib.tabData .u64 Lib.pow10Tab := rfl
theorem mnems_at (s : List UInt8) : (Rows.laid_loop_example_s01858_impl_mnemonics (H := Unit)).atKey (.string s) .nil = (match F.mnemOf s with | none => .nil | some n => .lit (.int .i64 n)) := by
  have e0 : Rows.laid_loop_example_s01858_impl_mnemonics (H := Unit) = .map (F.mnemTable.map fun p => (Lit.string p.1, DataW.lit (.int .i64 p.2))) := rfl
  rw [e0]
  simp only [DataW.atKey]
  rw [List.find?_map]
  have e1 : ((fun p : Lit × DataW Unit => p.1.sameKey (.string s)) ∘ fun p : List UInt8 × Int => (Lit.string p.1, DataW.lit (.int .i64 p.2))) = fun p : List UInt8 × Int => p.1 == s := rfl
  rw [e1]
  unfold F.mnemOf
  cases F.mnemTable.find? (fun p => p.1 == s) <;> rfl
set_option maxRecDepth 100000 in
theorem globM_of_laid {W : World} (h : laidMetH Tryd.prog laidS W) : F.GlobM W := by
  rw [MakeChecks.laidMetH_plain _ _ _ (by kernel_rfl)] at h
  obtain ⟨ps, ⟨_, _, _, _, _, _, _, _, _, _, ⟨_, _, _, _, _, _, _, _, _, _, ⟨g2, t2, cs2, f2, p2, q2, hg2, ht2, hv2, hd2, ⟨_, _, _, _, _, _, _, _, _, _, ⟨g0, t0, cs0, f0, p0, q0, hg0, ht0, hv0, hd0, _⟩, _⟩, _⟩, _⟩, _⟩, _, _⟩ := h
  obtain rfl := Option.some.inj (gM.symm.trans hg0)
  obtain rfl := Option.some.inj (tM.symm.trans ht0)
  obtain rfl := Option.some.inj (gP.symm.trans hg2)
  obtain rfl := Option.some.inj (tP.symm.trans ht2)
  refine ⟨?_, ?_⟩
  · rcases open_map Tryd.underlying24 hd0 with ⟨_, hx⟩ | ⟨bm, es, clock, m, rfl, hcs, hb, _, F1, hx⟩
    · simp [Rows.laid_loop_example_s01858_impl_mnemonics] at hx
    simp only [Prod.mk.injEq] at hx
    have hcell : W.cell? ⟨0, 0, none⟩ = some (.map (some bm)) := by
      have := World.var?_cell hg0 hv0 0
      rw [Array.eq_one_of_toList hcs] at this
      simpa using this
    have zero : (zeroValue 2).run Tryd.prog W = .ok (.int .i64 0) W := by kernel_rfl
    refine ⟨bm, es, clock, hcell, hb, F1.stamped, fun e he => ?_, fun s n hs => ?_⟩
    · obtain ⟨y, hy⟩ := F1.reads e he
      obtain ⟨s, hks, hsz⟩ := keyS Tryd.underlying9 (rd_key hy)
      have hk2 := keyOf_string_mk (P := Tryd.prog) Tryd.underlying9 hsz
      rcases fit_look (w := W) true (string_keyed Tryd.underlying9) Tryd.underlying24 zero hb F1 hk2 with ⟨_, hno, _⟩ | ⟨e0, y0, he0, hk0, _, hRv, hat, _⟩
      · exact absurd hks (hno e he)
      · have hee : e0 = e := F.nodup_inj _ _ F1.stamped.2.2 e0 he0 e he (hk0.trans hks.symm)
        have h2 := hat .nil
        rw [← hx.1, mnems_at] at h2
        obtain ⟨a, hv, hz, _⟩ := plainElem_int_inv Tryd.underlying2 (elemAt_plainElem_int Tryd.underlying2 hRv)
        rw [hz] at h2
        rw [hee] at hv
        refine ⟨s, a, hks, hv, ?_⟩
        cases hf : F.mnemOf s.data.toList with
        | none => simp [hf] at h2
        | some f =>
          rw [hf] at h2
          simp only [DataW.lit.injEq, Lit.int.injEq, true_and] at h2
          rw [h2]
    · obtain ⟨_, _, h5, _⟩ := F.mnem_facts _ (F.mnemOf_mem hs)
      have hsz : (⟨s.toArray⟩ : ByteArray).size ≤ maxLen := by
        show s.toArray.size ≤ maxLen
        rw [List.size_toArray]
        exact Nat.le_trans h5 (by decide)
      have hk2 := keyOf_string_mk (P := Tryd.prog) Tryd.underlying9 hsz
      rcases fit_look (w := W) true (string_keyed Tryd.underlying9) Tryd.underlying24 zero hb F1 hk2 with ⟨_, _, hat⟩ | ⟨e0, y0, he0, _, _, hRv, hat, _⟩
      · have h2 := hat .nil
        rw [← hx.1, mnems_at] at h2
        simp only at h2
        rw [hs] at h2
        simp at h2
      · have h2 := hat .nil
        rw [← hx.1, mnems_at] at h2
        simp only at h2
        rw [hs] at h2
        obtain ⟨a, hv, hz, _⟩ := plainElem_int_inv Tryd.underlying2 (elemAt_plainElem_int Tryd.underlying2 hRv)
        rw [hz] at h2
        simp only [DataW.lit.injEq, Lit.int.injEq, true_and] at h2
        exact ⟨e0, he0, by rw [hv, h2]⟩
  · rw [dP] at hd2
    have hc := Lib.cells_of_tab Tryd.underlying63 Tryd.underlying49 (by kernel_rfl) (by kernel_rfl) hd2
    unfold Lib.TabIs
    rw [hv2, ← hc]
set_option maxRecDepth 100000 in
theorem lifted (os : Os) (started : os.Started) (H : Type) (enc : TypeId × Value → H) :
    ReturnsInHanded {} Tryd.checked os 3 .any (fun w args => (Rows.fnExactShowTypeSpec.pre enc Tryd.prog Tryd.f3 [] false w args ∧ laidMetH Tryd.prog laidS w) ∧ sizedMet enc Tryd.prog Tryd.f3 (OpenSpec.ofChange Rows.fnExactShowTypeSpec) false w args) (Rows.fnExactShowTypeSpec.post enc Tryd.prog Tryd.f3 false true false false) := by
  refine XShape.shaped_and (C := Tryd.checked) (X := fun w _ => laidMetH Tryd.prog laidS w) (fun _ _ _ hh h => h.of_heap hh) own started (by kernel_rfl) Tryd.func3
    (ChangeSpec.witness_shaped (enc := enc) (C := Tryd.checked) (os := os) (X := fun w _ => laidMetH Tryd.prog laidS w) false (wM os) #[.int .i64 0] 8 (World.layVars_os _ _ _) (wM_shaped os) (wM_ok os) (wM_pre os H enc) (wM_sz os H enc) (wM_met os)) ?_
  intro W base args ds gs before hval0 hW hcnd hsz0 hsh hL _
  have hsz : (DataW.weightsEach Tryd.prog (Tryd.f3.params.toList ++ Rows.fnExactShowTypeSpec.plain.varTypes Tryd.prog) (ds ++ gs)).all (· ≤ reachBytes) = true := hsz0
  have hval : ∀ (j : Nat) t v, Tryd.f3.params[j]? = some t → args[j]? = some v → Value.okWide Tryd.prog W .any base t v := hval0
  have hW' := hW
  obtain ⟨p, q, hA0, hV, rfl, hfz, hnd⟩ := hW
  have hA : DataW.TrodAll enc Tryd.prog W 0 (fun _ => true) true Tryd.f3.params.toList args.toList ds p := hA0
  rw [Tryd.params3] at hA hval hsz
  obtain ⟨v0, vs0, d0, ds0, p0, q0, hargs, rfl, rfl, h0, r0⟩ := trodAll_cons hA
  obtain ⟨rfl, rfl, rfl⟩ := trodAll_nil r0
  obtain rfl : args = #[v0] := by cases args; simp_all
  have hV2 := hV
  obtain ⟨gg, tt, cs, fuel, dg, pg, rfl, hg1, hg2, hg3, hg4, rfl⟩ := trodVars_one hV
  obtain ⟨a0, rfl, rfl, rfl, w0⟩ := open_int Tryd.underlying2 (hval 0 2 v0 rfl rfl) h0
  clear hA0 hval0 hsz0 hsz
  refine (F.laws_FnExactShowType.walk Pure.FnExactShowType a0 W w0 (globM_of_laid hL)).mono fun e W' ⟨he, bel⟩ => ?_
  subst he
  exact ⟨_, rfl, _, _, _, [], _, _, hW', trodAll_mk1 (shut_bool Tryd.underlying4 _), (trodAll_cons_mk (shut_int Tryd.underlying2 w0) trodAll_mk0), bel.trodVars laidOut (by kernel_rfl) hV2, bel.frame _, fun h => by cases h⟩
theorem over : Rows.fnExactShowTypeRow.holds Tryd.pinned (OpenSpec.ofChange Rows.fnExactShowTypeSpec) :=
  OpenClaim.holds_of_wide 3 Tryd.f3 rfl rfl rfl rfl rfl rfl rfl ⟨rfl, rfl, rfl, rfl, rfl⟩ rfl rfl rfl rfl rfl (by kernel_rfl) Tryd.func3 (by kernel_rfl)
    (of_decide_eq_true (by kernel_rfl)) (by unfold Func.isWrapper; first | (rw [if_pos (by decide +kernel)]; kernel_rfl) | (rw [if_neg (by decide +kernel)]; exact ⟨rfl, rfl⟩))
    (fun os started H enc _ => lifted os started H enc)
end Go.Proofs.YtjffefbgeaabjaaDoor.fnExactShowType
namespace Go.Proofs.YtjffefbgeaabjaaDoor
open Go
/-- The tied card. -/
theorem fnExactShowType_holds : Rows.FnExactShowTypeCardSaid :=
  Claim7.holds_tied_plain_at .later [] [.data, .data, .data, .data, .mapped, .pinned, .pinned] true (true, "5ee3347a7496324887f2b87bc85acf73f3147323985fc8f43381cebe8b9ede6a") false
    fnExactShowType.over (fun _ h => by cases h) (by kernel_rfl) (fun _ h => by cases h) fnExactShowType_row_tie rfl ⟨rfl, rfl⟩ (by kernel_rfl) rfl
    (fun f fn hf hfn => by
      obtain rfl : f = 3 := Option.some.inj ((show Tryd.prog.funcNamed "loop.example/s01858/laws.FnExactShowType" = some 3 by kernel_rfl).symm.trans hf) |>.symm
      obtain rfl : fn = Tryd.f3 := (Option.some.inj (Tryd.func3.symm.trans hfn)).symm
      exact ⟨by kernel_rfl, fun j t ht => by
        rw [Tryd.params3] at ht
        have hm : t ∈ [2] := by simpa using Array.mem_of_getElem? ht
        have hall : ([2].all fun u => !Tryd.prog.wantsStandIn u) = true := by kernel_rfl
        exact (show Tryd.prog.wantsStandIn t = false by simpa using List.all_eq_true.1 hall t hm)⟩)
    (by kernel_rfl)
#print axioms fnExactShowType_holds
end Go.Proofs.YtjffefbgeaabjaaDoor
