/- Part 2 of 6 of the proof of FnExactDecode: what each Go function on its way computes, that the Go code does just this, and what the law says of it. No condition beyond the statement's own. -/
import Derived.Test.YtcamchdenjpmhaaDoorProg
import Derived.Below
import Derived.Deep.Draws
import Derived.Deep.AppendLies
import Derived.Maps.AppendAt
import Derived.OwnWalk
import Derived.Laws.BytesArg
import Derived.Laws.MakeOwn
import Derived.Laws.OwnMore
import Derived.Deep.OwnRows
import Derived.Tactics
import Derived.Lib.ConvBytes
import Derived.Laws.Slices
import Derived.WalkKit
import Derived.KernelRfl
import Derived.RowKit3
import Derived.Deep.LoopGhost
import Derived.Deep.QuietTactic
import Derived.BigQuiet
import Derived.WideLaws
import Derived.Deep.DeepCutAuto
import Derived.Deep.CutBlock
import Derived.Deep.RegionHeld3
import Derived.Laws.Rows
import Derived.Lib.AppendStr
import Derived.ArgAppend
import Derived.Laws.IdiomCopy
import Derived.OrdersHeld
import Derived.Laws.BitsLemmas
import Derived.RowKit
import Derived.Lib.Builder
import Derived.Lib.UnsafeStr
import Derived.Laws.Externs
import Derived.Lib.Walk
import Derived.Shelf.Strings.Builder1
import Derived.Shelf.Small.Strs
import Derived.RegionTactic
import Derived.BigRegion
import Derived.ChangeAlike
import Derived.Test.YtcamchdenjpmhaaDoorRows
import Derived.ProofKit
import Derived.LaidMore
import Derived.OpenShut
import Derived.Maps.Own
import Derived.Maps.StringElems
import Derived.Stop.Joined
import Derived.Test.YtcamchdenjpmhaaDoorMFnExactDecode1
namespace Go.Proofs.YtcamchdenjpmhaaDoor.F
open Go Go.Shelf Go.RowKit Go.Proofs.YtcamchdenjpmhaaDoorW.PrintWords Go.Proofs.YtcamchdenjpmhaaDoorW.PrintLast Go.Proofs.YtcamchdenjpmhaaDoorW.PrintMore
attribute [local go_sem] max2_int min2_int max_two min_two max_three min_three max_four min_four   -- for this text's walks alone
set_option linter.unusedVariables false
set_option linter.unusedSimpArgs false



def errW : Option Int → Value
  | none => .nilIface
  | some c => .iface 0 (.int .i64 c)
theorem errW_none : errW none = .nilIface := rfl
theorem errW_some (c : Int) : errW (some c) = .iface 0 (.int .i64 c) := rfl

theorem info2 : (Tryd.prog.info? 2).map (fun i => (i.zero, i.size, i.bytes)) = some (some (.int .i64 0), 1, 8) := by kernel_rfl
theorem info5 : (Tryd.prog.info? 5).map (fun i => (i.zero, i.size, i.bytes)) = some (some (.int .u8 0), 1, 1) := by kernel_rfl
theorem info9 : (Tryd.prog.info? 9).map (fun i => (i.zero, i.size, i.bytes)) = some (some (.string ⟨#[]⟩), 1, 16) := by kernel_rfl
-- the values' own types
def rd_L1 (xs : List (List Int)) (i : Int) : (List Int) := xs.getD i.toNat ([] : List Int)
theorem at_L1 {w : World} {A : Option Addr} {n : Nat} {xs : List (List Int)} (h : Kd.C (Kd.slice 5 (Kd.int .u8)) w A n xs) (i : Int) (h0 : 0 ≤ i) (h1 : i < n) : ∃ ad A0 c0, A = some ad ∧ w.cell? (ad.add i.toNat) = some (.slice A0 (rd_L1 xs i).length c0) ∧ (rd_L1 xs i).length ≤ c0 ∧ (Kd.int .u8).C w A0 (rd_L1 xs i).length (rd_L1 xs i) := by
  obtain ⟨ad, c, e, _, hK, hc0⟩ := Kd.C_get h ([] : List Int) i h0 h1
  have hc : ∀ j u, c[j]? = some u → w.cell? (ad.add (i.toNat * 1 + j)) = some u := hc0
  obtain ⟨A0, c0, rfl, l0, g0⟩ := hK
  exact ⟨ad, A0, c0, e, by have hq := hc 0 _ rfl; rwa [Nat.mul_one, Nat.add_zero] at hq, l0, g0⟩

/-! #### struct type 24 -/
structure S24 where
  f0 : Int
  f1 : Bool
  f2 : Int
  f3 : Bool
  f4 : Bool
  f5 : Bool
  f6 : Bool
  f7 : Bool
  f8 : Bool
  f9 : Bool
  f10 : Int
def z24 : S24 := ⟨(0 : Int), false, (0 : Int), false, false, false, false, false, false, false, (0 : Int)⟩
def k24 : Kd S24 := Kd.iso (Kd.pair (Kd.int .i64) (Kd.pair Kd.bool (Kd.pair (Kd.int .i64) (Kd.pair Kd.bool (Kd.pair Kd.bool (Kd.pair Kd.bool (Kd.pair Kd.bool (Kd.pair Kd.bool (Kd.pair Kd.bool (Kd.pair Kd.bool (Kd.int .i64))))))))))) (fun x : S24 => (x.f0, x.f1, x.f2, x.f3, x.f4, x.f5, x.f6, x.f7, x.f8, x.f9, x.f10))
theorem k24_open {w : World} {x : S24} {cs : List Value} (h : k24.K w x cs) : cs = [.int .i64 x.f0, .bool x.f1, .int .i64 x.f2, .bool x.f3, .bool x.f4, .bool x.f5, .bool x.f6, .bool x.f7, .bool x.f8, .bool x.f9, .int .i64 x.f10] := by
  obtain ⟨_, _, rfl, rfl, ⟨_, _, rfl, rfl, ⟨_, _, rfl, rfl, ⟨_, _, rfl, rfl, ⟨_, _, rfl, rfl, ⟨_, _, rfl, rfl, ⟨_, _, rfl, rfl, ⟨_, _, rfl, rfl, ⟨_, _, rfl, rfl, ⟨_, _, rfl, rfl, rfl⟩⟩⟩⟩⟩⟩⟩⟩⟩⟩ := h
  exact rfl
theorem k24_openM {w : World} {base : Nat} {ok : Nat → Prop} {x : S24} {cs : List Value} (h : k24.M w base ok x cs) : cs = [.int .i64 x.f0, .bool x.f1, .int .i64 x.f2, .bool x.f3, .bool x.f4, .bool x.f5, .bool x.f6, .bool x.f7, .bool x.f8, .bool x.f9, .int .i64 x.f10] := by
  obtain ⟨_, _, rfl, rfl, ⟨_, _, rfl, rfl, ⟨_, _, rfl, rfl, ⟨_, _, rfl, rfl, ⟨_, _, rfl, rfl, ⟨_, _, rfl, rfl, ⟨_, _, rfl, rfl, ⟨_, _, rfl, rfl, ⟨_, _, rfl, rfl, ⟨_, _, rfl, rfl, rfl⟩⟩⟩⟩⟩⟩⟩⟩⟩⟩ := h
  exact rfl
theorem k24_mk (w : World) (x : S24)  : k24.K w x [.int .i64 x.f0, .bool x.f1, .int .i64 x.f2, .bool x.f3, .bool x.f4, .bool x.f5, .bool x.f6, .bool x.f7, .bool x.f8, .bool x.f9, .int .i64 x.f10] := ⟨[.int .i64 x.f0], [.bool x.f1, .int .i64 x.f2, .bool x.f3, .bool x.f4, .bool x.f5, .bool x.f6, .bool x.f7, .bool x.f8, .bool x.f9, .int .i64 x.f10], rfl, rfl, ⟨[.bool x.f1], [.int .i64 x.f2, .bool x.f3, .bool x.f4, .bool x.f5, .bool x.f6, .bool x.f7, .bool x.f8, .bool x.f9, .int .i64 x.f10], rfl, rfl, ⟨[.int .i64 x.f2], [.bool x.f3, .bool x.f4, .bool x.f5, .bool x.f6, .bool x.f7, .bool x.f8, .bool x.f9, .int .i64 x.f10], rfl, rfl, ⟨[.bool x.f3], [.bool x.f4, .bool x.f5, .bool x.f6, .bool x.f7, .bool x.f8, .bool x.f9, .int .i64 x.f10], rfl, rfl, ⟨[.bool x.f4], [.bool x.f5, .bool x.f6, .bool x.f7, .bool x.f8, .bool x.f9, .int .i64 x.f10], rfl, rfl, ⟨[.bool x.f5], [.bool x.f6, .bool x.f7, .bool x.f8, .bool x.f9, .int .i64 x.f10], rfl, rfl, ⟨[.bool x.f6], [.bool x.f7, .bool x.f8, .bool x.f9, .int .i64 x.f10], rfl, rfl, ⟨[.bool x.f7], [.bool x.f8, .bool x.f9, .int .i64 x.f10], rfl, rfl, ⟨[.bool x.f8], [.bool x.f9, .int .i64 x.f10], rfl, rfl, ⟨[.bool x.f9], [.int .i64 x.f10], rfl, rfl, rfl⟩⟩⟩⟩⟩⟩⟩⟩⟩⟩
theorem k24_mkM (w : World) (base : Nat) (ok : Nat → Prop) (x : S24)  : k24.M w base ok x [.int .i64 x.f0, .bool x.f1, .int .i64 x.f2, .bool x.f3, .bool x.f4, .bool x.f5, .bool x.f6, .bool x.f7, .bool x.f8, .bool x.f9, .int .i64 x.f10] := ⟨[.int .i64 x.f0], [.bool x.f1, .int .i64 x.f2, .bool x.f3, .bool x.f4, .bool x.f5, .bool x.f6, .bool x.f7, .bool x.f8, .bool x.f9, .int .i64 x.f10], rfl, rfl, ⟨[.bool x.f1], [.int .i64 x.f2, .bool x.f3, .bool x.f4, .bool x.f5, .bool x.f6, .bool x.f7, .bool x.f8, .bool x.f9, .int .i64 x.f10], rfl, rfl, ⟨[.int .i64 x.f2], [.bool x.f3, .bool x.f4, .bool x.f5, .bool x.f6, .bool x.f7, .bool x.f8, .bool x.f9, .int .i64 x.f10], rfl, rfl, ⟨[.bool x.f3], [.bool x.f4, .bool x.f5, .bool x.f6, .bool x.f7, .bool x.f8, .bool x.f9, .int .i64 x.f10], rfl, rfl, ⟨[.bool x.f4], [.bool x.f5, .bool x.f6, .bool x.f7, .bool x.f8, .bool x.f9, .int .i64 x.f10], rfl, rfl, ⟨[.bool x.f5], [.bool x.f6, .bool x.f7, .bool x.f8, .bool x.f9, .int .i64 x.f10], rfl, rfl, ⟨[.bool x.f6], [.bool x.f7, .bool x.f8, .bool x.f9, .int .i64 x.f10], rfl, rfl, ⟨[.bool x.f7], [.bool x.f8, .bool x.f9, .int .i64 x.f10], rfl, rfl, ⟨[.bool x.f8], [.bool x.f9, .int .i64 x.f10], rfl, rfl, ⟨[.bool x.f9], [.int .i64 x.f10], rfl, rfl, rfl⟩⟩⟩⟩⟩⟩⟩⟩⟩⟩
def rd_T24 (xs : List S24) (i : Int) : S24 := xs.getD i.toNat z24
theorem at_T24 {w : World} {A : Option Addr} {n : Nat} {xs : List S24} (h : Kd.C k24 w A n xs) (i : Int) (h0 : 0 ≤ i) (h1 : i < n) : ∃ ad , A = some ad ∧ w.cell? (ad.add (i.toNat * 11)) = some (.int .i64 (rd_T24 xs i).f0) ∧ w.cell? ⟨(ad.add (i.toNat * 11)).block, (ad.add (i.toNat * 11)).off + 1, none⟩ = some (.bool (rd_T24 xs i).f1) ∧ w.cell? ⟨(ad.add (i.toNat * 11)).block, (ad.add (i.toNat * 11)).off + 2, none⟩ = some (.int .i64 (rd_T24 xs i).f2) ∧ w.cell? ⟨(ad.add (i.toNat * 11)).block, (ad.add (i.toNat * 11)).off + 3, none⟩ = some (.bool (rd_T24 xs i).f3) ∧ w.cell? ⟨(ad.add (i.toNat * 11)).block, (ad.add (i.toNat * 11)).off + 4, none⟩ = some (.bool (rd_T24 xs i).f4) ∧ w.cell? ⟨(ad.add (i.toNat * 11)).block, (ad.add (i.toNat * 11)).off + 5, none⟩ = some (.bool (rd_T24 xs i).f5) ∧ w.cell? ⟨(ad.add (i.toNat * 11)).block, (ad.add (i.toNat * 11)).off + 6, none⟩ = some (.bool (rd_T24 xs i).f6) ∧ w.cell? ⟨(ad.add (i.toNat * 11)).block, (ad.add (i.toNat * 11)).off + 7, none⟩ = some (.bool (rd_T24 xs i).f7) ∧ w.cell? ⟨(ad.add (i.toNat * 11)).block, (ad.add (i.toNat * 11)).off + 8, none⟩ = some (.bool (rd_T24 xs i).f8) ∧ w.cell? ⟨(ad.add (i.toNat * 11)).block, (ad.add (i.toNat * 11)).off + 9, none⟩ = some (.bool (rd_T24 xs i).f9) ∧ w.cell? ⟨(ad.add (i.toNat * 11)).block, (ad.add (i.toNat * 11)).off + 10, none⟩ = some (.int .i64 (rd_T24 xs i).f10) := by
  obtain ⟨ad, c, e, _, hK, hc0⟩ := Kd.C_get h z24 i h0 h1
  have hc : ∀ j u, c[j]? = some u → w.cell? (ad.add (i.toNat * 11 + j)) = some u := hc0
  obtain rfl := k24_open hK
  exact ⟨ad, e, hc 0 _ rfl, by rw [← add_field _ _ 1 (by omega)]; exact hc 1 _ rfl, by rw [← add_field _ _ 2 (by omega)]; exact hc 2 _ rfl, by rw [← add_field _ _ 3 (by omega)]; exact hc 3 _ rfl, by rw [← add_field _ _ 4 (by omega)]; exact hc 4 _ rfl, by rw [← add_field _ _ 5 (by omega)]; exact hc 5 _ rfl, by rw [← add_field _ _ 6 (by omega)]; exact hc 6 _ rfl, by rw [← add_field _ _ 7 (by omega)]; exact hc 7 _ rfl, by rw [← add_field _ _ 8 (by omega)]; exact hc 8 _ rfl, by rw [← add_field _ _ 9 (by omega)]; exact hc 9 _ rfl, by rw [← add_field _ _ 10 (by omega)]; exact hc 10 _ rfl⟩

/-! #### struct type 39 -/
structure S39 where
  f0 : Int
  f1 : Int
  f2 : Int
  f3 : Int
def z39 : S39 := ⟨(0 : Int), (0 : Int), (0 : Int), (0 : Int)⟩
def k39 : Kd S39 := Kd.iso (Kd.pair (Kd.int .i64) (Kd.pair (Kd.int .i64) (Kd.pair (Kd.int .i64) (Kd.int .i64)))) (fun x : S39 => (x.f0, x.f1, x.f2, x.f3))
theorem k39_open {w : World} {x : S39} {cs : List Value} (h : k39.K w x cs) : cs = [.int .i64 x.f0, .int .i64 x.f1, .int .i64 x.f2, .int .i64 x.f3] := by
  obtain ⟨_, _, rfl, rfl, ⟨_, _, rfl, rfl, ⟨_, _, rfl, rfl, rfl⟩⟩⟩ := h
  exact rfl
theorem k39_openM {w : World} {base : Nat} {ok : Nat → Prop} {x : S39} {cs : List Value} (h : k39.M w base ok x cs) : cs = [.int .i64 x.f0, .int .i64 x.f1, .int .i64 x.f2, .int .i64 x.f3] := by
  obtain ⟨_, _, rfl, rfl, ⟨_, _, rfl, rfl, ⟨_, _, rfl, rfl, rfl⟩⟩⟩ := h
  exact rfl
theorem k39_mk (w : World) (x : S39)  : k39.K w x [.int .i64 x.f0, .int .i64 x.f1, .int .i64 x.f2, .int .i64 x.f3] := ⟨[.int .i64 x.f0], [.int .i64 x.f1, .int .i64 x.f2, .int .i64 x.f3], rfl, rfl, ⟨[.int .i64 x.f1], [.int .i64 x.f2, .int .i64 x.f3], rfl, rfl, ⟨[.int .i64 x.f2], [.int .i64 x.f3], rfl, rfl, rfl⟩⟩⟩
theorem k39_mkM (w : World) (base : Nat) (ok : Nat → Prop) (x : S39)  : k39.M w base ok x [.int .i64 x.f0, .int .i64 x.f1, .int .i64 x.f2, .int .i64 x.f3] := ⟨[.int .i64 x.f0], [.int .i64 x.f1, .int .i64 x.f2, .int .i64 x.f3], rfl, rfl, ⟨[.int .i64 x.f1], [.int .i64 x.f2, .int .i64 x.f3], rfl, rfl, ⟨[.int .i64 x.f2], [.int .i64 x.f3], rfl, rfl, rfl⟩⟩⟩
def rd_T39 (xs : List S39) (i : Int) : S39 := xs.getD i.toNat z39
theorem at_T39 {w : World} {A : Option Addr} {n : Nat} {xs : List S39} (h : Kd.C k39 w A n xs) (i : Int) (h0 : 0 ≤ i) (h1 : i < n) : ∃ ad , A = some ad ∧ w.cell? (ad.add (i.toNat * 4)) = some (.int .i64 (rd_T39 xs i).f0) ∧ w.cell? ⟨(ad.add (i.toNat * 4)).block, (ad.add (i.toNat * 4)).off + 1, none⟩ = some (.int .i64 (rd_T39 xs i).f1) ∧ w.cell? ⟨(ad.add (i.toNat * 4)).block, (ad.add (i.toNat * 4)).off + 2, none⟩ = some (.int .i64 (rd_T39 xs i).f2) ∧ w.cell? ⟨(ad.add (i.toNat * 4)).block, (ad.add (i.toNat * 4)).off + 3, none⟩ = some (.int .i64 (rd_T39 xs i).f3) := by
  obtain ⟨ad, c, e, _, hK, hc0⟩ := Kd.C_get h z39 i h0 h1
  have hc : ∀ j u, c[j]? = some u → w.cell? (ad.add (i.toNat * 4 + j)) = some u := hc0
  obtain rfl := k39_open hK
  exact ⟨ad, e, hc 0 _ rfl, by rw [← add_field _ _ 1 (by omega)]; exact hc 1 _ rfl, by rw [← add_field _ _ 2 (by omega)]; exact hc 2 _ rfl, by rw [← add_field _ _ 3 (by omega)]; exact hc 3 _ rfl⟩

def rd_L7 (xs : List (List ByteArray)) (i : Int) : (List ByteArray) := xs.getD i.toNat ([] : List ByteArray)
theorem at_L7 {w : World} {A : Option Addr} {n : Nat} {xs : List (List ByteArray)} (h : Kd.C (Kd.slice 9 Kd.string) w A n xs) (i : Int) (h0 : 0 ≤ i) (h1 : i < n) : ∃ ad A0 c0, A = some ad ∧ w.cell? (ad.add i.toNat) = some (.slice A0 (rd_L7 xs i).length c0) ∧ (rd_L7 xs i).length ≤ c0 ∧ Kd.string.C w A0 (rd_L7 xs i).length (rd_L7 xs i) := by
  obtain ⟨ad, c, e, _, hK, hc0⟩ := Kd.C_get h ([] : List ByteArray) i h0 h1
  have hc : ∀ j u, c[j]? = some u → w.cell? (ad.add (i.toNat * 1 + j)) = some u := hc0
  obtain ⟨A0, c0, rfl, l0, g0⟩ := hK
  exact ⟨ad, A0, c0, e, by have hq := hc 0 _ rfl; rwa [Nat.mul_one, Nat.add_zero] at hq, l0, g0⟩

/-! #### struct type 47 -/
structure S47 where
  f0 : ByteArray
  f1 : Int
  f2 : Int
def z47 : S47 := ⟨(⟨#[]⟩ : ByteArray), (0 : Int), (0 : Int)⟩
def k47 : Kd S47 := Kd.iso (Kd.pair Kd.string (Kd.pair (Kd.int .i64) (Kd.int .i64))) (fun x : S47 => (x.f0, x.f1, x.f2))
theorem k47_open {w : World} {x : S47} {cs : List Value} (h : k47.K w x cs) : cs = [.string x.f0, .int .i64 x.f1, .int .i64 x.f2] := by
  obtain ⟨_, _, rfl, rfl, ⟨_, _, rfl, rfl, rfl⟩⟩ := h
  exact rfl
theorem k47_openM {w : World} {base : Nat} {ok : Nat → Prop} {x : S47} {cs : List Value} (h : k47.M w base ok x cs) : cs = [.string x.f0, .int .i64 x.f1, .int .i64 x.f2] := by
  obtain ⟨_, _, rfl, rfl, ⟨_, _, rfl, rfl, rfl⟩⟩ := h
  exact rfl
theorem k47_mk (w : World) (x : S47)  : k47.K w x [.string x.f0, .int .i64 x.f1, .int .i64 x.f2] := ⟨[.string x.f0], [.int .i64 x.f1, .int .i64 x.f2], rfl, rfl, ⟨[.int .i64 x.f1], [.int .i64 x.f2], rfl, rfl, rfl⟩⟩
theorem k47_mkM (w : World) (base : Nat) (ok : Nat → Prop) (x : S47)  : k47.M w base ok x [.string x.f0, .int .i64 x.f1, .int .i64 x.f2] := ⟨[.string x.f0], [.int .i64 x.f1, .int .i64 x.f2], rfl, rfl, ⟨[.int .i64 x.f1], [.int .i64 x.f2], rfl, rfl, rfl⟩⟩
def rd_T47 (xs : List S47) (i : Int) : S47 := xs.getD i.toNat z47
theorem at_T47 {w : World} {A : Option Addr} {n : Nat} {xs : List S47} (h : Kd.C k47 w A n xs) (i : Int) (h0 : 0 ≤ i) (h1 : i < n) : ∃ ad , A = some ad ∧ w.cell? (ad.add (i.toNat * 3)) = some (.string (rd_T47 xs i).f0) ∧ w.cell? ⟨(ad.add (i.toNat * 3)).block, (ad.add (i.toNat * 3)).off + 1, none⟩ = some (.int .i64 (rd_T47 xs i).f1) ∧ w.cell? ⟨(ad.add (i.toNat * 3)).block, (ad.add (i.toNat * 3)).off + 2, none⟩ = some (.int .i64 (rd_T47 xs i).f2) := by
  obtain ⟨ad, c, e, _, hK, hc0⟩ := Kd.C_get h z47 i h0 h1
  have hc : ∀ j u, c[j]? = some u → w.cell? (ad.add (i.toNat * 3 + j)) = some u := hc0
  obtain rfl := k47_open hK
  exact ⟨ad, e, hc 0 _ rfl, by rw [← add_field _ _ 1 (by omega)]; exact hc 1 _ rfl, by rw [← add_field _ _ 2 (by omega)]; exact hc 2 _ rfl⟩

def rd_L9 (xs : List (List S47)) (i : Int) : (List S47) := xs.getD i.toNat ([] : List S47)
theorem at_L9 {w : World} {A : Option Addr} {n : Nat} {xs : List (List S47)} (h : Kd.C (Kd.slice 47 k47) w A n xs) (i : Int) (h0 : 0 ≤ i) (h1 : i < n) : ∃ ad A0 c0, A = some ad ∧ w.cell? (ad.add i.toNat) = some (.slice A0 (rd_L9 xs i).length c0) ∧ (rd_L9 xs i).length ≤ c0 ∧ k47.C w A0 (rd_L9 xs i).length (rd_L9 xs i) := by
  obtain ⟨ad, c, e, _, hK, hc0⟩ := Kd.C_get h ([] : List S47) i h0 h1
  have hc : ∀ j u, c[j]? = some u → w.cell? (ad.add (i.toNat * 1 + j)) = some u := hc0
  obtain ⟨A0, c0, rfl, l0, g0⟩ := hK
  exact ⟨ad, A0, c0, e, by have hq := hc 0 _ rfl; rwa [Nat.mul_one, Nat.add_zero] at hq, l0, g0⟩

/-! #### struct type 53 -/
structure S53 where
  f0 : ByteArray
  f1 : Int
  f2 : Int
  f3 : Int
  f4 : ByteArray
def z53 : S53 := ⟨(⟨#[]⟩ : ByteArray), (0 : Int), (0 : Int), (0 : Int), (⟨#[]⟩ : ByteArray)⟩
def k53 : Kd S53 := Kd.iso (Kd.pair Kd.string (Kd.pair (Kd.int .i64) (Kd.pair (Kd.int .i64) (Kd.pair (Kd.int .i64) Kd.string)))) (fun x : S53 => (x.f0, x.f1, x.f2, x.f3, x.f4))
theorem k53_open {w : World} {x : S53} {cs : List Value} (h : k53.K w x cs) : cs = [.string x.f0, .int .i64 x.f1, .int .i64 x.f2, .int .i64 x.f3, .string x.f4] := by
  obtain ⟨_, _, rfl, rfl, ⟨_, _, rfl, rfl, ⟨_, _, rfl, rfl, ⟨_, _, rfl, rfl, rfl⟩⟩⟩⟩ := h
  exact rfl
theorem k53_openM {w : World} {base : Nat} {ok : Nat → Prop} {x : S53} {cs : List Value} (h : k53.M w base ok x cs) : cs = [.string x.f0, .int .i64 x.f1, .int .i64 x.f2, .int .i64 x.f3, .string x.f4] := by
  obtain ⟨_, _, rfl, rfl, ⟨_, _, rfl, rfl, ⟨_, _, rfl, rfl, ⟨_, _, rfl, rfl, rfl⟩⟩⟩⟩ := h
  exact rfl
theorem k53_mk (w : World) (x : S53)  : k53.K w x [.string x.f0, .int .i64 x.f1, .int .i64 x.f2, .int .i64 x.f3, .string x.f4] := ⟨[.string x.f0], [.int .i64 x.f1, .int .i64 x.f2, .int .i64 x.f3, .string x.f4], rfl, rfl, ⟨[.int .i64 x.f1], [.int .i64 x.f2, .int .i64 x.f3, .string x.f4], rfl, rfl, ⟨[.int .i64 x.f2], [.int .i64 x.f3, .string x.f4], rfl, rfl, ⟨[.int .i64 x.f3], [.string x.f4], rfl, rfl, rfl⟩⟩⟩⟩
theorem k53_mkM (w : World) (base : Nat) (ok : Nat → Prop) (x : S53)  : k53.M w base ok x [.string x.f0, .int .i64 x.f1, .int .i64 x.f2, .int .i64 x.f3, .string x.f4] := ⟨[.string x.f0], [.int .i64 x.f1, .int .i64 x.f2, .int .i64 x.f3, .string x.f4], rfl, rfl, ⟨[.int .i64 x.f1], [.int .i64 x.f2, .int .i64 x.f3, .string x.f4], rfl, rfl, ⟨[.int .i64 x.f2], [.int .i64 x.f3, .string x.f4], rfl, rfl, ⟨[.int .i64 x.f3], [.string x.f4], rfl, rfl, rfl⟩⟩⟩⟩
def rd_T53 (xs : List S53) (i : Int) : S53 := xs.getD i.toNat z53
theorem at_T53 {w : World} {A : Option Addr} {n : Nat} {xs : List S53} (h : Kd.C k53 w A n xs) (i : Int) (h0 : 0 ≤ i) (h1 : i < n) : ∃ ad , A = some ad ∧ w.cell? (ad.add (i.toNat * 5)) = some (.string (rd_T53 xs i).f0) ∧ w.cell? ⟨(ad.add (i.toNat * 5)).block, (ad.add (i.toNat * 5)).off + 1, none⟩ = some (.int .i64 (rd_T53 xs i).f1) ∧ w.cell? ⟨(ad.add (i.toNat * 5)).block, (ad.add (i.toNat * 5)).off + 2, none⟩ = some (.int .i64 (rd_T53 xs i).f2) ∧ w.cell? ⟨(ad.add (i.toNat * 5)).block, (ad.add (i.toNat * 5)).off + 3, none⟩ = some (.int .i64 (rd_T53 xs i).f3) ∧ w.cell? ⟨(ad.add (i.toNat * 5)).block, (ad.add (i.toNat * 5)).off + 4, none⟩ = some (.string (rd_T53 xs i).f4) := by
  obtain ⟨ad, c, e, _, hK, hc0⟩ := Kd.C_get h z53 i h0 h1
  have hc : ∀ j u, c[j]? = some u → w.cell? (ad.add (i.toNat * 5 + j)) = some u := hc0
  obtain rfl := k53_open hK
  exact ⟨ad, e, hc 0 _ rfl, by rw [← add_field _ _ 1 (by omega)]; exact hc 1 _ rfl, by rw [← add_field _ _ 2 (by omega)]; exact hc 2 _ rfl, by rw [← add_field _ _ 3 (by omega)]; exact hc 3 _ rfl, by rw [← add_field _ _ 4 (by omega)]; exact hc 4 _ rfl⟩

def rd_L11 (xs : List (List S53)) (i : Int) : (List S53) := xs.getD i.toNat ([] : List S53)
theorem at_L11 {w : World} {A : Option Addr} {n : Nat} {xs : List (List S53)} (h : Kd.C (Kd.slice 53 k53) w A n xs) (i : Int) (h0 : 0 ≤ i) (h1 : i < n) : ∃ ad A0 c0, A = some ad ∧ w.cell? (ad.add i.toNat) = some (.slice A0 (rd_L11 xs i).length c0) ∧ (rd_L11 xs i).length ≤ c0 ∧ k53.C w A0 (rd_L11 xs i).length (rd_L11 xs i) := by
  obtain ⟨ad, c, e, _, hK, hc0⟩ := Kd.C_get h ([] : List S53) i h0 h1
  have hc : ∀ j u, c[j]? = some u → w.cell? (ad.add (i.toNat * 1 + j)) = some u := hc0
  obtain ⟨A0, c0, rfl, l0, g0⟩ := hK
  exact ⟨ad, A0, c0, e, by have hq := hc 0 _ rfl; rwa [Nat.mul_one, Nat.add_zero] at hq, l0, g0⟩

/-! #### struct type 28 -/
structure S28 where
  f0 : S24
  f1 : (List S47)
  f2 : (List S53)
  f3 : (List S53)
  f4 : (List S53)
def z28 : S28 := ⟨z24, ([] : List S47), ([] : List S53), ([] : List S53), ([] : List S53)⟩
def k28 : Kd S28 := Kd.iso (Kd.pair k24 (Kd.pair (Kd.slice 47 k47) (Kd.pair (Kd.slice 53 k53) (Kd.pair (Kd.slice 53 k53) (Kd.slice 53 k53))))) (fun x : S28 => (x.f0, x.f1, x.f2, x.f3, x.f4))
theorem k28_open {w : World} {x : S28} {cs : List Value} (h : k28.K w x cs) : ∃ A11 c11 A12 c12 A13 c13 A14 c14, cs = [.int .i64 x.f0.f0, .bool x.f0.f1, .int .i64 x.f0.f2, .bool x.f0.f3, .bool x.f0.f4, .bool x.f0.f5, .bool x.f0.f6, .bool x.f0.f7, .bool x.f0.f8, .bool x.f0.f9, .int .i64 x.f0.f10, .slice A11 x.f1.length c11, .slice A12 x.f2.length c12, .slice A13 x.f3.length c13, .slice A14 x.f4.length c14] ∧ x.f1.length ≤ c11 ∧ k47.C w A11 x.f1.length x.f1 ∧ x.f2.length ≤ c12 ∧ k53.C w A12 x.f2.length x.f2 ∧ x.f3.length ≤ c13 ∧ k53.C w A13 x.f3.length x.f3 ∧ x.f4.length ≤ c14 ∧ k53.C w A14 x.f4.length x.f4 := by
  obtain ⟨_, _, rfl, s0, ⟨_, _, rfl, ⟨A11, c11, rfl, l11, g11⟩, ⟨_, _, rfl, ⟨A12, c12, rfl, l12, g12⟩, ⟨_, _, rfl, ⟨A13, c13, rfl, l13, g13⟩, ⟨A14, c14, rfl, l14, g14⟩⟩⟩⟩⟩ := h
  obtain rfl := k24_open s0
  exact ⟨A11, c11, A12, c12, A13, c13, A14, c14, rfl, l11, g11, l12, g12, l13, g13, l14, g14⟩
theorem k28_openM {w : World} {base : Nat} {ok : Nat → Prop} {x : S28} {cs : List Value} (h : k28.M w base ok x cs) : ∃ v11 v12 v13 v14, cs = [.int .i64 x.f0.f0, .bool x.f0.f1, .int .i64 x.f0.f2, .bool x.f0.f3, .bool x.f0.f4, .bool x.f0.f5, .bool x.f0.f6, .bool x.f0.f7, .bool x.f0.f8, .bool x.f0.f9, .int .i64 x.f0.f10, v11, v12, v13, v14] ∧ k47.R 47 w base ok v11 x.f1 ∧ k53.R 53 w base ok v12 x.f2 ∧ k53.R 53 w base ok v13 x.f3 ∧ k53.R 53 w base ok v14 x.f4 := by
  obtain ⟨_, _, rfl, s0, ⟨_, _, rfl, ⟨v11, rfl, g11⟩, ⟨_, _, rfl, ⟨v12, rfl, g12⟩, ⟨_, _, rfl, ⟨v13, rfl, g13⟩, ⟨v14, rfl, g14⟩⟩⟩⟩⟩ := h
  obtain rfl := k24_openM s0
  exact ⟨v11, v12, v13, v14, rfl, g11, g12, g13, g14⟩
theorem k28_mk (w : World) (x : S28) {A11 : Option Addr} {c11 : Nat} (l11 : x.f1.length ≤ c11) (g11 : k47.C w A11 x.f1.length x.f1) {A12 : Option Addr} {c12 : Nat} (l12 : x.f2.length ≤ c12) (g12 : k53.C w A12 x.f2.length x.f2) {A13 : Option Addr} {c13 : Nat} (l13 : x.f3.length ≤ c13) (g13 : k53.C w A13 x.f3.length x.f3) {A14 : Option Addr} {c14 : Nat} (l14 : x.f4.length ≤ c14) (g14 : k53.C w A14 x.f4.length x.f4) : k28.K w x [.int .i64 x.f0.f0, .bool x.f0.f1, .int .i64 x.f0.f2, .bool x.f0.f3, .bool x.f0.f4, .bool x.f0.f5, .bool x.f0.f6, .bool x.f0.f7, .bool x.f0.f8, .bool x.f0.f9, .int .i64 x.f0.f10, .slice A11 x.f1.length c11, .slice A12 x.f2.length c12, .slice A13 x.f3.length c13, .slice A14 x.f4.length c14] := ⟨[.int .i64 x.f0.f0, .bool x.f0.f1, .int .i64 x.f0.f2, .bool x.f0.f3, .bool x.f0.f4, .bool x.f0.f5, .bool x.f0.f6, .bool x.f0.f7, .bool x.f0.f8, .bool x.f0.f9, .int .i64 x.f0.f10], [.slice A11 x.f1.length c11, .slice A12 x.f2.length c12, .slice A13 x.f3.length c13, .slice A14 x.f4.length c14], rfl, (k24_mk w x.f0 ), ⟨[.slice A11 x.f1.length c11], [.slice A12 x.f2.length c12, .slice A13 x.f3.length c13, .slice A14 x.f4.length c14], rfl, ⟨A11, c11, rfl, l11, g11⟩, ⟨[.slice A12 x.f2.length c12], [.slice A13 x.f3.length c13, .slice A14 x.f4.length c14], rfl, ⟨A12, c12, rfl, l12, g12⟩, ⟨[.slice A13 x.f3.length c13], [.slice A14 x.f4.length c14], rfl, ⟨A13, c13, rfl, l13, g13⟩, ⟨A14, c14, rfl, l14, g14⟩⟩⟩⟩⟩
theorem k28_mkM (w : World) (base : Nat) (ok : Nat → Prop) (x : S28) {v11 : Value} (g11 : k47.R 47 w base ok v11 x.f1) {v12 : Value} (g12 : k53.R 53 w base ok v12 x.f2) {v13 : Value} (g13 : k53.R 53 w base ok v13 x.f3) {v14 : Value} (g14 : k53.R 53 w base ok v14 x.f4) : k28.M w base ok x [.int .i64 x.f0.f0, .bool x.f0.f1, .int .i64 x.f0.f2, .bool x.f0.f3, .bool x.f0.f4, .bool x.f0.f5, .bool x.f0.f6, .bool x.f0.f7, .bool x.f0.f8, .bool x.f0.f9, .int .i64 x.f0.f10, v11, v12, v13, v14] := ⟨[.int .i64 x.f0.f0, .bool x.f0.f1, .int .i64 x.f0.f2, .bool x.f0.f3, .bool x.f0.f4, .bool x.f0.f5, .bool x.f0.f6, .bool x.f0.f7, .bool x.f0.f8, .bool x.f0.f9, .int .i64 x.f0.f10], [v11, v12, v13, v14], rfl, (k24_mkM w base ok x.f0 ), ⟨[v11], [v12, v13, v14], rfl, ⟨v11, rfl, g11⟩, ⟨[v12], [v13, v14], rfl, ⟨v12, rfl, g12⟩, ⟨[v13], [v14], rfl, ⟨v13, rfl, g13⟩, ⟨v14, rfl, g14⟩⟩⟩⟩⟩
def rd_T28 (xs : List S28) (i : Int) : S28 := xs.getD i.toNat z28
theorem at_T28 {w : World} {A : Option Addr} {n : Nat} {xs : List S28} (h : Kd.C k28 w A n xs) (i : Int) (h0 : 0 ≤ i) (h1 : i < n) : ∃ ad A11 c11 A12 c12 A13 c13 A14 c14, A = some ad ∧ w.cell? (ad.add (i.toNat * 15)) = some (.int .i64 (rd_T28 xs i).f0.f0) ∧ w.cell? ⟨(ad.add (i.toNat * 15)).block, (ad.add (i.toNat * 15)).off + 1, none⟩ = some (.bool (rd_T28 xs i).f0.f1) ∧ w.cell? ⟨(ad.add (i.toNat * 15)).block, (ad.add (i.toNat * 15)).off + 2, none⟩ = some (.int .i64 (rd_T28 xs i).f0.f2) ∧ w.cell? ⟨(ad.add (i.toNat * 15)).block, (ad.add (i.toNat * 15)).off + 3, none⟩ = some (.bool (rd_T28 xs i).f0.f3) ∧ w.cell? ⟨(ad.add (i.toNat * 15)).block, (ad.add (i.toNat * 15)).off + 4, none⟩ = some (.bool (rd_T28 xs i).f0.f4) ∧ w.cell? ⟨(ad.add (i.toNat * 15)).block, (ad.add (i.toNat * 15)).off + 5, none⟩ = some (.bool (rd_T28 xs i).f0.f5) ∧ w.cell? ⟨(ad.add (i.toNat * 15)).block, (ad.add (i.toNat * 15)).off + 6, none⟩ = some (.bool (rd_T28 xs i).f0.f6) ∧ w.cell? ⟨(ad.add (i.toNat * 15)).block, (ad.add (i.toNat * 15)).off + 7, none⟩ = some (.bool (rd_T28 xs i).f0.f7) ∧ w.cell? ⟨(ad.add (i.toNat * 15)).block, (ad.add (i.toNat * 15)).off + 8, none⟩ = some (.bool (rd_T28 xs i).f0.f8) ∧ w.cell? ⟨(ad.add (i.toNat * 15)).block, (ad.add (i.toNat * 15)).off + 9, none⟩ = some (.bool (rd_T28 xs i).f0.f9) ∧ w.cell? ⟨(ad.add (i.toNat * 15)).block, (ad.add (i.toNat * 15)).off + 10, none⟩ = some (.int .i64 (rd_T28 xs i).f0.f10) ∧ w.cell? ⟨(ad.add (i.toNat * 15)).block, (ad.add (i.toNat * 15)).off + 11, none⟩ = some (.slice A11 (rd_T28 xs i).f1.length c11) ∧ w.cell? ⟨(ad.add (i.toNat * 15)).block, (ad.add (i.toNat * 15)).off + 12, none⟩ = some (.slice A12 (rd_T28 xs i).f2.length c12) ∧ w.cell? ⟨(ad.add (i.toNat * 15)).block, (ad.add (i.toNat * 15)).off + 13, none⟩ = some (.slice A13 (rd_T28 xs i).f3.length c13) ∧ w.cell? ⟨(ad.add (i.toNat * 15)).block, (ad.add (i.toNat * 15)).off + 14, none⟩ = some (.slice A14 (rd_T28 xs i).f4.length c14) ∧ (rd_T28 xs i).f1.length ≤ c11 ∧ k47.C w A11 (rd_T28 xs i).f1.length (rd_T28 xs i).f1 ∧ (rd_T28 xs i).f2.length ≤ c12 ∧ k53.C w A12 (rd_T28 xs i).f2.length (rd_T28 xs i).f2 ∧ (rd_T28 xs i).f3.length ≤ c13 ∧ k53.C w A13 (rd_T28 xs i).f3.length (rd_T28 xs i).f3 ∧ (rd_T28 xs i).f4.length ≤ c14 ∧ k53.C w A14 (rd_T28 xs i).f4.length (rd_T28 xs i).f4 := by
  obtain ⟨ad, c, e, _, hK, hc0⟩ := Kd.C_get h z28 i h0 h1
  have hc : ∀ j u, c[j]? = some u → w.cell? (ad.add (i.toNat * 15 + j)) = some u := hc0
  obtain ⟨A11, c11, A12, c12, A13, c13, A14, c14, rfl, l11, g11, l12, g12, l13, g13, l14, g14⟩ := k28_open hK
  exact ⟨ad, A11, c11, A12, c12, A13, c13, A14, c14, e, hc 0 _ rfl, by rw [← add_field _ _ 1 (by omega)]; exact hc 1 _ rfl, by rw [← add_field _ _ 2 (by omega)]; exact hc 2 _ rfl, by rw [← add_field _ _ 3 (by omega)]; exact hc 3 _ rfl, by rw [← add_field _ _ 4 (by omega)]; exact hc 4 _ rfl, by rw [← add_field _ _ 5 (by omega)]; exact hc 5 _ rfl, by rw [← add_field _ _ 6 (by omega)]; exact hc 6 _ rfl, by rw [← add_field _ _ 7 (by omega)]; exact hc 7 _ rfl, by rw [← add_field _ _ 8 (by omega)]; exact hc 8 _ rfl, by rw [← add_field _ _ 9 (by omega)]; exact hc 9 _ rfl, by rw [← add_field _ _ 10 (by omega)]; exact hc 10 _ rfl, by rw [← add_field _ _ 11 (by omega)]; exact hc 11 _ rfl, by rw [← add_field _ _ 12 (by omega)]; exact hc 12 _ rfl, by rw [← add_field _ _ 13 (by omega)]; exact hc 13 _ rfl, by rw [← add_field _ _ 14 (by omega)]; exact hc 14 _ rfl, l11, g11, l12, g12, l13, g13, l14, g14⟩

/-! #### struct type 87 -/
structure S87 where
  f0 : Int
  f1 : Int
def z87 : S87 := ⟨(0 : Int), (0 : Int)⟩
def k87 : Kd S87 := Kd.iso (Kd.pair (Kd.int .i64) (Kd.int .i64)) (fun x : S87 => (x.f0, x.f1))
theorem k87_open {w : World} {x : S87} {cs : List Value} (h : k87.K w x cs) : cs = [.int .i64 x.f0, .int .i64 x.f1] := by
  obtain ⟨_, _, rfl, rfl, rfl⟩ := h
  exact rfl
theorem k87_openM {w : World} {base : Nat} {ok : Nat → Prop} {x : S87} {cs : List Value} (h : k87.M w base ok x cs) : cs = [.int .i64 x.f0, .int .i64 x.f1] := by
  obtain ⟨_, _, rfl, rfl, rfl⟩ := h
  exact rfl
theorem k87_mk (w : World) (x : S87)  : k87.K w x [.int .i64 x.f0, .int .i64 x.f1] := ⟨[.int .i64 x.f0], [.int .i64 x.f1], rfl, rfl, rfl⟩
theorem k87_mkM (w : World) (base : Nat) (ok : Nat → Prop) (x : S87)  : k87.M w base ok x [.int .i64 x.f0, .int .i64 x.f1] := ⟨[.int .i64 x.f0], [.int .i64 x.f1], rfl, rfl, rfl⟩
def rd_T87 (xs : List S87) (i : Int) : S87 := xs.getD i.toNat z87
theorem at_T87 {w : World} {A : Option Addr} {n : Nat} {xs : List S87} (h : Kd.C k87 w A n xs) (i : Int) (h0 : 0 ≤ i) (h1 : i < n) : ∃ ad , A = some ad ∧ w.cell? (ad.add (i.toNat * 2)) = some (.int .i64 (rd_T87 xs i).f0) ∧ w.cell? ⟨(ad.add (i.toNat * 2)).block, (ad.add (i.toNat * 2)).off + 1, none⟩ = some (.int .i64 (rd_T87 xs i).f1) := by
  obtain ⟨ad, c, e, _, hK, hc0⟩ := Kd.C_get h z87 i h0 h1
  have hc : ∀ j u, c[j]? = some u → w.cell? (ad.add (i.toNat * 2 + j)) = some u := hc0
  obtain rfl := k87_open hK
  exact ⟨ad, e, hc 0 _ rfl, by rw [← add_field _ _ 1 (by omega)]; exact hc 1 _ rfl⟩

def rd_L14 (xs : List (List S87)) (i : Int) : (List S87) := xs.getD i.toNat ([] : List S87)
theorem at_L14 {w : World} {A : Option Addr} {n : Nat} {xs : List (List S87)} (h : Kd.C (Kd.slice 87 k87) w A n xs) (i : Int) (h0 : 0 ≤ i) (h1 : i < n) : ∃ ad A0 c0, A = some ad ∧ w.cell? (ad.add i.toNat) = some (.slice A0 (rd_L14 xs i).length c0) ∧ (rd_L14 xs i).length ≤ c0 ∧ k87.C w A0 (rd_L14 xs i).length (rd_L14 xs i) := by
  obtain ⟨ad, c, e, _, hK, hc0⟩ := Kd.C_get h ([] : List S87) i h0 h1
  have hc : ∀ j u, c[j]? = some u → w.cell? (ad.add (i.toNat * 1 + j)) = some u := hc0
  obtain ⟨A0, c0, rfl, l0, g0⟩ := hK
  exact ⟨ad, A0, c0, e, by have hq := hc 0 _ rfl; rwa [Nat.mul_one, Nat.add_zero] at hq, l0, g0⟩

end Go.Proofs.YtcamchdenjpmhaaDoor.F
namespace Go.Proofs.YtcamchdenjpmhaaDoor.F
open Go Go.Shelf Go.RowKit Go.Proofs.YtcamchdenjpmhaaDoorW.PrintWords Go.Proofs.YtcamchdenjpmhaaDoorW.PrintLast Go.Proofs.YtcamchdenjpmhaaDoorW.PrintMore
attribute [local go_sem] max2_int min2_int max_two min_two max_three min_three max_four min_four   -- for this text's walks alone
set_option linter.unusedVariables false
set_option linter.unusedSimpArgs false

/-! ### stands 6 -/
-- stands: the package variable 'forms', as the card lays it
/-- The form of a type's data. -/
def formOf (t : Int) : Option ByteArray :=
  if t = 1 then some ⟨#[52]⟩ else if t = 2 then some ⟨#[110]⟩ else if t = 5 then some ⟨#[110]⟩ else if t = 6 then some ⟨#[110, 110, 103, 103, 103, 103, 113]⟩
  else if t = 12 then some ⟨#[110]⟩ else if t = 13 then some ⟨#[116, 116]⟩ else if t = 15 then some ⟨#[50, 110]⟩ else if t = 16 then some ⟨#[84]⟩ else if t = 28 then some ⟨#[103, 103, 103, 103]⟩
  else if t = 33 then some ⟨#[50, 50, 50, 110]⟩ else if t = 35 then some ⟨#[50, 50, 116, 116, 116, 110]⟩ else if t = 39 then some ⟨#[110]⟩ else if t = 47 then some ⟨#[110, 109]⟩ else if t = 257 then some ⟨#[49, 99, 42]⟩ else none
/-- The variable's block and its map's block lie there; whatever world holds these two blocks answers the look-ups. -/
def Glob (w : World) : Prop := ∃ (bm : Nat) (og om : Obj), w.heap[1]? = some og ∧ w.heap[bm]? = some om ∧
  (∀ W : World, W.heap[1]? = some og → W.cell? ⟨1, 0, none⟩ = some (.map (some bm))) ∧
  (∀ (W : World) (k : Int), W.heap[bm]? = some om → (Lit.int .i64 k).wf = true → (Instr.lookup 84 (.map (some bm)) (.int .i64 k) true).run Tryd.prog W = .ok (.tuple #[.string ((formOf k).getD ⟨#[]⟩), .bool (formOf k).isSome]) W)
theorem Glob.below {w W : World} (h : Glob w) (hb : Below w.heap.size w W) : Glob W := by
  obtain ⟨bm, og, om, h1, h2, h3⟩ := h
  exact ⟨bm, og, om, blk_below h1 hb, blk_below h2 hb, h3⟩
theorem Glob.alloc {w : World} (h : Glob w) (o : Obj) : Glob (w.alloc o) := h.below (below_alloc (Below.refl _ _) o)
theorem Glob.drew {w : World} (h : Glob w) : Glob w.drew := h
theorem Glob.drewN {w : World} (h : Glob w) (n : Nat) : Glob (w.drewN n) := h

end Go.Proofs.YtcamchdenjpmhaaDoor.F
namespace Go.Proofs.YtcamchdenjpmhaaDoor.XGlob
open Go Go.RowKit Go.ChangeShapes Go.WideShapes Go.ChangeAt Go.WideMaps Go.WideElems Go.Maps
open Go.Proofs.YtcamchdenjpmhaaDoor.F
abbrev laidF {H : Type} : List (String × DataW H) := [("loop.example/s01858/impl.forms", Rows.laid_loop_example_s01858_impl_forms)]
theorem gForms : Tryd.prog.globalNamed "loop.example/s01858/impl.forms" = some 1 := by kernel_rfl
theorem tForms : (Tryd.prog.globals[1]?).map (·.type) = some 84 := by kernel_rfl
theorem door_met (os : Os) (args : Array Value) : laidMetH Tryd.prog (laidF (H := Unit)) ((World.doorLaid Tryd.prog 84 os).forCall (fun _ _ => 0) ⟨#[], args, []⟩).memory :=
  laidMetH_of_parts3 (fuel := 8) (laidMet_of_run' 8 (by kernel_rfl) (by kernel_rfl)) (by kernel_rfl) (by kernel_rfl)
set_option maxRecDepth 100000 in
theorem forms_at (k : Int) : (Rows.laid_loop_example_s01858_impl_forms (H := Unit)).atKey (.int .i64 k) .nil = (match formOf k with | none => .nil | some f => .lit (.string f.data.toList)) := by
  have e1 : ∀ n : Int, (Lit.int .i64 n).sameKey (Lit.int .i64 k) = decide (k = n) := fun n => decide_eq_decide.mpr ⟨fun h => h.2.symm, fun h => ⟨rfl, h.symm⟩⟩
  unfold Rows.laid_loop_example_s01858_impl_forms formOf
  simp only [DataW.atKey, List.find?, e1]
  by_cases c1 : k = 1
  · subst c1; rfl
  by_cases c2 : k = 2
  · subst c2; rfl
  by_cases c5 : k = 5
  · subst c5; rfl
  by_cases c6 : k = 6
  · subst c6; rfl
  by_cases c12 : k = 12
  · subst c12; rfl
  by_cases c13 : k = 13
  · subst c13; rfl
  by_cases c15 : k = 15
  · subst c15; rfl
  by_cases c16 : k = 16
  · subst c16; rfl
  by_cases c28 : k = 28
  · subst c28; rfl
  by_cases c33 : k = 33
  · subst c33; rfl
  by_cases c35 : k = 35
  · subst c35; rfl
  by_cases c39 : k = 39
  · subst c39; rfl
  by_cases c47 : k = 47
  · subst c47; rfl
  by_cases c257 : k = 257
  · subst c257; rfl
  rw [decide_eq_false c1, decide_eq_false c2, decide_eq_false c5, decide_eq_false c6, decide_eq_false c12, decide_eq_false c13, decide_eq_false c15, decide_eq_false c16, decide_eq_false c28, decide_eq_false c33, decide_eq_false c35, decide_eq_false c39, decide_eq_false c47, decide_eq_false c257]
  rw [if_neg c1, if_neg c2, if_neg c5, if_neg c6, if_neg c12, if_neg c13, if_neg c15, if_neg c16, if_neg c28, if_neg c33, if_neg c35, if_neg c39, if_neg c47, if_neg c257]
set_option maxRecDepth 100000 in
theorem glob_of_laid {W : World} (h : laidMetH Tryd.prog (laidF (H := Unit)) W) : Glob W := by
  rw [MakeChecks.laidMetH_plain _ _ _ (by kernel_rfl)] at h
  obtain ⟨ps, ⟨g0, t0, cs0, f0, p0, q0, hg0, ht0, hv0, hd0, _, _⟩, _, _⟩ := h
  obtain rfl := Option.some.inj (gForms.symm.trans hg0)
  obtain rfl := Option.some.inj (tForms.symm.trans ht0)
  rcases open_map Tryd.underlying84 hd0 with ⟨_, hx⟩ | ⟨bm, es, clock, m, rfl, hcs, hb, _, F, hx⟩
  · simp [Rows.laid_loop_example_s01858_impl_forms] at hx
  simp only [Prod.mk.injEq] at hx
  have hcell : W.cell? ⟨1, 0, none⟩ = some (.map (some bm)) := by
    have := World.var?_cell hg0 hv0 0
    rw [Array.eq_one_of_toList hcs] at this
    simpa using this
  obtain ⟨og, hog⟩ : ∃ og, W.heap[1]? = some og := by
    cases hh : W.heap[1]? with
    | none => simp [World.cell?, hh] at hcell
    | some og => exact ⟨og, rfl⟩
  refine ⟨bm, og, _, hog, hb, fun W' hW' => ?_, fun W' k hW' hk => ?_⟩
  · rw [← hcell]
    exact World.cell?_of_block (hW'.trans hog.symm)
  · have hk2 := keyOf_int_mk (P := Tryd.prog) Tryd.underlying2 hk
    have zero : (zeroValue 9).run Tryd.prog W' = .ok (.string ⟨#[]⟩) W' := by kernel_rfl
    rcases fit_look (w := W') true (int_keyed Tryd.underlying2) Tryd.underlying84 zero hW' F hk2 with ⟨hrun, _, hat⟩ | ⟨e0, y, _, _, hrun, hRv, hat, _⟩
    · have := hat .nil
      rw [← hx.1, forms_at] at this
      cases hf : formOf k with
      | none => simpa [hf] using hrun
      | some f => simp [hf] at this
    · have := hat .nil
      rw [← hx.1, forms_at] at this
      obtain ⟨s, hv, hz, _⟩ := plainElem_string_inv Tryd.underlying9 (elemAt_plainElem_string Tryd.underlying9 hRv)
      rw [hz] at this
      rw [hv] at hrun
      cases hf : formOf k with
      | none => simp [hf] at this
      | some f =>
        have e : f = s := by
          rw [hf] at this
          simp only [DataW.lit.injEq, Lit.string.injEq] at this
          cases f
          cases s
          simp only [ByteArray.mk.injEq]
          exact Array.ext' this
        subst e
        simpa [hf] using hrun
end Go.Proofs.YtcamchdenjpmhaaDoor.XGlob
namespace Go.Proofs.YtcamchdenjpmhaaDoor.F
open Go Go.Shelf Go.RowKit Go.Proofs.YtcamchdenjpmhaaDoorW.PrintWords Go.Proofs.YtcamchdenjpmhaaDoorW.PrintLast Go.Proofs.YtcamchdenjpmhaaDoorW.PrintMore
attribute [local go_sem] max2_int min2_int max_two min_two max_three min_three max_four min_four   -- for this text's walks alone
set_option linter.unusedVariables false
set_option linter.unusedSimpArgs false

/-! ### spec_l02Num: function 27 -/
def spec_l02Num.l0 : Nat → ByteArray → Int → Int → Option (Int)
  | 0, _, _, _ => none
  | k + 1, x0, x3, x4 => if x4 < (x0.size : Int) then (if 0 ≤ x4 then (spec_l02Num.l0 k x0 (wrap64 ((wrap64 (x3 * 256)) + (wrap64 (bt x0 x4)))) (wrap64 (x4 + 1))) else (none)) else (some x3)
def spec_l02Num.f (k : Nat) (a0 : ByteArray) : Option (Int) := spec_l02Num.l0 k a0 0 0
theorem spec_l02Num.mono_l : ∀ k, (∀ y0 y1 y2, LeO (spec_l02Num.l0 k y0 y1 y2) (spec_l02Num.l0 (k + 1) y0 y1 y2))
  | 0 => fun _ _ _ r h => by simp [spec_l02Num.l0] at h
  | k + 1 => by
    have ih0 := spec_l02Num.mono_l k
    · intro y0 y1 y2
      unfold spec_l02Num.l0
      repeat' first
      | (with_reducible exact ih0 _ _ _)
      | (with_reducible exact LeO.refl _)
      | (with_reducible exact LeO.none _)
      | (with_reducible refine LeO.ite ?_ ?_)
      | (with_reducible refine LeO.bind ?_ (fun _ => ?_))
      | exact ih0 _ _ _
      | exact LeO.none _
      | refine LeO.ite ?_ ?_
      | refine LeO.bind ?_ (fun _ => ?_)
theorem spec_l02Num.mono : ∀ a0 k, LeO (spec_l02Num.f k a0) (spec_l02Num.f (k + 1) a0) := by
  intro a0 k
  have ih0 := spec_l02Num.mono_l k
  unfold spec_l02Num.f
  repeat' first
      | (with_reducible exact ih0 _ _ _)
      | (with_reducible exact LeO.refl _)
      | (with_reducible exact LeO.none _)
      | (with_reducible refine LeO.ite ?_ ?_)
      | (with_reducible refine LeO.bind ?_ (fun _ => ?_))
      | exact ih0 _ _ _
      | exact LeO.none _
      | refine LeO.ite ?_ ?_
      | refine LeO.bind ?_ (fun _ => ?_)
set_option maxHeartbeats 8000000 in
set_option maxRecDepth 100000 in
theorem spec_l02Num.calls (k : Nat) (a0 : ByteArray) (r : Int) (w : World) (h : spec_l02Num.f k a0 = some r) :
    Calls Tryd.prog 27 #[.string a0] w fun e w' => e = .returned (.int .i64 r) ∧ Drawn0 w w' := by
  have H : (spec_l02Num.l0 k a0 0 0) = some r := h
  clear h
  have H' := Aside0.mk H
  clear H
  go_enter Tryd.func27, Tryd.ntmps27
  go_wp2
  go_loopg [3, 4] k (fun kq v3 v4 w' => ∃ (x3_1 : Int) (x4_1 : Int), v3 = .int .i64 x3_1 ∧ v4 = .int .i64 x4_1 ∧ Aside0 (spec_l02Num.l0 kq a0 x3_1 x4_1 = some r) ∧ Aside0 (kq ≤ k) ∧ Drawn0 w w')
  case atStart => exact ⟨(0), (0), (by first | rfl | (simp; done) | (simp [*]; done)), (by first | rfl | (simp; done) | (simp [*]; done)), H', ⟨Nat.le_refl _⟩, by repeat (first | exact Drawn0.refl _ | apply Drawn0.step)⟩
  case round =>
    clear H'
    obtain ⟨x3_1, x4_1, rfl, rfl, HA, HK1, ⟨m1, rfl⟩⟩ := hrel
    cases gk with
    | zero => exact absurd HA.out (by simp [spec_l02Num.l0])
    | succ k1 =>
      have H := HA.out
      clear HA
      simp only [spec_l02Num.l0] at H
      by_cases c2 : x4_1 < (a0.size : Int)
      · rw [if_pos c2] at H
        have c2b0 : decide (x4_1 < (a0.size : Int)) = true := decide_eq_true c2
        clear c2
        by_cases c3 : 0 ≤ x4_1
        · rw [if_pos c3] at H
          have c3b0 : decide (0 ≤ x4_1) = true := decide_eq_true c3
          clear c3
          have H' := Aside0.mk H
          clear H
          have p4 : 0 ≤ (x4_1 : Int) := of_decide_eq_true (by first | (with_reducible assumption) | assumption)
          have q4 : x4_1 < (a0.size : Int) := of_decide_eq_true (by first | (with_reducible assumption) | assumption)
          have hx4 := bt_at a0 x4_1
          replace p4 := eq_true p4
          replace q4 := eq_true q4
          go_wp2
          go_roundg k1
          case measure => have := HK1.out; omega
          case rel => exact ⟨(wrap64 ((wrap64 (x3_1 * 256)) + (wrap64 (bt a0 x4_1)))), (wrap64 (x4_1 + 1)), (by first | rfl | (simp; done) | (simp [*]; done)), (by first | rfl | (simp; done) | (simp [*]; done)), H', ⟨by have := HK1.out; omega⟩, by repeat (first | exact Drawn0.refl _ | apply Drawn0.step)⟩
        · rw [if_neg c3] at H
          exact absurd H (by simp)
      · rw [if_neg c2] at H
        have c2b0 : decide (x4_1 < (a0.size : Int)) = false := decide_eq_false c2
        clear c2
        obtain rfl := Option.some.inj H
        go_wp2
        go_ret
        exact ⟨by first | rfl | (simp; done) | (simp [*]; done), by repeat (first | exact Drawn0.refl _ | apply Drawn0.step)⟩

end Go.Proofs.YtcamchdenjpmhaaDoor.F
namespace Go.Proofs.YtcamchdenjpmhaaDoor.F
open Go Go.Shelf Go.RowKit Go.Proofs.YtcamchdenjpmhaaDoorW.PrintWords Go.Proofs.YtcamchdenjpmhaaDoorW.PrintLast Go.Proofs.YtcamchdenjpmhaaDoorW.PrintMore
attribute [local go_sem] max2_int min2_int max_two min_two max_three min_three max_four min_four   -- for this text's walks alone
set_option linter.unusedVariables false
set_option linter.unusedSimpArgs false

/-! ### spec_l04Bit: function 37 -/
def spec_l04Bit.f (a0 : Int) (a1 : Int) : Option (Bool) := if 0 ≤ (IntKind.u64.wrap (a1)) then (some ((Go.bits .and .i64 (shr .i64 a0 (IntKind.u64.wrap (a1))) 1) == 1)) else (none)
set_option maxHeartbeats 8000000 in
set_option maxRecDepth 100000 in
theorem spec_l04Bit.calls (a0 : Int) (a1 : Int) (r : Bool) (w : World) (h : spec_l04Bit.f a0 a1 = some r) :
    Calls Tryd.prog 37 #[.int .i64 a0, .int .i64 a1] w fun e w' => e = .returned (.bool r) ∧ Drawn0 w w' := by
  have H : (if 0 ≤ (IntKind.u64.wrap (a1)) then (some ((Go.bits .and .i64 (shr .i64 a0 (IntKind.u64.wrap (a1))) 1) == 1)) else (none)) = some r := h
  clear h
  obtain ⟨ji3, hji3⟩ : ∃ j_ : Int, (IntKind.u64.wrap (a1)) = j_ := ⟨_, rfl⟩
  replace H : (if 0 ≤ (ji3) then (some ((Go.bits .and .i64 (shr .i64 a0 (ji3)) 1) == 1)) else (none)) = some r := by first | (rw [hji3] at H; exact H) | (simp only [hji3] at H ⊢; exact H)
  by_cases c4 : 0 ≤ (ji3)
  · rw [if_pos c4] at H
    have c4b0 := eq_true c4
    have c4b1 : decide (0 ≤ (ji3)) = true := decide_eq_true c4
    clear c4
    obtain ⟨ji5, hji5⟩ : ∃ j_ : Int, (shr .i64 a0 (ji3)) = j_ := ⟨_, rfl⟩
    replace H : (some ((Go.bits .and .i64 (ji5) 1) == 1)) = some r := by first | (rw [hji5] at H; exact H) | (simp only [hji5] at H ⊢; exact H)
    have hji5_ : (a0 / 2 ^ min (ji3).toNat 64) = ji5 := hji5
    have hji5z : (ji3) ≤ 64 → (a0 / 2 ^ (ji3).toNat) = ji5 := shr_small hji5
    obtain rfl := Option.some.inj H
    go_enter Tryd.func37, Tryd.ntmps37
    go_wp2
    go_ret
    exact ⟨by first | rfl | (simp; done) | (simp only [← hji3, ← hji5] <;> (first | rfl | simp)) | (simp [*]; done), by repeat (first | exact Drawn0.refl _ | apply Drawn0.step)⟩
  · rw [if_neg c4] at H
    exact absurd H (by simp)

end Go.Proofs.YtcamchdenjpmhaaDoor.F
namespace Go.Proofs.YtcamchdenjpmhaaDoor.F
open Go Go.Shelf Go.RowKit Go.Proofs.YtcamchdenjpmhaaDoorW.PrintWords Go.Proofs.YtcamchdenjpmhaaDoorW.PrintLast Go.Proofs.YtcamchdenjpmhaaDoorW.PrintMore
attribute [local go_sem] max2_int min2_int max_two min_two max_three min_three max_four min_four   -- for this text's walks alone
set_option linter.unusedVariables false
set_option linter.unusedSimpArgs false

/-! ### stands 1 -/
-- stands: a whole row written into a block of the call's own
theorem xbelow_setRow {B g : Nat} {w0 w : World} (hb : Below B w0 w) (hBg : B ≤ g) (cs : Array Value) : Below B w0 (w.setRow g cs) :=
  ⟨hb.os, hb.tape, hb.output, by rw [setRow_size]; exact hb.size, fun k hk => (setRow_other w g k cs (by omega)).trans (hb.block k hk)⟩

end Go.Proofs.YtcamchdenjpmhaaDoor.F
namespace Go.Proofs.YtcamchdenjpmhaaDoor.F
open Go Go.Shelf Go.RowKit Go.Proofs.YtcamchdenjpmhaaDoorW.PrintWords Go.Proofs.YtcamchdenjpmhaaDoorW.PrintLast Go.Proofs.YtcamchdenjpmhaaDoorW.PrintMore
attribute [local go_sem] max2_int min2_int max_two min_two max_three min_three max_four min_four   -- for this text's walks alone
set_option linter.unusedVariables false
set_option linter.unusedSimpArgs false

/-! ### spec_DecodeHead: function 25 -/
set_option maxHeartbeats 8000000 in
set_option maxRecDepth 100000 in
theorem spec_DecodeHead.short (A0 : Option Addr) (c0 : Nat) (l0 : List Int) (w : World) (hr0 : Kd.C (Kd.int .u8) w A0 l0.length l0) (hc0 : l0.length ≤ c0) (h : l0.length < 12) :
    Calls Tryd.prog 25 #[.slice A0 l0.length c0] w fun e w' => e = .returned (.tuple #[.agg #[.int .i64 0, .bool false, .int .i64 0, .bool false, .bool false, .bool false, .bool false, .bool false, .bool false, .bool false, .int .i64 0], .agg #[.int .i64 0, .int .i64 0, .int .i64 0, .int .i64 0], .int .i64 8]) ∧ Below w.heap.size w w' := by
  have hlt : decide ((l0.length : Int) < 12) = true := decide_eq_true (by omega)
  have hz : ∀ (W : World) o, (W.alloc o).heap.size = W.heap.size + 1 := fun _ _ => Array.size_push _
  go_enter Tryd.func25, Tryd.ntmps25
  go_wp2
  have g0 : (((w.alloc (.cells #[.int .i64 0, .bool false, .int .i64 0, .bool false, .bool false, .bool false, .bool false, .bool false, .bool false, .bool false, .int .i64 0] 24)).alloc (.cells #[.int .i64 0, .int .i64 0, .int .i64 0, .int .i64 0] 39)).alloc (.cells #[.int .i64 0, .int .i64 0, .int .i64 0, .int .i64 0] 39)).heap[w.heap.size]? = some (.cells #[.int .i64 0, .bool false, .int .i64 0, .bool false, .bool false, .bool false, .bool false, .bool false, .bool false, .bool false, .int .i64 0] 24 (0, 0)) := blk_alloc (blk_alloc (blk_new w _) _) _
  have g1 : (((w.alloc (.cells #[.int .i64 0, .bool false, .int .i64 0, .bool false, .bool false, .bool false, .bool false, .bool false, .bool false, .bool false, .int .i64 0] 24)).alloc (.cells #[.int .i64 0, .int .i64 0, .int .i64 0, .int .i64 0] 39)).alloc (.cells #[.int .i64 0, .int .i64 0, .int .i64 0, .int .i64 0] 39)).heap[w.heap.size + 1]? = some (.cells #[.int .i64 0, .int .i64 0, .int .i64 0, .int .i64 0] 39 (0, 0)) := by
    have e := blk_new (w.alloc (.cells #[.int .i64 0, .bool false, .int .i64 0, .bool false, .bool false, .bool false, .bool false, .bool false, .bool false, .bool false, .int .i64 0] 24)) (.cells #[.int .i64 0, .int .i64 0, .int .i64 0, .int .i64 0] 39)
    rw [hz] at e
    exact blk_alloc e _
  have g2 : (((w.alloc (.cells #[.int .i64 0, .bool false, .int .i64 0, .bool false, .bool false, .bool false, .bool false, .bool false, .bool false, .bool false, .int .i64 0] 24)).alloc (.cells #[.int .i64 0, .int .i64 0, .int .i64 0, .int .i64 0] 39)).alloc (.cells #[.int .i64 0, .int .i64 0, .int .i64 0, .int .i64 0] 39)).heap[w.heap.size + 1 + 1]? = some (.cells #[.int .i64 0, .int .i64 0, .int .i64 0, .int .i64 0] 39 (0, 0)) := by
    have e := blk_new ((w.alloc (.cells #[.int .i64 0, .bool false, .int .i64 0, .bool false, .bool false, .bool false, .bool false, .bool false, .bool false, .bool false, .int .i64 0] 24)).alloc (.cells #[.int .i64 0, .int .i64 0, .int .i64 0, .int .i64 0] 39)) (.cells #[.int .i64 0, .int .i64 0, .int .i64 0, .int .i64 0] 39)
    rw [hz, hz] at e
    exact e
  have gB : Below w.heap.size w (((w.alloc (.cells #[.int .i64 0, .bool false, .int .i64 0, .bool false, .bool false, .bool false, .bool false, .bool false, .bool false, .bool false, .int .i64 0] 24)).alloc (.cells #[.int .i64 0, .int .i64 0, .int .i64 0, .int .i64 0] 39)).alloc (.cells #[.int .i64 0, .int .i64 0, .int .i64 0, .int .i64 0] 39)) := below_alloc (below_alloc (below_alloc (Below.refl _ _) _) _) _
  generalize (((w.alloc (.cells #[.int .i64 0, .bool false, .int .i64 0, .bool false, .bool false, .bool false, .bool false, .bool false, .bool false, .bool false, .int .i64 0] 24)).alloc (.cells #[.int .i64 0, .int .i64 0, .int .i64 0, .int .i64 0] 39)).alloc (.cells #[.int .i64 0, .int .i64 0, .int .i64 0, .int .i64 0] 39)) = wr at *
  refine start_ (n := 5) (S := fun w' => w'.heap[w.heap.size + 1]? = some (.cells #[.int .i64 0, .int .i64 0, .int .i64 0, .int .i64 0] 39 (0, 0)) ∧ w'.heap[w.heap.size + 1 + 1]? = some (.cells #[.int .i64 0, .int .i64 0, .int .i64 0, .int .i64 0] 39 (0, 0)) ∧ Below w.heap.size w w' ∧ w'.cell? ⟨w.heap.size + 1 + 1, 0, none⟩ = some (.int .i64 0) ∧ w'.cell? ⟨w.heap.size + 1 + 1, 1, none⟩ = some (.int .i64 0) ∧ w'.cell? ⟨w.heap.size + 1 + 1, 2, none⟩ = some (.int .i64 0) ∧ w'.cell? ⟨w.heap.size + 1 + 1, 3, none⟩ = some (.int .i64 0)) (ds := [3]) #[false, false, false, false, false] (by kernel_rfl) rfl rfl ⟨blk_drew g1, blk_drew g2, gB.drew, blk_cell (blk_drew g2) 0, blk_cell (blk_drew g2) 1, blk_cell (blk_drew g2) 2, blk_cell (blk_drew g2) 3⟩ (fun hHeld => ?_)
  refine pure_ (i := 0) (N := some 14) (v := ?_) (a' := ?_) #[true, false, false, false, false] rfl rfl (by kernel_rfl) (fun _ _ _ h => h) (Or.inl ⟨by rfl, ?_⟩) ?_ ?_
  rotate_left
  · intro w'
    go_simp
    with_reducible rfl
  rotate_left
  · simp only [Act.put, List.setIfInBounds_toArray, List.set_cons_zero, List.set_cons_succ, i64_w, i32_w]
    rfl
  refine take_ (i := 1) (N := some 15) (v := ?_) (a' := ?_) #[true, true, false, false, false] rfl rfl (by kernel_rfl) (fun _ _ _ h => h) (Or.inl ⟨by rfl, ?_⟩) hHeld ?_ ?_
  rotate_left
  · rintro w' ⟨s0, s1, s2, s3, s4, s5, s6⟩
    go_simp
    with_reducible rfl
  rotate_left
  · simp only [Act.put, List.setIfInBounds_toArray, List.set_cons_zero, List.set_cons_succ, i64_w, i32_w]
    rfl
  refine one_ (i := 2) (N := none) #[true, true, true, false, false] rfl rfl (by kernel_rfl) (by decide) (fun K hK => ?_)
  have t0 := blk_drew g0
  have t1 := hHeld.1
  have t2 := hHeld.2.1
  have tB := hHeld.2.2.1
  clear hHeld
  rw [if_pos (by rfl)]
  refine wp_store_row 24 (.tmp 2) (.tmp 14) rfl w.heap.size #[.int .i64 0, .bool false, .int .i64 0, .bool false, .bool false, .bool false, .bool false, .bool false, .bool false, .bool false, .int .i64 0] rfl rfl _ _ t0 (by kernel_rfl) rfl (by simp [Value.oneCell']) ?_
  have s0 := setRow_heap _ w.heap.size _ #[.int .i64 0, .bool false, .int .i64 0, .bool false, .bool false, .bool false, .bool false, .bool false, .bool false, .bool false, .int .i64 0] _ _ t0
  have s1 := (setRow_other _ w.heap.size (w.heap.size + 1) #[.int .i64 0, .bool false, .int .i64 0, .bool false, .bool false, .bool false, .bool false, .bool false, .bool false, .bool false, .int .i64 0] (by omega)).trans t1
  have s2 := (setRow_other _ w.heap.size (w.heap.size + 1 + 1) #[.int .i64 0, .bool false, .int .i64 0, .bool false, .bool false, .bool false, .bool false, .bool false, .bool false, .bool false, .int .i64 0] (by omega)).trans t2
  have s3 := xbelow_setRow tB (Nat.le_refl _) #[.int .i64 0, .bool false, .int .i64 0, .bool false, .bool false, .bool false, .bool false, .bool false, .bool false, .bool false, .int .i64 0]
  clear t0 t1 t2 tB
  generalize wr.drew.setRow w.heap.size #[.int .i64 0, .bool false, .int .i64 0, .bool false, .bool false, .bool false, .bool false, .bool false, .bool false, .bool false, .int .i64 0] = w4 at *
  refine hK.out _ _ ⟨s1, s2, s3, blk_cell s2 0, blk_cell s2 1, blk_cell s2 2, blk_cell s2 3⟩ (fun hHeld => ?_)
  clear hK K
  refine last_ (i := 3) (N := none) #[true, true, true, true, false] rfl rfl (by kernel_rfl) (by decide) (fun K hK => ?_)
  clear hHeld
  rw [if_pos (by rfl)]
  refine wp_store_row 39 (.tmp 3) (.tmp 15) rfl (w.heap.size + 1) #[.int .i64 0, .int .i64 0, .int .i64 0, .int .i64 0] rfl rfl _ _ s1 (by kernel_rfl) rfl (by simp [Value.oneCell']) ?_
  have q0 := (setRow_other w4 (w.heap.size + 1) w.heap.size #[.int .i64 0, .int .i64 0, .int .i64 0, .int .i64 0] (by omega)).trans s0
  have q1 := setRow_heap w4 (w.heap.size + 1) _ #[.int .i64 0, .int .i64 0, .int .i64 0, .int .i64 0] _ _ s1
  have qB := xbelow_setRow s3 (by omega : w.heap.size ≤ w.heap.size + 1) #[.int .i64 0, .int .i64 0, .int .i64 0, .int .i64 0]
  clear s0 s1 s3
  generalize w4.setRow (w.heap.size + 1) #[.int .i64 0, .int .i64 0, .int .i64 0, .int .i64 0] = w5 at *
  refine hK.out _ _ ?_
  clear hK K
  refine pure_ (i := 4) (N := some 4) (v := ?_) (a' := ?_) #[true, true, true, true, true] rfl rfl (by kernel_rfl) (fun _ _ _ h => h) (Or.inl ⟨by rfl, ?_⟩) ?_ ?_
  rotate_left
  · intro w'
    go_simp
    with_reducible rfl
  rotate_left
  · simp only [Act.put, List.setIfInBounds_toArray, List.set_cons_zero, List.set_cons_succ, i64_w, i32_w]
    rfl
  refine done_ (by kernel_rfl) ?_

  go_wp2
  have l1 := run_loadVar_row (P := Tryd.prog) w5 w.heap.size 24 24 _ _ _ q0 Tryd.underlying24 rfl (by kernel_rfl)
  have l2 := run_loadVar_row (P := Tryd.prog) w5 (w.heap.size + 1) 39 39 _ _ _ q1 Tryd.underlying39 rfl (by kernel_rfl)
  refine bodyPost_ret (v := .tuple #[.agg #[.int .i64 0, .bool false, .int .i64 0, .bool false, .bool false, .bool false, .bool false, .bool false, .bool false, .bool false, .int .i64 0], .agg #[.int .i64 0, .int .i64 0, .int .i64 0, .int .i64 0], .int .i64 8]) (by simp [results, Tryd.results25, asAddr, Sem.run_bind, l1, l2]) rfl ⟨rfl, qB⟩
set_option maxHeartbeats 8000000 in
set_option maxRecDepth 100000 in
theorem spec_DecodeHead.long (A0 : Option Addr) (c0 : Nat) (l0 : List Int) (w : World) (hr0 : Kd.C (Kd.int .u8) w A0 l0.length l0) (hc0 : l0.length ≤ c0) (h : 12 ≤ l0.length) (s : ByteArray) (hs : strOfNums (l0.take 12) = s) (K : Nat) (f id n0 n1 n2 n3 : Int) (b15 b10 b9 b8 b7 b6 b5 b4 : Bool)
    (hf : spec_l02Num.f K (s.extract 2 4) = some f) (hid : spec_l02Num.f K (s.extract 0 2) = some id) (h0 : spec_l02Num.f K (s.extract 4 6) = some n0) (h1 : spec_l02Num.f K (s.extract 6 8) = some n1) (h2 : spec_l02Num.f K (s.extract 8 10) = some n2) (h3 : spec_l02Num.f K (s.extract 10 12) = some n3)
    (k15 : spec_l04Bit.f f 15 = some b15) (k10 : spec_l04Bit.f f 10 = some b10) (k9 : spec_l04Bit.f f 9 = some b9) (k8 : spec_l04Bit.f f 8 = some b8) (k7 : spec_l04Bit.f f 7 = some b7) (k6 : spec_l04Bit.f f 6 = some b6) (k5 : spec_l04Bit.f f 5 = some b5) (k4 : spec_l04Bit.f f 4 = some b4) :
    Calls Tryd.prog 25 #[.slice A0 l0.length c0] w fun e w' => e = .returned (.tuple #[.agg #[.int .i64 id, .bool b15, .int .i64 (Go.bits .and .i64 (f / 2048) 15), .bool b10, .bool b9, .bool b8, .bool b7, .bool b6, .bool b5, .bool b4, .int .i64 (Go.bits .and .i64 f 15)], .agg #[.int .i64 n0, .int .i64 n1, .int .i64 n2, .int .i64 n3], .int .i64 0]) ∧ Below w.heap.size w w' := by
  have hlt : decide ((l0.length : Int) < 12) = false := decide_eq_false (by omega)
  have hsz : s.size = 12 := by rw [← hs]; simp [strOfNums, ByteArray.size]; omega
  have hcv : ∀ W : World, Below w.heap.size w W → Sem.run Tryd.prog (convert 22 9 (.slice A0 12 c0)) W = .ok (.string s) W := by
    intro W hb
    have hC := Kd.C_take hr0 h
    rw [List.length_take, Nat.min_eq_left h] at hC
    rw [← hs]
    exact Kd.C_string Tryd.underlying22 Tryd.underlying5 Tryd.underlying9 (Kd.C_below hC hb)
  have HC := Aside0.mk hcv
  clear hcv hs hr0
  have hcv := fun o1 o2 o3 => HC.out (((w.alloc o1).alloc o2).alloc o3) (below_alloc (below_alloc (below_alloc (Below.refl _ _) _) _) _)
  clear HC
  go_enter Tryd.func25, Tryd.ntmps25
  go_wp2_with fail
  refine (spec_l02Num.calls K _ _ _ hf).mono ?_
  rintro e w1 ⟨rfl, m1, rfl⟩
  go_wp2_with fail
  refine (spec_l02Num.calls K _ _ _ hid).mono ?_
  rintro e w1 ⟨rfl, m2, rfl⟩
  go_wp2_with fail
  refine (spec_l04Bit.calls _ _ _ _ k15).mono ?_
  rintro e w1 ⟨rfl, p15, rfl⟩
  go_wp2_with fail
  refine (spec_l04Bit.calls _ _ _ _ k10).mono ?_
  rintro e w1 ⟨rfl, p10, rfl⟩
  go_wp2_with fail
  refine (spec_l04Bit.calls _ _ _ _ k9).mono ?_
  rintro e w1 ⟨rfl, p9, rfl⟩
  go_wp2_with fail
  refine (spec_l04Bit.calls _ _ _ _ k8).mono ?_
  rintro e w1 ⟨rfl, p8, rfl⟩
  go_wp2_with fail
  refine (spec_l04Bit.calls _ _ _ _ k7).mono ?_
  rintro e w1 ⟨rfl, p7, rfl⟩
  go_wp2_with fail
  refine (spec_l04Bit.calls _ _ _ _ k6).mono ?_
  rintro e w1 ⟨rfl, p6, rfl⟩
  go_wp2_with fail
  refine (spec_l04Bit.calls _ _ _ _ k5).mono ?_
  rintro e w1 ⟨rfl, p5, rfl⟩
  go_wp2_with fail
  refine (spec_l04Bit.calls _ _ _ _ k4).mono ?_
  rintro e w1 ⟨rfl, p4, rfl⟩
  go_wp2_with fail
  clear hcv hlt hf hid k15 k10 k9 k8 k7 k6 k5 k4
  have hz : ∀ (W : World) o, (W.alloc o).heap.size = W.heap.size + 1 := fun _ _ => Array.size_push _
  have hzd : ∀ (W : World) n, (W.drewN n).heap.size = W.heap.size := fun _ _ => rfl
  go_loopw [9] (fun i wr => ∃ k : Int, (k = 0 ∨ k = 1 ∨ k = 2 ∨ k = 3 ∨ k = 4) ∧ i = .int .i64 k ∧ Aside0 (wr.heap[w.heap.size]? = some (.cells #[.int .i64 0, .bool false, .int .i64 0, .bool false, .bool false, .bool false, .bool false, .bool false, .bool false, .bool false, .int .i64 0] 24 (0, 0))) ∧ Aside0 (wr.heap[w.heap.size + 1]? = some (.cells #[.int .i64 0, .int .i64 0, .int .i64 0, .int .i64 0] 39 (0, 0))) ∧ Aside0 (wr.heap[w.heap.size + 1 + 1]? = some (.cells #[.int .i64 (if 1 ≤ k then n0 else 0), .int .i64 (if 2 ≤ k then n1 else 0), .int .i64 (if 3 ≤ k then n2 else 0), .int .i64 (if 4 ≤ k then n3 else 0)] 39 (0, 0))) ∧ Aside0 (wr.heap[w.heap.size + 1 + 1 + 1]? = some (.cells #[.int .i64 id, .bool b15, .int .i64 (Go.bits .and .i64 (f / 2048) 15), .bool b10, .bool b9, .bool b8, .bool b7, .bool b6, .bool b5, .bool b4, .int .i64 (Go.bits .and .i64 f 15)] 24 (0, 0))) ∧ Aside0 (Below w.heap.size w wr)) (fun i _ => 4 - (intOf i).toNat)
  case atStart =>
    refine ⟨0, .inl rfl, rfl, ⟨?_⟩, ⟨?_⟩, ⟨?_⟩, ⟨?_⟩, ⟨?_⟩⟩
    · exact blk_alloc (blk_drewN (blk_alloc (blk_alloc (blk_new w _) _) _) _) _
    · have e := blk_new (w.alloc (.cells #[.int .i64 0, .bool false, .int .i64 0, .bool false, .bool false, .bool false, .bool false, .bool false, .bool false, .bool false, .int .i64 0] 24)) (.cells #[.int .i64 0, .int .i64 0, .int .i64 0, .int .i64 0] 39)
      rw [hz] at e
      exact blk_alloc (blk_drewN (blk_alloc e _) _) _
    · have e := blk_new ((w.alloc (.cells #[.int .i64 0, .bool false, .int .i64 0, .bool false, .bool false, .bool false, .bool false, .bool false, .bool false, .bool false, .int .i64 0] 24)).alloc (.cells #[.int .i64 0, .int .i64 0, .int .i64 0, .int .i64 0] 39)) (.cells #[.int .i64 0, .int .i64 0, .int .i64 0, .int .i64 0] 39)
      rw [hz, hz] at e
      exact blk_alloc (blk_drewN e _) _
    · have e := blk_new (((w.alloc (.cells #[.int .i64 0, .bool false, .int .i64 0, .bool false, .bool false, .bool false, .bool false, .bool false, .bool false, .bool false, .int .i64 0] 24)).alloc (.cells #[.int .i64 0, .int .i64 0, .int .i64 0, .int .i64 0] 39)).alloc (.cells #[.int .i64 0, .int .i64 0, .int .i64 0, .int .i64 0] 39)) (.cells #[.int .i64 id, .bool b15, .int .i64 (Go.bits .and .i64 (f / 2048) 15), .bool b10, .bool b9, .bool b8, .bool b7, .bool b6, .bool b5, .bool b4, .int .i64 (Go.bits .and .i64 f 15)] 24)
      rw [hz, hz, hz] at e
      exact e
    · exact below_alloc (pw_below_drewN (below_alloc (below_alloc (below_alloc (Below.refl _ _) _) _) _) _) _
  case round =>
    obtain ⟨k, hk, rfl, HH, HA, HX, HG, HB⟩ := hrel
    rcases hk with rfl | rfl | rfl | rfl | rfl
    · have hx : wr.heap[w.heap.size + 1 + 1]? = some (.cells #[.int .i64 0, .int .i64 0, .int .i64 0, .int .i64 0] 39 (0, 0)) := HX.out
      have q0 := blk_cell hx 0
      have q1 := blk_frozen hx 0
      go_wp2_with fail
      refine (spec_l02Num.calls K _ _ _ h0).mono ?_
      rintro e w1 ⟨rfl, m, rfl⟩
      go_wp2
      go_roundw
      case rel => exact ⟨1, by omega, by go_num, ⟨blk_far (blk_drewN HH.out _) (by show w.heap.size ≠ w.heap.size + 1 + 1; omega) _⟩, ⟨blk_far (blk_drewN HA.out _) (by show w.heap.size + 1 ≠ w.heap.size + 1 + 1; omega) _⟩, ⟨blk_put (blk_drewN hx _) 0 _ rfl⟩, ⟨blk_far (blk_drewN HG.out _) (by show w.heap.size + 1 + 1 + 1 ≠ w.heap.size + 1 + 1; omega) _⟩, ⟨(pw_below_drewN HB.out _).setCell (by show w.heap.size ≤ w.heap.size + 1 + 1; omega) _⟩⟩
      case measure => simp [intOf]
    · have hx : wr.heap[w.heap.size + 1 + 1]? = some (.cells #[.int .i64 n0, .int .i64 0, .int .i64 0, .int .i64 0] 39 (0, 0)) := HX.out
      have q0 := blk_cell hx 1
      have q1 := blk_frozen hx 1
      go_wp2_with fail
      refine (spec_l02Num.calls K _ _ _ h1).mono ?_
      rintro e w1 ⟨rfl, m, rfl⟩
      go_wp2
      go_roundw
      case rel => exact ⟨2, by omega, by go_num, ⟨blk_far (blk_drewN HH.out _) (by show w.heap.size ≠ w.heap.size + 1 + 1; omega) _⟩, ⟨blk_far (blk_drewN HA.out _) (by show w.heap.size + 1 ≠ w.heap.size + 1 + 1; omega) _⟩, ⟨blk_put (blk_drewN hx _) 1 _ rfl⟩, ⟨blk_far (blk_drewN HG.out _) (by show w.heap.size + 1 + 1 + 1 ≠ w.heap.size + 1 + 1; omega) _⟩, ⟨(pw_below_drewN HB.out _).setCell (by show w.heap.size ≤ w.heap.size + 1 + 1; omega) _⟩⟩
      case measure => simp [intOf]
    · have hx : wr.heap[w.heap.size + 1 + 1]? = some (.cells #[.int .i64 n0, .int .i64 n1, .int .i64 0, .int .i64 0] 39 (0, 0)) := HX.out
      have q0 := blk_cell hx 2
      have q1 := blk_frozen hx 2
      go_wp2_with fail
      refine (spec_l02Num.calls K _ _ _ h2).mono ?_
      rintro e w1 ⟨rfl, m, rfl⟩
      go_wp2
      go_roundw
      case rel => exact ⟨3, by omega, by go_num, ⟨blk_far (blk_drewN HH.out _) (by show w.heap.size ≠ w.heap.size + 1 + 1; omega) _⟩, ⟨blk_far (blk_drewN HA.out _) (by show w.heap.size + 1 ≠ w.heap.size + 1 + 1; omega) _⟩, ⟨blk_put (blk_drewN hx _) 2 _ rfl⟩, ⟨blk_far (blk_drewN HG.out _) (by show w.heap.size + 1 + 1 + 1 ≠ w.heap.size + 1 + 1; omega) _⟩, ⟨(pw_below_drewN HB.out _).setCell (by show w.heap.size ≤ w.heap.size + 1 + 1; omega) _⟩⟩
      case measure => simp [intOf]
    · have hx : wr.heap[w.heap.size + 1 + 1]? = some (.cells #[.int .i64 n0, .int .i64 n1, .int .i64 n2, .int .i64 0] 39 (0, 0)) := HX.out
      have q0 := blk_cell hx 3
      have q1 := blk_frozen hx 3
      go_wp2_with fail
      refine (spec_l02Num.calls K _ _ _ h3).mono ?_
      rintro e w1 ⟨rfl, m, rfl⟩
      go_wp2
      go_roundw
      case rel => exact ⟨4, by omega, by go_num, ⟨blk_far (blk_drewN HH.out _) (by show w.heap.size ≠ w.heap.size + 1 + 1; omega) _⟩, ⟨blk_far (blk_drewN HA.out _) (by show w.heap.size + 1 ≠ w.heap.size + 1 + 1; omega) _⟩, ⟨blk_put (blk_drewN hx _) 3 _ rfl⟩, ⟨blk_far (blk_drewN HG.out _) (by show w.heap.size + 1 + 1 + 1 ≠ w.heap.size + 1 + 1; omega) _⟩, ⟨(pw_below_drewN HB.out _).setCell (by show w.heap.size ≤ w.heap.size + 1 + 1; omega) _⟩⟩
      case measure => simp [intOf]
    · have g0 := HH.out
      have g1 := HA.out
      have g2 : wr.heap[w.heap.size + 1 + 1]? = some (.cells #[.int .i64 n0, .int .i64 n1, .int .i64 n2, .int .i64 n3] 39 (0, 0)) := HX.out
      have g3 := HG.out
      have gB := HB.out
      clear HH HA HX HG HB
      go_wp2
      refine start_ (n := 5) (S := fun w' => w'.heap[w.heap.size + 1]? = some (.cells #[.int .i64 0, .int .i64 0, .int .i64 0, .int .i64 0] 39 (0, 0)) ∧ w'.heap[w.heap.size + 1 + 1]? = some (.cells #[.int .i64 n0, .int .i64 n1, .int .i64 n2, .int .i64 n3] 39 (0, 0)) ∧ Below w.heap.size w w' ∧ w'.cell? ⟨w.heap.size + 1 + 1, 0, none⟩ = some (.int .i64 n0) ∧ w'.cell? ⟨w.heap.size + 1 + 1, 1, none⟩ = some (.int .i64 n1) ∧ w'.cell? ⟨w.heap.size + 1 + 1, 2, none⟩ = some (.int .i64 n2) ∧ w'.cell? ⟨w.heap.size + 1 + 1, 3, none⟩ = some (.int .i64 n3) ∧ w'.heap[w.heap.size + 1 + 1 + 1]? = some (.cells #[.int .i64 id, .bool b15, .int .i64 (Go.bits .and .i64 (f / 2048) 15), .bool b10, .bool b9, .bool b8, .bool b7, .bool b6, .bool b5, .bool b4, .int .i64 (Go.bits .and .i64 f 15)] 24 (0, 0)) ∧ w'.cell? ⟨w.heap.size + 1 + 1 + 1, 0, none⟩ = some (.int .i64 id) ∧ w'.cell? ⟨w.heap.size + 1 + 1 + 1, 1, none⟩ = some (.bool b15) ∧ w'.cell? ⟨w.heap.size + 1 + 1 + 1, 2, none⟩ = some (.int .i64 (Go.bits .and .i64 (f / 2048) 15)) ∧ w'.cell? ⟨w.heap.size + 1 + 1 + 1, 3, none⟩ = some (.bool b10) ∧ w'.cell? ⟨w.heap.size + 1 + 1 + 1, 4, none⟩ = some (.bool b9) ∧ w'.cell? ⟨w.heap.size + 1 + 1 + 1, 5, none⟩ = some (.bool b8) ∧ w'.cell? ⟨w.heap.size + 1 + 1 + 1, 6, none⟩ = some (.bool b7) ∧ w'.cell? ⟨w.heap.size + 1 + 1 + 1, 7, none⟩ = some (.bool b6) ∧ w'.cell? ⟨w.heap.size + 1 + 1 + 1, 8, none⟩ = some (.bool b5) ∧ w'.cell? ⟨w.heap.size + 1 + 1 + 1, 9, none⟩ = some (.bool b4) ∧ w'.cell? ⟨w.heap.size + 1 + 1 + 1, 10, none⟩ = some (.int .i64 (Go.bits .and .i64 f 15))) (ds := [3]) #[false, false, false, false, false] (by kernel_rfl) rfl rfl ⟨blk_drew g1, blk_drew g2, gB.drew, blk_cell (blk_drew g2) 0, blk_cell (blk_drew g2) 1, blk_cell (blk_drew g2) 2, blk_cell (blk_drew g2) 3, blk_drew g3, blk_cell (blk_drew g3) 0, blk_cell (blk_drew g3) 1, blk_cell (blk_drew g3) 2, blk_cell (blk_drew g3) 3, blk_cell (blk_drew g3) 4, blk_cell (blk_drew g3) 5, blk_cell (blk_drew g3) 6, blk_cell (blk_drew g3) 7, blk_cell (blk_drew g3) 8, blk_cell (blk_drew g3) 9, blk_cell (blk_drew g3) 10⟩ (fun hHeld => ?_)
      refine take_ (i := 0) (N := some 62) (v := ?_) (a' := ?_) #[true, false, false, false, false] rfl rfl (by kernel_rfl) (fun _ _ _ h => h) (Or.inl ⟨by rfl, ?_⟩) hHeld ?_ ?_
      rotate_left
      · rintro w' ⟨s0, s1, s2, s3, s4, s5, s6, s7, s8, s9, s10, s11, s12, s13, s14, s15, s16, s17, s18⟩
        go_simp
        with_reducible rfl
      rotate_left
      · simp only [Act.put, List.setIfInBounds_toArray, List.set_cons_zero, List.set_cons_succ, i64_w, i32_w]
        rfl
      refine take_ (i := 1) (N := some 63) (v := ?_) (a' := ?_) #[true, true, false, false, false] rfl rfl (by kernel_rfl) (fun _ _ _ h => h) (Or.inl ⟨by rfl, ?_⟩) hHeld ?_ ?_
      rotate_left
      · rintro w' ⟨s0, s1, s2, s3, s4, s5, s6, s7, s8, s9, s10, s11, s12, s13, s14, s15, s16, s17, s18⟩
        go_simp
        with_reducible rfl
      rotate_left
      · simp only [Act.put, List.setIfInBounds_toArray, List.set_cons_zero, List.set_cons_succ, i64_w, i32_w]
        rfl
      refine one_ (i := 2) (N := none) #[true, true, true, false, false] rfl rfl (by kernel_rfl) (by decide) (fun K hK => ?_)
      have t0 := blk_drew g0
      have t1 := hHeld.1
      have t2 := hHeld.2.1
      have tB := hHeld.2.2.1
      have t3 := hHeld.2.2.2.2.2.2.2.1
      clear hHeld
      rw [if_pos (by rfl)]
      refine wp_store_row 24 (.tmp 2) (.tmp 62) rfl w.heap.size #[.int .i64 id, .bool b15, .int .i64 (Go.bits .and .i64 (f / 2048) 15), .bool b10, .bool b9, .bool b8, .bool b7, .bool b6, .bool b5, .bool b4, .int .i64 (Go.bits .and .i64 f 15)] rfl rfl _ _ t0 (by kernel_rfl) rfl (by simp [Value.oneCell']) ?_
      have s0 := setRow_heap _ w.heap.size _ #[.int .i64 id, .bool b15, .int .i64 (Go.bits .and .i64 (f / 2048) 15), .bool b10, .bool b9, .bool b8, .bool b7, .bool b6, .bool b5, .bool b4, .int .i64 (Go.bits .and .i64 f 15)] _ _ t0
      have s1 := (setRow_other _ w.heap.size (w.heap.size + 1) #[.int .i64 id, .bool b15, .int .i64 (Go.bits .and .i64 (f / 2048) 15), .bool b10, .bool b9, .bool b8, .bool b7, .bool b6, .bool b5, .bool b4, .int .i64 (Go.bits .and .i64 f 15)] (by omega)).trans t1
      have s2 := (setRow_other _ w.heap.size (w.heap.size + 1 + 1) #[.int .i64 id, .bool b15, .int .i64 (Go.bits .and .i64 (f / 2048) 15), .bool b10, .bool b9, .bool b8, .bool b7, .bool b6, .bool b5, .bool b4, .int .i64 (Go.bits .and .i64 f 15)] (by omega)).trans t2
      have s4 := (setRow_other _ w.heap.size (w.heap.size + 1 + 1 + 1) #[.int .i64 id, .bool b15, .int .i64 (Go.bits .and .i64 (f / 2048) 15), .bool b10, .bool b9, .bool b8, .bool b7, .bool b6, .bool b5, .bool b4, .int .i64 (Go.bits .and .i64 f 15)] (by omega)).trans t3
      have s3 := xbelow_setRow tB (Nat.le_refl _) #[.int .i64 id, .bool b15, .int .i64 (Go.bits .and .i64 (f / 2048) 15), .bool b10, .bool b9, .bool b8, .bool b7, .bool b6, .bool b5, .bool b4, .int .i64 (Go.bits .and .i64 f 15)]
      clear t0 t1 t2 tB
      generalize wr.drew.setRow w.heap.size #[.int .i64 id, .bool b15, .int .i64 (Go.bits .and .i64 (f / 2048) 15), .bool b10, .bool b9, .bool b8, .bool b7, .bool b6, .bool b5, .bool b4, .int .i64 (Go.bits .and .i64 f 15)] = w4 at *
      refine hK.out _ _ ⟨s1, s2, s3, blk_cell s2 0, blk_cell s2 1, blk_cell s2 2, blk_cell s2 3, s4, blk_cell s4 0, blk_cell s4 1, blk_cell s4 2, blk_cell s4 3, blk_cell s4 4, blk_cell s4 5, blk_cell s4 6, blk_cell s4 7, blk_cell s4 8, blk_cell s4 9, blk_cell s4 10⟩ (fun hHeld => ?_)
      clear hK K
      refine last_ (i := 3) (N := none) #[true, true, true, true, false] rfl rfl (by kernel_rfl) (by decide) (fun K hK => ?_)
      clear hHeld
      rw [if_pos (by rfl)]
      refine wp_store_row 39 (.tmp 3) (.tmp 63) rfl (w.heap.size + 1) #[.int .i64 n0, .int .i64 n1, .int .i64 n2, .int .i64 n3] rfl rfl _ _ s1 (by kernel_rfl) rfl (by simp [Value.oneCell']) ?_
      have q0 := (setRow_other w4 (w.heap.size + 1) w.heap.size #[.int .i64 n0, .int .i64 n1, .int .i64 n2, .int .i64 n3] (by omega)).trans s0
      have q1 := setRow_heap w4 (w.heap.size + 1) _ #[.int .i64 n0, .int .i64 n1, .int .i64 n2, .int .i64 n3] _ _ s1
      have qB := xbelow_setRow s3 (by omega : w.heap.size ≤ w.heap.size + 1) #[.int .i64 n0, .int .i64 n1, .int .i64 n2, .int .i64 n3]
      clear s0 s1 s3
      generalize w4.setRow (w.heap.size + 1) #[.int .i64 n0, .int .i64 n1, .int .i64 n2, .int .i64 n3] = w5 at *
      refine hK.out _ _ ?_
      clear hK K
      refine pure_ (i := 4) (N := some 4) (v := ?_) (a' := ?_) #[true, true, true, true, true] rfl rfl (by kernel_rfl) (fun _ _ _ h => h) (Or.inl ⟨by rfl, ?_⟩) ?_ ?_
      rotate_left
      · intro w'
        go_simp
        with_reducible rfl
      rotate_left
      · simp only [Act.put, List.setIfInBounds_toArray, List.set_cons_zero, List.set_cons_succ, i64_w, i32_w]
        rfl
      refine done_ (by kernel_rfl) ?_

      go_wp2
      have l1 := run_loadVar_row (P := Tryd.prog) w5 w.heap.size 24 24 _ _ _ q0 Tryd.underlying24 rfl (by kernel_rfl)
      have l2 := run_loadVar_row (P := Tryd.prog) w5 (w.heap.size + 1) 39 39 _ _ _ q1 Tryd.underlying39 rfl (by kernel_rfl)
      refine bodyPost_ret (v := .tuple #[.agg #[.int .i64 id, .bool b15, .int .i64 (Go.bits .and .i64 (f / 2048) 15), .bool b10, .bool b9, .bool b8, .bool b7, .bool b6, .bool b5, .bool b4, .int .i64 (Go.bits .and .i64 f 15)], .agg #[.int .i64 n0, .int .i64 n1, .int .i64 n2, .int .i64 n3], .int .i64 0]) (by simp [results, Tryd.results25, asAddr, Sem.run_bind, l1, l2]) rfl ⟨rfl, qB⟩
-- the function
def spec_DecodeHead.f (k : Nat) (l0 : List Int) : Option (Int × Bool × Int × Bool × Bool × Bool × Bool × Bool × Bool × Bool × Int × Int × Int × Int × Int × Int) := if l0.length < 12 then some (0, false, 0, false, false, false, false, false, false, false, 0, 0, 0, 0, 0, 8) else (spec_l02Num.f k ((strOfNums (l0.take 12)).extract 2 4)).bind fun f => (spec_l02Num.f k ((strOfNums (l0.take 12)).extract 0 2)).bind fun id => (spec_l04Bit.f f 15).bind fun b15 => (spec_l04Bit.f f 10).bind fun b10 => (spec_l04Bit.f f 9).bind fun b9 => (spec_l04Bit.f f 8).bind fun b8 => (spec_l04Bit.f f 7).bind fun b7 => (spec_l04Bit.f f 6).bind fun b6 => (spec_l04Bit.f f 5).bind fun b5 => (spec_l04Bit.f f 4).bind fun b4 => (spec_l02Num.f k ((strOfNums (l0.take 12)).extract 4 6)).bind fun n0 => (spec_l02Num.f k ((strOfNums (l0.take 12)).extract 6 8)).bind fun n1 => (spec_l02Num.f k ((strOfNums (l0.take 12)).extract 8 10)).bind fun n2 => (spec_l02Num.f k ((strOfNums (l0.take 12)).extract 10 12)).bind fun n3 => some (id, b15, Go.bits .and .i64 (shr .i64 f 11) 15, b10, b9, b8, b7, b6, b5, b4, Go.bits .and .i64 f 15, n0, n1, n2, n3, 0)
theorem spec_DecodeHead.mono : ∀ a0 k, LeO (spec_DecodeHead.f k a0) (spec_DecodeHead.f (k + 1) a0) := by
  intro a0 k
  unfold spec_DecodeHead.f
  repeat' first
      | (with_reducible exact spec_l02Num.mono _ _)
      | (with_reducible exact LeO.refl _)
      | (with_reducible refine LeO.ite ?_ ?_)
      | (with_reducible refine LeO.bind ?_ (fun _ => ?_))
set_option maxHeartbeats 1000000 in
theorem spec_DecodeHead.calls (k : Nat) (A0 : Option Addr) (c0 : Nat) (l0 : List Int) (r0 : Int) (r1 : Bool) (r2 : Int) (r3 : Bool) (r4 : Bool) (r5 : Bool) (r6 : Bool) (r7 : Bool) (r8 : Bool) (r9 : Bool) (r10 : Int) (r11 : Int) (r12 : Int) (r13 : Int) (r14 : Int) (r15 : Int) (w : World) (hr0 : Kd.C (Kd.int .u8) w A0 l0.length l0) (hc0 : l0.length ≤ c0) (h : spec_DecodeHead.f k l0 = some (r0, r1, r2, r3, r4, r5, r6, r7, r8, r9, r10, r11, r12, r13, r14, r15)) :
    Calls Tryd.prog 25 #[.slice A0 l0.length c0] w fun e w' => e = .returned (.tuple #[.agg #[.int .i64 r0, .bool r1, .int .i64 r2, .bool r3, .bool r4, .bool r5, .bool r6, .bool r7, .bool r8, .bool r9, .int .i64 r10], .agg #[.int .i64 r11, .int .i64 r12, .int .i64 r13, .int .i64 r14], .int .i64 r15]) ∧ Below w.heap.size w w' := by
  unfold spec_DecodeHead.f at h
  split at h
  case isTrue hl =>
    cases h
    exact spec_DecodeHead.short A0 c0 l0 w hr0 hc0 hl
  case isFalse hl =>
    obtain ⟨f, e0, h⟩ := Option.bind_eq_some_iff.mp h
    obtain ⟨id, e1, h⟩ := Option.bind_eq_some_iff.mp h
    obtain ⟨b15, e2, h⟩ := Option.bind_eq_some_iff.mp h
    obtain ⟨b10, e3, h⟩ := Option.bind_eq_some_iff.mp h
    obtain ⟨b9, e4, h⟩ := Option.bind_eq_some_iff.mp h
    obtain ⟨b8, e5, h⟩ := Option.bind_eq_some_iff.mp h
    obtain ⟨b7, e6, h⟩ := Option.bind_eq_some_iff.mp h
    obtain ⟨b6, e7, h⟩ := Option.bind_eq_some_iff.mp h
    obtain ⟨b5, e8, h⟩ := Option.bind_eq_some_iff.mp h
    obtain ⟨b4, e9, h⟩ := Option.bind_eq_some_iff.mp h
    obtain ⟨n0, e10, h⟩ := Option.bind_eq_some_iff.mp h
    obtain ⟨n1, e11, h⟩ := Option.bind_eq_some_iff.mp h
    obtain ⟨n2, e12, h⟩ := Option.bind_eq_some_iff.mp h
    obtain ⟨n3, e13, h⟩ := Option.bind_eq_some_iff.mp h
    cases h
    exact spec_DecodeHead.long A0 c0 l0 w hr0 hc0 (by omega) _ rfl k _ _ _ _ _ _ _ _ _ _ _ _ _ _ e0 e1 e10 e11 e12 e13 e2 e3 e4 e5 e6 e7 e8 e9

end Go.Proofs.YtcamchdenjpmhaaDoor.F
namespace Go.Proofs.YtcamchdenjpmhaaDoor.F
open Go Go.Shelf Go.RowKit Go.Proofs.YtcamchdenjpmhaaDoorW.PrintWords Go.Proofs.YtcamchdenjpmhaaDoorW.PrintLast Go.Proofs.YtcamchdenjpmhaaDoorW.PrintMore
attribute [local go_sem] max2_int min2_int max_two min_two max_three min_three max_four min_four   -- for this text's walks alone
set_option linter.unusedVariables false
set_option linter.unusedSimpArgs false

/-! ### spec_l01Join: function 38 -/
def joinS (l : List ByteArray) : List UInt8 := l.flatMap fun s => UInt8.ofNat s.size :: s.data.toList
def spec_l01Join.f (l0 : List ByteArray) : Option (ByteArray) := if (joinS l0).length + 1 ≤ 140737488355328 ∧ l0.length ≤ 140737488355328 then some ⟨(joinS l0 ++ [0]).toArray⟩ else none
theorem joinS_succ (l : List ByteArray) (k : Nat) (hk : k < l.length) : joinS (l.take (k + 1)) = joinS (l.take k) ++ (UInt8.ofNat (l[k]).size :: (l[k]).data.toList) := by
  simp only [joinS]
  rw [List.take_succ_eq_append_getElem hk, List.flatMap_append, List.flatMap_cons, List.flatMap_nil, List.append_nil]
theorem joinS_le (l : List ByteArray) (k : Nat) : (joinS (l.take k)).length ≤ (joinS l).length := by
  have h : joinS l = joinS (l.take k) ++ joinS (l.drop k) := by
    simp only [joinS]
    rw [← List.flatMap_append, List.take_append_drop]
  rw [h, List.length_append]
  omega
set_option maxHeartbeats 1000000 in
set_option maxRecDepth 100000 in
theorem spec_l01Join.calls (A0 : Option Addr) (c0 : Nat) (l0 : List ByteArray) (r : ByteArray) (w : World) (hr0 : Kd.C Kd.string w A0 l0.length l0) (_hc0 : l0.length ≤ c0) (h : spec_l01Join.f l0 = some r) :
    Calls Tryd.prog 38 #[.slice A0 l0.length c0] w fun e w' => e = .returned (.string r) ∧ Below w.heap.size w w' := by
  unfold spec_l01Join.f at h
  split at h
  case isFalse => cases h
  case isTrue hs =>
  obtain ⟨hs, hs2⟩ := hs
  obtain rfl := Option.some.inj h
  have HR := Aside0.mk hr0
  clear hr0
  go_enter Tryd.func38, Tryd.ntmps38
  go_wp2
  go_loopw [3, 4] (fun v i wr => ∃ k : Nat, k ≤ l0.length ∧ i = .int .i64 k ∧ v = .string ⟨(joinS (l0.take k)).toArray⟩ ∧ Aside0 (Below w.heap.size w wr)) (fun _ i _ => l0.length - (intOf i).toNat)
  case atStart => exact ⟨0, Nat.zero_le _, rfl, rfl, ⟨Below.refl _ _⟩⟩
  case round =>
    obtain ⟨k, hk, rfl, rfl, HB⟩ := hrel
    by_cases hlt : k < l0.length
    · obtain ⟨ad, e0, hx⟩ := Kd.at_string HR.out (k : Int) (by omega) (by omega)
      cases e0
      have hbl := World.block_lt_of_cell? w _ hx
      replace hx := (HB.out.cell hbl).trans hx
      have hlt2 : decide ((k : Int) < (l0.length : Int)) = true := decide_eq_true (by omega)
      have hlt3 : (k : Int) < (l0.length : Int) := by omega
      have h0k : 0 ≤ (k : Int) := by omega
      have hel : rdOf ByteArray.empty l0 (k : Int) = l0[k] := by simp [rdOf, List.getD_eq_getElem?_getD, hlt]
      rw [hel] at hx
      simp only [Int.toNat_natCast] at hx
      have HS := Aside0.mk (joinS_succ l0 k hlt)
      have hle1 := joinS_le l0 (k + 1)
      rw [HS.out] at hle1
      simp only [List.length_append, List.length_cons, Array.length_toList] at hle1
      have hsz : (l0[k]).data.size = (l0[k]).size := rfl
      rw [hsz] at hle1
      clear hel hsz
      generalize l0[k] = s at *
      generalize joinS (l0.take k) = t at *
      have hcv : Sem.run Tryd.prog (convert 22 9 (.slice (some ⟨wr.heap.size, 0, none⟩) 1 1)) (wr.alloc (.cells #[.int .u8 (IntKind.u8.wrap (s.size : Int))] 5)).drew = .ok (.string (strOfNums [IntKind.u8.wrap (s.size : Int)])) (wr.alloc (.cells #[.int .u8 (IntKind.u8.wrap (s.size : Int))] 5)).drew :=
        string_of_reads Tryd.underlying22 Tryd.underlying5 Tryd.underlying9 ⟨rfl, by omega, fun _ => ⟨_, rfl, fun j hj => by
          obtain rfl : j = 0 := by omega
          rw [add_plain]
          simp⟩⟩
      have hone : strOfNums [IntKind.u8.wrap (s.size : Int)] = ⟨#[UInt8.ofNat s.size]⟩ := by
        rw [IntKind.wrap_u8]
        simp only [strOfNums, List.map_cons, List.map_nil]
        congr 2
        apply congrArg (fun z => [z])
        apply UInt8.toNat_inj.1
        rw [UInt8.toNat_ofNat', UInt8.toNat_ofNat']
        omega
      rw [hone] at hcv
      clear hone
      rw [IntKind.wrap_u8] at hcv
      have hx2 : ∀ o, (wr.alloc o).cell? (ad.add k) = some (.string s) := fun o => (World.cell?_alloc_lt _ _ _ (World.block_lt_of_cell? wr _ hx)).trans hx
      obtain ⟨T, hT⟩ : ∃ T : ByteArray, T = ⟨t.toArray⟩ := ⟨_, rfl⟩
      obtain ⟨O, hO⟩ : ∃ O : ByteArray, O = ⟨#[UInt8.ofNat s.size]⟩ := ⟨_, rfl⟩
      have s1 : T.size + O.size ≤ 9223372036854775807 := by
        have e1 : T.size = t.length := by rw [hT]; rfl
        have e2 : O.size = 1 := by rw [hO]; rfl
        omega
      have s2 : (T ++ O).size + s.size ≤ 9223372036854775807 := by
        have e1 : T.size = t.length := by rw [hT]; rfl
        have e2 : O.size = 1 := by rw [hO]; rfl
        rw [ByteArray.size_append]
        omega
      rw [← hT]
      rw [← hO] at hcv
      have HT := Aside0.mk hT
      have HO := Aside0.mk hO
      clear hT hO
      have b1 := eq_true s1
      have b2 := eq_true s2
      have b3 : decide (T.size + O.size ≤ 9223372036854775807) = true := decide_eq_true s1
      have b4 : decide ((T ++ O).size + s.size ≤ 9223372036854775807) = true := decide_eq_true s2
      have b5 : (9223372036854775807 < T.size + O.size) = False := eq_false (Nat.not_lt.2 s1)
      have b6 : (9223372036854775807 < (T ++ O).size + s.size) = False := eq_false (Nat.not_lt.2 s2)
      have s3 : T.size + O.size + s.size ≤ 9223372036854775807 := by rw [ByteArray.size_append] at s2; exact s2
      have b7 := eq_true s3
      have b8 : (9223372036854775807 < T.size + O.size + s.size) = False := eq_false (Nat.not_lt.2 s3)
      clear s1 s2
      go_wp2
      go_region
      go_wp2
      go_roundw
      case rel => exact ⟨k + 1, by omega, by go_num, by rw [HS.out, HT.out, HO.out]; exact congrArg Value.string (WideShapes.bytes_inj (by simp [ByteArray.data_append])), ⟨(HB.out.alloc HB.out.size _).drew⟩⟩
      case measure => simp [intOf]; omega
    · obtain rfl : k = l0.length := by omega
      have hlt2 : decide ((l0.length : Int) < (l0.length : Int)) = false := decide_eq_false (by omega)
      rw [List.take_length]
      obtain ⟨T, hT⟩ : ∃ T : ByteArray, T = ⟨(joinS l0).toArray⟩ := ⟨_, rfl⟩
      have s1 : T.size + 1 ≤ 9223372036854775807 := by
        have e1 : T.size = (joinS l0).length := by rw [hT]; rfl
        omega
      have b1 := eq_true s1
      have b3 : decide (T.size + 1 ≤ 9223372036854775807) = true := decide_eq_true s1
      have b5 : (9223372036854775807 < T.size + 1) = False := eq_false (Nat.not_lt.2 s1)
      rw [← hT]
      have HT := Aside0.mk hT
      clear hT
      go_wp2
      go_ret
      exact ⟨by rw [HT.out]; exact congrArg (fun z => Ending.returned (Value.string z)) (WideShapes.bytes_inj (by simp [ByteArray.data_append])), HB.out⟩

end Go.Proofs.YtcamchdenjpmhaaDoor.F
namespace Go.Proofs.YtcamchdenjpmhaaDoor.F
open Go Go.Shelf Go.RowKit Go.Proofs.YtcamchdenjpmhaaDoorW.PrintWords Go.Proofs.YtcamchdenjpmhaaDoorW.PrintLast Go.Proofs.YtcamchdenjpmhaaDoorW.PrintMore
attribute [local go_sem] max2_int min2_int max_two min_two max_three min_three max_four min_four   -- for this text's walks alone
set_option linter.unusedVariables false
set_option linter.unusedSimpArgs false

/-! ### spec_DecodeName: function 26 -/
mutual
def spec_DecodeName.j0 : Nat → List Int → Int → Int → Bool → Option (ByteArray × Int × Int)
  | 0, _, _, _, _ => none
  | k + 1, x0, x1, x7, x22 => if x22 = true then (some ((⟨#[]⟩ : ByteArray), 0, 32)) else (spec_DecodeName.l0 k x0 x1 x7 (([] : List ByteArray)) 1 (-1) x1)
def spec_DecodeName.l0 : Nat → List Int → Int → Int → List ByteArray → Int → Int → Int → Option (ByteArray × Int × Int)
  | 0, _, _, _, _, _, _, _ => none
  | k + 1, x0, x1, x7, x8, x9, x10, x11 => if x1 ≥ x7 then (some ((⟨#[]⟩ : ByteArray), 0, 8)) else (if 0 ≤ x1 then (if x1 < (x0.length : Int) then (if (wrap64 (rd x0 x1)) = 0 then (if x10 < 0 then ((spec_l01Join.f x8).bind fun t105 => (some (t105, wrap64 (x1 + 1), 0))) else ((spec_l01Join.f x8).bind fun t106 => (some (t106, x10, 0)))) else (if (wrap64 (rd x0 x1)) ≥ 192 then (if (wrap64 (x1 + 1)) ≥ x7 then (some ((⟨#[]⟩ : ByteArray), 0, 8)) else (if 0 ≤ (wrap64 (x1 + 1)) then (if (wrap64 (x1 + 1)) < (x0.length : Int) then (if (wrap64 ((wrap64 ((wrap64 ((wrap64 (rd x0 x1)) - 192)) * 256)) + (wrap64 (rd x0 (wrap64 (x1 + 1)))))) ≥ x11 then (some ((⟨#[]⟩ : ByteArray), 0, 9)) else (if x10 < 0 then (spec_DecodeName.l0 k x0 (wrap64 ((wrap64 ((wrap64 ((wrap64 (rd x0 x1)) - 192)) * 256)) + (wrap64 (rd x0 (wrap64 (x1 + 1)))))) x7 x8 x9 (wrap64 (x1 + 2)) (wrap64 ((wrap64 ((wrap64 ((wrap64 (rd x0 x1)) - 192)) * 256)) + (wrap64 (rd x0 (wrap64 (x1 + 1))))))) else (spec_DecodeName.l0 k x0 (wrap64 ((wrap64 ((wrap64 ((wrap64 (rd x0 x1)) - 192)) * 256)) + (wrap64 (rd x0 (wrap64 (x1 + 1)))))) x7 x8 x9 x10 (wrap64 ((wrap64 ((wrap64 ((wrap64 (rd x0 x1)) - 192)) * 256)) + (wrap64 (rd x0 (wrap64 (x1 + 1))))))))) else (none)) else (none))) else (if (wrap64 (rd x0 x1)) > 63 then (some ((⟨#[]⟩ : ByteArray), 0, 2)) else (if (wrap64 ((wrap64 (x1 + 1)) + (wrap64 (rd x0 x1)))) > x7 then (some ((⟨#[]⟩ : ByteArray), 0, 8)) else (if (wrap64 ((wrap64 (x9 + 1)) + (wrap64 (rd x0 x1)))) > 255 then (some ((⟨#[]⟩ : ByteArray), 0, 3)) else (if 0 ≤ (wrap64 (x1 + 1)) then (if (wrap64 (x1 + 1)) ≤ (wrap64 ((wrap64 (x1 + 1)) + (wrap64 (rd x0 x1)))) then (if (wrap64 ((wrap64 (x1 + 1)) + (wrap64 (rd x0 x1)))) ≤ (x0.length : Int) then (if x8.length < 8796093022208 then (spec_DecodeName.l0 k x0 (wrap64 ((wrap64 (x1 + 1)) + (wrap64 (rd x0 x1)))) x7 (x8 ++ [strOfNums ((x0.take ((wrap64 ((wrap64 (x1 + 1)) + (wrap64 (rd x0 x1)))) : Int).toNat).drop ((wrap64 (x1 + 1)) : Int).toNat)]) (wrap64 ((wrap64 (x9 + 1)) + (wrap64 (rd x0 x1)))) x10 x11) else (none)) else (none)) else (none)) else (none))))))) else (none)) else (none))
end
def spec_DecodeName.f (k : Nat) (l0 : List Int) (a1 : Int) : Option (ByteArray × Int × Int) := if a1 < 0 then (spec_DecodeName.j0 k l0 a1 (l0.length : Int) true) else (spec_DecodeName.j0 k l0 a1 (l0.length : Int) (decide (a1 > (l0.length : Int))))
theorem spec_DecodeName.mono_l : ∀ k, (∀ y0 y1 y2 y3, LeO (spec_DecodeName.j0 k y0 y1 y2 y3) (spec_DecodeName.j0 (k + 1) y0 y1 y2 y3)) ∧ (∀ y0 y1 y2 y3 y4 y5 y6, LeO (spec_DecodeName.l0 k y0 y1 y2 y3 y4 y5 y6) (spec_DecodeName.l0 (k + 1) y0 y1 y2 y3 y4 y5 y6))
  | 0 => ⟨fun _ _ _ _ r h => by simp [spec_DecodeName.j0] at h, fun _ _ _ _ _ _ _ r h => by simp [spec_DecodeName.l0] at h⟩
  | k + 1 => by
    obtain ⟨ih0, ih1⟩ := spec_DecodeName.mono_l k
    refine ⟨?_, ?_⟩
    · intro y0 y1 y2 y3
      unfold spec_DecodeName.j0
      repeat' first
      | (with_reducible exact ih0 _ _ _ _)
      | (with_reducible exact ih1 _ _ _ _ _ _ _)
      | (with_reducible exact LeO.refl _)
      | (with_reducible exact LeO.none _)
      | (with_reducible refine LeO.ite ?_ ?_)
      | (with_reducible refine LeO.bind ?_ (fun _ => ?_))
      | exact ih0 _ _ _ _
      | exact ih1 _ _ _ _ _ _ _
      | exact LeO.none _
      | refine LeO.ite ?_ ?_
      | refine LeO.bind ?_ (fun _ => ?_)
    · intro y0 y1 y2 y3 y4 y5 y6
      unfold spec_DecodeName.l0
      repeat' first
      | (with_reducible exact ih0 _ _ _ _)
      | (with_reducible exact ih1 _ _ _ _ _ _ _)
      | (with_reducible exact LeO.refl _)
      | (with_reducible exact LeO.none _)
      | (with_reducible refine LeO.ite ?_ ?_)
      | (with_reducible refine LeO.bind ?_ (fun _ => ?_))
      | exact ih0 _ _ _ _
      | exact ih1 _ _ _ _ _ _ _
      | exact LeO.none _
      | refine LeO.ite ?_ ?_
      | refine LeO.bind ?_ (fun _ => ?_)
theorem spec_DecodeName.mono : ∀ a0 a1 k, LeO (spec_DecodeName.f k a0 a1) (spec_DecodeName.f (k + 1) a0 a1) := by
  intro a0 a1 k
  obtain ⟨ih0, ih1⟩ := spec_DecodeName.mono_l k
  unfold spec_DecodeName.f
  repeat' first
      | (with_reducible exact ih0 _ _ _ _)
      | (with_reducible exact ih1 _ _ _ _ _ _ _)
      | (with_reducible exact LeO.refl _)
      | (with_reducible exact LeO.none _)
      | (with_reducible refine LeO.ite ?_ ?_)
      | (with_reducible refine LeO.bind ?_ (fun _ => ?_))
      | exact ih0 _ _ _ _
      | exact ih1 _ _ _ _ _ _ _
      | exact LeO.none _
      | refine LeO.ite ?_ ?_
      | refine LeO.bind ?_ (fun _ => ?_)
set_option maxHeartbeats 8000000 in
set_option maxRecDepth 100000 in
theorem spec_DecodeName.calls (k : Nat) (A0 : Option Addr) (c0 : Nat) (l0 : List Int) (a1 : Int) (r1 : ByteArray) (r2 : Int) (r3 : Int) (w : World) (hr0 : Kd.C (Kd.int .u8) w A0 l0.length l0) (hc0 : l0.length ≤ c0) (h : spec_DecodeName.f k l0 a1 = some (r1, r2, r3)) :
    Calls Tryd.prog 26 #[.slice A0 l0.length c0, .int .i64 a1] w fun e w' => e = .returned (.tuple #[.string r1, .int .i64 r2, .int .i64 r3]) ∧ Below w.heap.size w w' := by
  have HR0 := Aside0.mk hr0
  have HC0 := Aside0.mk hc0
  clear hr0 hc0
  have HB := Aside0.mk (Below.refl w.heap.size w)
  have H : (if a1 < 0 then (spec_DecodeName.j0 k l0 a1 (l0.length : Int) true) else (spec_DecodeName.j0 k l0 a1 (l0.length : Int) (decide (a1 > (l0.length : Int))))) = some (r1, r2, r3) := h
  clear h
  have HC3 := Aside0.mk H
  clear H
  go_enter Tryd.func26, Tryd.ntmps26
  go_upto_region 2 with (fail)
  go_cut [22] (fun v22 wc => ∃ (kq : Nat) (x22_2 : Bool), v22 = .bool x22_2 ∧ Aside0 (spec_DecodeName.j0 kq l0 a1 (l0.length : Int) x22_2 = some (r1, r2, r3)) ∧ Aside0 (kq ≤ k) ∧ Aside0 (Below w.heap.size w wc))
  case first =>
    have H := HC3.out
    clear HC3
    by_cases c4 : a1 < 0
    · rw [if_pos c4] at H
      have c4b0 : decide (a1 < 0) = true := decide_eq_true c4
      clear c4
      (first | rw [c4b0] | (simp only [i64_w, i32_w]; rw [c4b0]) | skip)
      have H' := Aside0.mk H
      clear H
      go_wp2
      go_meet
      case rel => exact ⟨_, (true), (by first | rfl | (simp; done) | (simp [*]; done)), H', ⟨by first | omega | exact Nat.le_refl _⟩, ⟨by repeat (first | (with_reducible first | exact HB.out | apply below_alloc | apply pw_below_drewN | apply below_drew1) | exact HB.out)⟩⟩
    · rw [if_neg c4] at H
      have c4b0 : decide (a1 < 0) = false := decide_eq_false c4
      clear c4
      (first | rw [c4b0] | (simp only [i64_w, i32_w]; rw [c4b0]) | skip)
      have H' := Aside0.mk H
      clear H
      go_wp2
      go_meet
      case rel => exact ⟨_, (decide (a1 > (l0.length : Int))), (by first | rfl | (simp; done) | (simp [*]; done)), H', ⟨by first | omega | exact Nat.le_refl _⟩, ⟨by repeat (first | (with_reducible first | exact HB.out | apply below_alloc | apply pw_below_drewN | apply below_drew1) | exact HB.out)⟩⟩
  case rest =>
    clear HC3
    try clear c2
    try clear p2
    try clear c4
    try clear c4b0
    obtain ⟨kq, x22_2, rfl, HA, HJ2, HB⟩ := hcut
    cases kq with
    | zero => exact absurd HA.out (by simp [spec_DecodeName.j0])
    | succ kj2 =>
      have H := HA.out
      clear HA
      simp only [spec_DecodeName.j0] at H
      by_cases c5 : x22_2 = true
      · subst c5
        have H1 : (some ((⟨#[]⟩ : ByteArray), 0, 32)) = some (r1, r2, r3) := by rw [if_pos rfl] at H; exact H
        clear H
        have H := H1
        clear H1
        simp only [Option.some.injEq, Prod.mk.injEq] at H
        obtain ⟨rfl, rfl, rfl⟩ := H
        go_wp2
        go_ret3
        exact ⟨by first | rfl | (simp [errW_none, errW_some] <;> rfl) | (simp [*, errW_none, errW_some] <;> rfl), by repeat (first | (with_reducible first | exact HB.out | apply below_alloc | apply pw_below_drewN | apply below_drew1) | exact HB.out)⟩
      · replace c5 := Bool.eq_false_iff.mpr c5
        subst c5
        have H1 : (spec_DecodeName.l0 kj2 l0 a1 (l0.length : Int) (([] : List ByteArray)) 1 (-1) a1) = some (r1, r2, r3) := by rw [if_neg (show ¬ (false = true) by decide)] at H; exact H
        clear H
        have H := H1
        clear H1
        obtain ⟨y101, hy101⟩ : ∃ y_ : List ByteArray, y_ = (([] : List ByteArray)) := ⟨_, rfl⟩
        replace H : (spec_DecodeName.l0 kj2 l0 a1 (l0.length : Int) y101 1 (-1) a1) = some (r1, r2, r3) := by first | (rw [hy101]; with_reducible exact H) | (have H2_ := (Option.bind_some _ _).symm.trans H; rw [hy101]; with_reducible exact H2_) | (have H2_ := (Option.bind_some _ _).symm.trans H; with_reducible exact H2_) | with_reducible exact H | (rw [hy101]; exact H) | exact H
        have Ny101 := Aside0.mk hy101
        clear hy101
        have H' := Aside0.mk H
        clear H
        go_wp2_with (first | ((with_reducible refine gate_dst (N := 23) rfl ?_); refine Kd.R_lit Kd.string _ 9 ?hg (N := 23) ?hd (xs := ([] : List ByteArray)) (inner := []) (ok := fun _ => True) (okp := fun _ => True) ?hr ?hp (fun _ hk => hk) trivial (Below.refl _ _) (Nat.le_refl _) (by simp) ?_; (case hd => rfl); (case hg => rfl); (case hr => first | (go_simp; done) | (go_simp; rfl)); (case hp => exact (Reps.none _ _)); intro v102 w6 ho7 hb hg_ hnew_; clear hg_ hnew_; (first | rw [← Ny101.out] at ho7 | (simp only [Int.reduceToNat] at ho7; rw [← Ny101.out] at ho7)); have n0_ := Aside0.mk (Kd.R_lower ho7 (below_size (by repeat (first | (with_reducible first | exact HB.out | apply below_alloc | apply pw_below_drewN | apply below_drew1) | exact HB.out)))); have n1_ := Aside0.mk (below_step (by repeat (first | (with_reducible first | exact HB.out | apply below_alloc | apply pw_below_drewN | apply below_drew1) | exact HB.out)) hb); clear HB; have HO103 := n0_; have HB := n1_; clear n0_ n1_; clear hb ho7))
        go_loopg [1, 8, 9, 10, 11] kj2 (fun kq v1 v8 v9 v10 v11 w' => ∃ (x1_2 : Int) (x8_2 : List ByteArray) (x9_2 : Int) (x10_2 : Int) (x11_2 : Int), v1 = .int .i64 x1_2 ∧ v9 = .int .i64 x9_2 ∧ v10 = .int .i64 x10_2 ∧ v11 = .int .i64 x11_2 ∧ Aside0 (spec_DecodeName.l0 kq l0 x1_2 (l0.length : Int) x8_2 x9_2 x10_2 x11_2 = some (r1, r2, r3)) ∧ Aside0 (kq ≤ kj2) ∧ Aside0 (Kd.R Kd.string 9 w' w.heap.size (fun _ => True) v8 x8_2) ∧ Aside0 (Below w.heap.size w w'))
        case atStart => exact ⟨(a1), (y101), (1), ((-1)), (a1), (by first | rfl | (simp; done) | (simp [*]; done)), (by first | rfl | (simp; done) | (simp [*]; done)), (by first | rfl | (simp; done) | (simp [*]; done)), (by first | rfl | (simp; done) | (simp [*]; done)), H', ⟨Nat.le_refl _⟩, ⟨by (with_reducible repeat (first | apply Kd.R_alloc | apply Kd.R_drewN | apply Kd.R_drew)); exact HO103.out⟩, ⟨by repeat (first | (with_reducible first | exact HB.out | apply below_alloc | apply pw_below_drewN | apply below_drew1) | exact HB.out)⟩⟩
        case round =>
          clear H'
          try clear c2
          try clear p2
          try clear c4
          try clear c4b0
          try clear c5
          try clear p2
          obtain ⟨x1_2, x8_2, x9_2, x10_2, x11_2, rfl, rfl, rfl, rfl, HA, HK2, HO_8, HB⟩ := hrel
          cases gk with
          | zero => exact absurd HA.out (by simp [spec_DecodeName.l0])
          | succ k2 =>
            have H := HA.out
            clear HA
            simp only [spec_DecodeName.l0] at H
            by_cases c8 : x1_2 ≥ (l0.length : Int)
            · rw [if_pos c8] at H
              have c8b0 : decide ((l0.length : Int) ≤ x1_2) = true := decide_eq_true c8
              clear c8
              simp only [Option.some.injEq, Prod.mk.injEq] at H
              obtain ⟨rfl, rfl, rfl⟩ := H
              go_wp2
              go_ret3
              exact ⟨by first | rfl | (simp [errW_none, errW_some] <;> rfl) | (simp [*, errW_none, errW_some] <;> rfl), by repeat (first | (with_reducible first | exact HB.out | apply below_alloc | apply pw_below_drewN | apply below_drew1) | exact HB.out)⟩
            · rw [if_neg c8] at H
              have c8b0 : decide ((l0.length : Int) ≤ x1_2) = false := decide_eq_false c8
              clear c8
              by_cases c9 : 0 ≤ x1_2
              · rw [if_pos c9] at H
                have c9b0 : decide (0 ≤ x1_2) = true := decide_eq_true c9
                clear c9
                by_cases c10 : x1_2 < (l0.length : Int)
                · rw [if_pos c10] at H
                  have c10b0 : decide (x1_2 < (l0.length : Int)) = true := decide_eq_true c10
                  clear c10
                  by_cases c11 : (wrap64 (rd l0 x1_2)) = 0
                  · rw [if_pos c11] at H
                    have c11b0 : ((wrap64 (rd l0 x1_2)) == 0) = true := beq_iff_eq.mpr c11
                    have c11b1 : ((wrap64 (rd l0 x1_2)) != 0) = false := bne_eq_false_iff_eq.mpr c11
                    clear c11
                    by_cases c12 : x10_2 < 0
                    · rw [if_pos c12] at H
                      have c12b0 : decide (x10_2 < 0) = true := decide_eq_true c12
                      clear c12
                      replace H := Option.bind_eq_some_iff.mp H
                      obtain ⟨t105, A130, H⟩ := H
                      replace H : (some (t105, wrap64 (x1_2 + 1), 0)) = some (r1, r2, r3) := H
                      have A13 := Aside0.mk A130
                      clear A130
                      simp only [Option.some.injEq, Prod.mk.injEq] at H
                      obtain ⟨rfl, rfl, rfl⟩ := H
                      have p104 : 0 ≤ (x1_2 : Int) := of_decide_eq_true (by first | (with_reducible assumption) | assumption)
                      have q104 : x1_2 < (l0.length : Int) := of_decide_eq_true (by first | (with_reducible assumption) | assumption)
                      obtain ⟨ad104, e104, hx104_0⟩ := Kd.at_int HR0.out x1_2 p104 q104
                      cases e104
                      replace hx104_0 := (HB.out.cell (World.block_lt_of_cell? w _ hx104_0)).trans hx104_0
                      replace p104 := eq_true p104
                      replace q104 := eq_true q104
                      obtain ⟨Ao14, co14, eo14⟩ := Kd.R_slice HO_8.out
                      subst eo14
                      go_wp2_with (first | ((with_reducible refine gate_callee (f := 38) rfl ?_); refine goesL_ (some 40) rfl rfl Tryd.func38 (by kernel_rfl) rfl #[.slice Ao14 x8_2.length co14] rfl (by (try simp only [List.map_toArray, List.map_cons, List.map_nil]); first | done | rfl | (simp only [List.length_drop, List.length_take]; rfl)) ?_; (with_reducible refine (spec_l01Join.calls _ _ x8_2 t105 _ ?side1 ?side2 A13.out).mono ?_); (case side1 => repeat (first | exact (Kd.R_reads' HO_8.out).2.2 | (with_reducible refine Kd.C_alloc ?_ _) | (with_reducible refine Kd.C_drewN ?_ _) | (with_reducible refine Kd.C_drew ?_))); (case side2 => exact (Kd.R_reads' HO_8.out).2.1); rintro e w15 ⟨rfl, hb⟩; refine ⟨_, rfl, ?_⟩; have n0_ := Aside0.mk (Kd.R_below (by (with_reducible repeat (first | apply Kd.R_alloc | apply Kd.R_drewN | apply Kd.R_drew)); exact HO_8.out) hb); have n1_ := Aside0.mk (below_step (by repeat (first | (with_reducible first | exact HB.out | apply below_alloc | apply pw_below_drewN | apply below_drew1) | exact HB.out)) hb); clear HO_8; clear HB; have HO_8 := n0_; have HB := n1_; clear n0_ n1_; (try clear hb); (try clear hb2); (try clear hk); (try clear hi)))
                      go_ret3
                      exact ⟨by first | rfl | (simp [errW_none, errW_some] <;> rfl) | (simp [*, errW_none, errW_some] <;> rfl), by repeat (first | (with_reducible first | exact HB.out | apply below_alloc | apply pw_below_drewN | apply below_drew1) | exact HB.out)⟩
                    · rw [if_neg c12] at H
                      have c12b0 : decide (x10_2 < 0) = false := decide_eq_false c12
                      clear c12
                      replace H := Option.bind_eq_some_iff.mp H
                      obtain ⟨t106, A160, H⟩ := H
                      replace H : (some (t106, x10_2, 0)) = some (r1, r2, r3) := H
                      have A16 := Aside0.mk A160
                      clear A160
                      simp only [Option.some.injEq, Prod.mk.injEq] at H
                      obtain ⟨rfl, rfl, rfl⟩ := H
                      have p104 : 0 ≤ (x1_2 : Int) := of_decide_eq_true (by first | (with_reducible assumption) | assumption)
                      have q104 : x1_2 < (l0.length : Int) := of_decide_eq_true (by first | (with_reducible assumption) | assumption)
                      obtain ⟨ad104, e104, hx104_0⟩ := Kd.at_int HR0.out x1_2 p104 q104
                      cases e104
                      replace hx104_0 := (HB.out.cell (World.block_lt_of_cell? w _ hx104_0)).trans hx104_0
                      replace p104 := eq_true p104
                      replace q104 := eq_true q104
                      obtain ⟨Ao17, co17, eo17⟩ := Kd.R_slice HO_8.out
                      subst eo17
                      go_wp2_with (first | ((with_reducible refine gate_callee (f := 38) rfl ?_); refine goesL_ (some 40) rfl rfl Tryd.func38 (by kernel_rfl) rfl #[.slice Ao17 x8_2.length co17] rfl (by (try simp only [List.map_toArray, List.map_cons, List.map_nil]); first | done | rfl | (simp only [List.length_drop, List.length_take]; rfl)) ?_; (with_reducible refine (spec_l01Join.calls _ _ x8_2 t106 _ ?side1 ?side2 A16.out).mono ?_); (case side1 => repeat (first | exact (Kd.R_reads' HO_8.out).2.2 | (with_reducible refine Kd.C_alloc ?_ _) | (with_reducible refine Kd.C_drewN ?_ _) | (with_reducible refine Kd.C_drew ?_))); (case side2 => exact (Kd.R_reads' HO_8.out).2.1); rintro e w18 ⟨rfl, hb⟩; refine ⟨_, rfl, ?_⟩; have n0_ := Aside0.mk (Kd.R_below (by (with_reducible repeat (first | apply Kd.R_alloc | apply Kd.R_drewN | apply Kd.R_drew)); exact HO_8.out) hb); have n1_ := Aside0.mk (below_step (by repeat (first | (with_reducible first | exact HB.out | apply below_alloc | apply pw_below_drewN | apply below_drew1) | exact HB.out)) hb); clear HO_8; clear HB; have HO_8 := n0_; have HB := n1_; clear n0_ n1_; (try clear hb); (try clear hb2); (try clear hk); (try clear hi)))
                      go_ret3
                      exact ⟨by first | rfl | (simp [errW_none, errW_some] <;> rfl) | (simp [*, errW_none, errW_some] <;> rfl), by repeat (first | (with_reducible first | exact HB.out | apply below_alloc | apply pw_below_drewN | apply below_drew1) | exact HB.out)⟩
                  · rw [if_neg c11] at H
                    have c11b0 : ((wrap64 (rd l0 x1_2)) == 0) = false := beq_eq_false_iff_ne.mpr c11
                    have c11b1 : ((wrap64 (rd l0 x1_2)) != 0) = true := bne_iff_ne.mpr c11
                    by_cases c19 : (wrap64 (rd l0 x1_2)) ≥ 192
                    · rw [if_pos c19] at H
                      have c19b0 : decide (192 ≤ (wrap64 (rd l0 x1_2))) = true := decide_eq_true c19
                      clear c19
                      by_cases c20 : (wrap64 (x1_2 + 1)) ≥ (l0.length : Int)
                      · rw [if_pos c20] at H
                        have c20b0 : decide ((l0.length : Int) ≤ (wrap64 (x1_2 + 1))) = true := decide_eq_true c20
                        clear c20
                        simp only [Option.some.injEq, Prod.mk.injEq] at H
                        obtain ⟨rfl, rfl, rfl⟩ := H
                        have p104 : 0 ≤ (x1_2 : Int) := of_decide_eq_true (by first | (with_reducible assumption) | assumption)
                        have q104 : x1_2 < (l0.length : Int) := of_decide_eq_true (by first | (with_reducible assumption) | assumption)
                        obtain ⟨ad104, e104, hx104_0⟩ := Kd.at_int HR0.out x1_2 p104 q104
                        cases e104
                        replace hx104_0 := (HB.out.cell (World.block_lt_of_cell? w _ hx104_0)).trans hx104_0
                        replace p104 := eq_true p104
                        replace q104 := eq_true q104
                        go_wp2
                        go_ret3
                        exact ⟨by first | rfl | (simp [errW_none, errW_some] <;> rfl) | (simp [*, errW_none, errW_some] <;> rfl), by repeat (first | (with_reducible first | exact HB.out | apply below_alloc | apply pw_below_drewN | apply below_drew1) | exact HB.out)⟩
                      · rw [if_neg c20] at H
                        have c20b0 : decide ((l0.length : Int) ≤ (wrap64 (x1_2 + 1))) = false := decide_eq_false c20
                        clear c20
                        obtain ⟨ji21, hji21⟩ : ∃ j_ : Int, (wrap64 (x1_2 + 1)) = j_ := ⟨_, rfl⟩
                        replace H : (if 0 ≤ (ji21) then (if (ji21) < (l0.length : Int) then (if (wrap64 ((wrap64 ((wrap64 ((wrap64 (rd l0 x1_2)) - 192)) * 256)) + (wrap64 (rd l0 (ji21))))) ≥ x11_2 then (some ((⟨#[]⟩ : ByteArray), 0, 9)) else (if x10_2 < 0 then (spec_DecodeName.l0 k2 l0 (wrap64 ((wrap64 ((wrap64 ((wrap64 (rd l0 x1_2)) - 192)) * 256)) + (wrap64 (rd l0 (ji21))))) (l0.length : Int) x8_2 x9_2 (wrap64 (x1_2 + 2)) (wrap64 ((wrap64 ((wrap64 ((wrap64 (rd l0 x1_2)) - 192)) * 256)) + (wrap64 (rd l0 (ji21)))))) else (spec_DecodeName.l0 k2 l0 (wrap64 ((wrap64 ((wrap64 ((wrap64 (rd l0 x1_2)) - 192)) * 256)) + (wrap64 (rd l0 (ji21))))) (l0.length : Int) x8_2 x9_2 x10_2 (wrap64 ((wrap64 ((wrap64 ((wrap64 (rd l0 x1_2)) - 192)) * 256)) + (wrap64 (rd l0 (ji21)))))))) else (none)) else (none)) = some (r1, r2, r3) := by first | (rw [hji21] at H; exact H) | (simp only [hji21] at H ⊢; exact H)
                        (try rw [hji21] at c20b0)
                        have hji21w : (IntKind.i64.wrap (x1_2 + 1)) = ji21 := (i64_w _).trans hji21
                        by_cases c22 : 0 ≤ (ji21)
                        · rw [if_pos c22] at H
                          have c22b0 : decide (0 ≤ (ji21)) = true := decide_eq_true c22
                          clear c22
                          by_cases c23 : (ji21) < (l0.length : Int)
                          · rw [if_pos c23] at H
                            have c23b0 : decide ((ji21) < (l0.length : Int)) = true := decide_eq_true c23
                            clear c23
                            by_cases c24 : (wrap64 ((wrap64 ((wrap64 ((wrap64 (rd l0 x1_2)) - 192)) * 256)) + (wrap64 (rd l0 (ji21))))) ≥ x11_2
                            · rw [if_pos c24] at H
                              have c24b0 : decide (x11_2 ≤ (wrap64 ((wrap64 ((wrap64 ((wrap64 (rd l0 x1_2)) - 192)) * 256)) + (wrap64 (rd l0 (ji21)))))) = true := decide_eq_true c24
                              clear c24
                              simp only [Option.some.injEq, Prod.mk.injEq] at H
                              obtain ⟨rfl, rfl, rfl⟩ := H
                              have p104 : 0 ≤ (x1_2 : Int) := of_decide_eq_true (by first | (with_reducible assumption) | assumption)
                              have q104 : x1_2 < (l0.length : Int) := of_decide_eq_true (by first | (with_reducible assumption) | assumption)
                              obtain ⟨ad104, e104, hx104_0⟩ := Kd.at_int HR0.out x1_2 p104 q104
                              cases e104
                              replace hx104_0 := (HB.out.cell (World.block_lt_of_cell? w _ hx104_0)).trans hx104_0
                              replace p104 := eq_true p104
                              replace q104 := eq_true q104
                              have p107 : 0 ≤ ((ji21) : Int) := of_decide_eq_true (by first | (with_reducible assumption) | assumption)
                              have q107 : (ji21) < (l0.length : Int) := of_decide_eq_true (by first | (with_reducible assumption) | assumption)
                              obtain ⟨ad107, e107, hx107_0⟩ := Kd.at_int HR0.out (ji21) p107 q107
                              obtain rfl : ad104 = ad107 := (by injection e107)
                              replace hx107_0 := (HB.out.cell (World.block_lt_of_cell? w _ hx107_0)).trans hx107_0
                              replace p107 := eq_true p107
                              replace q107 := eq_true q107
                              go_wp2
                              go_ret3
                              exact ⟨by first | rfl | (simp [errW_none, errW_some] <;> rfl) | (simp only [← hji21]; first | rfl | (simp [errW_none, errW_some] <;> rfl)) | (simp [*, errW_none, errW_some] <;> rfl), by repeat (first | (with_reducible first | exact HB.out | apply below_alloc | apply pw_below_drewN | apply below_drew1) | exact HB.out)⟩
                            · rw [if_neg c24] at H
                              have c24b0 : decide (x11_2 ≤ (wrap64 ((wrap64 ((wrap64 ((wrap64 (rd l0 x1_2)) - 192)) * 256)) + (wrap64 (rd l0 (ji21)))))) = false := decide_eq_false c24
                              clear c24
                              by_cases c25 : x10_2 < 0
                              · rw [if_pos c25] at H
                                have c25b0 : decide (x10_2 < 0) = true := decide_eq_true c25
                                clear c25
                                have H' := Aside0.mk H
                                clear H
                                have p104 : 0 ≤ (x1_2 : Int) := of_decide_eq_true (by first | (with_reducible assumption) | assumption)
                                have q104 : x1_2 < (l0.length : Int) := of_decide_eq_true (by first | (with_reducible assumption) | assumption)
                                obtain ⟨ad104, e104, hx104_0⟩ := Kd.at_int HR0.out x1_2 p104 q104
                                cases e104
                                replace hx104_0 := (HB.out.cell (World.block_lt_of_cell? w _ hx104_0)).trans hx104_0
                                replace p104 := eq_true p104
                                replace q104 := eq_true q104
                                have p107 : 0 ≤ ((ji21) : Int) := of_decide_eq_true (by first | (with_reducible assumption) | assumption)
                                have q107 : (ji21) < (l0.length : Int) := of_decide_eq_true (by first | (with_reducible assumption) | assumption)
                                obtain ⟨ad107, e107, hx107_0⟩ := Kd.at_int HR0.out (ji21) p107 q107
                                obtain rfl : ad104 = ad107 := (by injection e107)
                                replace hx107_0 := (HB.out.cell (World.block_lt_of_cell? w _ hx107_0)).trans hx107_0
                                replace p107 := eq_true p107
                                replace q107 := eq_true q107
                                go_wp2
                                go_roundg k2
                                case measure => have := HJ2.out; have := HK2.out; omega
                                case rel => exact ⟨(wrap64 ((wrap64 ((wrap64 ((wrap64 (rd l0 x1_2)) - 192)) * 256)) + (wrap64 (rd l0 (ji21))))), (x8_2), (x9_2), (wrap64 (x1_2 + 2)), (wrap64 ((wrap64 ((wrap64 ((wrap64 (rd l0 x1_2)) - 192)) * 256)) + (wrap64 (rd l0 (ji21))))), (by first | rfl | (simp; done) | (simp only [← hji21] <;> (first | rfl | simp)) | (simp [*]; done)), (by first | rfl | (simp; done) | (simp [*]; done)), (by first | rfl | (simp; done) | (simp [*]; done)), (by first | rfl | (simp; done) | (simp only [← hji21] <;> (first | rfl | simp)) | (simp [*]; done)), H', ⟨by have := HJ2.out; have := HK2.out; omega⟩, ⟨by (with_reducible repeat (first | apply Kd.R_alloc | apply Kd.R_drewN | apply Kd.R_drew)); exact HO_8.out⟩, ⟨by repeat (first | (with_reducible first | exact HB.out | apply below_alloc | apply pw_below_drewN | apply below_drew1) | exact HB.out)⟩⟩
                              · rw [if_neg c25] at H
                                have c25b0 : decide (x10_2 < 0) = false := decide_eq_false c25
                                clear c25
                                have H' := Aside0.mk H
                                clear H
                                have p104 : 0 ≤ (x1_2 : Int) := of_decide_eq_true (by first | (with_reducible assumption) | assumption)
                                have q104 : x1_2 < (l0.length : Int) := of_decide_eq_true (by first | (with_reducible assumption) | assumption)
                                obtain ⟨ad104, e104, hx104_0⟩ := Kd.at_int HR0.out x1_2 p104 q104
                                cases e104
                                replace hx104_0 := (HB.out.cell (World.block_lt_of_cell? w _ hx104_0)).trans hx104_0
                                replace p104 := eq_true p104
                                replace q104 := eq_true q104
                                have p107 : 0 ≤ ((ji21) : Int) := of_decide_eq_true (by first | (with_reducible assumption) | assumption)
                                have q107 : (ji21) < (l0.length : Int) := of_decide_eq_true (by first | (with_reducible assumption) | assumption)
                                obtain ⟨ad107, e107, hx107_0⟩ := Kd.at_int HR0.out (ji21) p107 q107
                                obtain rfl : ad104 = ad107 := (by injection e107)
                                replace hx107_0 := (HB.out.cell (World.block_lt_of_cell? w _ hx107_0)).trans hx107_0
                                replace p107 := eq_true p107
                                replace q107 := eq_true q107
                                go_wp2
                                go_roundg k2
                                case measure => have := HJ2.out; have := HK2.out; omega
                                case rel => exact ⟨(wrap64 ((wrap64 ((wrap64 ((wrap64 (rd l0 x1_2)) - 192)) * 256)) + (wrap64 (rd l0 (ji21))))), (x8_2), (x9_2), (x10_2), (wrap64 ((wrap64 ((wrap64 ((wrap64 (rd l0 x1_2)) - 192)) * 256)) + (wrap64 (rd l0 (ji21))))), (by first | rfl | (simp; done) | (simp only [← hji21] <;> (first | rfl | simp)) | (simp [*]; done)), (by first | rfl | (simp; done) | (simp [*]; done)), (by first | rfl | (simp; done) | (simp [*]; done)), (by first | rfl | (simp; done) | (simp only [← hji21] <;> (first | rfl | simp)) | (simp [*]; done)), H', ⟨by have := HJ2.out; have := HK2.out; omega⟩, ⟨by (with_reducible repeat (first | apply Kd.R_alloc | apply Kd.R_drewN | apply Kd.R_drew)); exact HO_8.out⟩, ⟨by repeat (first | (with_reducible first | exact HB.out | apply below_alloc | apply pw_below_drewN | apply below_drew1) | exact HB.out)⟩⟩
                          · rw [if_neg c23] at H
                            exact absurd H (by simp)
                        · rw [if_neg c22] at H
                          exact absurd H (by simp)
                    · rw [if_neg c19] at H
                      have c19b0 : decide (192 ≤ (wrap64 (rd l0 x1_2))) = false := decide_eq_false c19
                      clear c19
                      by_cases c26 : (wrap64 (rd l0 x1_2)) > 63
                      · rw [if_pos c26] at H
                        have c26b0 : decide (63 < (wrap64 (rd l0 x1_2))) = true := decide_eq_true c26
                        clear c26
                        simp only [Option.some.injEq, Prod.mk.injEq] at H
                        obtain ⟨rfl, rfl, rfl⟩ := H
                        have p104 : 0 ≤ (x1_2 : Int) := of_decide_eq_true (by first | (with_reducible assumption) | assumption)
                        have q104 : x1_2 < (l0.length : Int) := of_decide_eq_true (by first | (with_reducible assumption) | assumption)
                        obtain ⟨ad104, e104, hx104_0⟩ := Kd.at_int HR0.out x1_2 p104 q104
                        cases e104
                        replace hx104_0 := (HB.out.cell (World.block_lt_of_cell? w _ hx104_0)).trans hx104_0
                        replace p104 := eq_true p104
                        replace q104 := eq_true q104
                        go_wp2
                        go_ret3
                        exact ⟨by first | rfl | (simp [errW_none, errW_some] <;> rfl) | (simp [*, errW_none, errW_some] <;> rfl), by repeat (first | (with_reducible first | exact HB.out | apply below_alloc | apply pw_below_drewN | apply below_drew1) | exact HB.out)⟩
                      · rw [if_neg c26] at H
                        have c26b0 : decide (63 < (wrap64 (rd l0 x1_2))) = false := decide_eq_false c26
                        clear c26
                        by_cases c27 : (wrap64 ((wrap64 (x1_2 + 1)) + (wrap64 (rd l0 x1_2)))) > (l0.length : Int)
                        · rw [if_pos c27] at H
                          have c27b0 : decide ((l0.length : Int) < (wrap64 ((wrap64 (x1_2 + 1)) + (wrap64 (rd l0 x1_2))))) = true := decide_eq_true c27
                          clear c27
                          simp only [Option.some.injEq, Prod.mk.injEq] at H
                          obtain ⟨rfl, rfl, rfl⟩ := H
                          have p104 : 0 ≤ (x1_2 : Int) := of_decide_eq_true (by first | (with_reducible assumption) | assumption)
                          have q104 : x1_2 < (l0.length : Int) := of_decide_eq_true (by first | (with_reducible assumption) | assumption)
                          obtain ⟨ad104, e104, hx104_0⟩ := Kd.at_int HR0.out x1_2 p104 q104
                          cases e104
                          replace hx104_0 := (HB.out.cell (World.block_lt_of_cell? w _ hx104_0)).trans hx104_0
                          replace p104 := eq_true p104
                          replace q104 := eq_true q104
                          go_wp2
                          go_ret3
                          exact ⟨by first | rfl | (simp [errW_none, errW_some] <;> rfl) | (simp [*, errW_none, errW_some] <;> rfl), by repeat (first | (with_reducible first | exact HB.out | apply below_alloc | apply pw_below_drewN | apply below_drew1) | exact HB.out)⟩
                        · rw [if_neg c27] at H
                          have c27b0 : decide ((l0.length : Int) < (wrap64 ((wrap64 (x1_2 + 1)) + (wrap64 (rd l0 x1_2))))) = false := decide_eq_false c27
                          clear c27
                          by_cases c28 : (wrap64 ((wrap64 (x9_2 + 1)) + (wrap64 (rd l0 x1_2)))) > 255
                          · rw [if_pos c28] at H
                            have c28b0 : decide (255 < (wrap64 ((wrap64 (x9_2 + 1)) + (wrap64 (rd l0 x1_2))))) = true := decide_eq_true c28
                            clear c28
                            simp only [Option.some.injEq, Prod.mk.injEq] at H
                            obtain ⟨rfl, rfl, rfl⟩ := H
                            have p104 : 0 ≤ (x1_2 : Int) := of_decide_eq_true (by first | (with_reducible assumption) | assumption)
                            have q104 : x1_2 < (l0.length : Int) := of_decide_eq_true (by first | (with_reducible assumption) | assumption)
                            obtain ⟨ad104, e104, hx104_0⟩ := Kd.at_int HR0.out x1_2 p104 q104
                            cases e104
                            replace hx104_0 := (HB.out.cell (World.block_lt_of_cell? w _ hx104_0)).trans hx104_0
                            replace p104 := eq_true p104
                            replace q104 := eq_true q104
                            go_wp2
                            go_ret3
                            exact ⟨by first | rfl | (simp [errW_none, errW_some] <;> rfl) | (simp [*, errW_none, errW_some] <;> rfl), by repeat (first | (with_reducible first | exact HB.out | apply below_alloc | apply pw_below_drewN | apply below_drew1) | exact HB.out)⟩
                          · rw [if_neg c28] at H
                            have c28b0 : decide (255 < (wrap64 ((wrap64 (x9_2 + 1)) + (wrap64 (rd l0 x1_2))))) = false := decide_eq_false c28
                            clear c28
                            obtain ⟨ji29, hji29⟩ : ∃ j_ : Int, (wrap64 (x1_2 + 1)) = j_ := ⟨_, rfl⟩
                            replace H : (if 0 ≤ (ji29) then (if (ji29) ≤ (wrap64 ((ji29) + (wrap64 (rd l0 x1_2)))) then (if (wrap64 ((ji29) + (wrap64 (rd l0 x1_2)))) ≤ (l0.length : Int) then (if x8_2.length < 8796093022208 then (spec_DecodeName.l0 k2 l0 (wrap64 ((ji29) + (wrap64 (rd l0 x1_2)))) (l0.length : Int) (x8_2 ++ [strOfNums ((l0.take ((wrap64 ((ji29) + (wrap64 (rd l0 x1_2)))) : Int).toNat).drop ((ji29) : Int).toNat)]) (wrap64 ((wrap64 (x9_2 + 1)) + (wrap64 (rd l0 x1_2)))) x10_2 x11_2) else (none)) else (none)) else (none)) else (none)) = some (r1, r2, r3) := by first | (rw [hji29] at H; exact H) | (simp only [hji29] at H ⊢; exact H)
                            (try rw [hji29] at c27b0)
                            have hji29w : (IntKind.i64.wrap (x1_2 + 1)) = ji29 := (i64_w _).trans hji29
                            by_cases c30 : 0 ≤ (ji29)
                            · rw [if_pos c30] at H
                              have c30b0 := eq_true c30
                              have c30b1 : decide (0 ≤ (ji29)) = true := decide_eq_true c30
                              clear c30
                              by_cases c31 : (ji29) ≤ (wrap64 ((ji29) + (wrap64 (rd l0 x1_2))))
                              · rw [if_pos c31] at H
                                have c31b0 := eq_true c31
                                have c31b1 : decide ((ji29) ≤ (wrap64 ((ji29) + (wrap64 (rd l0 x1_2))))) = true := decide_eq_true c31
                                by_cases c32 : (wrap64 ((ji29) + (wrap64 (rd l0 x1_2)))) ≤ (l0.length : Int)
                                · rw [if_pos c32] at H
                                  have c32b0 := eq_true c32
                                  have c32b1 : decide ((wrap64 ((ji29) + (wrap64 (rd l0 x1_2)))) ≤ (l0.length : Int)) = true := decide_eq_true c32
                                  by_cases c33 : x8_2.length < 8796093022208
                                  · rw [if_pos c33] at H
                                    have LMc33 := Aside0.mk c33
                                    clear c33
                                    obtain ⟨y109, hy109⟩ : ∃ y_ : List ByteArray, y_ = (x8_2 ++ [strOfNums ((l0.take ((wrap64 ((ji29) + (wrap64 (rd l0 x1_2)))) : Int).toNat).drop ((ji29) : Int).toNat)]) := ⟨_, rfl⟩
                                    replace H : (spec_DecodeName.l0 k2 l0 (wrap64 ((ji29) + (wrap64 (rd l0 x1_2)))) (l0.length : Int) y109 (wrap64 ((wrap64 (x9_2 + 1)) + (wrap64 (rd l0 x1_2)))) x10_2 x11_2) = some (r1, r2, r3) := by first | (rw [hy109]; with_reducible exact H) | (have H2_ := (Option.bind_some _ _).symm.trans H; rw [hy109]; with_reducible exact H2_) | (have H2_ := (Option.bind_some _ _).symm.trans H; with_reducible exact H2_) | with_reducible exact H | (rw [hy109]; exact H) | exact H
                                    have Ny109 := Aside0.mk hy109
                                    clear hy109
                                    have H' := Aside0.mk H
                                    clear H
                                    have p104 : 0 ≤ (x1_2 : Int) := of_decide_eq_true (by first | (with_reducible assumption) | assumption)
                                    have q104 : x1_2 < (l0.length : Int) := of_decide_eq_true (by first | (with_reducible assumption) | assumption)
                                    obtain ⟨ad104, e104, hx104_0⟩ := Kd.at_int HR0.out x1_2 p104 q104
                                    cases e104
                                    replace hx104_0 := (HB.out.cell (World.block_lt_of_cell? w _ hx104_0)).trans hx104_0
                                    replace p104 := eq_true p104
                                    replace q104 := eq_true q104
                                    obtain ⟨i034, hi034, _, hsz34, _⟩ := info_parts info5
                                    obtain ⟨A34, hcut34, hA34, hC34⟩ := print_mid_of (P := Tryd.prog) (Value.int .u8) 0 22 5 .i64 .i64 Tryd.underlying22 hi034 hsz34 (some ad104) c0 l0 (ji29) (wrap64 ((ji29) + (wrap64 (rd l0 x1_2)))) (of_decide_eq_true (by first | (with_reducible assumption) | assumption)) (by first | omega | exact of_decide_eq_true (by first | (with_reducible assumption) | assumption)) (of_decide_eq_true (by first | (with_reducible assumption) | assumption)) HC0.out
                                    have HR108 := Aside0.mk (Kd.C_of_reads (h1 := fun _ => rfl) (hA34 _ (Kd.reads_of_C HR0.out)))
                                    have HC108 := Aside0.mk hC34
                                    clear hA34 hC34 hi034 hsz34
                                    have hcv35 := Kd.C_string (P := Tryd.prog) (A := A34) (c := (c0 - (ji29).toNat)) Tryd.underlying22 Tryd.underlying5 Tryd.underlying9 (Kd.C_below HR108.out HB.out)
                                    have hcw35 := hcv35
                                    (try simp only [List.length_drop, List.length_take] at hcw35)
                                    (try rw [Nat.min_eq_left (Int.toNat_le.2 (of_decide_eq_true (by first | (with_reducible assumption) | assumption)))] at hcw35)
                                    go_wp2_with (first | ((with_reducible refine gate_builtin (b := .append) (xs := #[.tmp 81, .tmp 91]) rfl ?_); at_builtin; refine Kd.R_append Kd.string (w0 := w) w.heap.size rfl (.tmp 81) (.tmp 91) 72 9 (.string ⟨#[]⟩) 16 rfl Tryd.underlying72 info9 rfl (by decide) (by omega) u8 x8_2 (strOfNums ((l0.take ((wrap64 ((ji29) + (wrap64 (rd l0 x1_2)))) : Int).toNat).drop ((ji29) : Int).toNat)) [.string (strOfNums ((l0.take ((wrap64 ((ji29) + (wrap64 (rd l0 x1_2)))) : Int).toNat).drop ((ji29) : Int).toNat))] (fun _ => True) (fun _ => False) rfl rfl ?aP (fun _ hk => hk.elim) ?aF ?aO ?aB ?aS ?aL ?_; (case aP => exact rfl); (case aB => exact (by repeat (first | (with_reducible first | exact HB.out | apply below_alloc | apply pw_below_drewN | apply below_drew1) | exact HB.out))); (case aF => exact (fun _ _ => trivial)); (case aO => exact (by (with_reducible repeat (first | apply Kd.R_alloc | apply Kd.R_drewN | apply Kd.R_drew)); exact HO_8.out)); (case aS => exact (below_size (by repeat (first | (with_reducible first | exact HB.out | apply below_alloc | apply pw_below_drewN | apply below_drew1) | exact HB.out)))); (case aL => have := LMc33.out; omega); intro v110 w36 ho hb hg hat; rw [← Ny109.out] at ho; have n0_ := Aside0.mk (hb); have n1_ := Aside0.mk (ho); clear HB; clear HO_8; have HB := n0_; have HO111 := n1_; clear n0_ n1_; clear ho hb hg hat))
                                    go_roundg k2
                                    case measure => have := HJ2.out; have := HK2.out; omega
                                    case rel => exact ⟨(wrap64 ((ji29) + (wrap64 (rd l0 x1_2)))), (y109), (wrap64 ((wrap64 (x9_2 + 1)) + (wrap64 (rd l0 x1_2)))), (x10_2), (x11_2), (by first | rfl | (simp; done) | (simp only [← hji29] <;> (first | rfl | simp)) | (simp [*]; done)), (by first | rfl | (simp; done) | (simp [*]; done)), (by first | rfl | (simp; done) | (simp [*]; done)), (by first | rfl | (simp; done) | (simp [*]; done)), H', ⟨by have := HJ2.out; have := HK2.out; omega⟩, ⟨by (with_reducible repeat (first | apply Kd.R_alloc | apply Kd.R_drewN | apply Kd.R_drew)); exact HO111.out⟩, ⟨by repeat (first | (with_reducible first | exact HB.out | apply below_alloc | apply pw_below_drewN | apply below_drew1) | exact HB.out)⟩⟩
                                  · rw [if_neg c33] at H
                                    exact absurd H (by simp)
                                · rw [if_neg c32] at H
                                  exact absurd H (by simp)
                              · rw [if_neg c31] at H
                                exact absurd H (by simp)
                            · rw [if_neg c30] at H
                              exact absurd H (by simp)
                · rw [if_neg c10] at H
                  exact absurd H (by simp)
              · rw [if_neg c9] at H
                exact absurd H (by simp)

end Go.Proofs.YtcamchdenjpmhaaDoor.F
namespace Go.Proofs.YtcamchdenjpmhaaDoor.F
open Go Go.Shelf Go.RowKit Go.Proofs.YtcamchdenjpmhaaDoorW.PrintWords Go.Proofs.YtcamchdenjpmhaaDoorW.PrintLast Go.Proofs.YtcamchdenjpmhaaDoorW.PrintMore
attribute [local go_sem] max2_int min2_int max_two min_two max_three min_three max_four min_four   -- for this text's walks alone
set_option linter.unusedVariables false
set_option linter.unusedSimpArgs false

/-! ### spec_l04Pointed: function 42 -/
def spec_l04Pointed.f (a0 : Int) : Option (Bool) := if a0 = 2 then (some true) else (if a0 = 5 then (some true) else (if a0 = 6 then (some true) else (if a0 = 12 then (some true) else (if a0 = 15 then (some true) else (some false)))))
set_option maxHeartbeats 8000000 in
set_option maxRecDepth 100000 in
theorem spec_l04Pointed.calls (a0 : Int) (r : Bool) (w : World) (h : spec_l04Pointed.f a0 = some r) :
    Calls Tryd.prog 42 #[.int .i64 a0] w fun e w' => e = .returned (.bool r) ∧ Drawn0 w w' := by
  have H : (if a0 = 2 then (some true) else (if a0 = 5 then (some true) else (if a0 = 6 then (some true) else (if a0 = 12 then (some true) else (if a0 = 15 then (some true) else (some false)))))) = some r := h
  clear h
  by_cases c2 : a0 = 2
  · rw [if_pos c2] at H
    have c2b0 : (a0 == 2) = true := beq_iff_eq.mpr c2
    have c2b1 : (a0 != 2) = false := bne_eq_false_iff_eq.mpr c2
    clear c2
    obtain rfl := Option.some.inj H
    go_enter Tryd.func42, Tryd.ntmps42
    go_wp2
    go_ret
    exact ⟨by first | rfl | (simp; done) | (simp [*]; done), by repeat (first | exact Drawn0.refl _ | apply Drawn0.step)⟩
  · rw [if_neg c2] at H
    have c2b0 : (a0 == 2) = false := beq_eq_false_iff_ne.mpr c2
    have c2b1 : (a0 != 2) = true := bne_iff_ne.mpr c2
    by_cases c3 : a0 = 5
    · rw [if_pos c3] at H
      have c3b0 : (a0 == 5) = true := beq_iff_eq.mpr c3
      have c3b1 : (a0 != 5) = false := bne_eq_false_iff_eq.mpr c3
      clear c3
      obtain rfl := Option.some.inj H
      go_enter Tryd.func42, Tryd.ntmps42
      go_wp2
      go_ret
      exact ⟨by first | rfl | (simp; done) | (simp [*]; done), by repeat (first | exact Drawn0.refl _ | apply Drawn0.step)⟩
    · rw [if_neg c3] at H
      have c3b0 : (a0 == 5) = false := beq_eq_false_iff_ne.mpr c3
      have c3b1 : (a0 != 5) = true := bne_iff_ne.mpr c3
      by_cases c4 : a0 = 6
      · rw [if_pos c4] at H
        have c4b0 : (a0 == 6) = true := beq_iff_eq.mpr c4
        have c4b1 : (a0 != 6) = false := bne_eq_false_iff_eq.mpr c4
        clear c4
        obtain rfl := Option.some.inj H
        go_enter Tryd.func42, Tryd.ntmps42
        go_wp2
        go_ret
        exact ⟨by first | rfl | (simp; done) | (simp [*]; done), by repeat (first | exact Drawn0.refl _ | apply Drawn0.step)⟩
      · rw [if_neg c4] at H
        have c4b0 : (a0 == 6) = false := beq_eq_false_iff_ne.mpr c4
        have c4b1 : (a0 != 6) = true := bne_iff_ne.mpr c4
        by_cases c5 : a0 = 12
        · rw [if_pos c5] at H
          have c5b0 : (a0 == 12) = true := beq_iff_eq.mpr c5
          have c5b1 : (a0 != 12) = false := bne_eq_false_iff_eq.mpr c5
          clear c5
          obtain rfl := Option.some.inj H
          go_enter Tryd.func42, Tryd.ntmps42
          go_wp2
          go_ret
          exact ⟨by first | rfl | (simp; done) | (simp [*]; done), by repeat (first | exact Drawn0.refl _ | apply Drawn0.step)⟩
        · rw [if_neg c5] at H
          have c5b0 : (a0 == 12) = false := beq_eq_false_iff_ne.mpr c5
          have c5b1 : (a0 != 12) = true := bne_iff_ne.mpr c5
          by_cases c6 : a0 = 15
          · rw [if_pos c6] at H
            have c6b0 : (a0 == 15) = true := beq_iff_eq.mpr c6
            have c6b1 : (a0 != 15) = false := bne_eq_false_iff_eq.mpr c6
            clear c6
            obtain rfl := Option.some.inj H
            go_enter Tryd.func42, Tryd.ntmps42
            go_wp2
            go_ret
            exact ⟨by first | rfl | (simp; done) | (simp [*]; done), by repeat (first | exact Drawn0.refl _ | apply Drawn0.step)⟩
          · rw [if_neg c6] at H
            have c6b0 : (a0 == 15) = false := beq_eq_false_iff_ne.mpr c6
            have c6b1 : (a0 != 15) = true := bne_iff_ne.mpr c6
            obtain rfl := Option.some.inj H
            go_enter Tryd.func42, Tryd.ntmps42
            go_wp2
            go_ret
            exact ⟨by first | rfl | (simp; done) | (simp [*]; done), by repeat (first | exact Drawn0.refl _ | apply Drawn0.step)⟩

end Go.Proofs.YtcamchdenjpmhaaDoor.F
namespace Go.Proofs.YtcamchdenjpmhaaDoor.F
open Go Go.Shelf Go.RowKit Go.Proofs.YtcamchdenjpmhaaDoorW.PrintWords Go.Proofs.YtcamchdenjpmhaaDoorW.PrintLast Go.Proofs.YtcamchdenjpmhaaDoorW.PrintMore
attribute [local go_sem] max2_int min2_int max_two min_two max_three min_three max_four min_four   -- for this text's walks alone
set_option linter.unusedVariables false
set_option linter.unusedSimpArgs false

/-! ### spec_l02Form: function 44 -/
def spec_l02Form.j0 : Nat → Int → Bool → Option (ByteArray)
  | 0, _, _ => none
  | k + 1, x3, x6 => if x6 = true then (some (⟨#[110]⟩ : ByteArray)) else (if x3 = 6 then (some (⟨#[110, 110, 98, 98, 98, 98, 98, 98, 98, 98, 98, 98, 98, 98, 98, 98, 98, 98, 98, 98, 98, 98]⟩ : ByteArray)) else (if x3 = 13 then (some (⟨#[116, 116]⟩ : ByteArray)) else (if x3 = 15 then (some (⟨#[98, 98, 110]⟩ : ByteArray)) else (if x3 = 16 then (some (⟨#[115]⟩ : ByteArray)) else (if x3 = 28 then (some (⟨#[98, 98, 98, 98, 98, 98, 98, 98, 98, 98, 98, 98, 98, 98, 98, 98]⟩ : ByteArray)) else (if x3 = 33 then (some (⟨#[98, 98, 98, 98, 98, 98, 110]⟩ : ByteArray)) else (if x3 = 35 then (some (⟨#[98, 98, 98, 98, 116, 116, 116, 110]⟩ : ByteArray)) else (if x3 = 47 then (some (⟨#[110, 109]⟩ : ByteArray)) else (if x3 = 257 then (some (⟨#[98, 99]⟩ : ByteArray)) else (some (⟨#[42]⟩ : ByteArray)))))))))))
def spec_l02Form.f (k : Nat) (a0 : Int) : Option (ByteArray) := if a0 = 1 then (some (⟨#[98, 98, 98, 98]⟩ : ByteArray)) else (if a0 = 2 then (spec_l02Form.j0 k a0 (a0 == 2)) else (if a0 = 5 then (spec_l02Form.j0 k a0 (a0 == 5)) else (if a0 = 12 then (spec_l02Form.j0 k a0 (a0 == 12)) else (spec_l02Form.j0 k a0 (a0 == 39)))))
theorem spec_l02Form.mono_l : ∀ k, (∀ y0 y1, LeO (spec_l02Form.j0 k y0 y1) (spec_l02Form.j0 (k + 1) y0 y1))
  | 0 => fun _ _ r h => by simp [spec_l02Form.j0] at h
  | k + 1 => by
    have ih0 := spec_l02Form.mono_l k
    · intro y0 y1
      unfold spec_l02Form.j0
      repeat' first
      | (with_reducible exact ih0 _ _)
      | (with_reducible exact LeO.refl _)
      | (with_reducible exact LeO.none _)
      | (with_reducible refine LeO.ite ?_ ?_)
      | (with_reducible refine LeO.bind ?_ (fun _ => ?_))
      | exact ih0 _ _
      | exact LeO.none _
      | refine LeO.ite ?_ ?_
      | refine LeO.bind ?_ (fun _ => ?_)
theorem spec_l02Form.mono : ∀ a0 k, LeO (spec_l02Form.f k a0) (spec_l02Form.f (k + 1) a0) := by
  intro a0 k
  have ih0 := spec_l02Form.mono_l k
  unfold spec_l02Form.f
  repeat' first
      | (with_reducible exact ih0 _ _)
      | (with_reducible exact LeO.refl _)
      | (with_reducible exact LeO.none _)
      | (with_reducible refine LeO.ite ?_ ?_)
      | (with_reducible refine LeO.bind ?_ (fun _ => ?_))
      | exact ih0 _ _
      | exact LeO.none _
      | refine LeO.ite ?_ ?_
      | refine LeO.bind ?_ (fun _ => ?_)
set_option maxHeartbeats 8000000 in
set_option maxRecDepth 100000 in
theorem spec_l02Form.calls (k : Nat) (a0 : Int) (r : ByteArray) (w : World) (h : spec_l02Form.f k a0 = some r) :
    Calls Tryd.prog 44 #[.int .i64 a0] w fun e w' => e = .returned (.string r) ∧ Drawn0 w w' := by
  have H : (if a0 = 1 then (some (⟨#[98, 98, 98, 98]⟩ : ByteArray)) else (if a0 = 2 then (spec_l02Form.j0 k a0 (a0 == 2)) else (if a0 = 5 then (spec_l02Form.j0 k a0 (a0 == 5)) else (if a0 = 12 then (spec_l02Form.j0 k a0 (a0 == 12)) else (spec_l02Form.j0 k a0 (a0 == 39)))))) = some r := h
  clear h
  by_cases c2 : a0 = 1
  · rw [if_pos c2] at H
    have c2b0 : (a0 == 1) = true := beq_iff_eq.mpr c2
    have c2b1 : (a0 != 1) = false := bne_eq_false_iff_eq.mpr c2
    clear c2
    obtain rfl := Option.some.inj H
    go_enter Tryd.func44, Tryd.ntmps44
    go_wp2
    go_ret
    exact ⟨by first | rfl | (simp; done) | (simp [*]; done), by repeat (first | exact Drawn0.refl _ | apply Drawn0.step)⟩
  · rw [if_neg c2] at H
    have c2b0 : (a0 == 1) = false := beq_eq_false_iff_ne.mpr c2
    have c2b1 : (a0 != 1) = true := bne_iff_ne.mpr c2
    have HC3 := Aside0.mk H
    clear H
    go_enter Tryd.func44, Tryd.ntmps44
    go_upto_if 6 with (fail)
    go_cut [6] (fun v6 wc => ∃ (kq : Nat) (x6_2 : Bool), v6 = .bool x6_2 ∧ Aside0 (spec_l02Form.j0 kq a0 x6_2 = some r) ∧ Aside0 (kq ≤ k) ∧ Drawn0 w wc)
    case first =>
      have H := HC3.out
      clear HC3
      by_cases c4 : a0 = 2
      · rw [if_pos c4] at H
        have c4b0 : (a0 == 2) = true := beq_iff_eq.mpr c4
        have c4b1 : (a0 != 2) = false := bne_eq_false_iff_eq.mpr c4
        clear c4
        (first | rw [c4b0] | (simp only [i64_w, i32_w]; rw [c4b0]) | skip)
        have H' := Aside0.mk H
        clear H
        go_wp2
        go_meet
        case rel => exact ⟨_, ((a0 == 2)), (by first | rfl | (simp; done) | (simp [*]; done)), H', ⟨by first | omega | exact Nat.le_refl _⟩, by repeat (first | exact Drawn0.refl _ | apply Drawn0.step)⟩
      · rw [if_neg c4] at H
        have c4b0 : (a0 == 2) = false := beq_eq_false_iff_ne.mpr c4
        have c4b1 : (a0 != 2) = true := bne_iff_ne.mpr c4
        (first | rw [c4b0] | (simp only [i64_w, i32_w]; rw [c4b0]) | skip)
        by_cases c5 : a0 = 5
        · rw [if_pos c5] at H
          have c5b0 : (a0 == 5) = true := beq_iff_eq.mpr c5
          have c5b1 : (a0 != 5) = false := bne_eq_false_iff_eq.mpr c5
          clear c5
          have H' := Aside0.mk H
          clear H
          go_wp2
          go_meet
          case rel => exact ⟨_, ((a0 == 5)), (by first | rfl | (simp; done) | (simp [*]; done)), H', ⟨by first | omega | exact Nat.le_refl _⟩, by repeat (first | exact Drawn0.refl _ | apply Drawn0.step)⟩
        · rw [if_neg c5] at H
          have c5b0 : (a0 == 5) = false := beq_eq_false_iff_ne.mpr c5
          have c5b1 : (a0 != 5) = true := bne_iff_ne.mpr c5
          by_cases c6 : a0 = 12
          · rw [if_pos c6] at H
            have c6b0 : (a0 == 12) = true := beq_iff_eq.mpr c6
            have c6b1 : (a0 != 12) = false := bne_eq_false_iff_eq.mpr c6
            clear c6
            have H' := Aside0.mk H
            clear H
            go_wp2
            go_meet
            case rel => exact ⟨_, ((a0 == 12)), (by first | rfl | (simp; done) | (simp [*]; done)), H', ⟨by first | omega | exact Nat.le_refl _⟩, by repeat (first | exact Drawn0.refl _ | apply Drawn0.step)⟩
          · rw [if_neg c6] at H
            have c6b0 : (a0 == 12) = false := beq_eq_false_iff_ne.mpr c6
            have c6b1 : (a0 != 12) = true := bne_iff_ne.mpr c6
            have H' := Aside0.mk H
            clear H
            go_wp2
            go_meet
            case rel => exact ⟨_, ((a0 == 39)), (by first | rfl | (simp; done) | (simp [*]; done)), H', ⟨by first | omega | exact Nat.le_refl _⟩, by repeat (first | exact Drawn0.refl _ | apply Drawn0.step)⟩
    case rest =>
      clear HC3
      try clear c2
      try clear c2b0
      try clear c2b1
      try clear p2
      try clear c4
      try clear c4b0
      try clear c4b1
      try clear c5
      try clear c5b0
      try clear c5b1
      try clear c6
      try clear c6b0
      try clear c6b1
      obtain ⟨kq, x6_2, rfl, HA, HJ2, ⟨mc2, rfl⟩⟩ := hcut
      cases kq with
      | zero => exact absurd HA.out (by simp [spec_l02Form.j0])
      | succ kj2 =>
        have H := HA.out
        clear HA
        simp only [spec_l02Form.j0] at H
        by_cases c7 : x6_2 = true
        · subst c7
          have H1 : (some (⟨#[110]⟩ : ByteArray)) = some r := by rw [if_pos rfl] at H; exact H
          clear H
          have H := H1
          clear H1
          obtain rfl := Option.some.inj H
          go_wp2
          go_ret
          exact ⟨by first | rfl | (simp; done) | (simp [*]; done), by repeat (first | exact Drawn0.refl _ | apply Drawn0.step)⟩
        · replace c7 := Bool.eq_false_iff.mpr c7
          subst c7
          have H1 : (if a0 = 6 then (some (⟨#[110, 110, 98, 98, 98, 98, 98, 98, 98, 98, 98, 98, 98, 98, 98, 98, 98, 98, 98, 98, 98, 98]⟩ : ByteArray)) else (if a0 = 13 then (some (⟨#[116, 116]⟩ : ByteArray)) else (if a0 = 15 then (some (⟨#[98, 98, 110]⟩ : ByteArray)) else (if a0 = 16 then (some (⟨#[115]⟩ : ByteArray)) else (if a0 = 28 then (some (⟨#[98, 98, 98, 98, 98, 98, 98, 98, 98, 98, 98, 98, 98, 98, 98, 98]⟩ : ByteArray)) else (if a0 = 33 then (some (⟨#[98, 98, 98, 98, 98, 98, 110]⟩ : ByteArray)) else (if a0 = 35 then (some (⟨#[98, 98, 98, 98, 116, 116, 116, 110]⟩ : ByteArray)) else (if a0 = 47 then (some (⟨#[110, 109]⟩ : ByteArray)) else (if a0 = 257 then (some (⟨#[98, 99]⟩ : ByteArray)) else (some (⟨#[42]⟩ : ByteArray))))))))))) = some r := by rw [if_neg (show ¬ (false = true) by decide)] at H; exact H
          clear H
          have H := H1
          clear H1
          by_cases c8 : a0 = 6
          · rw [if_pos c8] at H
            have c8b0 : (a0 == 6) = true := beq_iff_eq.mpr c8
            have c8b1 : (a0 != 6) = false := bne_eq_false_iff_eq.mpr c8
            clear c8
            obtain rfl := Option.some.inj H
            go_wp2
            go_ret
            exact ⟨by first | rfl | (simp; done) | (simp [*]; done), by repeat (first | exact Drawn0.refl _ | apply Drawn0.step)⟩
          · rw [if_neg c8] at H
            have c8b0 : (a0 == 6) = false := beq_eq_false_iff_ne.mpr c8
            have c8b1 : (a0 != 6) = true := bne_iff_ne.mpr c8
            by_cases c9 : a0 = 13
            · rw [if_pos c9] at H
              have c9b0 : (a0 == 13) = true := beq_iff_eq.mpr c9
              have c9b1 : (a0 != 13) = false := bne_eq_false_iff_eq.mpr c9
              clear c9
              obtain rfl := Option.some.inj H
              go_wp2
              go_ret
              exact ⟨by first | rfl | (simp; done) | (simp [*]; done), by repeat (first | exact Drawn0.refl _ | apply Drawn0.step)⟩
            · rw [if_neg c9] at H
              have c9b0 : (a0 == 13) = false := beq_eq_false_iff_ne.mpr c9
              have c9b1 : (a0 != 13) = true := bne_iff_ne.mpr c9
              by_cases c10 : a0 = 15
              · rw [if_pos c10] at H
                have c10b0 : (a0 == 15) = true := beq_iff_eq.mpr c10
                have c10b1 : (a0 != 15) = false := bne_eq_false_iff_eq.mpr c10
                clear c10
                obtain rfl := Option.some.inj H
                go_wp2
                go_ret
                exact ⟨by first | rfl | (simp; done) | (simp [*]; done), by repeat (first | exact Drawn0.refl _ | apply Drawn0.step)⟩
              · rw [if_neg c10] at H
                have c10b0 : (a0 == 15) = false := beq_eq_false_iff_ne.mpr c10
                have c10b1 : (a0 != 15) = true := bne_iff_ne.mpr c10
                by_cases c11 : a0 = 16
                · rw [if_pos c11] at H
                  have c11b0 : (a0 == 16) = true := beq_iff_eq.mpr c11
                  have c11b1 : (a0 != 16) = false := bne_eq_false_iff_eq.mpr c11
                  clear c11
                  obtain rfl := Option.some.inj H
                  go_wp2
                  go_ret
                  exact ⟨by first | rfl | (simp; done) | (simp [*]; done), by repeat (first | exact Drawn0.refl _ | apply Drawn0.step)⟩
                · rw [if_neg c11] at H
                  have c11b0 : (a0 == 16) = false := beq_eq_false_iff_ne.mpr c11
                  have c11b1 : (a0 != 16) = true := bne_iff_ne.mpr c11
                  by_cases c12 : a0 = 28
                  · rw [if_pos c12] at H
                    have c12b0 : (a0 == 28) = true := beq_iff_eq.mpr c12
                    have c12b1 : (a0 != 28) = false := bne_eq_false_iff_eq.mpr c12
                    clear c12
                    obtain rfl := Option.some.inj H
                    go_wp2
                    go_ret
                    exact ⟨by first | rfl | (simp; done) | (simp [*]; done), by repeat (first | exact Drawn0.refl _ | apply Drawn0.step)⟩
                  · rw [if_neg c12] at H
                    have c12b0 : (a0 == 28) = false := beq_eq_false_iff_ne.mpr c12
                    have c12b1 : (a0 != 28) = true := bne_iff_ne.mpr c12
                    by_cases c13 : a0 = 33
                    · rw [if_pos c13] at H
                      have c13b0 : (a0 == 33) = true := beq_iff_eq.mpr c13
                      have c13b1 : (a0 != 33) = false := bne_eq_false_iff_eq.mpr c13
                      clear c13
                      obtain rfl := Option.some.inj H
                      go_wp2
                      go_ret
                      exact ⟨by first | rfl | (simp; done) | (simp [*]; done), by repeat (first | exact Drawn0.refl _ | apply Drawn0.step)⟩
                    · rw [if_neg c13] at H
                      have c13b0 : (a0 == 33) = false := beq_eq_false_iff_ne.mpr c13
                      have c13b1 : (a0 != 33) = true := bne_iff_ne.mpr c13
                      by_cases c14 : a0 = 35
                      · rw [if_pos c14] at H
                        have c14b0 : (a0 == 35) = true := beq_iff_eq.mpr c14
                        have c14b1 : (a0 != 35) = false := bne_eq_false_iff_eq.mpr c14
                        clear c14
                        obtain rfl := Option.some.inj H
                        go_wp2
                        go_ret
                        exact ⟨by first | rfl | (simp; done) | (simp [*]; done), by repeat (first | exact Drawn0.refl _ | apply Drawn0.step)⟩
                      · rw [if_neg c14] at H
                        have c14b0 : (a0 == 35) = false := beq_eq_false_iff_ne.mpr c14
                        have c14b1 : (a0 != 35) = true := bne_iff_ne.mpr c14
                        by_cases c15 : a0 = 47
                        · rw [if_pos c15] at H
                          have c15b0 : (a0 == 47) = true := beq_iff_eq.mpr c15
                          have c15b1 : (a0 != 47) = false := bne_eq_false_iff_eq.mpr c15
                          clear c15
                          obtain rfl := Option.some.inj H
                          go_wp2
                          go_ret
                          exact ⟨by first | rfl | (simp; done) | (simp [*]; done), by repeat (first | exact Drawn0.refl _ | apply Drawn0.step)⟩
                        · rw [if_neg c15] at H
                          have c15b0 : (a0 == 47) = false := beq_eq_false_iff_ne.mpr c15
                          have c15b1 : (a0 != 47) = true := bne_iff_ne.mpr c15
                          by_cases c16 : a0 = 257
                          · rw [if_pos c16] at H
                            have c16b0 : (a0 == 257) = true := beq_iff_eq.mpr c16
                            have c16b1 : (a0 != 257) = false := bne_eq_false_iff_eq.mpr c16
                            clear c16
                            obtain rfl := Option.some.inj H
                            go_wp2
                            go_ret
                            exact ⟨by first | rfl | (simp; done) | (simp [*]; done), by repeat (first | exact Drawn0.refl _ | apply Drawn0.step)⟩
                          · rw [if_neg c16] at H
                            have c16b0 : (a0 == 257) = false := beq_eq_false_iff_ne.mpr c16
                            have c16b1 : (a0 != 257) = true := bne_iff_ne.mpr c16
                            obtain rfl := Option.some.inj H
                            go_wp2
                            go_ret
                            exact ⟨by first | rfl | (simp; done) | (simp [*]; done), by repeat (first | exact Drawn0.refl _ | apply Drawn0.step)⟩

end Go.Proofs.YtcamchdenjpmhaaDoor.F
namespace Go.Proofs.YtcamchdenjpmhaaDoor.F
open Go Go.Shelf Go.RowKit Go.Proofs.YtcamchdenjpmhaaDoorW.PrintWords Go.Proofs.YtcamchdenjpmhaaDoorW.PrintLast Go.Proofs.YtcamchdenjpmhaaDoorW.PrintMore
attribute [local go_sem] max2_int min2_int max_two min_two max_three min_three max_four min_four   -- for this text's walks alone
set_option linter.unusedVariables false
set_option linter.unusedSimpArgs false

/-! ### spec_l02NameAt: function 49 -/
mutual
def spec_l02NameAt.l0 : Nat → ByteArray → Int → Option (ByteArray)
  | 0, _, _ => none
  | k + 1, x0, x3 => if x3 < (x0.size : Int) then (spec_l02NameAt.j1 k x0 x3 (decide (x3 < 255))) else (spec_l02NameAt.j1 k x0 x3 false)
def spec_l02NameAt.j1 : Nat → ByteArray → Int → Bool → Option (ByteArray)
  | 0, _, _, _ => none
  | k + 1, x0, x3, x12 => if x12 = true then (if 0 ≤ x3 then (if x3 < (x0.size : Int) then (if (wrap64 (bt x0 x3)) = 0 then (if 0 ≤ (wrap64 (x3 + 1)) then (if (wrap64 (x3 + 1)) ≤ (x0.size : Int) then (some (x0.extract 0 ((wrap64 (x3 + 1)) : Int).toNat)) else (none)) else (none)) else (if (wrap64 (bt x0 x3)) > 63 then (some (⟨#[]⟩ : ByteArray)) else (spec_l02NameAt.l0 k x0 (wrap64 ((wrap64 (x3 + (wrap64 (bt x0 x3)))) + 1))))) else (none)) else (none)) else (some (⟨#[]⟩ : ByteArray))
end
def spec_l02NameAt.f (k : Nat) (a0 : ByteArray) : Option (ByteArray) := spec_l02NameAt.l0 k a0 0
theorem spec_l02NameAt.mono_l : ∀ k, (∀ y0 y1, LeO (spec_l02NameAt.l0 k y0 y1) (spec_l02NameAt.l0 (k + 1) y0 y1)) ∧ (∀ y0 y1 y2, LeO (spec_l02NameAt.j1 k y0 y1 y2) (spec_l02NameAt.j1 (k + 1) y0 y1 y2))
  | 0 => ⟨fun _ _ r h => by simp [spec_l02NameAt.l0] at h, fun _ _ _ r h => by simp [spec_l02NameAt.j1] at h⟩
  | k + 1 => by
    obtain ⟨ih0, ih1⟩ := spec_l02NameAt.mono_l k
    refine ⟨?_, ?_⟩
    · intro y0 y1
      unfold spec_l02NameAt.l0
      repeat' first
      | (with_reducible exact ih0 _ _)
      | (with_reducible exact ih1 _ _ _)
      | (with_reducible exact LeO.refl _)
      | (with_reducible exact LeO.none _)
      | (with_reducible refine LeO.ite ?_ ?_)
      | (with_reducible refine LeO.bind ?_ (fun _ => ?_))
      | exact ih0 _ _
      | exact ih1 _ _ _
      | exact LeO.none _
      | refine LeO.ite ?_ ?_
      | refine LeO.bind ?_ (fun _ => ?_)
    · intro y0 y1 y2
      unfold spec_l02NameAt.j1
      repeat' first
      | (with_reducible exact ih0 _ _)
      | (with_reducible exact ih1 _ _ _)
      | (with_reducible exact LeO.refl _)
      | (with_reducible exact LeO.none _)
      | (with_reducible refine LeO.ite ?_ ?_)
      | (with_reducible refine LeO.bind ?_ (fun _ => ?_))
      | exact ih0 _ _
      | exact ih1 _ _ _
      | exact LeO.none _
      | refine LeO.ite ?_ ?_
      | refine LeO.bind ?_ (fun _ => ?_)
theorem spec_l02NameAt.mono : ∀ a0 k, LeO (spec_l02NameAt.f k a0) (spec_l02NameAt.f (k + 1) a0) := by
  intro a0 k
  obtain ⟨ih0, ih1⟩ := spec_l02NameAt.mono_l k
  unfold spec_l02NameAt.f
  repeat' first
      | (with_reducible exact ih0 _ _)
      | (with_reducible exact ih1 _ _ _)
      | (with_reducible exact LeO.refl _)
      | (with_reducible exact LeO.none _)
      | (with_reducible refine LeO.ite ?_ ?_)
      | (with_reducible refine LeO.bind ?_ (fun _ => ?_))
      | exact ih0 _ _
      | exact ih1 _ _ _
      | exact LeO.none _
      | refine LeO.ite ?_ ?_
      | refine LeO.bind ?_ (fun _ => ?_)
set_option maxHeartbeats 8000000 in
set_option maxRecDepth 100000 in
theorem spec_l02NameAt.calls (k : Nat) (a0 : ByteArray) (r : ByteArray) (w : World) (h : spec_l02NameAt.f k a0 = some r) :
    Calls Tryd.prog 49 #[.string a0] w fun e w' => e = .returned (.string r) ∧ Drawn0 w w' := by
  have H : (spec_l02NameAt.l0 k a0 0) = some r := h
  clear h
  have H' := Aside0.mk H
  clear H
  go_enter Tryd.func49, Tryd.ntmps49
  go_wp2
  go_loopg [3] k (fun kq v3 w' => ∃ (x3_1 : Int), v3 = .int .i64 x3_1 ∧ Aside0 (spec_l02NameAt.l0 kq a0 x3_1 = some r) ∧ Aside0 (kq ≤ k) ∧ Drawn0 w w')
  case atStart => exact ⟨(0), (by first | rfl | (simp; done) | (simp [*]; done)), H', ⟨Nat.le_refl _⟩, by repeat (first | exact Drawn0.refl _ | apply Drawn0.step)⟩
  case round =>
    clear H'
    obtain ⟨x3_1, rfl, HA, HK1, ⟨m1, rfl⟩⟩ := hrel
    cases gk with
    | zero => exact absurd HA.out (by simp [spec_l02NameAt.l0])
    | succ k1 =>
      have H := HA.out
      clear HA
      simp only [spec_l02NameAt.l0] at H
      have HC2 := Aside0.mk H
      clear H
      go_upto_region 2 with (fail)
      go_cut [12] (fun v12 wc => ∃ (kq : Nat) (x12_1 : Bool), v12 = .bool x12_1 ∧ Aside0 (spec_l02NameAt.j1 kq a0 x3_1 x12_1 = some r) ∧ Aside0 (kq ≤ k1) ∧ Drawn0 w wc)
      case first =>
        have H := HC2.out
        clear HC2
        by_cases c3 : x3_1 < (a0.size : Int)
        · rw [if_pos c3] at H
          have c3b0 : decide (x3_1 < (a0.size : Int)) = true := decide_eq_true c3
          clear c3
          (first | rw [c3b0] | (simp only [i64_w, i32_w]; rw [c3b0]) | skip)
          have H' := Aside0.mk H
          clear H
          go_wp2
          go_meet
          case rel => exact ⟨_, (decide (x3_1 < 255)), (by first | rfl | (simp; done) | (simp [*]; done)), H', ⟨by have := HK1.out; first | omega | exact Nat.le_refl _⟩, by repeat (first | exact Drawn0.refl _ | apply Drawn0.step)⟩
        · rw [if_neg c3] at H
          have c3b0 : decide (x3_1 < (a0.size : Int)) = false := decide_eq_false c3
          clear c3
          (first | rw [c3b0] | (simp only [i64_w, i32_w]; rw [c3b0]) | skip)
          have H' := Aside0.mk H
          clear H
          go_wp2
          go_meet
          case rel => exact ⟨_, (false), (by first | rfl | (simp; done) | (simp [*]; done)), H', ⟨by have := HK1.out; first | omega | exact Nat.le_refl _⟩, by repeat (first | exact Drawn0.refl _ | apply Drawn0.step)⟩
      case rest =>
        clear HC2
        try clear p2
        try clear c3
        try clear c3b0
        obtain ⟨kq, x12_1, rfl, HA, HJ1, ⟨mc1, rfl⟩⟩ := hcut
        cases kq with
        | zero => exact absurd HA.out (by simp [spec_l02NameAt.j1])
        | succ kj1 =>
          have H := HA.out
          clear HA
          simp only [spec_l02NameAt.j1] at H
          by_cases c4 : x12_1 = true
          · subst c4
            have H1 : (if 0 ≤ x3_1 then (if x3_1 < (a0.size : Int) then (if (wrap64 (bt a0 x3_1)) = 0 then (if 0 ≤ (wrap64 (x3_1 + 1)) then (if (wrap64 (x3_1 + 1)) ≤ (a0.size : Int) then (some (a0.extract 0 ((wrap64 (x3_1 + 1)) : Int).toNat)) else (none)) else (none)) else (if (wrap64 (bt a0 x3_1)) > 63 then (some (⟨#[]⟩ : ByteArray)) else (spec_l02NameAt.l0 kj1 a0 (wrap64 ((wrap64 (x3_1 + (wrap64 (bt a0 x3_1)))) + 1))))) else (none)) else (none)) = some r := by rw [if_pos rfl] at H; exact H
            clear H
            have H := H1
            clear H1
            by_cases c5 : 0 ≤ x3_1
            · rw [if_pos c5] at H
              have c5b0 : decide (0 ≤ x3_1) = true := decide_eq_true c5
              clear c5
              by_cases c6 : x3_1 < (a0.size : Int)
              · rw [if_pos c6] at H
                have c6b0 : decide (x3_1 < (a0.size : Int)) = true := decide_eq_true c6
                clear c6
                by_cases c8 : (wrap64 (bt a0 x3_1)) = 0
                · rw [if_pos c8] at H
                  have c8b0 : ((wrap64 (bt a0 x3_1)) == 0) = true := beq_iff_eq.mpr c8
                  have c8b1 : ((wrap64 (bt a0 x3_1)) != 0) = false := bne_eq_false_iff_eq.mpr c8
                  clear c8
                  obtain ⟨ji9, hji9⟩ : ∃ j_ : Int, (wrap64 (x3_1 + 1)) = j_ := ⟨_, rfl⟩
                  replace H : (if 0 ≤ (ji9) then (if (ji9) ≤ (a0.size : Int) then (some (a0.extract 0 ((ji9) : Int).toNat)) else (none)) else (none)) = some r := by first | (rw [hji9] at H; exact H) | (simp only [hji9] at H ⊢; exact H)
                  have hji9w : (IntKind.i64.wrap (x3_1 + 1)) = ji9 := (i64_w _).trans hji9
                  by_cases c10 : 0 ≤ (ji9)
                  · rw [if_pos c10] at H
                    have c10b0 := eq_true c10
                    have c10b1 : decide (0 ≤ (ji9)) = true := decide_eq_true c10
                    clear c10
                    by_cases c11 : (ji9) ≤ (a0.size : Int)
                    · rw [if_pos c11] at H
                      have c11b0 := eq_true c11
                      have c11b1 : decide ((ji9) ≤ (a0.size : Int)) = true := decide_eq_true c11
                      clear c11
                      obtain rfl := Option.some.inj H
                      have p7 : 0 ≤ (x3_1 : Int) := of_decide_eq_true (by first | (with_reducible assumption) | assumption)
                      have q7 : x3_1 < (a0.size : Int) := of_decide_eq_true (by first | (with_reducible assumption) | assumption)
                      have hx7 := bt_at a0 x3_1
                      replace p7 := eq_true p7
                      replace q7 := eq_true q7
                      go_wp2
                      go_ret
                      exact ⟨by first | rfl | (simp; done) | (simp only [← hji9] <;> (first | rfl | simp)) | (simp [*]; done), by repeat (first | exact Drawn0.refl _ | apply Drawn0.step)⟩
                    · rw [if_neg c11] at H
                      exact absurd H (by simp)
                  · rw [if_neg c10] at H
                    exact absurd H (by simp)
                · rw [if_neg c8] at H
                  have c8b0 : ((wrap64 (bt a0 x3_1)) == 0) = false := beq_eq_false_iff_ne.mpr c8
                  have c8b1 : ((wrap64 (bt a0 x3_1)) != 0) = true := bne_iff_ne.mpr c8
                  by_cases c12 : (wrap64 (bt a0 x3_1)) > 63
                  · rw [if_pos c12] at H
                    have c12b0 : decide (63 < (wrap64 (bt a0 x3_1))) = true := decide_eq_true c12
                    clear c12
                    obtain rfl := Option.some.inj H
                    have p7 : 0 ≤ (x3_1 : Int) := of_decide_eq_true (by first | (with_reducible assumption) | assumption)
                    have q7 : x3_1 < (a0.size : Int) := of_decide_eq_true (by first | (with_reducible assumption) | assumption)
                    have hx7 := bt_at a0 x3_1
                    replace p7 := eq_true p7
                    replace q7 := eq_true q7
                    go_wp2
                    go_ret
                    exact ⟨by first | rfl | (simp; done) | (simp [*]; done), by repeat (first | exact Drawn0.refl _ | apply Drawn0.step)⟩
                  · rw [if_neg c12] at H
                    have c12b0 : decide (63 < (wrap64 (bt a0 x3_1))) = false := decide_eq_false c12
                    clear c12
                    have H' := Aside0.mk H
                    clear H
                    have p7 : 0 ≤ (x3_1 : Int) := of_decide_eq_true (by first | (with_reducible assumption) | assumption)
                    have q7 : x3_1 < (a0.size : Int) := of_decide_eq_true (by first | (with_reducible assumption) | assumption)
                    have hx7 := bt_at a0 x3_1
                    replace p7 := eq_true p7
                    replace q7 := eq_true q7
                    go_wp2
                    go_roundg kj1
                    case measure => have := HK1.out; have := HJ1.out; omega
                    case rel => exact ⟨(wrap64 ((wrap64 (x3_1 + (wrap64 (bt a0 x3_1)))) + 1)), (by first | rfl | (simp; done) | (simp [*]; done)), H', ⟨by have := HK1.out; have := HJ1.out; omega⟩, by repeat (first | exact Drawn0.refl _ | apply Drawn0.step)⟩
              · rw [if_neg c6] at H
                exact absurd H (by simp)
            · rw [if_neg c5] at H
              exact absurd H (by simp)
          · replace c4 := Bool.eq_false_iff.mpr c4
            subst c4
            have H1 : (some (⟨#[]⟩ : ByteArray)) = some r := by rw [if_neg (show ¬ (false = true) by decide)] at H; exact H
            clear H
            have H := H1
            clear H1
            obtain rfl := Option.some.inj H
            go_wp2
            go_ret
            exact ⟨by first | rfl | (simp; done) | (simp [*]; done), by repeat (first | exact Drawn0.refl _ | apply Drawn0.step)⟩

end Go.Proofs.YtcamchdenjpmhaaDoor.F
namespace Go.Proofs.YtcamchdenjpmhaaDoor.F
open Go Go.Shelf Go.RowKit Go.Proofs.YtcamchdenjpmhaaDoorW.PrintWords Go.Proofs.YtcamchdenjpmhaaDoorW.PrintLast Go.Proofs.YtcamchdenjpmhaaDoorW.PrintMore
attribute [local go_sem] max2_int min2_int max_two min_two max_three min_three max_four min_four   -- for this text's walks alone
set_option linter.unusedVariables false
set_option linter.unusedSimpArgs false

/-! ### spec_l02Text: function 50 -/
def spec_l02Text.f (a0 : ByteArray) : Option (ByteArray) := if a0.toList = ([] : List UInt8) then (some (⟨#[]⟩ : ByteArray)) else (if 0 < (a0.size : Int) then (if (a0.size : Int) < (wrap64 ((wrap64 (bt a0 0)) + 1)) then (some (⟨#[]⟩ : ByteArray)) else (if 0 ≤ (wrap64 ((wrap64 (bt a0 0)) + 1)) then (if (wrap64 ((wrap64 (bt a0 0)) + 1)) ≤ (a0.size : Int) then (some (a0.extract 0 ((wrap64 ((wrap64 (bt a0 0)) + 1)) : Int).toNat)) else (none)) else (none))) else (none))
set_option maxHeartbeats 8000000 in
set_option maxRecDepth 100000 in
theorem spec_l02Text.calls (a0 : ByteArray) (r : ByteArray) (w : World) (h : spec_l02Text.f a0 = some r) :
    Calls Tryd.prog 50 #[.string a0] w fun e w' => e = .returned (.string r) ∧ Drawn0 w w' := by
  have H : (if a0.toList = ([] : List UInt8) then (some (⟨#[]⟩ : ByteArray)) else (if 0 < (a0.size : Int) then (if (a0.size : Int) < (wrap64 ((wrap64 (bt a0 0)) + 1)) then (some (⟨#[]⟩ : ByteArray)) else (if 0 ≤ (wrap64 ((wrap64 (bt a0 0)) + 1)) then (if (wrap64 ((wrap64 (bt a0 0)) + 1)) ≤ (a0.size : Int) then (some (a0.extract 0 ((wrap64 ((wrap64 (bt a0 0)) + 1)) : Int).toNat)) else (none)) else (none))) else (none))) = some r := h
  clear h
  by_cases c2 : a0.toList = ([] : List UInt8)
  · rw [if_pos c2] at H
    have c2b0 : (a0.toList == ([] : List UInt8)) = true := beq_iff_eq.mpr c2
    have c2b1 : (a0.toList != ([] : List UInt8)) = false := bne_eq_false_iff_eq.mpr c2
    clear c2
    obtain rfl := Option.some.inj H
    go_enter Tryd.func50, Tryd.ntmps50
    go_wp2
    go_ret
    exact ⟨by first | rfl | (simp; done) | (simp [*]; done), by repeat (first | exact Drawn0.refl _ | apply Drawn0.step)⟩
  · rw [if_neg c2] at H
    have c2b0 : (a0.toList == ([] : List UInt8)) = false := beq_eq_false_iff_ne.mpr c2
    have c2b1 : (a0.toList != ([] : List UInt8)) = true := bne_iff_ne.mpr c2
    by_cases c3 : 0 < (a0.size : Int)
    · rw [if_pos c3] at H
      have c3b0 : decide (0 < (a0.size : Int)) = true := decide_eq_true c3
      have c3b1 : decide (0 < a0.size) = true := decide_eq_true (by omega)
      clear c3
      by_cases c5 : (a0.size : Int) < (wrap64 ((wrap64 (bt a0 0)) + 1))
      · rw [if_pos c5] at H
        have c5b0 : decide ((a0.size : Int) < (wrap64 ((wrap64 (bt a0 0)) + 1))) = true := decide_eq_true c5
        clear c5
        obtain rfl := Option.some.inj H
        have p4 : 0 ≤ (0 : Int) := (by omega)
        have q4 : 0 < a0.size := (by have : (0 : Int) < (a0.size : Int) := of_decide_eq_true (by first | (with_reducible assumption) | assumption); omega)
        have hx4 : ∀ h : 0 < a0.size, ((a0[0]'h).toNat : Int) = bt a0 0 := bt_at a0 0
        clear p4
        have qi4 : (0 < (a0.size : Int)) = True := eq_true (of_decide_eq_true (by first | (with_reducible assumption) | assumption))
        replace q4 := eq_true q4
        go_enter Tryd.func50, Tryd.ntmps50
        go_wp2
        go_ret
        exact ⟨by first | rfl | (simp; done) | (simp [*]; done), by repeat (first | exact Drawn0.refl _ | apply Drawn0.step)⟩
      · rw [if_neg c5] at H
        have c5b0 : decide ((a0.size : Int) < (wrap64 ((wrap64 (bt a0 0)) + 1))) = false := decide_eq_false c5
        clear c5
        obtain ⟨ji7, hji7⟩ : ∃ j_ : Int, (wrap64 ((wrap64 (bt a0 0)) + 1)) = j_ := ⟨_, rfl⟩
        replace H : (if 0 ≤ (ji7) then (if (ji7) ≤ (a0.size : Int) then (some (a0.extract 0 ((ji7) : Int).toNat)) else (none)) else (none)) = some r := by first | (rw [hji7] at H; exact H) | (simp only [hji7] at H ⊢; exact H)
        (try rw [hji7] at c5b0)
        have hji7w : (IntKind.i64.wrap ((wrap64 (bt a0 0)) + 1)) = ji7 := (i64_w _).trans hji7
        by_cases c8 : 0 ≤ (ji7)
        · rw [if_pos c8] at H
          have c8b0 := eq_true c8
          have c8b1 : decide (0 ≤ (ji7)) = true := decide_eq_true c8
          clear c8
          by_cases c9 : (ji7) ≤ (a0.size : Int)
          · rw [if_pos c9] at H
            have c9b0 := eq_true c9
            have c9b1 : decide ((ji7) ≤ (a0.size : Int)) = true := decide_eq_true c9
            clear c9
            obtain rfl := Option.some.inj H
            have p4 : 0 ≤ (0 : Int) := (by omega)
            have q4 : 0 < a0.size := (by have : (0 : Int) < (a0.size : Int) := of_decide_eq_true (by first | (with_reducible assumption) | assumption); omega)
            have hx4 : ∀ h : 0 < a0.size, ((a0[0]'h).toNat : Int) = bt a0 0 := bt_at a0 0
            clear p4
            have qi4 : (0 < (a0.size : Int)) = True := eq_true (of_decide_eq_true (by first | (with_reducible assumption) | assumption))
            replace q4 := eq_true q4
            have p6 : 0 ≤ (0 : Int) := (by omega)
            have q6 : 0 < a0.size := (by have : (0 : Int) < (a0.size : Int) := of_decide_eq_true (by first | (with_reducible assumption) | assumption); omega)
            have hx6 : ∀ h : 0 < a0.size, ((a0[0]'h).toNat : Int) = bt a0 0 := bt_at a0 0
            clear p6
            have qi6 : (0 < (a0.size : Int)) = True := eq_true (of_decide_eq_true (by first | (with_reducible assumption) | assumption))
            replace q6 := eq_true q6
            go_enter Tryd.func50, Tryd.ntmps50
            go_wp2
            go_ret
            exact ⟨by first | rfl | (simp; done) | (simp only [← hji7] <;> (first | rfl | simp)) | (simp [*]; done), by repeat (first | exact Drawn0.refl _ | apply Drawn0.step)⟩
          · rw [if_neg c9] at H
            exact absurd H (by simp)
        · rw [if_neg c8] at H
          exact absurd H (by simp)
    · rw [if_neg c3] at H
      exact absurd H (by simp)

end Go.Proofs.YtcamchdenjpmhaaDoor.F
namespace Go.Proofs.YtcamchdenjpmhaaDoor.F
open Go Go.Shelf Go.RowKit Go.Proofs.YtcamchdenjpmhaaDoorW.PrintWords Go.Proofs.YtcamchdenjpmhaaDoorW.PrintLast Go.Proofs.YtcamchdenjpmhaaDoorW.PrintMore
attribute [local go_sem] max2_int min2_int max_two min_two max_three min_three max_four min_four   -- for this text's walks alone
set_option linter.unusedVariables false
set_option linter.unusedSimpArgs false

/-! ### spec_l02Alnum: function 51 -/
def spec_l02Alnum.f (a0 : Int) : Option (Bool) := if a0 ≥ 48 then (if a0 ≤ 57 then (some true) else (if a0 ≥ 97 then (if a0 ≤ 122 then (some true) else (if a0 ≥ 65 then (some (decide (a0 ≤ 90))) else (some false))) else (if a0 ≥ 65 then (some (decide (a0 ≤ 90))) else (some false)))) else (if a0 ≥ 97 then (if a0 ≤ 122 then (some true) else (if a0 ≥ 65 then (some (decide (a0 ≤ 90))) else (some false))) else (if a0 ≥ 65 then (some (decide (a0 ≤ 90))) else (some false)))
set_option maxHeartbeats 8000000 in
set_option maxRecDepth 100000 in
theorem spec_l02Alnum.calls (a0 : Int) (r : Bool) (w : World) (h : spec_l02Alnum.f a0 = some r) :
    Calls Tryd.prog 51 #[.int .u8 a0] w fun e w' => e = .returned (.bool r) ∧ Drawn0 w w' := by
  have H : (if a0 ≥ 48 then (if a0 ≤ 57 then (some true) else (if a0 ≥ 97 then (if a0 ≤ 122 then (some true) else (if a0 ≥ 65 then (some (decide (a0 ≤ 90))) else (some false))) else (if a0 ≥ 65 then (some (decide (a0 ≤ 90))) else (some false)))) else (if a0 ≥ 97 then (if a0 ≤ 122 then (some true) else (if a0 ≥ 65 then (some (decide (a0 ≤ 90))) else (some false))) else (if a0 ≥ 65 then (some (decide (a0 ≤ 90))) else (some false)))) = some r := h
  clear h
  by_cases c2 : a0 ≥ 48
  · rw [if_pos c2] at H
    have c2b0 : decide (48 ≤ a0) = true := decide_eq_true c2
    clear c2
    by_cases c3 : a0 ≤ 57
    · rw [if_pos c3] at H
      have c3b0 : decide (a0 ≤ 57) = true := decide_eq_true c3
      clear c3
      obtain rfl := Option.some.inj H
      go_enter Tryd.func51, Tryd.ntmps51
      go_wp2
      go_ret
      exact ⟨by first | rfl | (simp; done) | (simp [*]; done), by repeat (first | exact Drawn0.refl _ | apply Drawn0.step)⟩
    · rw [if_neg c3] at H
      have c3b0 : decide (a0 ≤ 57) = false := decide_eq_false c3
      clear c3
      by_cases c4 : a0 ≥ 97
      · rw [if_pos c4] at H
        have c4b0 : decide (97 ≤ a0) = true := decide_eq_true c4
        clear c4
        by_cases c5 : a0 ≤ 122
        · rw [if_pos c5] at H
          have c5b0 : decide (a0 ≤ 122) = true := decide_eq_true c5
          clear c5
          obtain rfl := Option.some.inj H
          go_enter Tryd.func51, Tryd.ntmps51
          go_wp2
          go_ret
          exact ⟨by first | rfl | (simp; done) | (simp [*]; done), by repeat (first | exact Drawn0.refl _ | apply Drawn0.step)⟩
        · rw [if_neg c5] at H
          have c5b0 : decide (a0 ≤ 122) = false := decide_eq_false c5
          clear c5
          by_cases c6 : a0 ≥ 65
          · rw [if_pos c6] at H
            have c6b0 : decide (65 ≤ a0) = true := decide_eq_true c6
            clear c6
            obtain rfl := Option.some.inj H
            go_enter Tryd.func51, Tryd.ntmps51
            go_wp2
            go_ret
            exact ⟨by first | rfl | (simp; done) | (simp [*]; done), by repeat (first | exact Drawn0.refl _ | apply Drawn0.step)⟩
          · rw [if_neg c6] at H
            have c6b0 : decide (65 ≤ a0) = false := decide_eq_false c6
            clear c6
            obtain rfl := Option.some.inj H
            go_enter Tryd.func51, Tryd.ntmps51
            go_wp2
            go_ret
            exact ⟨by first | rfl | (simp; done) | (simp [*]; done), by repeat (first | exact Drawn0.refl _ | apply Drawn0.step)⟩
      · rw [if_neg c4] at H
        have c4b0 : decide (97 ≤ a0) = false := decide_eq_false c4
        clear c4
        by_cases c7 : a0 ≥ 65
        · rw [if_pos c7] at H
          have c7b0 : decide (65 ≤ a0) = true := decide_eq_true c7
          clear c7
          obtain rfl := Option.some.inj H
          go_enter Tryd.func51, Tryd.ntmps51
          go_wp2
          go_ret
          exact ⟨by first | rfl | (simp; done) | (simp [*]; done), by repeat (first | exact Drawn0.refl _ | apply Drawn0.step)⟩
        · rw [if_neg c7] at H
          have c7b0 : decide (65 ≤ a0) = false := decide_eq_false c7
          clear c7
          obtain rfl := Option.some.inj H
          go_enter Tryd.func51, Tryd.ntmps51
          go_wp2
          go_ret
          exact ⟨by first | rfl | (simp; done) | (simp [*]; done), by repeat (first | exact Drawn0.refl _ | apply Drawn0.step)⟩
  · rw [if_neg c2] at H
    have c2b0 : decide (48 ≤ a0) = false := decide_eq_false c2
    clear c2
    by_cases c8 : a0 ≥ 97
    · rw [if_pos c8] at H
      have c8b0 : decide (97 ≤ a0) = true := decide_eq_true c8
      clear c8
      by_cases c9 : a0 ≤ 122
      · rw [if_pos c9] at H
        have c9b0 : decide (a0 ≤ 122) = true := decide_eq_true c9
        clear c9
        obtain rfl := Option.some.inj H
        go_enter Tryd.func51, Tryd.ntmps51
        go_wp2
        go_ret
        exact ⟨by first | rfl | (simp; done) | (simp [*]; done), by repeat (first | exact Drawn0.refl _ | apply Drawn0.step)⟩
      · rw [if_neg c9] at H
        have c9b0 : decide (a0 ≤ 122) = false := decide_eq_false c9
        clear c9
        by_cases c10 : a0 ≥ 65
        · rw [if_pos c10] at H
          have c10b0 : decide (65 ≤ a0) = true := decide_eq_true c10
          clear c10
          obtain rfl := Option.some.inj H
          go_enter Tryd.func51, Tryd.ntmps51
          go_wp2
          go_ret
          exact ⟨by first | rfl | (simp; done) | (simp [*]; done), by repeat (first | exact Drawn0.refl _ | apply Drawn0.step)⟩
        · rw [if_neg c10] at H
          have c10b0 : decide (65 ≤ a0) = false := decide_eq_false c10
          clear c10
          obtain rfl := Option.some.inj H
          go_enter Tryd.func51, Tryd.ntmps51
          go_wp2
          go_ret
          exact ⟨by first | rfl | (simp; done) | (simp [*]; done), by repeat (first | exact Drawn0.refl _ | apply Drawn0.step)⟩
    · rw [if_neg c8] at H
      have c8b0 : decide (97 ≤ a0) = false := decide_eq_false c8
      clear c8
      by_cases c11 : a0 ≥ 65
      · rw [if_pos c11] at H
        have c11b0 : decide (65 ≤ a0) = true := decide_eq_true c11
        clear c11
        obtain rfl := Option.some.inj H
        go_enter Tryd.func51, Tryd.ntmps51
        go_wp2
        go_ret
        exact ⟨by first | rfl | (simp; done) | (simp [*]; done), by repeat (first | exact Drawn0.refl _ | apply Drawn0.step)⟩
      · rw [if_neg c11] at H
        have c11b0 : decide (65 ≤ a0) = false := decide_eq_false c11
        clear c11
        obtain rfl := Option.some.inj H
        go_enter Tryd.func51, Tryd.ntmps51
        go_wp2
        go_ret
        exact ⟨by first | rfl | (simp; done) | (simp [*]; done), by repeat (first | exact Drawn0.refl _ | apply Drawn0.step)⟩

end Go.Proofs.YtcamchdenjpmhaaDoor.F
namespace Go.Proofs.YtcamchdenjpmhaaDoor.F
open Go Go.Shelf Go.RowKit Go.Proofs.YtcamchdenjpmhaaDoorW.PrintWords Go.Proofs.YtcamchdenjpmhaaDoorW.PrintLast Go.Proofs.YtcamchdenjpmhaaDoorW.PrintMore
attribute [local go_sem] max2_int min2_int max_two min_two max_three min_three max_four min_four   -- for this text's walks alone
set_option linter.unusedVariables false
set_option linter.unusedSimpArgs false

/-! ### spec_l02Map: function 52 -/
def spec_l02Map.l0 : Nat → ByteArray → Int → Option (Bool)
  | 0, _, _ => none
  | k + 1, x0, x3 => if x0.toList = ([] : List UInt8) then (some true) else (if (x0.size : Int) < 2 then (some false) else (if 0 < (x0.size : Int) then (if 1 < (x0.size : Int) then (if (wrap64 (bt x0 0)) ≤ x3 then (some false) else (if (wrap64 (bt x0 1)) < 1 then (some false) else (if (wrap64 (bt x0 1)) > 32 then (some false) else (if (x0.size : Int) < (wrap64 ((wrap64 (bt x0 1)) + 2)) then (some false) else (if 0 ≤ (wrap64 ((wrap64 (bt x0 1)) + 1)) then (if (wrap64 ((wrap64 (bt x0 1)) + 1)) < (x0.size : Int) then (if (bt x0 (wrap64 ((wrap64 (bt x0 1)) + 1))) = 0 then (some false) else (if 0 ≤ (wrap64 ((wrap64 (bt x0 1)) + 2)) then (if (wrap64 ((wrap64 (bt x0 1)) + 2)) ≤ (x0.size : Int) then (spec_l02Map.l0 k (x0.extract ((wrap64 ((wrap64 (bt x0 1)) + 2)) : Int).toNat x0.size) (wrap64 (bt x0 0))) else (none)) else (none))) else (none)) else (none)))))) else (none)) else (none)))
def spec_l02Map.f (k : Nat) (a0 : ByteArray) : Option (Bool) := spec_l02Map.l0 k a0 (-1)
theorem spec_l02Map.mono_l : ∀ k, (∀ y0 y1, LeO (spec_l02Map.l0 k y0 y1) (spec_l02Map.l0 (k + 1) y0 y1))
  | 0 => fun _ _ r h => by simp [spec_l02Map.l0] at h
  | k + 1 => by
    have ih0 := spec_l02Map.mono_l k
    · intro y0 y1
      unfold spec_l02Map.l0
      repeat' first
      | (with_reducible exact ih0 _ _)
      | (with_reducible exact LeO.refl _)
      | (with_reducible exact LeO.none _)
      | (with_reducible refine LeO.ite ?_ ?_)
      | (with_reducible refine LeO.bind ?_ (fun _ => ?_))
      | exact ih0 _ _
      | exact LeO.none _
      | refine LeO.ite ?_ ?_
      | refine LeO.bind ?_ (fun _ => ?_)
theorem spec_l02Map.mono : ∀ a0 k, LeO (spec_l02Map.f k a0) (spec_l02Map.f (k + 1) a0) := by
  intro a0 k
  have ih0 := spec_l02Map.mono_l k
  unfold spec_l02Map.f
  repeat' first
      | (with_reducible exact ih0 _ _)
      | (with_reducible exact LeO.refl _)
      | (with_reducible exact LeO.none _)
      | (with_reducible refine LeO.ite ?_ ?_)
      | (with_reducible refine LeO.bind ?_ (fun _ => ?_))
      | exact ih0 _ _
      | exact LeO.none _
      | refine LeO.ite ?_ ?_
      | refine LeO.bind ?_ (fun _ => ?_)
set_option maxHeartbeats 8000000 in
set_option maxRecDepth 100000 in
theorem spec_l02Map.calls (k : Nat) (a0 : ByteArray) (r : Bool) (w : World) (h : spec_l02Map.f k a0 = some r) :
    Calls Tryd.prog 52 #[.string a0] w fun e w' => e = .returned (.bool r) ∧ Drawn0 w w' := by
  have H : (spec_l02Map.l0 k a0 (-1)) = some r := h
  clear h
  have H' := Aside0.mk H
  clear H
  go_enter Tryd.func52, Tryd.ntmps52
  go_wp2
  go_loopg [0, 3] k (fun kq v0 v3 w' => ∃ (x0_1 : ByteArray) (x3_1 : Int), v0 = .string x0_1 ∧ v3 = .int .i64 x3_1 ∧ Aside0 (spec_l02Map.l0 kq x0_1 x3_1 = some r) ∧ Aside0 (kq ≤ k) ∧ Drawn0 w w')
  case atStart => exact ⟨(a0), ((-1)), (by first | rfl | (simp; done) | (simp [*]; done)), (by first | rfl | (simp; done) | (simp [*]; done)), H', ⟨Nat.le_refl _⟩, by repeat (first | exact Drawn0.refl _ | apply Drawn0.step)⟩
  case round =>
    clear H'
    obtain ⟨x0_1, x3_1, rfl, rfl, HA, HK1, ⟨m1, rfl⟩⟩ := hrel
    cases gk with
    | zero => exact absurd HA.out (by simp [spec_l02Map.l0])
    | succ k1 =>
      have H := HA.out
      clear HA
      simp only [spec_l02Map.l0] at H
      by_cases c2 : x0_1.toList = ([] : List UInt8)
      · rw [if_pos c2] at H
        have c2b0 : (x0_1.toList == ([] : List UInt8)) = true := beq_iff_eq.mpr c2
        have c2b1 : (x0_1.toList != ([] : List UInt8)) = false := bne_eq_false_iff_eq.mpr c2
        clear c2
        obtain rfl := Option.some.inj H
        go_wp2
        go_ret
        exact ⟨by first | rfl | (simp; done) | (simp [*]; done), by repeat (first | exact Drawn0.refl _ | apply Drawn0.step)⟩
      · rw [if_neg c2] at H
        have c2b0 : (x0_1.toList == ([] : List UInt8)) = false := beq_eq_false_iff_ne.mpr c2
        have c2b1 : (x0_1.toList != ([] : List UInt8)) = true := bne_iff_ne.mpr c2
        by_cases c3 : (x0_1.size : Int) < 2
        · rw [if_pos c3] at H
          have c3b0 : decide ((x0_1.size : Int) < 2) = true := decide_eq_true c3
          have c3b1 : decide (x0_1.size < 2) = true := decide_eq_true (by omega)
          clear c3
          obtain rfl := Option.some.inj H
          go_wp2
          go_ret
          exact ⟨by first | rfl | (simp; done) | (simp [*]; done), by repeat (first | exact Drawn0.refl _ | apply Drawn0.step)⟩
        · rw [if_neg c3] at H
          have c3b0 : decide ((x0_1.size : Int) < 2) = false := decide_eq_false c3
          have c3b1 : decide (x0_1.size < 2) = false := decide_eq_false (by omega)
          clear c3
          by_cases c4 : 0 < (x0_1.size : Int)
          · rw [if_pos c4] at H
            have c4b0 : decide (0 < (x0_1.size : Int)) = true := decide_eq_true c4
            have c4b1 : decide (0 < x0_1.size) = true := decide_eq_true (by omega)
            clear c4
            by_cases c6 : 1 < (x0_1.size : Int)
            · rw [if_pos c6] at H
              have c6b0 : decide (1 < (x0_1.size : Int)) = true := decide_eq_true c6
              have c6b1 : decide (1 < x0_1.size) = true := decide_eq_true (by omega)
              clear c6
              by_cases c8 : (wrap64 (bt x0_1 0)) ≤ x3_1
              · rw [if_pos c8] at H
                have c8b0 : decide ((wrap64 (bt x0_1 0)) ≤ x3_1) = true := decide_eq_true c8
                clear c8
                obtain rfl := Option.some.inj H
                have p5 : 0 ≤ (0 : Int) := (by omega)
                have q5 : 0 < x0_1.size := (by have : (0 : Int) < (x0_1.size : Int) := of_decide_eq_true (by first | (with_reducible assumption) | assumption); omega)
                have hx5 : ∀ h : 0 < x0_1.size, ((x0_1[0]'h).toNat : Int) = bt x0_1 0 := bt_at x0_1 0
                clear p5
                have qi5 : (0 < (x0_1.size : Int)) = True := eq_true (of_decide_eq_true (by first | (with_reducible assumption) | assumption))
                replace q5 := eq_true q5
                have p7 : 0 ≤ (1 : Int) := (by omega)
                have q7 : 1 < x0_1.size := (by have : (1 : Int) < (x0_1.size : Int) := of_decide_eq_true (by first | (with_reducible assumption) | assumption); omega)
                have hx7 : ∀ h : 1 < x0_1.size, ((x0_1[1]'h).toNat : Int) = bt x0_1 1 := bt_at x0_1 1
                clear p7
                have qi7 : (1 < (x0_1.size : Int)) = True := eq_true (of_decide_eq_true (by first | (with_reducible assumption) | assumption))
                replace q7 := eq_true q7
                go_wp2
                go_ret
                exact ⟨by first | rfl | (simp; done) | (simp [*]; done), by repeat (first | exact Drawn0.refl _ | apply Drawn0.step)⟩
              · rw [if_neg c8] at H
                have c8b0 : decide ((wrap64 (bt x0_1 0)) ≤ x3_1) = false := decide_eq_false c8
                clear c8
                by_cases c9 : (wrap64 (bt x0_1 1)) < 1
                · rw [if_pos c9] at H
                  have c9b0 : decide ((wrap64 (bt x0_1 1)) < 1) = true := decide_eq_true c9
                  clear c9
                  obtain rfl := Option.some.inj H
                  have p5 : 0 ≤ (0 : Int) := (by omega)
                  have q5 : 0 < x0_1.size := (by have : (0 : Int) < (x0_1.size : Int) := of_decide_eq_true (by first | (with_reducible assumption) | assumption); omega)
                  have hx5 : ∀ h : 0 < x0_1.size, ((x0_1[0]'h).toNat : Int) = bt x0_1 0 := bt_at x0_1 0
                  clear p5
                  have qi5 : (0 < (x0_1.size : Int)) = True := eq_true (of_decide_eq_true (by first | (with_reducible assumption) | assumption))
                  replace q5 := eq_true q5
                  have p7 : 0 ≤ (1 : Int) := (by omega)
                  have q7 : 1 < x0_1.size := (by have : (1 : Int) < (x0_1.size : Int) := of_decide_eq_true (by first | (with_reducible assumption) | assumption); omega)
                  have hx7 : ∀ h : 1 < x0_1.size, ((x0_1[1]'h).toNat : Int) = bt x0_1 1 := bt_at x0_1 1
                  clear p7
                  have qi7 : (1 < (x0_1.size : Int)) = True := eq_true (of_decide_eq_true (by first | (with_reducible assumption) | assumption))
                  replace q7 := eq_true q7
                  go_wp2
                  go_ret
                  exact ⟨by first | rfl | (simp; done) | (simp [*]; done), by repeat (first | exact Drawn0.refl _ | apply Drawn0.step)⟩
                · rw [if_neg c9] at H
                  have c9b0 : decide ((wrap64 (bt x0_1 1)) < 1) = false := decide_eq_false c9
                  clear c9
                  by_cases c10 : (wrap64 (bt x0_1 1)) > 32
                  · rw [if_pos c10] at H
                    have c10b0 : decide (32 < (wrap64 (bt x0_1 1))) = true := decide_eq_true c10
                    clear c10
                    obtain rfl := Option.some.inj H
                    have p5 : 0 ≤ (0 : Int) := (by omega)
                    have q5 : 0 < x0_1.size := (by have : (0 : Int) < (x0_1.size : Int) := of_decide_eq_true (by first | (with_reducible assumption) | assumption); omega)
                    have hx5 : ∀ h : 0 < x0_1.size, ((x0_1[0]'h).toNat : Int) = bt x0_1 0 := bt_at x0_1 0
                    clear p5
                    have qi5 : (0 < (x0_1.size : Int)) = True := eq_true (of_decide_eq_true (by first | (with_reducible assumption) | assumption))
                    replace q5 := eq_true q5
                    have p7 : 0 ≤ (1 : Int) := (by omega)
                    have q7 : 1 < x0_1.size := (by have : (1 : Int) < (x0_1.size : Int) := of_decide_eq_true (by first | (with_reducible assumption) | assumption); omega)
                    have hx7 : ∀ h : 1 < x0_1.size, ((x0_1[1]'h).toNat : Int) = bt x0_1 1 := bt_at x0_1 1
                    clear p7
                    have qi7 : (1 < (x0_1.size : Int)) = True := eq_true (of_decide_eq_true (by first | (with_reducible assumption) | assumption))
                    replace q7 := eq_true q7
                    go_wp2
                    go_ret
                    exact ⟨by first | rfl | (simp; done) | (simp [*]; done), by repeat (first | exact Drawn0.refl _ | apply Drawn0.step)⟩
                  · rw [if_neg c10] at H
                    have c10b0 : decide (32 < (wrap64 (bt x0_1 1))) = false := decide_eq_false c10
                    clear c10
                    by_cases c11 : (x0_1.size : Int) < (wrap64 ((wrap64 (bt x0_1 1)) + 2))
                    · rw [if_pos c11] at H
                      have c11b0 : decide ((x0_1.size : Int) < (wrap64 ((wrap64 (bt x0_1 1)) + 2))) = true := decide_eq_true c11
                      clear c11
                      obtain rfl := Option.some.inj H
                      have p5 : 0 ≤ (0 : Int) := (by omega)
                      have q5 : 0 < x0_1.size := (by have : (0 : Int) < (x0_1.size : Int) := of_decide_eq_true (by first | (with_reducible assumption) | assumption); omega)
                      have hx5 : ∀ h : 0 < x0_1.size, ((x0_1[0]'h).toNat : Int) = bt x0_1 0 := bt_at x0_1 0
                      clear p5
                      have qi5 : (0 < (x0_1.size : Int)) = True := eq_true (of_decide_eq_true (by first | (with_reducible assumption) | assumption))
                      replace q5 := eq_true q5
                      have p7 : 0 ≤ (1 : Int) := (by omega)
                      have q7 : 1 < x0_1.size := (by have : (1 : Int) < (x0_1.size : Int) := of_decide_eq_true (by first | (with_reducible assumption) | assumption); omega)
                      have hx7 : ∀ h : 1 < x0_1.size, ((x0_1[1]'h).toNat : Int) = bt x0_1 1 := bt_at x0_1 1
                      clear p7
                      have qi7 : (1 < (x0_1.size : Int)) = True := eq_true (of_decide_eq_true (by first | (with_reducible assumption) | assumption))
                      replace q7 := eq_true q7
                      go_wp2
                      go_ret
                      exact ⟨by first | rfl | (simp; done) | (simp [*]; done), by repeat (first | exact Drawn0.refl _ | apply Drawn0.step)⟩
                    · rw [if_neg c11] at H
                      have c11b0 : decide ((x0_1.size : Int) < (wrap64 ((wrap64 (bt x0_1 1)) + 2))) = false := decide_eq_false c11
                      clear c11
                      obtain ⟨ji12, hji12⟩ : ∃ j_ : Int, (wrap64 ((wrap64 (bt x0_1 1)) + 1)) = j_ := ⟨_, rfl⟩
                      replace H : (if 0 ≤ (ji12) then (if (ji12) < (x0_1.size : Int) then (if (bt x0_1 (ji12)) = 0 then (some false) else (if 0 ≤ (wrap64 ((wrap64 (bt x0_1 1)) + 2)) then (if (wrap64 ((wrap64 (bt x0_1 1)) + 2)) ≤ (x0_1.size : Int) then (spec_l02Map.l0 k1 (x0_1.extract ((wrap64 ((wrap64 (bt x0_1 1)) + 2)) : Int).toNat x0_1.size) (wrap64 (bt x0_1 0))) else (none)) else (none))) else (none)) else (none)) = some r := by first | (rw [hji12] at H; exact H) | (simp only [hji12] at H ⊢; exact H)
                      have hji12w : (IntKind.i64.wrap ((wrap64 (bt x0_1 1)) + 1)) = ji12 := (i64_w _).trans hji12
                      by_cases c13 : 0 ≤ (ji12)
                      · rw [if_pos c13] at H
                        have c13b0 : decide (0 ≤ (ji12)) = true := decide_eq_true c13
                        clear c13
                        by_cases c14 : (ji12) < (x0_1.size : Int)
                        · rw [if_pos c14] at H
                          have c14b0 : decide ((ji12) < (x0_1.size : Int)) = true := decide_eq_true c14
                          clear c14
                          by_cases c16 : (bt x0_1 (ji12)) = 0
                          · rw [if_pos c16] at H
                            have c16b0 : ((bt x0_1 (ji12)) == 0) = true := beq_iff_eq.mpr c16
                            have c16b1 : ((bt x0_1 (ji12)) != 0) = false := bne_eq_false_iff_eq.mpr c16
                            clear c16
                            obtain rfl := Option.some.inj H
                            have p5 : 0 ≤ (0 : Int) := (by omega)
                            have q5 : 0 < x0_1.size := (by have : (0 : Int) < (x0_1.size : Int) := of_decide_eq_true (by first | (with_reducible assumption) | assumption); omega)
                            have hx5 : ∀ h : 0 < x0_1.size, ((x0_1[0]'h).toNat : Int) = bt x0_1 0 := bt_at x0_1 0
                            clear p5
                            have qi5 : (0 < (x0_1.size : Int)) = True := eq_true (of_decide_eq_true (by first | (with_reducible assumption) | assumption))
                            replace q5 := eq_true q5
                            have p7 : 0 ≤ (1 : Int) := (by omega)
                            have q7 : 1 < x0_1.size := (by have : (1 : Int) < (x0_1.size : Int) := of_decide_eq_true (by first | (with_reducible assumption) | assumption); omega)
                            have hx7 : ∀ h : 1 < x0_1.size, ((x0_1[1]'h).toNat : Int) = bt x0_1 1 := bt_at x0_1 1
                            clear p7
                            have qi7 : (1 < (x0_1.size : Int)) = True := eq_true (of_decide_eq_true (by first | (with_reducible assumption) | assumption))
                            replace q7 := eq_true q7
                            have p15 : 0 ≤ ((ji12) : Int) := of_decide_eq_true (by first | (with_reducible assumption) | assumption)
                            have q15 : (ji12) < (x0_1.size : Int) := of_decide_eq_true (by first | (with_reducible assumption) | assumption)
                            have hx15 := bt_at x0_1 (ji12)
                            replace p15 := eq_true p15
                            replace q15 := eq_true q15
                            go_wp2
                            go_ret
                            exact ⟨by first | rfl | (simp; done) | (simp only [← hji12] <;> (first | rfl | simp)) | (simp [*]; done), by repeat (first | exact Drawn0.refl _ | apply Drawn0.step)⟩
                          · rw [if_neg c16] at H
                            have c16b0 : ((bt x0_1 (ji12)) == 0) = false := beq_eq_false_iff_ne.mpr c16
                            have c16b1 : ((bt x0_1 (ji12)) != 0) = true := bne_iff_ne.mpr c16
                            obtain ⟨ji17, hji17⟩ : ∃ j_ : Int, (wrap64 ((wrap64 (bt x0_1 1)) + 2)) = j_ := ⟨_, rfl⟩
                            replace H : (if 0 ≤ (ji17) then (if (ji17) ≤ (x0_1.size : Int) then (spec_l02Map.l0 k1 (x0_1.extract ((ji17) : Int).toNat x0_1.size) (wrap64 (bt x0_1 0))) else (none)) else (none)) = some r := by first | (rw [hji17] at H; exact H) | (simp only [hji17] at H ⊢; exact H)
                            (try rw [hji17] at c11b0)
                            have hji17w : (IntKind.i64.wrap ((wrap64 (bt x0_1 1)) + 2)) = ji17 := (i64_w _).trans hji17
                            by_cases c18 : 0 ≤ (ji17)
                            · rw [if_pos c18] at H
                              have c18b0 := eq_true c18
                              have c18b1 : decide (0 ≤ (ji17)) = true := decide_eq_true c18
                              clear c18
                              by_cases c19 : (ji17) ≤ (x0_1.size : Int)
                              · rw [if_pos c19] at H
                                have c19b0 := eq_true c19
                                have c19b1 : decide ((ji17) ≤ (x0_1.size : Int)) = true := decide_eq_true c19
                                clear c19
                                have H' := Aside0.mk H
                                clear H
                                have p5 : 0 ≤ (0 : Int) := (by omega)
                                have q5 : 0 < x0_1.size := (by have : (0 : Int) < (x0_1.size : Int) := of_decide_eq_true (by first | (with_reducible assumption) | assumption); omega)
                                have hx5 : ∀ h : 0 < x0_1.size, ((x0_1[0]'h).toNat : Int) = bt x0_1 0 := bt_at x0_1 0
                                clear p5
                                have qi5 : (0 < (x0_1.size : Int)) = True := eq_true (of_decide_eq_true (by first | (with_reducible assumption) | assumption))
                                replace q5 := eq_true q5
                                have p7 : 0 ≤ (1 : Int) := (by omega)
                                have q7 : 1 < x0_1.size := (by have : (1 : Int) < (x0_1.size : Int) := of_decide_eq_true (by first | (with_reducible assumption) | assumption); omega)
                                have hx7 : ∀ h : 1 < x0_1.size, ((x0_1[1]'h).toNat : Int) = bt x0_1 1 := bt_at x0_1 1
                                clear p7
                                have qi7 : (1 < (x0_1.size : Int)) = True := eq_true (of_decide_eq_true (by first | (with_reducible assumption) | assumption))
                                replace q7 := eq_true q7
                                have p15 : 0 ≤ ((ji12) : Int) := of_decide_eq_true (by first | (with_reducible assumption) | assumption)
                                have q15 : (ji12) < (x0_1.size : Int) := of_decide_eq_true (by first | (with_reducible assumption) | assumption)
                                have hx15 := bt_at x0_1 (ji12)
                                replace p15 := eq_true p15
                                replace q15 := eq_true q15
                                go_wp2
                                go_roundg k1
                                case measure => have := HK1.out; omega
                                case rel => exact ⟨(x0_1.extract ((ji17) : Int).toNat x0_1.size), (wrap64 (bt x0_1 0)), (by first | rfl | (simp; done) | (simp only [← hji17] <;> (first | rfl | simp)) | (simp [*]; done)), (by first | rfl | (simp; done) | (simp [*]; done)), H', ⟨by have := HK1.out; omega⟩, by repeat (first | exact Drawn0.refl _ | apply Drawn0.step)⟩
                              · rw [if_neg c19] at H
                                exact absurd H (by simp)
                            · rw [if_neg c18] at H
                              exact absurd H (by simp)
                        · rw [if_neg c14] at H
                          exact absurd H (by simp)
                      · rw [if_neg c13] at H
                        exact absurd H (by simp)
            · rw [if_neg c6] at H
              exact absurd H (by simp)
          · rw [if_neg c4] at H
            exact absurd H (by simp)

end Go.Proofs.YtcamchdenjpmhaaDoor.F
namespace Go.Proofs.YtcamchdenjpmhaaDoor.F
open Go Go.Shelf Go.RowKit Go.Proofs.YtcamchdenjpmhaaDoorW.PrintWords Go.Proofs.YtcamchdenjpmhaaDoorW.PrintLast Go.Proofs.YtcamchdenjpmhaaDoorW.PrintMore
attribute [local go_sem] max2_int min2_int max_two min_two max_three min_three max_four min_four   -- for this text's walks alone
set_option linter.unusedVariables false
set_option linter.unusedSimpArgs false

/-! ### spec_l02Parts: function 48 -/
def spec_l02Parts.run : Nat → ByteArray → ByteArray → Option ByteArray
  | 0, _, _ => none
  | k + 1, d, p => if d.size < p.size then none else (spec_l02Text.f (d.extract p.size d.size)).bind fun t => if t.size = 0 then some p else if p.size + t.size ≤ 9223372036854775807 then spec_l02Parts.run k d (p ++ t) else none
def spec_l02Parts.tag (K : Nat) : List Int → Option Bool
  | [] => some true
  | c :: r => (spec_l02Alnum.f c).bind fun b => if b = true then spec_l02Parts.tag K r else some false
def spec_l02Parts.pre (K : Nat) (c : Int) (d : ByteArray) : Option (Option ByteArray) :=
  if c = 110 then (spec_l02NameAt.f K d).bind fun p => some (some p)
  else if c = 98 then some (some (if d.size = 0 then ⟨#[]⟩ else d.extract 0 1))
  else if c = 116 then (spec_l02Text.f d).bind fun p => some (some p)
  else if c = 115 then (spec_l02Parts.run K d ⟨#[]⟩).bind fun p => some (some p)
  else if c = 99 then (spec_l02Text.f d).bind fun p => if p.size < 2 then some none else if 16 < p.size then some none else (spec_l02Parts.tag K ((bytesOf p).drop 1)).bind fun b => some (if b = true then some d else none)
  else if c = 109 then (spec_l02Map.f K d).bind fun b => some (if b = true then some d else none)
  else if c = 42 then some (some d) else none
def spec_l02Parts.go (K : Nat) : List UInt8 → ByteArray → List ByteArray → Option (List ByteArray × Bool)
  | [], d, out => some (out, d.toList.isEmpty)
  | c :: r, d, out => (spec_l02Parts.pre K (c.toNat : Int) d).bind fun o => match o with
    | none => some ([], false)
    | some p => if p.size = 0 ∧ (c.toNat : Int) ≠ 109 ∧ (c.toNat : Int) ≠ 42 then some ([], false) else if d.size < p.size then none else if 8796093022208 ≤ out.length then none else spec_l02Parts.go K r (d.extract p.size d.size) (out ++ [p])
def spec_l02Parts.f (k : Nat) (a0 : ByteArray) (a1 : ByteArray) : Option (List ByteArray × Bool) := if 140737488355328 < a0.size then none else spec_l02Parts.go k a0.data.toList a1 []
theorem spec_l02Parts.nil_iff (p : ByteArray) : (p.toList = []) ↔ p.size = 0 := by
  rw [Lib.toList_data]
  constructor
  · intro h
    have : p.data.size = 0 := by rw [← Array.length_toList, h]; rfl
    exact this
  · intro h
    exact List.eq_nil_of_length_eq_zero (by simpa using h)
theorem spec_l02Parts.nil_dec (p : ByteArray) : p.toList.isEmpty = decide (p.size = 0) := by
  rw [Bool.eq_iff_iff, List.isEmpty_iff, decide_eq_true_iff]
  exact spec_l02Parts.nil_iff p
set_option maxHeartbeats 8000000 in
set_option maxRecDepth 100000 in
theorem spec_l02Parts.calls (k : Nat) (a0 : ByteArray) (a1 : ByteArray) (r1 : List ByteArray) (r2 : Bool) (w : World) (h : spec_l02Parts.f k a0 a1 = some (r1, r2)) :
    Calls Tryd.prog 48 #[.string a0, .string a1] w fun e w' => ∃ v0_ : Value, e = .returned (.tuple #[v0_, .bool r2]) ∧ Kd.R Kd.string 9 w' w.heap.size (fun _ => True) v0_ r1 ∧ Below w.heap.size w w' := by
  unfold spec_l02Parts.f at h
  split at h
  case isTrue => cases h
  case isFalse hs =>
  have HB := Aside0.mk (Below.refl w.heap.size w)
  have HH := Aside0.mk h
  have HS : Aside0 (a0.size ≤ 140737488355328) := ⟨by omega⟩
  clear h hs
  go_enter Tryd.func48, Tryd.ntmps48
  go_wp2_with (first | ((with_reducible refine gate_dst (N := 10) rfl ?_); (try (refine gate_guard (by rfl) ?_; dsimp only)); refine Kd.R_lit Kd.string _ 9 ?hg (N := 10) ?hd (xs := ([] : List ByteArray)) (inner := []) (ok := fun _ => True) (okp := fun _ => True) ?hr ?hp (fun _ hk => hk) trivial (Below.refl _ _) (Nat.le_refl _) (by simp) ?_; (case hd => rfl); (case hg => rfl); (case hr => first | (go_simp; done) | (go_simp; rfl)); (case hp => exact (Reps.none _ _)); intro v102 w3 ho4 hb hg_ hnew_; clear hg_ hnew_; have n0_ := Aside0.mk (Kd.R_lower ho4 (below_size HB.out)); have n1_ := Aside0.mk (below_step HB.out hb); clear HB; have HO := n0_; have HB := n1_; clear n0_ n1_; clear hb ho4))
  go_loopg [1, 6, 7] (a0.size + 1) (fun kq v1 v6 v7 w' => ∃ (d : ByteArray) (out : List ByteArray) (i : Nat), v1 = .string d ∧ v7 = .int .i64 (i : Int) ∧ Aside0 (kq + i = a0.size + 1) ∧ Aside0 (i ≤ a0.size) ∧ Aside0 (spec_l02Parts.go k (a0.data.toList.drop i) d out = some (r1, r2)) ∧ Aside0 (Kd.R Kd.string 9 w' w.heap.size (fun _ => True) v6 out) ∧ Aside0 (Below w.heap.size w w'))
  case atStart => exact ⟨a1, [], 0, rfl, rfl, ⟨rfl⟩, ⟨Nat.zero_le _⟩, HH, HO, HB⟩
  case round =>
    clear HO HB HH
    obtain ⟨d, out, i, rfl, rfl, HK, HI, HA, HO, HB⟩ := hrel
    by_cases hi : i < a0.size
    · have hlen : i < a0.data.toList.length := by simpa using hi
      have hdrop : a0.data.toList.drop i = a0[i] :: a0.data.toList.drop (i + 1) := by
        rw [List.drop_eq_getElem_cons hlen]
        rfl
      have hO := HA.out
      rw [hdrop, spec_l02Parts.go] at hO
      clear HA
      have q3 : ((i : Int) < (a0.size : Int)) = True := eq_true (by omega)
      have q4 : (i < a0.size) = True := eq_true (by omega)
      generalize hcc : ((a0[i]'hi).toNat : Int) = c at hO
      have hx4 : ∀ h : i < a0.size, ((a0[i]'h).toNat : Int) = c := fun _ => hcc
      have HII := Aside0.mk hi
      have hov : wrap64 ((i : Int) + 1) = (i : Int) + 1 := by have := HS.out; unfold wrap64; omega
      have HOO := Aside0.mk hO
      clear hdrop hlen hcc hO hi
      go_upto_block 2 with fail
      go_cut [8] (fun v8' wc => ∃ (p : ByteArray), v8' = .string p ∧ Aside0 ((if p.size = 0 ∧ c ≠ 109 ∧ c ≠ 42 then some ([], false) else if d.size < p.size then none else if 8796093022208 ≤ out.length then none else spec_l02Parts.go k (a0.data.toList.drop (i + 1)) (d.extract p.size d.size) (out ++ [p])) = some (r1, r2)) ∧ Aside0 (Kd.R Kd.string 9 wc w.heap.size (fun _ => True) u6 out) ∧ Aside0 (Below w.heap.size w wc))
      case first =>
        have hO := HOO.out
        clear HOO
        by_cases h110 : c = 110
        · subst h110
          have e1 : spec_l02Parts.pre k 110 d = (spec_l02NameAt.f k d).bind fun p => some (some p) := by unfold spec_l02Parts.pre; simp
          rw [e1, Option.bind_assoc] at hO
          obtain ⟨p, hp, hO⟩ := Option.bind_eq_some_iff.mp hO
          rw [Option.bind_some] at hO
          have HP := Aside0.mk hp
          have HO2 := Aside0.mk hO
          clear hp hO e1
          go_wp2_with (first | (go_at_call 49; refine (spec_l02NameAt.calls k _ p _ HP.out).mono ?_; rintro e w1 ⟨rfl, m, rfl⟩))
          go_meet
          case rel => exact ⟨p, by rfl, HO2, ⟨Kd.R_drewN HO.out _⟩, ⟨pw_below_drewN HB.out _⟩⟩
        by_cases h98 : c = 98
        · subst h98
          have e1 : spec_l02Parts.pre k 98 d = some (some (if d.size = 0 then ⟨#[]⟩ else d.extract 0 1)) := by unfold spec_l02Parts.pre; simp
          rw [e1, Option.bind_some] at hO
          have hde := spec_l02Parts.nil_dec d
          clear e1
          by_cases hd0 : d.size = 0
          · rw [if_pos hd0] at hO
            rw [decide_eq_true hd0] at hde
            have HO2 := Aside0.mk hO
            clear hO hd0
            go_wp2
            go_meet
            case rel => exact ⟨⟨#[]⟩, by rfl, HO2, HO, HB⟩
          · rw [if_neg hd0] at hO
            rw [decide_eq_false hd0] at hde
            have HO2 := Aside0.mk hO
            have h1 : (1 ≤ (d.size : Int)) = True := eq_true (by omega)
            have h2 : (1 ≤ d.size) = True := eq_true (by omega)
            clear hO hd0
            go_wp2
            go_meet
            case rel => exact ⟨d.extract 0 1, by rfl, HO2, HO, HB⟩
        by_cases h116 : c = 116
        · subst h116
          have e1 : spec_l02Parts.pre k 116 d = (spec_l02Text.f d).bind fun p => some (some p) := by unfold spec_l02Parts.pre; simp
          rw [e1, Option.bind_assoc] at hO
          obtain ⟨p, hp, hO⟩ := Option.bind_eq_some_iff.mp hO
          rw [Option.bind_some] at hO
          have HP := Aside0.mk hp
          have HO2 := Aside0.mk hO
          clear hp hO e1
          go_wp2_with (first | (go_at_call 50; refine (spec_l02Text.calls _ p _ HP.out).mono ?_; rintro e w1 ⟨rfl, m, rfl⟩))
          go_meet
          case rel => exact ⟨p, by rfl, HO2, ⟨Kd.R_drewN HO.out _⟩, ⟨pw_below_drewN HB.out _⟩⟩
        by_cases h42 : c = 42
        · subst h42
          have e1 : spec_l02Parts.pre k 42 d = some (some d) := by unfold spec_l02Parts.pre; simp
          rw [e1, Option.bind_some] at hO
          have HO2 := Aside0.mk hO
          clear hO e1
          go_wp2
          go_meet
          case rel => exact ⟨d, by rfl, HO2, HO, HB⟩
        by_cases h109 : c = 109
        · subst h109
          have e1 : spec_l02Parts.pre k 109 d = (spec_l02Map.f k d).bind fun b => some (if b = true then some d else none) := by unfold spec_l02Parts.pre; simp
          rw [e1, Option.bind_assoc] at hO
          obtain ⟨b, hb, hO⟩ := Option.bind_eq_some_iff.mp hO
          rw [Option.bind_some] at hO
          have HP := Aside0.mk hb
          clear hb e1
          cases b with
          | true =>
            rw [if_pos rfl] at hO
            have HO2 := Aside0.mk hO
            clear hO
            go_wp2_with (first | (go_at_call 52; refine (spec_l02Map.calls k _ true _ HP.out).mono ?_; rintro e w1 ⟨rfl, m, rfl⟩))
            go_meet
            case rel => exact ⟨d, by rfl, HO2, ⟨Kd.R_drewN HO.out _⟩, ⟨pw_below_drewN HB.out _⟩⟩
          | false =>
            rw [if_neg (by decide)] at hO
            simp only [Option.some.injEq, Prod.mk.injEq] at hO
            obtain ⟨rfl, rfl⟩ := hO
            go_wp2_with (first | (go_at_call 52; refine (spec_l02Map.calls k _ false _ HP.out).mono ?_; rintro e w1 ⟨rfl, m, rfl⟩))
            go_ret2
            exact ⟨_, rfl, Kd.R_nil _ _ _ _ _, pw_below_drewN HB.out _⟩
        by_cases h115 : c = 115
        · subst h115
          have e1 : spec_l02Parts.pre k 115 d = (spec_l02Parts.run k d ⟨#[]⟩).bind fun p => some (some p) := by unfold spec_l02Parts.pre; simp
          rw [e1, Option.bind_assoc] at hO
          obtain ⟨pf, hp, hO⟩ := Option.bind_eq_some_iff.mp hO
          rw [Option.bind_some] at hO
          have HP := Aside0.mk hp
          have HO2 := Aside0.mk hO
          clear hp hO e1
          go_wp2
          go_loopg [8] k (fun kq v8 w' => ∃ (p : ByteArray), v8 = .string p ∧ Aside0 (spec_l02Parts.run kq d p = some pf) ∧ Aside0 (Kd.R Kd.string 9 w' w.heap.size (fun _ => True) u6 out) ∧ Aside0 (Below w.heap.size w w'))
          case atStart => exact ⟨⟨#[]⟩, rfl, HP, HO, HB⟩
          case round =>
            clear HP HO HB
            obtain ⟨p, rfl, HP, HO, HB⟩ := hrel
            cases gk with
            | zero => exact absurd HP.out (by simp [spec_l02Parts.run])
            | succ k1 =>
            have hP := HP.out
            rw [spec_l02Parts.run] at hP
            clear HP
            by_cases hds : d.size < p.size
            · rw [if_pos hds] at hP; cases hP
            · rw [if_neg hds] at hP
              obtain ⟨t, ht, hP⟩ := Option.bind_eq_some_iff.mp hP
              have hsl : ((p.size : Int) ≤ (d.size : Int)) = True := eq_true (by omega)
              have HT := Aside0.mk ht
              have hte := spec_l02Parts.nil_dec t
              clear ht hds
              by_cases ht0 : t.size = 0
              · rw [if_pos ht0] at hP
                rw [decide_eq_true ht0] at hte
                obtain rfl := Option.some.inj hP
                clear ht0 hP
                go_wp2_with (first | (go_at_call 50; refine (spec_l02Text.calls _ t _ HT.out).mono ?_; rintro e w1 ⟨rfl, m, rfl⟩))
                go_meet
                case rel => exact ⟨p, by rfl, HO2, ⟨Kd.R_drewN HO.out _⟩, ⟨pw_below_drewN HB.out _⟩⟩
              · rw [if_neg ht0] at hP
                rw [decide_eq_false ht0] at hte
                by_cases hcat : p.size + t.size ≤ 9223372036854775807
                · rw [if_pos hcat] at hP
                  have HP2 := Aside0.mk hP
                  have hcat1 : (p.size + t.size ≤ 9223372036854775807) = True := eq_true hcat
                  have hcat2 : (9223372036854775807 < p.size + t.size) = False := eq_false (Nat.not_lt.2 hcat)
                  clear hP ht0 hcat
                  go_wp2_with (first | (go_at_call 50; refine (spec_l02Text.calls _ t _ HT.out).mono ?_; rintro e w1 ⟨rfl, m, rfl⟩))
                  go_roundg k1
                  case measure => omega
                  case rel => exact ⟨p ++ t, by rfl, HP2, ⟨by repeat (first | exact HO.out | apply Kd.R_drewN)⟩, ⟨by repeat (first | exact HB.out | apply pw_below_drewN)⟩⟩
                · rw [if_neg hcat] at hP; cases hP
        by_cases h99 : c = 99
        · subst h99
          have e1 : spec_l02Parts.pre k 99 d = (spec_l02Text.f d).bind fun p => if p.size < 2 then some none else if 16 < p.size then some none else (spec_l02Parts.tag k ((bytesOf p).drop 1)).bind fun b => some (if b = true then some d else none) := by unfold spec_l02Parts.pre; simp
          rw [e1, Option.bind_assoc] at hO
          obtain ⟨p, hp, hO⟩ := Option.bind_eq_some_iff.mp hO
          have HP := Aside0.mk hp
          clear hp e1
          by_cases hp2 : p.size < 2
          · rw [if_pos hp2, Option.bind_some] at hO
            simp only [Option.some.injEq, Prod.mk.injEq] at hO
            obtain ⟨rfl, rfl⟩ := hO
            have t1 : ((p.size : Int) < 2) = True := eq_true (by omega)
            have t2 : (p.size < 2) = True := eq_true (by omega)
            clear hp2
            go_wp2_with (first | (go_at_call 50; refine (spec_l02Text.calls _ p _ HP.out).mono ?_; rintro e w1 ⟨rfl, m, rfl⟩))
            go_ret2
            exact ⟨_, rfl, Kd.R_nil _ _ _ _ _, pw_below_drewN HB.out _⟩
          · rw [if_neg hp2] at hO
            by_cases hp16 : 16 < p.size
            · rw [if_pos hp16, Option.bind_some] at hO
              simp only [Option.some.injEq, Prod.mk.injEq] at hO
              obtain ⟨rfl, rfl⟩ := hO
              have t1 : ((p.size : Int) < 2) = False := eq_false (by omega)
              have t2 : (p.size < 2) = False := eq_false (by omega)
              have t3 : (16 < (p.size : Int)) = True := eq_true (by omega)
              have t4 : (16 < p.size) = True := eq_true (by omega)
              clear hp2 hp16
              go_wp2_with (first | (go_at_call 50; refine (spec_l02Text.calls _ p _ HP.out).mono ?_; rintro e w1 ⟨rfl, m, rfl⟩))
              go_ret2
              exact ⟨_, rfl, Kd.R_nil _ _ _ _ _, pw_below_drewN HB.out _⟩
            · rw [if_neg hp16, Option.bind_assoc] at hO
              obtain ⟨b, hb, hO⟩ := Option.bind_eq_some_iff.mp hO
              rw [Option.bind_some] at hO
              have HT := Aside0.mk hb
              have HO2 := Aside0.mk hO
              have HPZ : Aside0 (2 ≤ p.size ∧ p.size ≤ 16) := ⟨by omega⟩
              have t1 : ((p.size : Int) < 2) = False := eq_false (by omega)
              have t2 : (p.size < 2) = False := eq_false (by omega)
              have t3 : (16 < (p.size : Int)) = False := eq_false (by omega)
              have t4 : (16 < p.size) = False := eq_false (by omega)
              clear hb hO hp2 hp16
              go_wp2_with (first | (go_at_call 50; refine (spec_l02Text.calls _ p _ HP.out).mono ?_; rintro e w1 ⟨rfl, m, rfl⟩))
              clear t1 t2 t3 t4
              go_loopg [9] p.size (fun kq v9 w' => ∃ j : Nat, v9 = .int .i64 (j : Int) ∧ Aside0 (kq + j = p.size + 1) ∧ Aside0 (1 ≤ j ∧ j ≤ p.size) ∧ Aside0 (spec_l02Parts.tag k ((bytesOf p).drop j) = some b) ∧ Aside0 (Kd.R Kd.string 9 w' w.heap.size (fun _ => True) u6 out) ∧ Aside0 (Below w.heap.size w w'))
              case atStart => exact ⟨1, rfl, ⟨by have := HPZ.out; omega⟩, ⟨by have := HPZ.out; omega⟩, HT, ⟨Kd.R_drewN HO.out _⟩, ⟨pw_below_drewN HB.out _⟩⟩
              case round =>
                clear HT HO HB
                obtain ⟨j, rfl, HKJ, HJ, HT, HO, HB⟩ := hrel
                have hlb := bytesOf_length p
                by_cases hjp : j < p.size
                · cases gk with
                  | zero => exact absurd HKJ.out (by omega)
                  | succ k1 =>
                  have hT := HT.out
                  have hel : (bytesOf p)[j]'(by omega) = bt p (j : Int) := by
                    rw [← rd_bytesOf]
                    simp [rd, List.getD_eq_getElem?_getD, hlb, hjp]
                  rw [List.drop_eq_getElem_cons (by omega), spec_l02Parts.tag, hel] at hT
                  obtain ⟨bb, hbb, hT⟩ := Option.bind_eq_some_iff.mp hT
                  have HBB := Aside0.mk hbb
                  have q3 : ((j : Int) < (p.size : Int)) = True := eq_true (by omega)
                  have q4 : (j < p.size) = True := eq_true (by omega)
                  have hx4 : ∀ h : j < p.size, ((p[j]'h).toNat : Int) = bt p (j : Int) := fun h => bt_at p (j : Int) h
                  have hov : wrap64 ((j : Int) + 1) = (j : Int) + 1 := by have := HJ.out; have := HPZ.out; unfold wrap64; omega
                  have HJP := Aside0.mk hjp
                  clear HT hbb hel hlb hjp
                  cases bb with
                  | true =>
                    rw [if_pos rfl] at hT
                    have HT := Aside0.mk hT
                    clear hT
                    go_wp2_with (first | (go_at_call 51; refine (spec_l02Alnum.calls _ true _ HBB.out).mono ?_; rintro e w1 ⟨rfl, m, rfl⟩))
                    go_roundg k1
                    case measure => omega
                    case rel => exact ⟨j + 1, by go_num, ⟨by have := HKJ.out; omega⟩, ⟨by have := HJP.out; omega⟩, HT, ⟨Kd.R_drewN HO.out _⟩, ⟨pw_below_drewN HB.out _⟩⟩
                  | false =>
                    rw [if_neg (by decide)] at hT
                    obtain rfl := Option.some.inj hT
                    have hO := HO2.out
                    rw [if_neg (by decide)] at hO
                    simp only [Option.some.injEq, Prod.mk.injEq] at hO
                    obtain ⟨rfl, rfl⟩ := hO
                    clear hT HO2
                    go_wp2_with (first | (go_at_call 51; refine (spec_l02Alnum.calls _ false _ HBB.out).mono ?_; rintro e w1 ⟨rfl, m, rfl⟩))
                    go_ret2
                    exact ⟨_, rfl, Kd.R_nil _ _ _ _ _, pw_below_drewN HB.out _⟩
                · obtain rfl : j = p.size := by have := HJ.out; omega
                  have hT := HT.out
                  rw [List.drop_of_length_le (by omega), spec_l02Parts.tag] at hT
                  obtain rfl := Option.some.inj hT
                  have hO := HO2.out
                  rw [if_pos rfl] at hO
                  have HO3 := Aside0.mk hO
                  clear hO hT HT HO2 hlb hjp
                  go_wp2
                  go_meet
                  case rel => exact ⟨d, by rfl, HO3, HO, HB⟩
        exfalso
        have e1 : spec_l02Parts.pre k c d = none := by unfold spec_l02Parts.pre; simp [h110, h98, h116, h42, h109, h115, h99]
        rw [e1] at hO
        cases hO
      case rest =>
        clear HOO
        obtain ⟨p, rfl, HP, HO3, HB3⟩ := hcut
        have hP := HP.out
        clear HP
        have hpe := spec_l02Parts.nil_dec p
        by_cases hp0 : p.size = 0 ∧ c ≠ 109 ∧ c ≠ 42
        · rw [if_pos hp0] at hP
          simp only [Option.some.injEq, Prod.mk.injEq] at hP
          obtain ⟨rfl, rfl⟩ := hP
          obtain ⟨p0, c1, c2⟩ := hp0
          rw [decide_eq_true p0] at hpe
          have c1b : (c != 109) = true := bne_iff_ne.mpr c1
          have c2b : (c != 42) = true := bne_iff_ne.mpr c2
          clear c1 c2 p0
          go_wp2
          go_ret2
          exact ⟨_, rfl, Kd.R_nil _ _ _ _ _, HB3.out⟩
        · rw [if_neg hp0] at hP
          by_cases hds : d.size < p.size
          · rw [if_pos hds] at hP; cases hP
          · rw [if_neg hds] at hP
            by_cases hol : 8796093022208 ≤ out.length
            · rw [if_pos hol] at hP; cases hP
            · rw [if_neg hol] at hP
              have HP := Aside0.mk hP
              have HOL := Aside0.mk hol
              have hsl : ((p.size : Int) ≤ (d.size : Int)) = True := eq_true (by omega)
              clear hP hol hds
              by_cases hps : p.size = 0
              · rw [decide_eq_true hps] at hpe
                by_cases c1 : c = 109
                · have c1b : (c != 109) = false := by rw [c1]; rfl
                  clear c1 hp0 hps
                  go_wp2_with (first | ((with_reducible refine gate_builtin (b := .append) (xs := #[.tmp 96, .tmp 98]) rfl ?_); (try (refine gate_guard (by rfl) ?_; dsimp only)); at_builtin; refine Kd.R_append Kd.string (w0 := w) w.heap.size rfl (.tmp 96) (.tmp 98) 72 9 (.string ⟨#[]⟩) 16 rfl Tryd.underlying72 info9 rfl (by decide) (by omega) u6 out p [.string p] (fun _ => True) (fun _ => False) rfl rfl ?aP (fun _ hk => hk.elim) ?aF ?aO ?aB ?aS ?aL ?_; (case aP => exact rfl); (case aB => exact HB3.out); (case aF => exact (fun _ _ => trivial)); (case aO => exact HO3.out); (case aS => exact HB3.out.size); (case aL => have := HOL.out; omega); intro v106 w16 ho hb hg hat; have HB4 := Aside0.mk hb; have HO4 := Aside0.mk ho; clear ho hb hg hat))
                  go_roundg (a0.size - i)
                  case measure => have := HII.out; have := HK.out; omega
                  case rel => exact ⟨d.extract p.size d.size, out ++ [p], i + 1, by rfl, by go_num, ⟨by have := HII.out; omega⟩, ⟨by have := HII.out; omega⟩, HP, HO4, HB4⟩
                · have c1b : (c != 109) = true := bne_iff_ne.mpr c1
                  have c2b : (c != 42) = false := bne_eq_false_iff_eq.mpr (by
                    by_cases c2 : c = 42
                    · exact c2
                    · exact absurd ⟨hps, c1, c2⟩ hp0)
                  clear c1 hp0 hps
                  go_wp2_with (first | ((with_reducible refine gate_builtin (b := .append) (xs := #[.tmp 96, .tmp 98]) rfl ?_); (try (refine gate_guard (by rfl) ?_; dsimp only)); at_builtin; refine Kd.R_append Kd.string (w0 := w) w.heap.size rfl (.tmp 96) (.tmp 98) 72 9 (.string ⟨#[]⟩) 16 rfl Tryd.underlying72 info9 rfl (by decide) (by omega) u6 out p [.string p] (fun _ => True) (fun _ => False) rfl rfl ?aP (fun _ hk => hk.elim) ?aF ?aO ?aB ?aS ?aL ?_; (case aP => exact rfl); (case aB => exact HB3.out); (case aF => exact (fun _ _ => trivial)); (case aO => exact HO3.out); (case aS => exact HB3.out.size); (case aL => have := HOL.out; omega); intro v106 w16 ho hb hg hat; have HB4 := Aside0.mk hb; have HO4 := Aside0.mk ho; clear ho hb hg hat))
                  go_roundg (a0.size - i)
                  case measure => have := HII.out; have := HK.out; omega
                  case rel => exact ⟨d.extract p.size d.size, out ++ [p], i + 1, by rfl, by go_num, ⟨by have := HII.out; omega⟩, ⟨by have := HII.out; omega⟩, HP, HO4, HB4⟩
              · rw [decide_eq_false hps] at hpe
                clear hp0 hps
                go_wp2_with (first | ((with_reducible refine gate_builtin (b := .append) (xs := #[.tmp 96, .tmp 98]) rfl ?_); (try (refine gate_guard (by rfl) ?_; dsimp only)); at_builtin; refine Kd.R_append Kd.string (w0 := w) w.heap.size rfl (.tmp 96) (.tmp 98) 72 9 (.string ⟨#[]⟩) 16 rfl Tryd.underlying72 info9 rfl (by decide) (by omega) u6 out p [.string p] (fun _ => True) (fun _ => False) rfl rfl ?aP (fun _ hk => hk.elim) ?aF ?aO ?aB ?aS ?aL ?_; (case aP => exact rfl); (case aB => exact HB3.out); (case aF => exact (fun _ _ => trivial)); (case aO => exact HO3.out); (case aS => exact HB3.out.size); (case aL => have := HOL.out; omega); intro v106 w16 ho hb hg hat; have HB4 := Aside0.mk hb; have HO4 := Aside0.mk ho; clear ho hb hg hat))
                go_roundg (a0.size - i)
                case measure => have := HII.out; have := HK.out; omega
                case rel => exact ⟨d.extract p.size d.size, out ++ [p], i + 1, by rfl, by go_num, ⟨by have := HII.out; omega⟩, ⟨by have := HII.out; omega⟩, HP, HO4, HB4⟩
    · obtain rfl : i = a0.size := by have := HI.out; omega
      have hO := HA.out
      rw [List.drop_of_length_le (by simp), spec_l02Parts.go] at hO
      simp only [Option.some.injEq, Prod.mk.injEq] at hO
      obtain ⟨rfl, rfl⟩ := hO
      clear HA
      go_wp2
      go_ret2
      exact ⟨_, rfl, HO.out, HB.out⟩
theorem spec_l02Parts.run_mono : ∀ (k : Nat) (d p : ByteArray), LeO (spec_l02Parts.run k d p) (spec_l02Parts.run (k + 1) d p) := by
  intro k
  induction k with
  | zero => intro d p; exact LeO.none _
  | succ k ih =>
    intro d p
    rw [spec_l02Parts.run, spec_l02Parts.run]
    refine LeO.ite (LeO.refl _) (LeO.bind (LeO.refl _) (fun t => LeO.ite (LeO.refl _) (LeO.ite (ih _ _) (LeO.refl _))))
theorem spec_l02Parts.tag_mono (K : Nat) : ∀ l : List Int, LeO (spec_l02Parts.tag K l) (spec_l02Parts.tag (K + 1) l) := by
  intro l
  induction l with
  | nil => exact LeO.refl _
  | cons c r ih =>
    rw [spec_l02Parts.tag, spec_l02Parts.tag]
    exact LeO.bind (LeO.refl _) (fun b => LeO.ite ih (LeO.refl _))
theorem spec_l02Parts.pre_mono (K : Nat) (c : Int) (d : ByteArray) : LeO (spec_l02Parts.pre K c d) (spec_l02Parts.pre (K + 1) c d) := by
  unfold spec_l02Parts.pre
  repeat' first
      | (with_reducible exact spec_l02NameAt.mono _ _)
      | (with_reducible exact spec_l02Map.mono _ _)
      | (with_reducible exact spec_l02Parts.run_mono _ _ _)
      | (with_reducible exact spec_l02Parts.tag_mono _ _)
      | (with_reducible exact LeO.refl _)
      | (with_reducible refine LeO.ite ?_ ?_)
      | (with_reducible refine LeO.bind ?_ (fun _ => ?_))
theorem spec_l02Parts.go_mono (K : Nat) : ∀ (l : List UInt8) (d : ByteArray) (out : List ByteArray), LeO (spec_l02Parts.go K l d out) (spec_l02Parts.go (K + 1) l d out) := by
  intro l
  induction l with
  | nil => intro d out; exact LeO.refl _
  | cons c r ih =>
    intro d out
    rw [spec_l02Parts.go, spec_l02Parts.go]
    refine LeO.bind (spec_l02Parts.pre_mono _ _ _) (fun o => ?_)
    cases o with
    | none => exact LeO.refl _
    | some p => exact LeO.ite (LeO.refl _) (LeO.ite (LeO.refl _) (LeO.ite (LeO.refl _) (ih _ _)))
theorem spec_l02Parts.mono : ∀ a0 a1 k, LeO (spec_l02Parts.f k a0 a1) (spec_l02Parts.f (k + 1) a0 a1) := by
  intro a0 a1 k
  unfold spec_l02Parts.f
  exact LeO.ite (LeO.refl _) (spec_l02Parts.go_mono _ _ _ _)

end Go.Proofs.YtcamchdenjpmhaaDoor.F
namespace Go.Proofs.YtcamchdenjpmhaaDoor.F
open Go Go.Shelf Go.RowKit Go.Proofs.YtcamchdenjpmhaaDoorW.PrintWords Go.Proofs.YtcamchdenjpmhaaDoorW.PrintLast Go.Proofs.YtcamchdenjpmhaaDoorW.PrintMore
attribute [local go_sem] max2_int min2_int max_two min_two max_three min_three max_four min_four   -- for this text's walks alone
set_option linter.unusedVariables false
set_option linter.unusedSimpArgs false

/-! ### spec_CheckData: function 43 -/
def spec_CheckData.j0 : Nat → Int → ByteArray → Bool → Option (Int)
  | 0, _, _, _ => none
  | k + 1, x0, x1, x12 => if x12 = true then (some 6) else (if (x1.size : Int) > 65535 then (some 7) else ((spec_l02Form.f k x0).bind fun t101 => ((spec_l02Parts.f k t101 x1).bind fun bt102 => (if bt102.2 = true then (some 0) else (some 7)))))
def spec_CheckData.f (k : Nat) (a0 : Int) (a1 : ByteArray) : Option (Int) := if a0 < 0 then (spec_CheckData.j0 k a0 a1 true) else (spec_CheckData.j0 k a0 a1 (decide (a0 > 65535)))
theorem spec_CheckData.mono_l : ∀ k, (∀ y0 y1 y2, LeO (spec_CheckData.j0 k y0 y1 y2) (spec_CheckData.j0 (k + 1) y0 y1 y2))
  | 0 => fun _ _ _ r h => by simp [spec_CheckData.j0] at h
  | k + 1 => by
    have ih0 := spec_CheckData.mono_l k
    · intro y0 y1 y2
      unfold spec_CheckData.j0
      repeat' first
      | (with_reducible exact ih0 _ _ _)
      | (with_reducible exact spec_l02Form.mono _ _)
      | (with_reducible exact spec_l02Parts.mono _ _ _)
      | (with_reducible exact LeO.refl _)
      | (with_reducible exact LeO.none _)
      | (with_reducible refine LeO.ite ?_ ?_)
      | (with_reducible refine LeO.bind ?_ (fun _ => ?_))
      | exact ih0 _ _ _
      | exact spec_l02Form.mono _ _
      | exact spec_l02Parts.mono _ _ _
      | exact LeO.none _
      | refine LeO.ite ?_ ?_
      | refine LeO.bind ?_ (fun _ => ?_)
theorem spec_CheckData.mono : ∀ a0 a1 k, LeO (spec_CheckData.f k a0 a1) (spec_CheckData.f (k + 1) a0 a1) := by
  intro a0 a1 k
  have ih0 := spec_CheckData.mono_l k
  unfold spec_CheckData.f
  repeat' first
      | (with_reducible exact ih0 _ _ _)
      | (with_reducible exact spec_l02Form.mono _ _)
      | (with_reducible exact spec_l02Parts.mono _ _ _)
      | (with_reducible exact LeO.refl _)
      | (with_reducible exact LeO.none _)
      | (with_reducible refine LeO.ite ?_ ?_)
      | (with_reducible refine LeO.bind ?_ (fun _ => ?_))
      | exact ih0 _ _ _
      | exact spec_l02Form.mono _ _
      | exact spec_l02Parts.mono _ _ _
      | exact LeO.none _
      | refine LeO.ite ?_ ?_
      | refine LeO.bind ?_ (fun _ => ?_)
set_option maxHeartbeats 8000000 in
set_option maxRecDepth 100000 in
theorem spec_CheckData.calls (k : Nat) (a0 : Int) (a1 : ByteArray) (r : Int) (w : World) (h : spec_CheckData.f k a0 a1 = some r) :
    Calls Tryd.prog 43 #[.int .i64 a0, .string a1] w fun e w' => e = .returned (.int .i64 r) ∧ Below w.heap.size w w' := by
  have HB := Aside0.mk (Below.refl w.heap.size w)
  have H : (if a0 < 0 then (spec_CheckData.j0 k a0 a1 true) else (spec_CheckData.j0 k a0 a1 (decide (a0 > 65535)))) = some r := h
  clear h
  have HC3 := Aside0.mk H
  clear H
  go_enter Tryd.func43, Tryd.ntmps43
  go_upto_region 1 with (fail)
  go_cut [12] (fun v12 wc => ∃ (kq : Nat) (x12_2 : Bool), v12 = .bool x12_2 ∧ Aside0 (spec_CheckData.j0 kq a0 a1 x12_2 = some r) ∧ Aside0 (kq ≤ k) ∧ Aside0 (Below w.heap.size w wc))
  case first =>
    have H := HC3.out
    clear HC3
    by_cases c4 : a0 < 0
    · rw [if_pos c4] at H
      have c4b0 : decide (a0 < 0) = true := decide_eq_true c4
      clear c4
      (first | rw [c4b0] | (simp only [i64_w, i32_w]; rw [c4b0]) | skip)
      have H' := Aside0.mk H
      clear H
      go_wp2
      go_meet
      case rel => exact ⟨_, (true), (by first | rfl | (simp; done) | (simp [*]; done)), H', ⟨by first | omega | exact Nat.le_refl _⟩, ⟨by repeat (first | (with_reducible first | exact HB.out | apply below_alloc | apply pw_below_drewN | apply below_drew1) | exact HB.out)⟩⟩
    · rw [if_neg c4] at H
      have c4b0 : decide (a0 < 0) = false := decide_eq_false c4
      clear c4
      (first | rw [c4b0] | (simp only [i64_w, i32_w]; rw [c4b0]) | skip)
      have H' := Aside0.mk H
      clear H
      go_wp2
      go_meet
      case rel => exact ⟨_, (decide (a0 > 65535)), (by first | rfl | (simp; done) | (simp [*]; done)), H', ⟨by first | omega | exact Nat.le_refl _⟩, ⟨by repeat (first | (with_reducible first | exact HB.out | apply below_alloc | apply pw_below_drewN | apply below_drew1) | exact HB.out)⟩⟩
  case rest =>
    clear HC3
    try clear p2
    try clear c4
    try clear c4b0
    obtain ⟨kq, x12_2, rfl, HA, HJ2, HB⟩ := hcut
    cases kq with
    | zero => exact absurd HA.out (by simp [spec_CheckData.j0])
    | succ kj2 =>
      have H := HA.out
      clear HA
      simp only [spec_CheckData.j0] at H
      by_cases c5 : x12_2 = true
      · subst c5
        have H1 : (some 6) = some r := by rw [if_pos rfl] at H; exact H
        clear H
        have H := H1
        clear H1
        obtain rfl := Option.some.inj H
        go_wp2
        go_ret
        exact ⟨by first | rfl | (simp [errW_none, errW_some] <;> rfl) | (simp [*, errW_none, errW_some] <;> rfl), by repeat (first | (with_reducible first | exact HB.out | apply below_alloc | apply pw_below_drewN | apply below_drew1) | exact HB.out)⟩
      · replace c5 := Bool.eq_false_iff.mpr c5
        subst c5
        have H1 : (if (a1.size : Int) > 65535 then (some 7) else ((spec_l02Form.f kj2 a0).bind fun t101 => ((spec_l02Parts.f kj2 t101 a1).bind fun bt102 => (if bt102.2 = true then (some 0) else (some 7))))) = some r := by rw [if_neg (show ¬ (false = true) by decide)] at H; exact H
        clear H
        have H := H1
        clear H1
        by_cases c6 : (a1.size : Int) > 65535
        · rw [if_pos c6] at H
          have c6b0 : decide (65535 < (a1.size : Int)) = true := decide_eq_true c6
          have c6b1 : decide (65535 < a1.size) = true := decide_eq_true (by omega)
          clear c6
          obtain rfl := Option.some.inj H
          go_wp2
          go_ret
          exact ⟨by first | rfl | (simp [errW_none, errW_some] <;> rfl) | (simp [*, errW_none, errW_some] <;> rfl), by repeat (first | (with_reducible first | exact HB.out | apply below_alloc | apply pw_below_drewN | apply below_drew1) | exact HB.out)⟩
        · rw [if_neg c6] at H
          have c6b0 : decide (65535 < (a1.size : Int)) = false := decide_eq_false c6
          have c6b1 : decide (65535 < a1.size) = false := decide_eq_false (by omega)
          clear c6
          replace H := Option.bind_eq_some_iff.mp H
          obtain ⟨t101, A70, H⟩ := H
          replace H : ((spec_l02Parts.f kj2 t101 a1).bind fun bt102 => (if bt102.2 = true then (some 0) else (some 7))) = some r := H
          have A7 := Aside0.mk A70
          clear A70
          replace H := Option.bind_eq_some_iff.mp H
          obtain ⟨⟨t102, t103⟩, A80, H⟩ := H
          replace H : (if t103 = true then (some 0) else (some 7)) = some r := H
          have A8 := Aside0.mk A80
          clear A80
          by_cases c9 : t103 = true
          · subst c9
            have H1 : (some 0) = some r := by rw [if_pos rfl] at H; exact H
            clear H
            have H := H1
            clear H1
            obtain rfl := Option.some.inj H
            go_wp2_with (first | ((with_reducible refine gate_callee (f := 44) rfl ?_); refine goesL_ (some 18) rfl rfl Tryd.func44 (by kernel_rfl) rfl #[.int .i64 a0] rfl (by (try simp only [List.map_toArray, List.map_cons, List.map_nil]); first | done | rfl | (simp only [List.length_drop, List.length_take]; rfl)) ?_; (with_reducible refine (spec_l02Form.calls kj2 a0 t101 _ A7.out).mono ?_); rintro e w' ⟨rfl, ⟨nd, rfl⟩⟩; refine ⟨_, rfl, ?_⟩) | ((with_reducible refine gate_callee (f := 48) rfl ?_); refine goesL_ (some 20) rfl rfl Tryd.func48 (by kernel_rfl) rfl #[.string t101, .string a1] rfl (by (try simp only [List.map_toArray, List.map_cons, List.map_nil]); first | done | rfl | (simp only [List.length_drop, List.length_take]; rfl)) ?_; (with_reducible refine (spec_l02Parts.calls kj2 t101 a1 t102 true _ A8.out).mono ?_); rintro e w10 ⟨v104, rfl, ho0, hb⟩; refine ⟨_, rfl, ?_⟩; have n0_ := Aside0.mk (Kd.R_lower ho0 (below_size (by repeat (first | (with_reducible first | exact HB.out | apply below_alloc | apply pw_below_drewN | apply below_drew1) | exact HB.out)))); have n1_ := Aside0.mk (below_step (by repeat (first | (with_reducible first | exact HB.out | apply below_alloc | apply pw_below_drewN | apply below_drew1) | exact HB.out)) hb); clear HB; have HO105 := n0_; have HB := n1_; clear n0_ n1_; (try clear hb); (try clear hb2); (try clear hk); (try clear hi); (try clear ho0)))
            go_ret
            exact ⟨by first | rfl | (simp [errW_none, errW_some] <;> rfl) | (simp [*, errW_none, errW_some] <;> rfl), by repeat (first | (with_reducible first | exact HB.out | apply below_alloc | apply pw_below_drewN | apply below_drew1) | exact HB.out)⟩
          · replace c9 := Bool.eq_false_iff.mpr c9
            subst c9
            have H1 : (some 7) = some r := by rw [if_neg (show ¬ (false = true) by decide)] at H; exact H
            clear H
            have H := H1
            clear H1
            obtain rfl := Option.some.inj H
            go_wp2_with (first | ((with_reducible refine gate_callee (f := 44) rfl ?_); refine goesL_ (some 18) rfl rfl Tryd.func44 (by kernel_rfl) rfl #[.int .i64 a0] rfl (by (try simp only [List.map_toArray, List.map_cons, List.map_nil]); first | done | rfl | (simp only [List.length_drop, List.length_take]; rfl)) ?_; (with_reducible refine (spec_l02Form.calls kj2 a0 t101 _ A7.out).mono ?_); rintro e w' ⟨rfl, ⟨nd, rfl⟩⟩; refine ⟨_, rfl, ?_⟩) | ((with_reducible refine gate_callee (f := 48) rfl ?_); refine goesL_ (some 20) rfl rfl Tryd.func48 (by kernel_rfl) rfl #[.string t101, .string a1] rfl (by (try simp only [List.map_toArray, List.map_cons, List.map_nil]); first | done | rfl | (simp only [List.length_drop, List.length_take]; rfl)) ?_; (with_reducible refine (spec_l02Parts.calls kj2 t101 a1 t102 false _ A8.out).mono ?_); rintro e w11 ⟨v104, rfl, ho0, hb⟩; refine ⟨_, rfl, ?_⟩; have n0_ := Aside0.mk (Kd.R_lower ho0 (below_size (by repeat (first | (with_reducible first | exact HB.out | apply below_alloc | apply pw_below_drewN | apply below_drew1) | exact HB.out)))); have n1_ := Aside0.mk (below_step (by repeat (first | (with_reducible first | exact HB.out | apply below_alloc | apply pw_below_drewN | apply below_drew1) | exact HB.out)) hb); clear HB; have HO105 := n0_; have HB := n1_; clear n0_ n1_; (try clear hb); (try clear hb2); (try clear hk); (try clear hi); (try clear ho0)))
            go_ret
            exact ⟨by first | rfl | (simp [errW_none, errW_some] <;> rfl) | (simp [*, errW_none, errW_some] <;> rfl), by repeat (first | (with_reducible first | exact HB.out | apply below_alloc | apply pw_below_drewN | apply below_drew1) | exact HB.out)⟩

end Go.Proofs.YtcamchdenjpmhaaDoor.F
namespace Go.Proofs.YtcamchdenjpmhaaDoor.F
open Go Go.Shelf Go.RowKit Go.Proofs.YtcamchdenjpmhaaDoorW.PrintWords Go.Proofs.YtcamchdenjpmhaaDoorW.PrintLast Go.Proofs.YtcamchdenjpmhaaDoorW.PrintMore
attribute [local go_sem] max2_int min2_int max_two min_two max_three min_three max_four min_four   -- for this text's walks alone
set_option linter.unusedVariables false
set_option linter.unusedSimpArgs false

/-! ### spec_l04Data: function 39 -/
def spec_l04Data.l0 : Nat → List Int → Int → Int → ByteArray → ByteArray → Int → Option (ByteArray × Int)
  | 0, _, _, _, _, _, _ => none
  | k + 1, x0, x2, x3, x11, x12, x13 => if x13 < (x12.size : Int) then (if 0 ≤ x13 then (if (bt x12 x13) = 98 then (if x2 ≥ x3 then (some ((⟨#[]⟩ : ByteArray), 7)) else (if 0 ≤ x2 then (if x2 ≤ (wrap64 (x2 + 1)) then (if (wrap64 (x2 + 1)) ≤ (x0.length : Int) then (if x11.size + (strOfNums ((x0.take ((wrap64 (x2 + 1)) : Int).toNat).drop (x2 : Int).toNat)).size ≤ 9223372036854775807 then (spec_l04Data.l0 k x0 (wrap64 (x2 + 1)) x3 (x11 ++ (strOfNums ((x0.take ((wrap64 (x2 + 1)) : Int).toNat).drop (x2 : Int).toNat))) x12 (wrap64 (x13 + 1))) else (none)) else (none)) else (none)) else (none))) else ((spec_DecodeName.f k x0 x2).bind fun bt106 => (if bt106.2.2 = 0 then (if bt106.2.1 > x3 then (some ((⟨#[]⟩ : ByteArray), 7)) else (if x11.size + bt106.1.size ≤ 9223372036854775807 then (spec_l04Data.l0 k x0 bt106.2.1 x3 (x11 ++ bt106.1) x12 (wrap64 (x13 + 1))) else (none))) else (some ((⟨#[]⟩ : ByteArray), bt106.2.2))))) else (none)) else (if x2 = x3 then (some (x11, 0)) else (some ((⟨#[]⟩ : ByteArray), 7)))
def spec_l04Data.f (k : Nat) (l0 : List Int) (a1 : Int) (a2 : Int) (a3 : Int) : Option (ByteArray × Int) := if a2 = a3 then (some ((⟨#[]⟩ : ByteArray), 0)) else ((spec_l04Pointed.f a1).bind fun t101 => (if t101 = true then ((spec_l02Form.f k a1).bind fun t104 => (spec_l04Data.l0 k l0 a2 a3 (⟨#[]⟩ : ByteArray) t104 0)) else (if 0 ≤ a2 then (if a2 ≤ a3 then (if a3 ≤ (l0.length : Int) then ((spec_CheckData.f k a1 (strOfNums ((l0.take (a3 : Int).toNat).drop (a2 : Int).toNat))).bind fun t103 => (if t103 = 0 then (some (strOfNums ((l0.take (a3 : Int).toNat).drop (a2 : Int).toNat), 0)) else (some ((⟨#[]⟩ : ByteArray), 7)))) else (none)) else (none)) else (none))))
theorem spec_l04Data.mono_l : ∀ k, (∀ y0 y1 y2 y3 y4 y5, LeO (spec_l04Data.l0 k y0 y1 y2 y3 y4 y5) (spec_l04Data.l0 (k + 1) y0 y1 y2 y3 y4 y5))
  | 0 => fun _ _ _ _ _ _ r h => by simp [spec_l04Data.l0] at h
  | k + 1 => by
    have ih0 := spec_l04Data.mono_l k
    · intro y0 y1 y2 y3 y4 y5
      unfold spec_l04Data.l0
      repeat' first
      | (with_reducible exact ih0 _ _ _ _ _ _)
      | (with_reducible exact spec_CheckData.mono _ _ _)
      | (with_reducible exact spec_DecodeName.mono _ _ _)
      | (with_reducible exact spec_l02Form.mono _ _)
      | (with_reducible exact LeO.refl _)
      | (with_reducible exact LeO.none _)
      | (with_reducible refine LeO.ite ?_ ?_)
      | (with_reducible refine LeO.bind ?_ (fun _ => ?_))
      | exact ih0 _ _ _ _ _ _
      | exact spec_CheckData.mono _ _ _
      | exact spec_DecodeName.mono _ _ _
      | exact spec_l02Form.mono _ _
      | exact LeO.none _
      | refine LeO.ite ?_ ?_
      | refine LeO.bind ?_ (fun _ => ?_)
theorem spec_l04Data.mono : ∀ a0 a1 a2 a3 k, LeO (spec_l04Data.f k a0 a1 a2 a3) (spec_l04Data.f (k + 1) a0 a1 a2 a3) := by
  intro a0 a1 a2 a3 k
  have ih0 := spec_l04Data.mono_l k
  unfold spec_l04Data.f
  repeat' first
      | (with_reducible exact ih0 _ _ _ _ _ _)
      | (with_reducible exact spec_CheckData.mono _ _ _)
      | (with_reducible exact spec_DecodeName.mono _ _ _)
      | (with_reducible exact spec_l02Form.mono _ _)
      | (with_reducible exact LeO.refl _)
      | (with_reducible exact LeO.none _)
      | (with_reducible refine LeO.ite ?_ ?_)
      | (with_reducible refine LeO.bind ?_ (fun _ => ?_))
      | exact ih0 _ _ _ _ _ _
      | exact spec_CheckData.mono _ _ _
      | exact spec_DecodeName.mono _ _ _
      | exact spec_l02Form.mono _ _
      | exact LeO.none _
      | refine LeO.ite ?_ ?_
      | refine LeO.bind ?_ (fun _ => ?_)
set_option maxHeartbeats 8000000 in
set_option maxRecDepth 100000 in
theorem spec_l04Data.calls (k : Nat) (A0 : Option Addr) (c0 : Nat) (l0 : List Int) (a1 : Int) (a2 : Int) (a3 : Int) (r1 : ByteArray) (r2 : Int) (w : World) (hr0 : Kd.C (Kd.int .u8) w A0 l0.length l0) (hc0 : l0.length ≤ c0) (h : spec_l04Data.f k l0 a1 a2 a3 = some (r1, r2)) :
    Calls Tryd.prog 39 #[.slice A0 l0.length c0, .int .i64 a1, .int .i64 a2, .int .i64 a3] w fun e w' => e = .returned (.tuple #[.string r1, .int .i64 r2]) ∧ Below w.heap.size w w' := by
  have HR0 := Aside0.mk hr0
  have HC0 := Aside0.mk hc0
  clear hr0 hc0
  have HB := Aside0.mk (Below.refl w.heap.size w)
  have H : (if a2 = a3 then (some ((⟨#[]⟩ : ByteArray), 0)) else ((spec_l04Pointed.f a1).bind fun t101 => (if t101 = true then ((spec_l02Form.f k a1).bind fun t104 => (spec_l04Data.l0 k l0 a2 a3 (⟨#[]⟩ : ByteArray) t104 0)) else (if 0 ≤ a2 then (if a2 ≤ a3 then (if a3 ≤ (l0.length : Int) then ((spec_CheckData.f k a1 (strOfNums ((l0.take (a3 : Int).toNat).drop (a2 : Int).toNat))).bind fun t103 => (if t103 = 0 then (some (strOfNums ((l0.take (a3 : Int).toNat).drop (a2 : Int).toNat), 0)) else (some ((⟨#[]⟩ : ByteArray), 7)))) else (none)) else (none)) else (none))))) = some (r1, r2) := h
  clear h
  by_cases c5 : a2 = a3
  · rw [if_pos c5] at H
    have c5b0 : (a2 == a3) = true := beq_iff_eq.mpr c5
    have c5b1 : (a2 != a3) = false := bne_eq_false_iff_eq.mpr c5
    clear c5
    simp only [Option.some.injEq, Prod.mk.injEq] at H
    obtain ⟨rfl, rfl⟩ := H
    go_enter Tryd.func39, Tryd.ntmps39
    go_wp2
    go_ret2
    exact ⟨by first | rfl | (simp [errW_none, errW_some] <;> rfl) | (simp [*, errW_none, errW_some] <;> rfl), by repeat (first | (with_reducible first | exact HB.out | apply below_alloc | apply pw_below_drewN | apply below_drew1) | exact HB.out)⟩
  · rw [if_neg c5] at H
    have c5b0 : (a2 == a3) = false := beq_eq_false_iff_ne.mpr c5
    have c5b1 : (a2 != a3) = true := bne_iff_ne.mpr c5
    replace H := Option.bind_eq_some_iff.mp H
    obtain ⟨t101, A60, H⟩ := H
    replace H : (if t101 = true then ((spec_l02Form.f k a1).bind fun t104 => (spec_l04Data.l0 k l0 a2 a3 (⟨#[]⟩ : ByteArray) t104 0)) else (if 0 ≤ a2 then (if a2 ≤ a3 then (if a3 ≤ (l0.length : Int) then ((spec_CheckData.f k a1 (strOfNums ((l0.take (a3 : Int).toNat).drop (a2 : Int).toNat))).bind fun t103 => (if t103 = 0 then (some (strOfNums ((l0.take (a3 : Int).toNat).drop (a2 : Int).toNat), 0)) else (some ((⟨#[]⟩ : ByteArray), 7)))) else (none)) else (none)) else (none))) = some (r1, r2) := H
    have A6 := Aside0.mk A60
    clear A60
    by_cases c7 : t101 = true
    · subst c7
      have H1 : ((spec_l02Form.f k a1).bind fun t104 => (spec_l04Data.l0 k l0 a2 a3 (⟨#[]⟩ : ByteArray) t104 0)) = some (r1, r2) := by rw [if_pos rfl] at H; exact H
      clear H
      have H := H1
      clear H1
      replace H := Option.bind_eq_some_iff.mp H
      obtain ⟨t104, A80, H⟩ := H
      replace H : (spec_l04Data.l0 k l0 a2 a3 (⟨#[]⟩ : ByteArray) t104 0) = some (r1, r2) := H
      have A8 := Aside0.mk A80
      clear A80
      have H' := Aside0.mk H
      clear H
      go_enter Tryd.func39, Tryd.ntmps39
      go_wp2_with (first | ((with_reducible refine gate_callee (f := 42) rfl ?_); refine goesL_ (some 21) rfl rfl Tryd.func42 (by kernel_rfl) rfl #[.int .i64 a1] rfl (by (try simp only [List.map_toArray, List.map_cons, List.map_nil]); first | done | rfl | (simp only [List.length_drop, List.length_take]; rfl)) ?_; (with_reducible refine (spec_l04Pointed.calls a1 true _ A6.out).mono ?_); rintro e w' ⟨rfl, ⟨nd, rfl⟩⟩; refine ⟨_, rfl, ?_⟩) | ((with_reducible refine gate_callee (f := 44) rfl ?_); refine goesL_ (some 34) rfl rfl Tryd.func44 (by kernel_rfl) rfl #[.int .i64 a1] rfl (by (try simp only [List.map_toArray, List.map_cons, List.map_nil]); first | done | rfl | (simp only [List.length_drop, List.length_take]; rfl)) ?_; (with_reducible refine (spec_l02Form.calls k a1 t104 _ A8.out).mono ?_); rintro e w' ⟨rfl, ⟨nd, rfl⟩⟩; refine ⟨_, rfl, ?_⟩))
      go_loopg [2, 11, 13] k (fun kq v2 v11 v13 w' => ∃ (x2_1 : Int) (x11_1 : ByteArray) (x13_1 : Int), v2 = .int .i64 x2_1 ∧ v11 = .string x11_1 ∧ v13 = .int .i64 x13_1 ∧ Aside0 (spec_l04Data.l0 kq l0 x2_1 a3 x11_1 t104 x13_1 = some (r1, r2)) ∧ Aside0 (kq ≤ k) ∧ Aside0 (Below w.heap.size w w'))
      case atStart => exact ⟨(a2), ((⟨#[]⟩ : ByteArray)), (0), (by first | rfl | (simp; done) | (simp [*]; done)), (by first | rfl | (simp; done) | (simp [*]; done)), (by first | rfl | (simp; done) | (simp [*]; done)), H', ⟨Nat.le_refl _⟩, ⟨by repeat (first | (with_reducible first | exact HB.out | apply below_alloc | apply pw_below_drewN | apply below_drew1) | exact HB.out)⟩⟩
      case round =>
        clear H'
        try clear p2
        try clear c3
        try clear c4
        try clear c5
        try clear c5b0
        try clear c5b1
        try clear c7
        obtain ⟨x2_1, x11_1, x13_1, rfl, rfl, rfl, HA, HK1, HB⟩ := hrel
        cases gk with
        | zero => exact absurd HA.out (by simp [spec_l04Data.l0])
        | succ k1 =>
          have H := HA.out
          clear HA
          simp only [spec_l04Data.l0] at H
          by_cases c9 : x13_1 < (t104.size : Int)
          · rw [if_pos c9] at H
            have c9b0 : decide (x13_1 < (t104.size : Int)) = true := decide_eq_true c9
            clear c9
            by_cases c10 : 0 ≤ x13_1
            · rw [if_pos c10] at H
              have c10b0 : decide (0 ≤ x13_1) = true := decide_eq_true c10
              clear c10
              by_cases c12 : (bt t104 x13_1) = 98
              · rw [if_pos c12] at H
                have c12b0 : ((bt t104 x13_1) == 98) = true := beq_iff_eq.mpr c12
                have c12b1 : ((bt t104 x13_1) != 98) = false := bne_eq_false_iff_eq.mpr c12
                clear c12
                by_cases c13 : x2_1 ≥ a3
                · rw [if_pos c13] at H
                  have c13b0 : decide (a3 ≤ x2_1) = true := decide_eq_true c13
                  clear c13
                  simp only [Option.some.injEq, Prod.mk.injEq] at H
                  obtain ⟨rfl, rfl⟩ := H
                  have p11 : 0 ≤ (x13_1 : Int) := of_decide_eq_true (by first | (with_reducible assumption) | assumption)
                  have q11 : x13_1 < (t104.size : Int) := of_decide_eq_true (by first | (with_reducible assumption) | assumption)
                  have hx11 := bt_at t104 x13_1
                  replace p11 := eq_true p11
                  replace q11 := eq_true q11
                  go_wp2
                  go_ret2
                  exact ⟨by first | rfl | (simp [errW_none, errW_some] <;> rfl) | (simp [*, errW_none, errW_some] <;> rfl), by repeat (first | (with_reducible first | exact HB.out | apply below_alloc | apply pw_below_drewN | apply below_drew1) | exact HB.out)⟩
                · rw [if_neg c13] at H
                  have c13b0 : decide (a3 ≤ x2_1) = false := decide_eq_false c13
                  clear c13
                  by_cases c14 : 0 ≤ x2_1
                  · rw [if_pos c14] at H
                    have c14b0 := eq_true c14
                    have c14b1 : decide (0 ≤ x2_1) = true := decide_eq_true c14
                    clear c14
                    by_cases c15 : x2_1 ≤ (wrap64 (x2_1 + 1))
                    · rw [if_pos c15] at H
                      have c15b0 := eq_true c15
                      have c15b1 : decide (x2_1 ≤ (wrap64 (x2_1 + 1))) = true := decide_eq_true c15
                      by_cases c16 : (wrap64 (x2_1 + 1)) ≤ (l0.length : Int)
                      · rw [if_pos c16] at H
                        have c16b0 := eq_true c16
                        have c16b1 : decide ((wrap64 (x2_1 + 1)) ≤ (l0.length : Int)) = true := decide_eq_true c16
                        by_cases c17 : x11_1.size + (strOfNums ((l0.take ((wrap64 (x2_1 + 1)) : Int).toNat).drop (x2_1 : Int).toNat)).size ≤ 9223372036854775807
                        · rw [if_pos c17] at H
                          have c17b0 := eq_true c17
                          have c17b1 : decide (x11_1.size + (strOfNums ((l0.take ((wrap64 (x2_1 + 1)) : Int).toNat).drop (x2_1 : Int).toNat)).size ≤ 9223372036854775807) = true := decide_eq_true c17
                          try have c17b2 : (9223372036854775807 < x11_1.size + (strOfNums ((l0.take ((wrap64 (x2_1 + 1)) : Int).toNat).drop (x2_1 : Int).toNat)).size) = False := eq_false (Nat.not_lt.2 c17)
                          have H' := Aside0.mk H
                          clear H
                          have p11 : 0 ≤ (x13_1 : Int) := of_decide_eq_true (by first | (with_reducible assumption) | assumption)
                          have q11 : x13_1 < (t104.size : Int) := of_decide_eq_true (by first | (with_reducible assumption) | assumption)
                          have hx11 := bt_at t104 x13_1
                          replace p11 := eq_true p11
                          replace q11 := eq_true q11
                          obtain ⟨i018, hi018, _, hsz18, _⟩ := info_parts info5
                          obtain ⟨A18, hcut18, hA18, hC18⟩ := print_mid_of (P := Tryd.prog) (Value.int .u8) 0 22 5 .i64 .i64 Tryd.underlying22 hi018 hsz18 A0 c0 l0 x2_1 (wrap64 (x2_1 + 1)) (of_decide_eq_true (by first | (with_reducible assumption) | assumption)) (by first | omega | exact of_decide_eq_true (by first | (with_reducible assumption) | assumption)) (of_decide_eq_true (by first | (with_reducible assumption) | assumption)) HC0.out
                          have HR105 := Aside0.mk (Kd.C_of_reads (h1 := fun _ => rfl) (hA18 _ (Kd.reads_of_C HR0.out)))
                          have HC105 := Aside0.mk hC18
                          clear hA18 hC18 hi018 hsz18
                          have hcv19 := Kd.C_string (P := Tryd.prog) (A := A18) (c := (c0 - x2_1.toNat)) Tryd.underlying22 Tryd.underlying5 Tryd.underlying9 (Kd.C_below HR105.out HB.out)
                          have hcw19 := hcv19
                          (try simp only [List.length_drop, List.length_take] at hcw19)
                          (try rw [Nat.min_eq_left (Int.toNat_le.2 (of_decide_eq_true (by first | (with_reducible assumption) | assumption)))] at hcw19)
                          go_wp2
                          go_roundg k1
                          case measure => have := HK1.out; omega
                          case rel => exact ⟨(wrap64 (x2_1 + 1)), (x11_1 ++ (strOfNums ((l0.take ((wrap64 (x2_1 + 1)) : Int).toNat).drop (x2_1 : Int).toNat))), (wrap64 (x13_1 + 1)), (by first | rfl | (simp; done) | (simp [*]; done)), (by first | rfl | (simp; done) | (simp [*]; done)), (by first | rfl | (simp; done) | (simp [*]; done)), H', ⟨by have := HK1.out; omega⟩, ⟨by repeat (first | (with_reducible first | exact HB.out | apply below_alloc | apply pw_below_drewN | apply below_drew1) | exact HB.out)⟩⟩
                        · rw [if_neg c17] at H
                          exact absurd H (by simp)
                      · rw [if_neg c16] at H
                        exact absurd H (by simp)
                    · rw [if_neg c15] at H
                      exact absurd H (by simp)
                  · rw [if_neg c14] at H
                    exact absurd H (by simp)
              · rw [if_neg c12] at H
                have c12b0 : ((bt t104 x13_1) == 98) = false := beq_eq_false_iff_ne.mpr c12
                have c12b1 : ((bt t104 x13_1) != 98) = true := bne_iff_ne.mpr c12
                replace H := Option.bind_eq_some_iff.mp H
                obtain ⟨⟨t106, t107, t108⟩, A200, H⟩ := H
                replace H : (if t108 = 0 then (if t107 > a3 then (some ((⟨#[]⟩ : ByteArray), 7)) else (if x11_1.size + t106.size ≤ 9223372036854775807 then (spec_l04Data.l0 k1 l0 t107 a3 (x11_1 ++ t106) t104 (wrap64 (x13_1 + 1))) else (none))) else (some ((⟨#[]⟩ : ByteArray), t108))) = some (r1, r2) := H
                have A20 := Aside0.mk A200
                clear A200
                by_cases c21 : t108 = 0
                · rw [if_pos c21] at H
                  have c21b0 : (t108 == 0) = true := beq_iff_eq.mpr c21
                  have c21b1 : (t108 != 0) = false := bne_eq_false_iff_eq.mpr c21
                  clear c21
                  by_cases c22 : t107 > a3
                  · rw [if_pos c22] at H
                    have c22b0 : decide (a3 < t107) = true := decide_eq_true c22
                    clear c22
                    simp only [Option.some.injEq, Prod.mk.injEq] at H
                    obtain ⟨rfl, rfl⟩ := H
                    have p11 : 0 ≤ (x13_1 : Int) := of_decide_eq_true (by first | (with_reducible assumption) | assumption)
                    have q11 : x13_1 < (t104.size : Int) := of_decide_eq_true (by first | (with_reducible assumption) | assumption)
                    have hx11 := bt_at t104 x13_1
                    replace p11 := eq_true p11
                    replace q11 := eq_true q11
                    go_wp2_with (first | ((with_reducible refine gate_callee (f := 26) rfl ?_); refine goesL_ (some 61) rfl rfl Tryd.func26 (by kernel_rfl) rfl #[.slice A0 l0.length c0, .int .i64 x2_1] rfl (by (try simp only [List.map_toArray, List.map_cons, List.map_nil]); first | done | rfl | (simp only [List.length_drop, List.length_take]; rfl)) ?_; (with_reducible refine (spec_DecodeName.calls k1 _ _ l0 x2_1 t106 t107 t108 _ ?side1 ?side2 A20.out).mono ?_); (case side1 => repeat (first | exact (Kd.C_below HR0.out HB.out) | (with_reducible refine Kd.C_alloc ?_ _) | (with_reducible refine Kd.C_drewN ?_ _) | (with_reducible refine Kd.C_drew ?_))); (case side2 => exact HC0.out); rintro e w23 ⟨rfl, hb⟩; refine ⟨_, rfl, ?_⟩; have n0_ := Aside0.mk (below_step (by repeat (first | (with_reducible first | exact HB.out | apply below_alloc | apply pw_below_drewN | apply below_drew1) | exact HB.out)) hb); clear HB; have HB := n0_; clear n0_; (try clear hb); (try clear hb2); (try clear hk); (try clear hi)))
                    go_ret2
                    exact ⟨by first | rfl | (simp [errW_none, errW_some] <;> rfl) | (simp [*, errW_none, errW_some] <;> rfl), by repeat (first | (with_reducible first | exact HB.out | apply below_alloc | apply pw_below_drewN | apply below_drew1) | exact HB.out)⟩
                  · rw [if_neg c22] at H
                    have c22b0 : decide (a3 < t107) = false := decide_eq_false c22
                    clear c22
                    by_cases c24 : x11_1.size + t106.size ≤ 9223372036854775807
                    · rw [if_pos c24] at H
                      have c24b0 := eq_true c24
                      have c24b1 : decide (x11_1.size + t106.size ≤ 9223372036854775807) = true := decide_eq_true c24
                      try have c24b2 : (9223372036854775807 < x11_1.size + t106.size) = False := eq_false (Nat.not_lt.2 c24)
                      have H' := Aside0.mk H
                      clear H
                      have p11 : 0 ≤ (x13_1 : Int) := of_decide_eq_true (by first | (with_reducible assumption) | assumption)
                      have q11 : x13_1 < (t104.size : Int) := of_decide_eq_true (by first | (with_reducible assumption) | assumption)
                      have hx11 := bt_at t104 x13_1
                      replace p11 := eq_true p11
                      replace q11 := eq_true q11
                      go_wp2_with (first | ((with_reducible refine gate_callee (f := 26) rfl ?_); refine goesL_ (some 61) rfl rfl Tryd.func26 (by kernel_rfl) rfl #[.slice A0 l0.length c0, .int .i64 x2_1] rfl (by (try simp only [List.map_toArray, List.map_cons, List.map_nil]); first | done | rfl | (simp only [List.length_drop, List.length_take]; rfl)) ?_; (with_reducible refine (spec_DecodeName.calls k1 _ _ l0 x2_1 t106 t107 t108 _ ?side1 ?side2 A20.out).mono ?_); (case side1 => repeat (first | exact (Kd.C_below HR0.out HB.out) | (with_reducible refine Kd.C_alloc ?_ _) | (with_reducible refine Kd.C_drewN ?_ _) | (with_reducible refine Kd.C_drew ?_))); (case side2 => exact HC0.out); rintro e w25 ⟨rfl, hb⟩; refine ⟨_, rfl, ?_⟩; have n0_ := Aside0.mk (below_step (by repeat (first | (with_reducible first | exact HB.out | apply below_alloc | apply pw_below_drewN | apply below_drew1) | exact HB.out)) hb); clear HB; have HB := n0_; clear n0_; (try clear hb); (try clear hb2); (try clear hk); (try clear hi)))
                      go_roundg k1
                      case measure => have := HK1.out; omega
                      case rel => exact ⟨(t107), (x11_1 ++ t106), (wrap64 (x13_1 + 1)), (by first | rfl | (simp; done) | (simp [*]; done)), (by first | rfl | (simp; done) | (simp [*]; done)), (by first | rfl | (simp; done) | (simp [*]; done)), H', ⟨by have := HK1.out; omega⟩, ⟨by repeat (first | (with_reducible first | exact HB.out | apply below_alloc | apply pw_below_drewN | apply below_drew1) | exact HB.out)⟩⟩
                    · rw [if_neg c24] at H
                      exact absurd H (by simp)
                · rw [if_neg c21] at H
                  have c21b0 : (t108 == 0) = false := beq_eq_false_iff_ne.mpr c21
                  have c21b1 : (t108 != 0) = true := bne_iff_ne.mpr c21
                  simp only [Option.some.injEq, Prod.mk.injEq] at H
                  obtain ⟨rfl, rfl⟩ := H
                  have p11 : 0 ≤ (x13_1 : Int) := of_decide_eq_true (by first | (with_reducible assumption) | assumption)
                  have q11 : x13_1 < (t104.size : Int) := of_decide_eq_true (by first | (with_reducible assumption) | assumption)
                  have hx11 := bt_at t104 x13_1
                  replace p11 := eq_true p11
                  replace q11 := eq_true q11
                  go_wp2_with (first | ((with_reducible refine gate_callee (f := 26) rfl ?_); refine goesL_ (some 61) rfl rfl Tryd.func26 (by kernel_rfl) rfl #[.slice A0 l0.length c0, .int .i64 x2_1] rfl (by (try simp only [List.map_toArray, List.map_cons, List.map_nil]); first | done | rfl | (simp only [List.length_drop, List.length_take]; rfl)) ?_; (with_reducible refine (spec_DecodeName.calls k1 _ _ l0 x2_1 t106 t107 t108 _ ?side1 ?side2 A20.out).mono ?_); (case side1 => repeat (first | exact (Kd.C_below HR0.out HB.out) | (with_reducible refine Kd.C_alloc ?_ _) | (with_reducible refine Kd.C_drewN ?_ _) | (with_reducible refine Kd.C_drew ?_))); (case side2 => exact HC0.out); rintro e w26 ⟨rfl, hb⟩; refine ⟨_, rfl, ?_⟩; have n0_ := Aside0.mk (below_step (by repeat (first | (with_reducible first | exact HB.out | apply below_alloc | apply pw_below_drewN | apply below_drew1) | exact HB.out)) hb); clear HB; have HB := n0_; clear n0_; (try clear hb); (try clear hb2); (try clear hk); (try clear hi)))
                  go_ret2
                  exact ⟨by first | rfl | (simp [errW_none, errW_some] <;> rfl) | (simp [*, errW_none, errW_some] <;> rfl), by repeat (first | (with_reducible first | exact HB.out | apply below_alloc | apply pw_below_drewN | apply below_drew1) | exact HB.out)⟩
            · rw [if_neg c10] at H
              exact absurd H (by simp)
          · rw [if_neg c9] at H
            have c9b0 : decide (x13_1 < (t104.size : Int)) = false := decide_eq_false c9
            clear c9
            by_cases c27 : x2_1 = a3
            · rw [if_pos c27] at H
              have c27b0 : (x2_1 == a3) = true := beq_iff_eq.mpr c27
              have c27b1 : (x2_1 != a3) = false := bne_eq_false_iff_eq.mpr c27
              clear c27
              simp only [Option.some.injEq, Prod.mk.injEq] at H
              obtain ⟨rfl, rfl⟩ := H
              go_wp2
              go_ret2
              exact ⟨by first | rfl | (simp [errW_none, errW_some] <;> rfl) | (simp [*, errW_none, errW_some] <;> rfl), by repeat (first | (with_reducible first | exact HB.out | apply below_alloc | apply pw_below_drewN | apply below_drew1) | exact HB.out)⟩
            · rw [if_neg c27] at H
              have c27b0 : (x2_1 == a3) = false := beq_eq_false_iff_ne.mpr c27
              have c27b1 : (x2_1 != a3) = true := bne_iff_ne.mpr c27
              simp only [Option.some.injEq, Prod.mk.injEq] at H
              obtain ⟨rfl, rfl⟩ := H
              go_wp2
              go_ret2
              exact ⟨by first | rfl | (simp [errW_none, errW_some] <;> rfl) | (simp [*, errW_none, errW_some] <;> rfl), by repeat (first | (with_reducible first | exact HB.out | apply below_alloc | apply pw_below_drewN | apply below_drew1) | exact HB.out)⟩
    · replace c7 := Bool.eq_false_iff.mpr c7
      subst c7
      have H1 : (if 0 ≤ a2 then (if a2 ≤ a3 then (if a3 ≤ (l0.length : Int) then ((spec_CheckData.f k a1 (strOfNums ((l0.take (a3 : Int).toNat).drop (a2 : Int).toNat))).bind fun t103 => (if t103 = 0 then (some (strOfNums ((l0.take (a3 : Int).toNat).drop (a2 : Int).toNat), 0)) else (some ((⟨#[]⟩ : ByteArray), 7)))) else (none)) else (none)) else (none)) = some (r1, r2) := by rw [if_neg (show ¬ (false = true) by decide)] at H; exact H
      clear H
      have H := H1
      clear H1
      by_cases c28 : 0 ≤ a2
      · rw [if_pos c28] at H
        have c28b0 := eq_true c28
        have c28b1 : decide (0 ≤ a2) = true := decide_eq_true c28
        clear c28
        by_cases c29 : a2 ≤ a3
        · rw [if_pos c29] at H
          have c29b0 := eq_true c29
          have c29b1 : decide (a2 ≤ a3) = true := decide_eq_true c29
          clear c29
          by_cases c30 : a3 ≤ (l0.length : Int)
          · rw [if_pos c30] at H
            have c30b0 := eq_true c30
            have c30b1 : decide (a3 ≤ (l0.length : Int)) = true := decide_eq_true c30
            clear c30
            replace H := Option.bind_eq_some_iff.mp H
            obtain ⟨t103, A310, H⟩ := H
            replace H : (if t103 = 0 then (some (strOfNums ((l0.take (a3 : Int).toNat).drop (a2 : Int).toNat), 0)) else (some ((⟨#[]⟩ : ByteArray), 7))) = some (r1, r2) := H
            have A31 := Aside0.mk A310
            clear A310
            by_cases c32 : t103 = 0
            · rw [if_pos c32] at H
              have c32b0 : (t103 == 0) = true := beq_iff_eq.mpr c32
              have c32b1 : (t103 != 0) = false := bne_eq_false_iff_eq.mpr c32
              clear c32
              simp only [Option.some.injEq, Prod.mk.injEq] at H
              obtain ⟨rfl, rfl⟩ := H
              go_enter Tryd.func39, Tryd.ntmps39
              go_wp2_with (first | ((with_reducible refine gate_callee (f := 42) rfl ?_); refine goesL_ (some 21) rfl rfl Tryd.func42 (by kernel_rfl) rfl #[.int .i64 a1] rfl (by (try simp only [List.map_toArray, List.map_cons, List.map_nil]); first | done | rfl | (simp only [List.length_drop, List.length_take]; rfl)) ?_; (with_reducible refine (spec_l04Pointed.calls a1 false _ A6.out).mono ?_); rintro e w' ⟨rfl, ⟨nd, rfl⟩⟩; refine ⟨_, rfl, ?_⟩; obtain ⟨i033, hi033, _, hsz33, _⟩ := info_parts info5; obtain ⟨A33, hcut33, hA33, hC33⟩ := print_mid_of (P := Tryd.prog) (Value.int .u8) 0 22 5 .i64 .i64 Tryd.underlying22 hi033 hsz33 A0 c0 l0 a2 a3 (of_decide_eq_true (by first | (with_reducible assumption) | assumption)) (by first | omega | exact of_decide_eq_true (by first | (with_reducible assumption) | assumption)) (of_decide_eq_true (by first | (with_reducible assumption) | assumption)) HC0.out; have HR102 := Aside0.mk (Kd.C_of_reads (h1 := fun _ => rfl) (hA33 _ (Kd.reads_of_C HR0.out))); have HC102 := Aside0.mk hC33; clear hA33 hC33 hi033 hsz33; have hcv34 := Kd.C_string (P := Tryd.prog) (A := A33) (c := (c0 - a2.toNat)) Tryd.underlying22 Tryd.underlying5 Tryd.underlying9 HR102.out; have hcw34 := hcv34; (try simp only [List.length_drop, List.length_take] at hcw34); (try rw [Nat.min_eq_left (Int.toNat_le.2 (of_decide_eq_true (by first | (with_reducible assumption) | assumption)))] at hcw34); have hcx34 := fun n_ : Nat => Kd.C_string (P := Tryd.prog) (A := A33) (c := (c0 - a2.toNat)) Tryd.underlying22 Tryd.underlying5 Tryd.underlying9 (Kd.C_drewN HR102.out n_); (try simp only [List.length_drop, List.length_take] at hcx34); (try rw [Nat.min_eq_left (Int.toNat_le.2 (of_decide_eq_true (by first | (with_reducible assumption) | assumption)))] at hcx34)) | ((with_reducible refine gate_callee (f := 43) rfl ?_); refine goesL_ (some 30) rfl rfl Tryd.func43 (by kernel_rfl) rfl #[.int .i64 a1, .string (strOfNums ((l0.take (a3 : Int).toNat).drop (a2 : Int).toNat))] rfl (by (try simp only [List.map_toArray, List.map_cons, List.map_nil]); first | done | rfl | (simp only [List.length_drop, List.length_take]; rfl)) ?_; (with_reducible refine (spec_CheckData.calls k a1 (strOfNums ((l0.take (a3 : Int).toNat).drop (a2 : Int).toNat)) t103 _ A31.out).mono ?_); rintro e w35 ⟨rfl, hb⟩; refine ⟨_, rfl, ?_⟩; have n0_ := Aside0.mk (below_step (by repeat (first | (with_reducible first | exact HB.out | apply below_alloc | apply pw_below_drewN | apply below_drew1) | exact HB.out)) hb); clear HB; have HB := n0_; clear n0_; (try clear hb); (try clear hb2); (try clear hk); (try clear hi)))
              go_ret2
              exact ⟨by first | rfl | (simp [errW_none, errW_some] <;> rfl) | (simp [*, errW_none, errW_some] <;> rfl), by repeat (first | (with_reducible first | exact HB.out | apply below_alloc | apply pw_below_drewN | apply below_drew1) | exact HB.out)⟩
            · rw [if_neg c32] at H
              have c32b0 : (t103 == 0) = false := beq_eq_false_iff_ne.mpr c32
              have c32b1 : (t103 != 0) = true := bne_iff_ne.mpr c32
              simp only [Option.some.injEq, Prod.mk.injEq] at H
              obtain ⟨rfl, rfl⟩ := H
              go_enter Tryd.func39, Tryd.ntmps39
              go_wp2_with (first | ((with_reducible refine gate_callee (f := 42) rfl ?_); refine goesL_ (some 21) rfl rfl Tryd.func42 (by kernel_rfl) rfl #[.int .i64 a1] rfl (by (try simp only [List.map_toArray, List.map_cons, List.map_nil]); first | done | rfl | (simp only [List.length_drop, List.length_take]; rfl)) ?_; (with_reducible refine (spec_l04Pointed.calls a1 false _ A6.out).mono ?_); rintro e w' ⟨rfl, ⟨nd, rfl⟩⟩; refine ⟨_, rfl, ?_⟩; obtain ⟨i036, hi036, _, hsz36, _⟩ := info_parts info5; obtain ⟨A36, hcut36, hA36, hC36⟩ := print_mid_of (P := Tryd.prog) (Value.int .u8) 0 22 5 .i64 .i64 Tryd.underlying22 hi036 hsz36 A0 c0 l0 a2 a3 (of_decide_eq_true (by first | (with_reducible assumption) | assumption)) (by first | omega | exact of_decide_eq_true (by first | (with_reducible assumption) | assumption)) (of_decide_eq_true (by first | (with_reducible assumption) | assumption)) HC0.out; have HR102 := Aside0.mk (Kd.C_of_reads (h1 := fun _ => rfl) (hA36 _ (Kd.reads_of_C HR0.out))); have HC102 := Aside0.mk hC36; clear hA36 hC36 hi036 hsz36; have hcv37 := Kd.C_string (P := Tryd.prog) (A := A36) (c := (c0 - a2.toNat)) Tryd.underlying22 Tryd.underlying5 Tryd.underlying9 HR102.out; have hcw37 := hcv37; (try simp only [List.length_drop, List.length_take] at hcw37); (try rw [Nat.min_eq_left (Int.toNat_le.2 (of_decide_eq_true (by first | (with_reducible assumption) | assumption)))] at hcw37); have hcx37 := fun n_ : Nat => Kd.C_string (P := Tryd.prog) (A := A36) (c := (c0 - a2.toNat)) Tryd.underlying22 Tryd.underlying5 Tryd.underlying9 (Kd.C_drewN HR102.out n_); (try simp only [List.length_drop, List.length_take] at hcx37); (try rw [Nat.min_eq_left (Int.toNat_le.2 (of_decide_eq_true (by first | (with_reducible assumption) | assumption)))] at hcx37)) | ((with_reducible refine gate_callee (f := 43) rfl ?_); refine goesL_ (some 30) rfl rfl Tryd.func43 (by kernel_rfl) rfl #[.int .i64 a1, .string (strOfNums ((l0.take (a3 : Int).toNat).drop (a2 : Int).toNat))] rfl (by (try simp only [List.map_toArray, List.map_cons, List.map_nil]); first | done | rfl | (simp only [List.length_drop, List.length_take]; rfl)) ?_; (with_reducible refine (spec_CheckData.calls k a1 (strOfNums ((l0.take (a3 : Int).toNat).drop (a2 : Int).toNat)) t103 _ A31.out).mono ?_); rintro e w38 ⟨rfl, hb⟩; refine ⟨_, rfl, ?_⟩; have n0_ := Aside0.mk (below_step (by repeat (first | (with_reducible first | exact HB.out | apply below_alloc | apply pw_below_drewN | apply below_drew1) | exact HB.out)) hb); clear HB; have HB := n0_; clear n0_; (try clear hb); (try clear hb2); (try clear hk); (try clear hi)))
              go_ret2
              exact ⟨by first | rfl | (simp [errW_none, errW_some] <;> rfl) | (simp [*, errW_none, errW_some] <;> rfl), by repeat (first | (with_reducible first | exact HB.out | apply below_alloc | apply pw_below_drewN | apply below_drew1) | exact HB.out)⟩
          · rw [if_neg c30] at H
            exact absurd H (by simp)
        · rw [if_neg c29] at H
          exact absurd H (by simp)
      · rw [if_neg c28] at H
        exact absurd H (by simp)

end Go.Proofs.YtcamchdenjpmhaaDoor.F
