-- Written by a program of this session (wip/myprint.py, over the kit's print). Not trusted: Lean checks it.
import Derived.Test.YtpbmnokmpihnjaaFx0
import Derived.Test.YtpbmnokmpihnjaaFx5000
namespace Go.Proofs.Ytpbmnokmpihnjaa.F
open Go Go.Shelf Go.RowKit Go.Proofs.YtpbmnokmpihnjaaW.PrintWords Go.Proofs.YtpbmnokmpihnjaaW.PrintLast Go.Proofs.YtpbmnokmpihnjaaW.PrintMore
attribute [local go_sem] max2_int min2_int max_two min_two max_three min_three max_four min_four   -- for this text's walks alone
set_option linter.unusedVariables false
set_option linter.unusedSimpArgs false

/-! ### impl_joined: function 39 -/
def joinB (l : List ByteArray) : List UInt8 := l.flatMap fun s => UInt8.ofNat s.size :: s.data.toList
def impl_joined.f (l0 : List ByteArray) : Option (ByteArray) := if (joinB l0).length + 1 ≤ 140737488355328 ∧ l0.length ≤ 140737488355328 then some ⟨(joinB l0 ++ [0]).toArray⟩ else none
theorem joinB_succ (l : List ByteArray) (k : Nat) (hk : k < l.length) : joinB (l.take (k + 1)) = joinB (l.take k) ++ (UInt8.ofNat (l[k]).size :: (l[k]).data.toList) := by
  simp only [joinB]
  rw [List.take_succ_eq_append_getElem hk, List.flatMap_append, List.flatMap_cons, List.flatMap_nil, List.append_nil]
theorem joinB_le (l : List ByteArray) (k : Nat) : (joinB (l.take k)).length ≤ (joinB l).length := by
  have h : joinB l = joinB (l.take k) ++ joinB (l.drop k) := by
    simp only [joinB]
    rw [← List.flatMap_append, List.take_append_drop]
  rw [h, List.length_append]
  omega
theorem byteCells_len (l : List UInt8) : (Lib.byteCells l).length = l.length := by simp [Lib.byteCells]
theorem byteCells_app (a b : List UInt8) : Lib.byteCells (a ++ b) = Lib.byteCells a ++ Lib.byteCells b := by simp [Lib.byteCells]
theorem byteCells_one (n : Nat) : Lib.byteCells [UInt8.ofNat n] = [Value.int .u8 ((n : Int) % 256)] := by simp [Lib.byteCells]
theorem byteCells_str (s : ByteArray) : Lib.byteCells s.data.toList = Lib.strCells s := by simp [Lib.byteCells, Lib.strCells]
set_option maxHeartbeats 1000000 in
set_option maxRecDepth 100000 in
theorem impl_joined.calls (A0 : Option Addr) (c0 : Nat) (l0 : List ByteArray) (r : ByteArray) (w : World) (hr0 : Kd.C Kd.string w A0 l0.length l0) (hc0 : l0.length ≤ c0) (h : impl_joined.f l0 = some r) :
    Calls Try.prog 39 #[.slice A0 l0.length c0] w fun e w' => e = .returned (.string r) ∧ Below w.heap.size w w' := by
  unfold impl_joined.f at h
  split at h
  case isFalse => cases h
  case isTrue hs =>
  obtain ⟨hs, hs2⟩ := hs
  obtain rfl := Option.some.inj h
  have HR := Aside0.mk hr0
  clear hr0
  go_enter Try.func39, Try.ntmps39
  go_wp2
  go_loopw [8] (fun i wr => ∃ k : Nat, k ≤ l0.length ∧ i = .int .i64 k ∧ Aside0 (Lib.IsBuilder 85 5 w.heap.size w.heap.size (Lib.byteCells (joinB (l0.take k))) wr) ∧ Aside0 (Below w.heap.size w wr)) (fun i _ => l0.length - (intOf i).toNat)
  case atStart => exact ⟨0, Nat.zero_le _, rfl, ⟨Lib.fresh_isBuilder _ _ w⟩, ⟨(Below.refl _ _).alloc (Nat.le_refl _) _⟩⟩
  case round =>
    obtain ⟨k, hk, rfl, HI, HB⟩ := hrel
    by_cases hlt : k < l0.length
    · obtain ⟨ad, e0, hx⟩ := Kd.at_string HR.out (k : Int) (by omega) (by omega)
      cases e0
      replace hx := (HB.out.cell (World.block_lt_of_cell? w _ hx)).trans hx
      have hlt2 : decide ((k : Int) < (l0.length : Int)) = true := decide_eq_true (by omega)
      have hel : rdOf ByteArray.empty l0 (k : Int) = l0[k] := by simp [rdOf, List.getD_eq_getElem?_getD, hlt]
      rw [hel] at hx
      simp only [Int.toNat_natCast] at hx
      have HS := Aside0.mk (joinB_succ l0 k hlt)
      have hle1 := joinB_le l0 (k + 1)
      rw [HS.out] at hle1
      simp only [List.length_append, List.length_cons, Array.length_toList] at hle1
      have hsz : (l0[k]).data.size = (l0[k]).size := rfl
      rw [hsz] at hle1
      clear hel hsz
      have hsw := HB.out.size
      generalize l0[k] = s at *
      go_wp2_with fail
      refine (bld_WriteByte _ _ _ _ _ HI.out (by rw [byteCells_len]; omega) hsw).mono ?_
      rintro e w1 ⟨rfl, h1, hb1⟩
      have HI1 := Aside0.mk h1
      have HB1 := Aside0.mk hb1
      clear h1 hb1
      have hsw1 := HB1.out.size
      go_wp2_with fail
      refine (bld_WriteString _ _ _ s _ (.inr HI1.out) (by simp only [List.length_append, byteCells_len, List.length_cons, List.length_nil]; omega) (by omega)).mono ?_
      rintro e w2 ⟨rfl, h2, hb2⟩
      have HI2 := Aside0.mk h2
      have HB2 := Aside0.mk hb2
      clear h2 hb2
      go_wp2
      go_roundw
      case rel => exact ⟨k + 1, by omega, by go_num, ⟨by rw [HS.out, byteCells_app, show (UInt8.ofNat s.size :: s.data.toList) = [UInt8.ofNat s.size] ++ s.data.toList from rfl, byteCells_app, byteCells_one, byteCells_str, ← List.append_assoc]; exact .inr HI2.out⟩, ⟨(HB.out.trans HB1.out).trans HB2.out⟩⟩
      case measure => simp [intOf]; omega
    · obtain rfl : k = l0.length := by omega
      have HI2 := HI.out
      rw [List.take_length] at HI2
      have HI3 := Aside0.mk HI2
      clear HI2
      have hlt2 : decide ((l0.length : Int) < (l0.length : Int)) = false := decide_eq_false (by omega)
      have hsw := HB.out.size
      go_wp2_with fail
      refine (bld_WriteByte _ _ _ _ _ HI3.out (by rw [byteCells_len]; omega) hsw).mono ?_
      rintro e w1 ⟨rfl, h1, hb1⟩
      have HI1 := Aside0.mk h1
      have HB1 := Aside0.mk hb1
      clear h1 hb1
      have hsw1 := HB1.out.size
      go_wp2_with fail
      refine (bld_String w.heap.size _ (joinB l0 ++ [0]) _ (.inr (by rw [byteCells_app]; exact HI1.out)) (by omega)).mono ?_
      rintro e w2 ⟨rfl, hb2⟩
      have HB2 := Aside0.mk hb2
      clear hb2
      go_wp2
      go_ret
      exact ⟨rfl, (HB.out.trans HB1.out).trans HB2.out⟩

end Go.Proofs.Ytpbmnokmpihnjaa.F
