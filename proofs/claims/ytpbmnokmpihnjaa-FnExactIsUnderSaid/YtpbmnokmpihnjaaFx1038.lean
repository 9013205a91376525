-- Written by a program of this session (wip/myprint.py, over the kit's print). Not trusted: Lean checks it.
import Derived.Test.YtpbmnokmpihnjaaFx0
namespace Go.Proofs.Ytpbmnokmpihnjaa.F
open Go Go.Shelf Go.RowKit Go.Proofs.YtpbmnokmpihnjaaW.PrintWords Go.Proofs.YtpbmnokmpihnjaaW.PrintLast Go.Proofs.YtpbmnokmpihnjaaW.PrintMore
attribute [local go_sem] max2_int min2_int max_two min_two max_three min_three max_four min_four   -- for this text's walks alone
set_option linter.unusedVariables false
set_option linter.unusedSimpArgs false

/-! ### impl_fold: function 38 -/
def low8 (x : Int) : Int := if 65 ≤ x ∧ x ≤ 90 then x + 32 else x
def impl_fold.f (a0 : ByteArray) : Option (ByteArray) := if a0.size ≤ 140737488355328 then some (strOfNums ((bytesOf a0).map low8)) else none
theorem impl_fold.step (s : ByteArray) (k : Nat) (hk : k < s.size) (v : Int) (hv : v = low8 (bt s (k : Int))) : (((bytesOf s).map low8).take k ++ (bytesOf s).drop k).set k v = ((bytesOf s).map low8).take (k + 1) ++ (bytesOf s).drop (k + 1) := by
  have hl := bytesOf_length s
  have hb : (bytesOf s)[k]'(by omega) = bt s (k : Int) := by
    rw [← rd_bytesOf]
    simp [rd, List.getD_eq_getElem?_getD, hl, hk]
  rw [List.set_append_right _ _ (by simp; omega), List.length_take, List.length_map, hl, Nat.min_eq_left (by omega), Nat.sub_self, List.drop_eq_getElem_cons (by omega), List.set_cons_zero, List.take_succ_eq_append_getElem (by simp; omega), List.append_assoc]
  simp [hb, hv]
theorem impl_fold.same (s : ByteArray) (k : Nat) (hk : k < s.size) (hv : low8 (bt s (k : Int)) = bt s (k : Int)) : ((bytesOf s).map low8).take k ++ (bytesOf s).drop k = ((bytesOf s).map low8).take (k + 1) ++ (bytesOf s).drop (k + 1) := by
  have hl := bytesOf_length s
  have hb : (bytesOf s)[k]'(by omega) = bt s (k : Int) := by
    rw [← rd_bytesOf]
    simp [rd, List.getD_eq_getElem?_getD, hl, hk]
  rw [List.drop_eq_getElem_cons (by omega), List.take_succ_eq_append_getElem (by simp; omega), List.append_assoc]
  simp [hb, hv]
theorem impl_fold.at_ (s : ByteArray) (k : Nat) (hk : k < s.size) : (((bytesOf s).map low8).take k ++ (bytesOf s).drop k).getD k 0 = bt s (k : Int) := by
  have hl := bytesOf_length s
  rw [← rd_bytesOf]
  simp [rd, List.getD_eq_getElem?_getD, List.getElem?_append_right, hl, hk, Nat.min_eq_left (Nat.le_of_lt hk)]
set_option maxHeartbeats 1000000 in
set_option maxRecDepth 100000 in
theorem impl_fold.calls (a0 : ByteArray) (r : ByteArray) (w : World) (h : impl_fold.f a0 = some r) :
    Calls Try.prog 38 #[.string a0] w fun e w' => e = .returned (.string r) ∧ Below w.heap.size w w' := by
  unfold impl_fold.f at h
  split at h
  case isFalse => cases h
  case isTrue hs =>
  obtain rfl := Option.some.inj h
  have hcv := fun W => Lib.run_convert_string_bytes (P := Try.prog) W 9 30 5 a0 Try.underlying9 Try.underlying30 Try.underlying5
  have hl := bytesOf_length a0
  go_enter Try.func38, Try.ntmps38
  go_wp2
  go_loopw [10] (fun i wr => ∃ k : Nat, k ≤ a0.size ∧ i = .int .i64 k ∧ Aside0 (Go.Proofs.YtpbmnokmpihnjaaW.XConv.Row8 wr w.heap.size 5 (((bytesOf a0).map low8).take k ++ (bytesOf a0).drop k)) ∧ Aside0 (Below w.heap.size w wr)) (fun i _ => a0.size - (intOf i).toNat)
  case atStart => exact ⟨0, Nat.zero_le _, rfl, ⟨by simpa using Go.Proofs.YtpbmnokmpihnjaaW.XConv.Row8.conv w 5 a0⟩, ⟨bytes_below (Below.refl _ _) (Nat.le_refl _) _ _⟩⟩
  case round =>
    obtain ⟨k, hk, rfl, HR, HB⟩ := hrel
    by_cases hlt : k < a0.size
    · have hlen : (((bytesOf a0).map low8).take k ++ (bytesOf a0).drop k).length = a0.size := by simp [hl]; omega
      have hcell := HR.out.cell k (by omega)
      rw [impl_fold.at_ a0 k hlt] at hcell
      have hfr := HR.out.frozen k (by omega)
      have Hlen := Aside0.mk hlen
      clear hlen hl
      have hbr := bt_range a0 (k : Int)
      have hlt2 : decide ((k : Int) < (a0.size : Int)) = true := decide_eq_true (by omega)
      have hblt : w.heap.size < (_ : World).heap.size := HR.out.lt
      generalize hc : bt a0 (k : Int) = c at *
      have Hc := Aside0.mk hc
      clear hc
      by_cases h1 : 65 ≤ c
      · by_cases h2 : c ≤ 90
        · go_wp2
          go_roundw
          case rel => exact ⟨k + 1, by omega, by go_num, ⟨by rw [← impl_fold.step a0 k hlt (c + 32) (by rw [Hc.out]; unfold low8; rw [if_pos ⟨h1, h2⟩])]; exact HR.out.set k (c + 32)⟩, ⟨HB.out.setCell (Nat.le_refl _) _⟩⟩
          case measure => simp [intOf]; omega
        · go_wp2
          go_roundw
          case rel => exact ⟨k + 1, by omega, by go_num, ⟨by rw [← impl_fold.same a0 k hlt (by rw [Hc.out]; unfold low8; rw [if_neg (by omega)])]; exact HR.out⟩, HB⟩
          case measure => simp [intOf]; omega
      · go_wp2
        go_roundw
        case rel => exact ⟨k + 1, by omega, by go_num, ⟨by rw [← impl_fold.same a0 k hlt (by rw [Hc.out]; unfold low8; rw [if_neg (by omega)])]; exact HR.out⟩, HB⟩
        case measure => simp [intOf]; omega
    · obtain rfl : k = a0.size := by omega
      have hR := HR.out
      rw [List.take_of_length_le (by simp [hl]), List.drop_of_length_le (by omega), List.append_nil] at hR
      have hcv2 := fun c => string_of_reads (P := Try.prog) (c := c) Try.underlying30 Try.underlying5 Try.underlying9 (hR.reads (n := a0.size) (by simp [hl]; omega) (by simp [hl]))
      have hlt2 : decide ((a0.size : Int) < (a0.size : Int)) = false := decide_eq_false (by omega)
      clear hl
      go_wp2
      go_ret
      exact ⟨rfl, HB.out⟩

end Go.Proofs.Ytpbmnokmpihnjaa.F
