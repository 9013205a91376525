-- Written by a program of this session (wip/myprint.py, over the kit's print). Not trusted: Lean checks it.
import Derived.Test.YtlmapgfmfamgcaaFx0
namespace Go.Proofs.Ytlmapgfmfamgcaa.F
open Go Go.Shelf Go.RowKit Go.Proofs.YtlmapgfmfamgcaaW.PrintWords Go.Proofs.YtlmapgfmfamgcaaW.PrintLast Go.Proofs.YtlmapgfmfamgcaaW.PrintMore
attribute [local go_sem] max2_int min2_int max_two min_two max_three min_three max_four min_four   -- for this text's walks alone
set_option linter.unusedVariables false
set_option linter.unusedSimpArgs false

/-! ### spec_l01Join: function 17 -/
def joinS (l : List ByteArray) : List UInt8 := l.flatMap fun s => UInt8.ofNat s.size :: s.data.toList
def spec_l01Join.f (l0 : List ByteArray) : Option (ByteArray) := if (joinS l0).length + 1 ≤ 140737488355328 ∧ l0.length ≤ 140737488355328 then some ⟨(joinS l0 ++ [0]).toArray⟩ else none
theorem joinS_succ (l : List ByteArray) (k : Nat) (hk : k < l.length) : joinS (l.take (k + 1)) = joinS (l.take k) ++ (UInt8.ofNat (l[k]).size :: (l[k]).data.toList) := by
  simp only [joinS]
  rw [List.take_succ_eq_append_getElem hk, List.flatMap_append, List.flatMap_cons, List.flatMap_nil, List.append_nil]
theorem joinS_le (l : List ByteArray) (k : Nat) : (joinS (l.take k)).length ≤ (joinS l).length := by
  have h : joinS l = joinS (l.take k) ++ joinS (l.drop k) := by
    simp only [joinS]
    rw [← List.flatMap_append, List.take_append_drop]
  rw [h, List.length_append]
  omega
set_option maxHeartbeats 1000000 in
set_option maxRecDepth 100000 in
theorem spec_l01Join.calls (A0 : Option Addr) (c0 : Nat) (l0 : List ByteArray) (r : ByteArray) (w : World) (hr0 : Kd.C Kd.string w A0 l0.length l0) (_hc0 : l0.length ≤ c0) (h : spec_l01Join.f l0 = some r) :
    Calls Try.prog 17 #[.slice A0 l0.length c0] w fun e w' => e = .returned (.string r) ∧ Below w.heap.size w w' := by
  unfold spec_l01Join.f at h
  split at h
  case isFalse => cases h
  case isTrue hs =>
  obtain ⟨hs, hs2⟩ := hs
  obtain rfl := Option.some.inj h
  have HR := Aside0.mk hr0
  clear hr0
  go_enter Try.func17, Try.ntmps17
  go_wp2
  go_loopw [3, 4] (fun v i wr => ∃ k : Nat, k ≤ l0.length ∧ i = .int .i64 k ∧ v = .string ⟨(joinS (l0.take k)).toArray⟩ ∧ Aside0 (Below w.heap.size w wr)) (fun _ i _ => l0.length - (intOf i).toNat)
  case atStart => exact ⟨0, Nat.zero_le _, rfl, rfl, ⟨Below.refl _ _⟩⟩
  case round =>
    obtain ⟨k, hk, rfl, rfl, HB⟩ := hrel
    by_cases hlt : k < l0.length
    · obtain ⟨ad, e0, hx⟩ := Kd.at_string HR.out (k : Int) (by omega) (by omega)
      cases e0
      have hbl := World.block_lt_of_cell? w _ hx
      replace hx := (HB.out.cell hbl).trans hx
      have hlt2 : decide ((k : Int) < (l0.length : Int)) = true := decide_eq_true (by omega)
      have hlt3 : (k : Int) < (l0.length : Int) := by omega
      have h0k : 0 ≤ (k : Int) := by omega
      have hel : rdOf ByteArray.empty l0 (k : Int) = l0[k] := by simp [rdOf, List.getD_eq_getElem?_getD, hlt]
      rw [hel] at hx
      simp only [Int.toNat_natCast] at hx
      have HS := Aside0.mk (joinS_succ l0 k hlt)
      have hle1 := joinS_le l0 (k + 1)
      rw [HS.out] at hle1
      simp only [List.length_append, List.length_cons, Array.length_toList] at hle1
      have hsz : (l0[k]).data.size = (l0[k]).size := rfl
      rw [hsz] at hle1
      clear hel hsz
      generalize l0[k] = s at *
      generalize joinS (l0.take k) = t at *
      have hcv : Sem.run Try.prog (convert 22 9 (.slice (some ⟨wr.heap.size, 0, none⟩) 1 1)) (wr.alloc (.cells #[.int .u8 (IntKind.u8.wrap (s.size : Int))] 5)).drew = .ok (.string (strOfNums [IntKind.u8.wrap (s.size : Int)])) (wr.alloc (.cells #[.int .u8 (IntKind.u8.wrap (s.size : Int))] 5)).drew :=
        string_of_reads Try.underlying22 Try.underlying5 Try.underlying9 ⟨rfl, by omega, fun _ => ⟨_, rfl, fun j hj => by
          obtain rfl : j = 0 := by omega
          rw [add_plain]
          simp⟩⟩
      have hone : strOfNums [IntKind.u8.wrap (s.size : Int)] = ⟨#[UInt8.ofNat s.size]⟩ := by
        rw [IntKind.wrap_u8]
        simp only [strOfNums, List.map_cons, List.map_nil]
        congr 2
        apply congrArg (fun z => [z])
        apply UInt8.toNat_inj.1
        rw [UInt8.toNat_ofNat', UInt8.toNat_ofNat']
        omega
      rw [hone] at hcv
      clear hone
      rw [IntKind.wrap_u8] at hcv
      have hx2 : ∀ o, (wr.alloc o).cell? (ad.add k) = some (.string s) := fun o => (World.cell?_alloc_lt _ _ _ (World.block_lt_of_cell? wr _ hx)).trans hx
      obtain ⟨T, hT⟩ : ∃ T : ByteArray, T = ⟨t.toArray⟩ := ⟨_, rfl⟩
      obtain ⟨O, hO⟩ : ∃ O : ByteArray, O = ⟨#[UInt8.ofNat s.size]⟩ := ⟨_, rfl⟩
      have s1 : T.size + O.size ≤ 9223372036854775807 := by
        have e1 : T.size = t.length := by rw [hT]; rfl
        have e2 : O.size = 1 := by rw [hO]; rfl
        omega
      have s2 : (T ++ O).size + s.size ≤ 9223372036854775807 := by
        have e1 : T.size = t.length := by rw [hT]; rfl
        have e2 : O.size = 1 := by rw [hO]; rfl
        rw [ByteArray.size_append]
        omega
      rw [← hT]
      rw [← hO] at hcv
      have HT := Aside0.mk hT
      have HO := Aside0.mk hO
      clear hT hO
      have b1 := eq_true s1
      have b2 := eq_true s2
      have b3 : decide (T.size + O.size ≤ 9223372036854775807) = true := decide_eq_true s1
      have b4 : decide ((T ++ O).size + s.size ≤ 9223372036854775807) = true := decide_eq_true s2
      have b5 : (9223372036854775807 < T.size + O.size) = False := eq_false (Nat.not_lt.2 s1)
      have b6 : (9223372036854775807 < (T ++ O).size + s.size) = False := eq_false (Nat.not_lt.2 s2)
      have s3 : T.size + O.size + s.size ≤ 9223372036854775807 := by rw [ByteArray.size_append] at s2; exact s2
      have b7 := eq_true s3
      have b8 : (9223372036854775807 < T.size + O.size + s.size) = False := eq_false (Nat.not_lt.2 s3)
      clear s1 s2
      go_wp2
      go_region
      go_wp2
      go_roundw
      case rel => exact ⟨k + 1, by omega, by go_num, by rw [HS.out, HT.out, HO.out]; exact congrArg Value.string (WideShapes.bytes_inj (by simp [ByteArray.data_append])), ⟨(HB.out.alloc HB.out.size _).drew⟩⟩
      case measure => simp [intOf]; omega
    · obtain rfl : k = l0.length := by omega
      have hlt2 : decide ((l0.length : Int) < (l0.length : Int)) = false := decide_eq_false (by omega)
      rw [List.take_length]
      obtain ⟨T, hT⟩ : ∃ T : ByteArray, T = ⟨(joinS l0).toArray⟩ := ⟨_, rfl⟩
      have s1 : T.size + 1 ≤ 9223372036854775807 := by
        have e1 : T.size = (joinS l0).length := by rw [hT]; rfl
        omega
      have b1 := eq_true s1
      have b3 : decide (T.size + 1 ≤ 9223372036854775807) = true := decide_eq_true s1
      have b5 : (9223372036854775807 < T.size + 1) = False := eq_false (Nat.not_lt.2 s1)
      rw [← hT]
      have HT := Aside0.mk hT
      clear hT
      go_wp2
      go_ret
      exact ⟨by rw [HT.out]; exact congrArg (fun z => Ending.returned (Value.string z)) (WideShapes.bytes_inj (by simp [ByteArray.data_append])), HB.out⟩

end Go.Proofs.Ytlmapgfmfamgcaa.F
