/- Part 5 of 13 of the proof of FnExactSign: what each Go function on its way computes, that the Go code does just this, and what the law says of it. No condition beyond the statement's own. -/
import Derived.Test.YtblpeegpjjcemaaDoorMFnExactSign4
namespace Go.Proofs.YtblpeegpjjcemaaDoor.F
open Go Go.Shelf Go.RowKit Go.Proofs.YtblpeegpjjcemaaDoorW.PrintWords Go.Proofs.YtblpeegpjjcemaaDoorW.PrintLast Go.Proofs.YtblpeegpjjcemaaDoorW.PrintMore
attribute [local go_sem] max2_int min2_int max_two min_two max_three min_three max_four min_four   -- for this text's walks alone
set_option linter.unusedVariables false
set_option linter.unusedSimpArgs false

/-! ### spec_l09Str: function 26 -/
set_option maxHeartbeats 8000000 in
set_option maxRecDepth 100000 in
theorem spec_l09Str.calls (xs : List Int) (hx : xs.length = 32) (w : World) :
    Calls Tryd.prog 26 #[.agg (xs.map (Value.int .u8)).toArray] w fun e w' => e = .returned (.string (strOfNums xs)) ∧ Below w.heap.size w w' := by
  have HX := Aside0.mk hx
  have hu := Tryd.underlying23
  clear hx
  go_enter Tryd.func26, Tryd.ntmps26
  go_wp2_with (first | ((with_reducible refine gate_dst (N := 1) rfl ?_); refine box_event ?hg (N := 1) ?hd (cs := (xs.map (Value.int .u8)).toArray) (t := 23) ?hr ?_; (case hd => rfl); (case hg => rfl); (case hr => first | (go_simp; done) | (go_simp; rfl)); intro g1 hg1 w6 hbox hb; have HB1 := Aside0.mk (show ArrI .u8 w6 g1 23 xs from hbox); have HB := Aside0.mk hb; have HG6 := Aside0.mk (HB1.out.lt); have HW6 := Aside0.mk hb.size; clear hb hbox hg1) | ((with_reducible refine gate_dst (N := 5) rfl ?_); refine Kd.R_lit (Kd.int .u8) _ 5 ?hg (N := 5) ?hd (xs := ([] : List Int)) (inner := []) (ok := fun _ => True) (okp := fun _ => True) ?hr ?hp (fun _ hk => hk) trivial (Below.refl _ _) (Nat.le_refl _) (by simp) ?_; (case hd => rfl); (case hg => rfl); (case hr => first | (go_simp; done) | (go_simp; rfl)); (case hp => exact (Reps.none _ _)); intro v1 w1 ho hb hg_ hnew_; have HR := Aside0.mk ho; have HB2 := Aside0.mk (below_step HB.out hb); have HA1 := Aside0.mk (ArrI.below HB1.out hb); have HBS := Aside0.mk hb.size; clear HB HB1 ho hb hg_ hnew_))
  have HGL := Aside0.mk (HA1.out.lt)
  obtain ⟨B, hBB⟩ : ∃ b, b = w6.heap.size := ⟨_, rfl⟩
  rw [← hBB] at HR HBS
  have HGB : Aside0 (g1 < B) := ⟨by rw [hBB]; exact HG6.out⟩
  have HWB : Aside0 (w.heap.size ≤ B) := ⟨by rw [hBB]; exact HW6.out⟩
  clear hBB HGL HG6 HW6
  go_loopw [3, 4] (fun v i wr => ∃ k : Nat, k ≤ 32 ∧ i = .int .i64 (k : Int) ∧ Aside0 (Kd.R (Kd.int .u8) 5 wr B (fun _ => True) v (xs.take k)) ∧ Aside0 (Below B w1 wr) ∧ Aside0 (B ≤ wr.heap.size)) (fun _ i _ => 32 - (intOf i).toNat)
  case atStart => exact ⟨0, Nat.zero_le _, rfl, HR, ⟨Below.refl _ _⟩, HBS⟩
  case round =>
    clear HR HBS
    obtain ⟨k, hk, rfl, HR, HB, HBS⟩ := hrel
    generalize hys : xs.take k = ys at HR
    replace hys := Aside0.mk hys
    obtain ⟨At, ct, et⟩ := Kd.R_slice HR.out
    subst et
    have hA : ArrI .u8 wr g1 23 xs := (HB.out.block g1 HGB.out).trans HA1.out
    by_cases h9 : k < 32
    · have l4 : ((k : Int) < 32) = True := ltT h9
      have l5 : decide ((k : Int) < 32) = true := ltD h9
      have l6 : (k < 32) = True := eq_true h9
      have HLN := Aside0.mk (show ys.length < 140737488355328 by rw [← hys.out]; exact hmT xs k (by rw [HX.out]; decide))
      obtain ⟨y, hy⟩ : ∃ y, y = rdN xs k := ⟨_, rfl⟩
      have x1 : wr.cell? ⟨g1, k, none⟩ = some (.int .u8 y) := by rw [hy]; exact ArrI.cell hA k (by rw [HX.out]; exact h9)
      replace hy := Aside0.mk hy
      clear hA
      go_wp2_with (first | ((with_reducible refine gate_builtin (b := .append) (xs := #[.tmp 10, .tmp 14]) rfl ?_); at_builtin; refine Kd.R_append (Kd.int .u8) B rfl (.tmp 10) (.tmp 14) 22 5 (.int .u8 0) 1 rfl Tryd.underlying22 (by kernel_rfl) rfl (by decide) (by decide) _ (ys) (y) [.int .u8 (y)] (fun _ => True) (fun _ => False) rfl rfl ?aP (fun _ hk => hk.elim) ?aF ?aO (Below.refl _ _) ?aS ?aL ?_; (case aP => exact rfl); (case aF => exact (fun _ _ => trivial)); (case aO => exact (by (with_reducible repeat (first | apply Kd.R_alloc | apply Kd.R_drewN | apply Kd.R_drew)); exact HR.out)); (case aS => exact HBS.out); (case aL => exact shaL1 HLN.out); intro v9 w9 ho hb hg hat; have HR2 := Aside0.mk ho; have HB3 := Aside0.mk (Below.trans (by repeat (first | (with_reducible first | exact HB.out | apply below_alloc | apply pw_below_drewN | apply below_drew1) | exact HB.out)) hb); have HBS2 := Aside0.mk (Nat.le_trans HBS.out hb.size); clear ho hb hg hat))
      go_roundw
      case rel => exact ⟨k + 1, Nat.succ_le_of_lt h9, by go_num, ⟨by rw [take_rdN xs k (by rw [HX.out]; exact h9), ← hy.out, hys.out]; exact HR2.out⟩, HB3, HBS2⟩
      case measure => exact shaM1 h9
    · have l4 : ((k : Int) < 32) = False := ltF h9
      have l5 : decide ((k : Int) < 32) = false := ltG h9
      have hcv := Kd.C_string (P := Tryd.prog) (c := ct) Tryd.underlying22 Tryd.underlying5 Tryd.underlying9 (Kd.R_reads' HR.out).2.2
      have HT := Aside0.mk (show ys = xs by rw [← hys.out]; exact List.take_of_length_le (by rw [HX.out]; omega))
      clear hA
      go_wp2
      go_ret
      exact ⟨by rw [← HT.out]; rfl, Below.trans HB2.out (HB.out.mono HWB.out)⟩

end Go.Proofs.YtblpeegpjjcemaaDoor.F
namespace Go.Proofs.YtblpeegpjjcemaaDoor.F
open Go Go.Shelf Go.RowKit Go.Proofs.YtblpeegpjjcemaaDoorW.PrintWords Go.Proofs.YtblpeegpjjcemaaDoorW.PrintLast Go.Proofs.YtblpeegpjjcemaaDoorW.PrintMore
attribute [local go_sem] max2_int min2_int max_two min_two max_three min_three max_four min_four   -- for this text's walks alone
set_option linter.unusedVariables false
set_option linter.unusedSimpArgs false

/-! ### spec_Hmac: function 11 -/
set_option maxHeartbeats 200000000 in
set_option maxRecDepth 100000 in
theorem spec_Hmac.calls (Ak : Option Addr) (ck : Nat) (key : List Int) (Ab : Option Addr) (cb : Nat) (b : List Int) (w : World) (hrk : Kd.C (Kd.int .u8) w Ak key.length key) (hck : key.length ≤ ck) (hrb : Kd.C (Kd.int .u8) w Ab b.length b) (hcb : b.length ≤ cb) (hrg : ∀ x ∈ key, 0 ≤ x ∧ x < 256) (hnk : key.length ≤ 1048576) (hnb : b.length ≤ 1572864) :
    Calls Tryd.prog 11 #[.slice Ak key.length ck, .slice Ab b.length cb] w fun e w' => e = .returned (.agg ((hmac key b).map (Value.int .u8)).toArray) ∧ Below w.heap.size w w' := by
  have HRK := Aside0.mk hrk
  have HRB := Aside0.mk hrb
  have HCK := Aside0.mk hck
  have HNK := Aside0.mk hnk
  have HNB := Aside0.mk hnb
  have HKR := Aside0.mk (hk_rng key hrg)
  have HKL := Aside0.mk (hk_len key)
  clear hrk hrb hck hnk hnb hrg
  go_enter Tryd.func11, Tryd.ntmps11
  go_upto_region 1 with fail
  obtain ⟨wz, hwz⟩ : ∃ wz, wz = w.alloc (Obj.cells (Array.replicate 32 (Value.int IntKind.u8 0)) 23) := ⟨_, rfl⟩
  have hZ : ArrI .u8 wz w.heap.size 23 (List.replicate 32 0) := by rw [hwz]; exact ArrI.new w .u8 23 (List.replicate 32 0)
  have hBz : Below w.heap.size w wz := by rw [hwz]; exact below_alloc (Below.refl _ _) _
  refine (show wz = _ from hwz) ▸ ?_
  clear hwz
  replace hZ := Aside0.mk hZ
  replace hBz := Aside0.mk hBz
  have HCz := Aside0.mk (Kd.C_below HRK.out hBz.out)
  have hcv := Kd.C_string (P := Tryd.prog) (c := ck) Tryd.underlying22 Tryd.underlying5 Tryd.underlying9 HCz.out
  go_upto_region 2 with fail
  clear hcv
  by_cases h64 : 64 < key.length
  case' pos =>
    have l1 : ((key.length : Int) > 64) = True := gtT h64
    have l2 : decide ((64 : Int) < (key.length : Int)) = true := ltD h64
    have l3 : decide ((key.length : Int) > 64) = true := ltD h64
    have l4 : ((64 : Int) < (key.length : Int)) = True := ltT h64
    have HK := Aside0.mk (show hmKey key = sha key by unfold hmKey; rw [if_pos h64])
    go_upto_region 4 with (first | ((with_reducible refine gate_callee (f := 6) rfl ?_); refine goesL_ (some 19) rfl rfl Tryd.func6 (by kernel_rfl) rfl #[.slice Ak key.length ck] rfl (by (try simp only [List.map_toArray, List.map_cons, List.map_nil]); first | done | rfl) ?_; (with_reducible refine (spec_Sha256.calls _ _ key _ HCz.out HCK.out (hmI HNK.out)).mono ?_); rintro e w10 ⟨rfl, hb⟩; refine ⟨_, rfl, ?_⟩; have hZ2 := Aside0.mk (ArrI.below hZ.out hb); have hB2 := Aside0.mk (below_step hBz.out hb); clear hb) | ((with_reducible refine gate_callee (f := 26) rfl ?_); refine goesL_ (some 20) rfl rfl Tryd.func26 (by kernel_rfl) rfl #[.agg ((sha key).map (Value.int .u8)).toArray] rfl (by (try simp only [List.map_toArray, List.map_cons, List.map_nil]); first | done | rfl) ?_; (with_reducible refine (spec_l09Str.calls (sha key) (sha_len key) _).mono ?_); rintro e wc ⟨rfl, hb⟩; refine ⟨_, rfl, ?_⟩; have HZc := Aside0.mk (ArrI.below hZ2.out hb); have HBc := Aside0.mk (below_step hB2.out hb); clear hb hZ2 hB2))
    rw [← HK.out]
  case' neg =>
    have l1 : ((key.length : Int) > 64) = False := ltF h64
    have l2 : decide ((64 : Int) < (key.length : Int)) = false := ltG h64
    have l3 : decide ((key.length : Int) > 64) = false := ltG h64
    have l4 : ((64 : Int) < (key.length : Int)) = False := ltF h64
    have HK := Aside0.mk (show hmKey key = key by unfold hmKey; rw [if_neg h64])
    go_upto_region 4 with fail
    have HZc := hZ
    have HBc := hBz
    clear hZ hBz HCz
    generalize wz = wc at *
    rw [show strOfNums key = strOfNums (hmKey key) by rw [HK.out]]
  all_goals
    clear l1 l2 l3 l4 HK h64
    generalize hs : strOfNums (hmKey key) = s
    replace hs := Aside0.mk hs
    have HSZ : Aside0 (s.size = (hmKey key).length) := ⟨by rw [← hs.out]; exact strOf_size _⟩
    have HRc := Aside0.mk (Kd.C_below HRB.out HBc.out)
    have HZL := Aside0.mk HZc.out.lt
    obtain ⟨B, hBB⟩ : ∃ x, x = wc.heap.size := ⟨_, rfl⟩
    go_upto_region 6 with (first | ((with_reducible refine gate_dst (N := 21) rfl ?_); refine Kd.R_lit (Kd.int .u8) _ 5 ?hg (N := 21) ?hd (xs := ([] : List Int)) (inner := []) (ok := fun _ => True) (okp := fun _ => True) ?hr ?hp (fun _ hk => hk) trivial (Below.refl _ _) (Nat.le_refl _) (by simp) ?_; (case hd => rfl); (case hg => rfl); (case hr => first | (go_simp; done) | (go_simp; rfl)); (case hp => exact (Reps.none _ _)); intro v1 w1 ho hb hg_ hnew_; have HA0 := Aside0.mk ho; have HB2 := Aside0.mk hb; have HS1 := Aside0.mk hb.size; clear ho hb hg_ hnew_) | ((with_reducible refine gate_dst (N := 22) rfl ?_); refine Kd.R_lit (Kd.int .u8) _ 5 ?hg (N := 22) ?hd (xs := ([] : List Int)) (inner := []) (ok := fun _ => True) (okp := fun _ => True) ?hr ?hp (fun _ hk => hk) trivial (Below.refl _ _) (Nat.le_refl _) (by simp) ?_; (case hd => rfl); (case hg => rfl); (case hr => first | (go_simp; done) | (go_simp; rfl)); (case hp => exact (Reps.none _ _)); intro v2 w2 ho hb hg_ hnew_; have HSEP := Aside0.mk (sep_new (w0 := w) HA0.out ho); have HA := Aside0.mk (Kd.R_below HA0.out hb); have HO := Aside0.mk ho; have HB3 := Aside0.mk hb; clear HA0 ho hb hg_ hnew_))
    rw [← hBB] at HA HB2
    have HB2' := Aside0.mk (Below.trans HB2.out (HB3.out.mono (by rw [hBB]; exact HS1.out)))
    have HZB : Aside0 (w.heap.size < B) := ⟨by rw [hBB]; exact HZL.out⟩
    have HO2 := Aside0.mk (Kd.R_lower HO.out (base' := B) (by rw [hBB]; exact HS1.out))
    have HBS : Aside0 (B ≤ w2.heap.size) := ⟨by rw [hBB]; exact Nat.le_trans HS1.out HB3.out.size⟩
    have HRB2 : Aside0 (∀ wr, Below B wc wr → ∀ j, j < b.length → ∃ ad, Ab = some ad ∧ wr.cell? (ad.add j) = some (.int .u8 (rdN b j))) := ⟨fun wr hb j hj => by
      obtain ⟨ad, e0, hx⟩ := Kd.at_int HRc.out (j : Int) (Int.natCast_nonneg _) (Int.ofNat_lt.mpr hj)
      have hrd : rd b (j : Int) = rdN b j := by simp [rd, rdN]
      rw [hrd, Int.toNat_natCast] at hx
      exact ⟨ad, e0, (hb.cell (by rw [hBB]; exact World.block_lt_of_cell? wc _ hx)).trans hx⟩⟩
    clear HO HB2 HB3 HS1 hBB HZL HRc
    go_wp2
    go_loopw [6, 7, 8, 9] (fun v6 v7 v8 v9 wr => ∃ i : Nat, i ≤ 64 ∧ v8 = .int .i64 (i : Int) ∧ Aside0 (Kd.R (Kd.int .u8) 5 wr B (fun _ => True) v6 (padN (hmKey key) 54 i)) ∧ Aside0 (Kd.R (Kd.int .u8) 5 wr B (fun _ => True) v7 (padN (hmKey key) 92 i)) ∧ Aside0 (∀ k, v7.ownBlock = some k → v6.ownBlock ≠ some k) ∧ Aside0 (Below B wc wr) ∧ Aside0 (B ≤ wr.heap.size)) (fun _ _ i _ _ => 64 - (intOf i).toNat)
    case atStart => exact ⟨0, Nat.zero_le _, rfl, HA, HO2, HSEP, HB2', HBS⟩
    case round =>
      clear HA HO2 HSEP HB2' HBS
      obtain ⟨i, hi, rfl, HA, HO, HSEP, HB, HBS⟩ := hrel
      by_cases h9 : i < 64
      · have l4 : ((i : Int) < 64) = True := ltT h9
        have l5 : decide ((i : Int) < 64) = true := ltD h9
        have l6 : (i < 64) = True := eq_true h9
        have HL6 : Aside0 ((padN (hmKey key) 54 i).length < 140737488355328) := ⟨hmB (by rw [padN_len]; exact hi)⟩
        have HL7 : Aside0 ((padN (hmKey key) 92 i).length < 140737488355328) := ⟨hmB (by rw [padN_len]; exact hi)⟩
        have e6 := padN_succ (hmKey key) 54 i
        have e7 := padN_succ (hmKey key) 92 i
        obtain ⟨y, hy⟩ : ∃ y, y = rdN (hmKey key) i := ⟨_, rfl⟩
        rw [← hy] at e6 e7
        generalize padN (hmKey key) 54 i = x6 at HA HL6 e6
        generalize padN (hmKey key) 92 i = x7 at HO HL7 e7
        replace e6 := Aside0.mk e6
        replace e7 := Aside0.mk e7
        obtain ⟨A6, c6, ev6⟩ := Kd.R_slice HA.out
        obtain ⟨A7, c7, ev7⟩ := Kd.R_slice HO.out
        subst ev6 ev7
        by_cases hin : i < (hmKey key).length
        case' pos =>
          have m1 : ((i : Int) < (s.size : Int)) = True := by rw [HSZ.out]; exact ltT hin
          have m2 : decide ((i : Int) < (s.size : Int)) = true := by rw [HSZ.out]; exact ltD hin
          have m3 : (i < s.size) = True := by rw [HSZ.out]; exact eq_true hin
          have hbt : ∀ h : i < s.size, ((s[i]'h).toNat : Int) = y := fun h => by rw [hy, ← bt_strOf _ HKR.out i hin, hs.out, ← bt_at s (i : Int) (by simpa using h)]; rfl
          replace hy := Aside0.mk hy
          go_wp2_with (first | ((with_reducible refine gate_builtin (b := .append) (xs := #[.tmp 34, .tmp 37]) rfl ?_); at_builtin; refine Kd.R_append (Kd.int .u8) B rfl (.tmp 34) (.tmp 37) 22 5 (.int .u8 0) 1 rfl Tryd.underlying22 (by kernel_rfl) rfl (by decide) (by decide) _ (x6) (Go.bits .xor .u8 y 54) [.int .u8 (Go.bits .xor .u8 y 54)] (fun _ => True) (fun _ => False) rfl rfl ?aP (fun _ hk => hk.elim) ?aF ?aO (Below.refl _ _) ?aS ?aL ?_; (case aP => exact rfl); (case aF => exact (fun _ _ => trivial)); (case aO => exact (by (with_reducible repeat (first | apply Kd.R_alloc | apply Kd.R_drewN | apply Kd.R_drew)); exact HA.out)); (case aS => exact HBS.out); (case aL => exact shaL1 HL6.out); intro v9 w9 ho hb hg hat; have HA2 := Aside0.mk ho; have HB2 := Aside0.mk (Below.trans (by repeat (first | (with_reducible first | exact HB.out | apply below_alloc | apply pw_below_drewN | apply below_drew1) | exact HB.out)) hb); have HBS2 := Aside0.mk (Nat.le_trans HBS.out hb.size); have HO2 := Aside0.mk (R_other (by (with_reducible repeat (first | apply Kd.R_alloc | apply Kd.R_drewN | apply Kd.R_drew)); exact HO.out) hg HSEP.out); have HSEP2 := Aside0.mk (sep_after HSEP.out hat (Kd.R_lt (by (with_reducible repeat (first | apply Kd.R_alloc | apply Kd.R_drewN | apply Kd.R_drew)); exact HO.out))); clear ho hb hg hat) | ((with_reducible refine gate_builtin (b := .append) (xs := #[.tmp 39, .tmp 42]) rfl ?_); at_builtin; refine Kd.R_append (Kd.int .u8) B rfl (.tmp 39) (.tmp 42) 22 5 (.int .u8 0) 1 rfl Tryd.underlying22 (by kernel_rfl) rfl (by decide) (by decide) _ (x7) (Go.bits .xor .u8 y 92) [.int .u8 (Go.bits .xor .u8 y 92)] (fun _ => True) (fun _ => False) rfl rfl ?aP (fun _ hk => hk.elim) ?aF ?aO (Below.refl _ _) ?aS ?aL ?_; (case aP => exact rfl); (case aF => exact (fun _ _ => trivial)); (case aO => exact (by (with_reducible repeat (first | apply Kd.R_alloc | apply Kd.R_drewN | apply Kd.R_drew)); exact HO2.out)); (case aS => exact HBS2.out); (case aL => exact shaL1 HL7.out); intro v9 w9 ho hb hg hat; have HO3 := Aside0.mk ho; have HB3 := Aside0.mk (Below.trans (by repeat (first | (with_reducible first | exact HB2.out | apply below_alloc | apply pw_below_drewN | apply below_drew1) | exact HB2.out)) hb); have HBS3 := Aside0.mk (Nat.le_trans HBS2.out hb.size); have HA3 := Aside0.mk (R_other (by (with_reducible repeat (first | apply Kd.R_alloc | apply Kd.R_drewN | apply Kd.R_drew)); exact HA2.out) hg (sep_symm HSEP2.out)); have HSEP3 := Aside0.mk (sep_after (sep_symm HSEP2.out) hat (Kd.R_lt (by (with_reducible repeat (first | apply Kd.R_alloc | apply Kd.R_drewN | apply Kd.R_drew)); exact HA2.out))); clear ho hb hg hat))
        case' neg =>
          have m1 : ((i : Int) < (s.size : Int)) = False := by rw [HSZ.out]; exact ltF hin
          have m2 : decide ((i : Int) < (s.size : Int)) = false := by rw [HSZ.out]; exact ltG hin
          obtain rfl : y = 0 := by rw [hy]; exact rdN_out _ _ hin
          replace hy := Aside0.mk hy
          go_wp2_with (first | ((with_reducible refine gate_builtin (b := .append) (xs := #[.tmp 34, .tmp 37]) rfl ?_); at_builtin; refine Kd.R_append (Kd.int .u8) B rfl (.tmp 34) (.tmp 37) 22 5 (.int .u8 0) 1 rfl Tryd.underlying22 (by kernel_rfl) rfl (by decide) (by decide) _ (x6) (Go.bits .xor .u8 0 54) [.int .u8 (Go.bits .xor .u8 0 54)] (fun _ => True) (fun _ => False) rfl rfl ?aP (fun _ hk => hk.elim) ?aF ?aO (Below.refl _ _) ?aS ?aL ?_; (case aP => exact rfl); (case aF => exact (fun _ _ => trivial)); (case aO => exact (by (with_reducible repeat (first | apply Kd.R_alloc | apply Kd.R_drewN | apply Kd.R_drew)); exact HA.out)); (case aS => exact HBS.out); (case aL => exact shaL1 HL6.out); intro v9 w9 ho hb hg hat; have HA2 := Aside0.mk ho; have HB2 := Aside0.mk (Below.trans (by repeat (first | (with_reducible first | exact HB.out | apply below_alloc | apply pw_below_drewN | apply below_drew1) | exact HB.out)) hb); have HBS2 := Aside0.mk (Nat.le_trans HBS.out hb.size); have HO2 := Aside0.mk (R_other (by (with_reducible repeat (first | apply Kd.R_alloc | apply Kd.R_drewN | apply Kd.R_drew)); exact HO.out) hg HSEP.out); have HSEP2 := Aside0.mk (sep_after HSEP.out hat (Kd.R_lt (by (with_reducible repeat (first | apply Kd.R_alloc | apply Kd.R_drewN | apply Kd.R_drew)); exact HO.out))); clear ho hb hg hat) | ((with_reducible refine gate_builtin (b := .append) (xs := #[.tmp 39, .tmp 42]) rfl ?_); at_builtin; refine Kd.R_append (Kd.int .u8) B rfl (.tmp 39) (.tmp 42) 22 5 (.int .u8 0) 1 rfl Tryd.underlying22 (by kernel_rfl) rfl (by decide) (by decide) _ (x7) (Go.bits .xor .u8 0 92) [.int .u8 (Go.bits .xor .u8 0 92)] (fun _ => True) (fun _ => False) rfl rfl ?aP (fun _ hk => hk.elim) ?aF ?aO (Below.refl _ _) ?aS ?aL ?_; (case aP => exact rfl); (case aF => exact (fun _ _ => trivial)); (case aO => exact (by (with_reducible repeat (first | apply Kd.R_alloc | apply Kd.R_drewN | apply Kd.R_drew)); exact HO2.out)); (case aS => exact HBS2.out); (case aL => exact shaL1 HL7.out); intro v9 w9 ho hb hg hat; have HO3 := Aside0.mk ho; have HB3 := Aside0.mk (Below.trans (by repeat (first | (with_reducible first | exact HB2.out | apply below_alloc | apply pw_below_drewN | apply below_drew1) | exact HB2.out)) hb); have HBS3 := Aside0.mk (Nat.le_trans HBS2.out hb.size); have HA3 := Aside0.mk (R_other (by (with_reducible repeat (first | apply Kd.R_alloc | apply Kd.R_drewN | apply Kd.R_drew)); exact HA2.out) hg (sep_symm HSEP2.out)); have HSEP3 := Aside0.mk (sep_after (sep_symm HSEP2.out) hat (Kd.R_lt (by (with_reducible repeat (first | apply Kd.R_alloc | apply Kd.R_drewN | apply Kd.R_drew)); exact HA2.out))); clear ho hb hg hat))
        all_goals
          go_roundw
          case rel => exact ⟨i + 1, Nat.succ_le_of_lt h9, by go_num, ⟨by rw [e6.out]; exact HA3.out⟩, ⟨by rw [e7.out]; exact HO3.out⟩, ⟨sep_symm HSEP3.out⟩, HB3, HBS3⟩
          case measure => exact shaM1 h9
      · have l4 : ((i : Int) < 64) = False := ltF h9
        have l5 : decide ((i : Int) < 64) = false := ltG h9
        obtain rfl : i = 64 := Nat.le_antisymm hi (Nat.le_of_not_lt h9)
        rw [show ((64 : Nat) : Int) = 64 from rfl]
        clear l4 l5
        have l4 : ((64 : Int) < 64) = False := eq_false (by decide)
        have l5 : decide ((64 : Int) < 64) = false := by decide
        have HP6 := Aside0.mk (padN_len (hmKey key) 54 64)
        have HP7 := Aside0.mk (padN_len (hmKey key) 92 64)
        obtain ⟨p6, hp6⟩ : ∃ p, p = padN (hmKey key) 54 64 := ⟨_, rfl⟩
        obtain ⟨p7, hp7⟩ : ∃ p, p = padN (hmKey key) 92 64 := ⟨_, rfl⟩
        rw [← hp6] at HA HP6
        rw [← hp7] at HO HP7
        replace hp6 := Aside0.mk hp6
        replace hp7 := Aside0.mk hp7
        obtain ⟨A7, c7, ev7⟩ := Kd.R_slice HO.out
        subst ev7
        have hA0 : Aside0 (Kd.R (Kd.int .u8) 5 wr B (fun _ => True) u6 (p6 ++ b.take 0)) := ⟨by rw [List.take_zero, List.append_nil]; exact HA.out⟩
        clear HA
        go_upto_region 14 with fail
        go_wp2
        go_loopw [6, 10] (fun v6 v10 wr => ∃ j : Nat, j ≤ b.length ∧ v10 = .int .i64 (j : Int) ∧ Aside0 (Kd.R (Kd.int .u8) 5 wr B (fun _ => True) v6 (p6 ++ b.take j)) ∧ Aside0 (Kd.R (Kd.int .u8) 5 wr B (fun _ => True) (.slice A7 p7.length c7) p7) ∧ Aside0 (∀ k, (Value.slice A7 p7.length c7).ownBlock = some k → v6.ownBlock ≠ some k) ∧ Aside0 (Below B wc wr) ∧ Aside0 (B ≤ wr.heap.size)) (fun _ i _ => b.length - (intOf i).toNat)
        case atStart => exact ⟨0, Nat.zero_le _, rfl, hA0, HO, HSEP, HB, HBS⟩
        case round =>
          clear hA0 HO HSEP HB HBS
          obtain ⟨j, hj, rfl, HA, HO, HSEP, HB, HBS⟩ := hrel
          have HL6 : Aside0 ((p6 ++ b.take j).length < 140737488355328) := ⟨hmK HNB.out (by rw [List.length_append, HP6.out, List.length_take]; omega)⟩
          have HL9 : Aside0 (j = b.length → p6 ++ b.take j = p6 ++ b) := ⟨fun h => by rw [h, List.take_length]⟩
          have HLX : Aside0 (∀ (hlt : j < b.length), (p6 ++ b.take j) ++ [rdN b j] = p6 ++ b.take (j + 1)) := ⟨fun h => by rw [take_rdN b j h, List.append_assoc]⟩
          generalize p6 ++ b.take j = x6 at HA HL6 HL9 HLX
          obtain ⟨A6, c6, ev6⟩ := Kd.R_slice HA.out
          subst ev6
          by_cases hlt : j < b.length
          · have l4 : ((j : Int) < (b.length : Int)) = True := ltT hlt
            have l5 : decide ((j : Int) < (b.length : Int)) = true := ltD hlt
            have l6 : (j < b.length) = True := eq_true hlt
            have l7 := hmW hlt HNB.out
            obtain ⟨ad, ea, hx⟩ := HRB2.out wr HB.out j hlt
            subst ea
            obtain ⟨y, hy⟩ : ∃ y, y = rdN b j := ⟨_, rfl⟩
            rw [← hy] at hx
            replace hy := Aside0.mk hy
            go_wp2_with (first | ((with_reducible refine gate_builtin (b := .append) (xs := #[.tmp 50, .tmp 55]) rfl ?_); at_builtin; refine Kd.R_append (Kd.int .u8) B rfl (.tmp 50) (.tmp 55) 22 5 (.int .u8 0) 1 rfl Tryd.underlying22 (by kernel_rfl) rfl (by decide) (by decide) _ (x6) (y) [.int .u8 (y)] (fun _ => True) (fun _ => False) rfl rfl ?aP (fun _ hk => hk.elim) ?aF ?aO (Below.refl _ _) ?aS ?aL ?_; (case aP => exact rfl); (case aF => exact (fun _ _ => trivial)); (case aO => exact (by (with_reducible repeat (first | apply Kd.R_alloc | apply Kd.R_drewN | apply Kd.R_drew)); exact HA.out)); (case aS => exact HBS.out); (case aL => exact shaL1 HL6.out); intro v9 w9 ho hb hg hat; have HA2 := Aside0.mk ho; have HB2 := Aside0.mk (Below.trans (by repeat (first | (with_reducible first | exact HB.out | apply below_alloc | apply pw_below_drewN | apply below_drew1) | exact HB.out)) hb); have HBS2 := Aside0.mk (Nat.le_trans HBS.out hb.size); have HO2 := Aside0.mk (R_other (by (with_reducible repeat (first | apply Kd.R_alloc | apply Kd.R_drewN | apply Kd.R_drew)); exact HO.out) hg HSEP.out); have HSEP2 := Aside0.mk (sep_after HSEP.out hat (Kd.R_lt (by (with_reducible repeat (first | apply Kd.R_alloc | apply Kd.R_drewN | apply Kd.R_drew)); exact HO.out))); clear ho hb hg hat))
            go_roundw
            case rel => exact ⟨j + 1, Nat.succ_le_of_lt hlt, by go_num, ⟨by rw [← HLX.out hlt, ← hy.out]; exact HA2.out⟩, HO2, HSEP2, HB2, HBS2⟩
            case measure => rw [l7]; exact shaM1 hlt
          · have l4 : ((j : Int) < (b.length : Int)) = False := ltF hlt
            have l5 : decide ((j : Int) < (b.length : Int)) = false := ltG hlt
            have HX6 := Aside0.mk (HL9.out (Nat.le_antisymm hj (Nat.le_of_not_lt hlt)))
            have HN6 : Aside0 (x6.length ≤ 2097152) := ⟨hmJ HP6.out HNB.out (by rw [HX6.out, List.length_append])⟩
            obtain ⟨sv, hsv⟩ : ∃ sv, sv = sha x6 := ⟨_, rfl⟩
            have hl32 : sv.length = 32 := by rw [hsv]; exact sha_len x6
            have HL := Aside0.mk hl32
            have HSV := Aside0.mk hsv
            obtain ⟨S, hS⟩ : ∃ S, S = (sv.map (Value.int .u8)).toArray := ⟨_, rfl⟩
            have hsz : (Tryd.prog.info? 23).map (·.size) = some S.size := by rw [hS, List.size_toArray, List.length_map, hl32]; kernel_rfl
            have hold : (Array.replicate 32 (Value.int IntKind.u8 0)).size = S.size := by rw [hS]; show 32 = _; rw [List.size_toArray, List.length_map, hl32]
            have hone : S.all (·.oneCell') = true := by rw [hS]; exact oneInts .u8 sv
            replace hsz := Aside0.mk hsz
            replace hold := Aside0.mk hold
            replace hone := Aside0.mk hone
            replace hS := Aside0.mk hS
            clear hl32 hsv HL9 HLX HL6 hj hlt
            go_upto_region 19 with (first | ((with_reducible refine gate_callee (f := 6) rfl ?_); refine goesL_ (some 58) rfl rfl Tryd.func6 (by kernel_rfl) rfl #[.slice A6 x6.length c6] rfl (by (try simp only [List.map_toArray, List.map_cons, List.map_nil]); first | done | rfl) ?_; (with_reducible refine (spec_Sha256.calls _ _ x6 _ (Kd.R_reads' HA.out).2.2 (Kd.R_reads' HA.out).2.1 HN6.out).mono ?_); rintro e w14 ⟨rfl, hb⟩; refine ⟨_, rfl, ?_⟩; rw [← HSV.out, ← hS.out]; have HB4 := Aside0.mk (Below.trans HB.out (hb.mono HBS.out)); have HO4 := Aside0.mk (Kd.R_below HO.out hb); have HBS4 := Aside0.mk (Nat.le_trans HBS.out hb.size); clear HB HO HA HBS HSEP hb) | ((with_reducible refine gate_storeT (ty := 23) rfl ?_); refine wpList_store_row rfl 23 (.tmp 11) (.tmp 58) rfl w14.heap.size S rfl rfl 23 _ (blk_new w14 _) hsz.out hold.out hone.out ?_))
            have hq1 := setRow_heap (w14.alloc (Obj.cells (Array.replicate 32 (Value.int IntKind.u8 0)) 23)) w14.heap.size _ S _ _ (blk_new w14 _)
            have hs1 : w14.heap.size < ((w14.alloc (Obj.cells (Array.replicate 32 (Value.int IntKind.u8 0)) 23)).setRow w14.heap.size S).heap.size := blk_lt hq1
            have hd1 : Below w14.heap.size w14 ((w14.alloc (Obj.cells (Array.replicate 32 (Value.int IntKind.u8 0)) 23)).setRow w14.heap.size S) := xbelow_setRow (below_alloc (Below.refl _ _) _) (Nat.le_refl _) S
            refine (show ∀ W2, W2 = (w14.alloc (Obj.cells (Array.replicate 32 (Value.int IntKind.u8 0)) 23)).setRow w14.heap.size S → Code.wp _ _ _ _ W2 from fun W2 hW2 => ?_) _ rfl
            rw [← hW2] at hq1 hs1 hd1
            clear hW2
            have HG : Aside0 (ArrI .u8 W2 w14.heap.size 23 sv) := ⟨by unfold ArrI; rw [← hS.out]; exact hq1⟩
            have HB5 := Aside0.mk (Below.trans HB4.out (hd1.mono HBS4.out))
            have HO5 := Aside0.mk (Kd.R_below HO4.out hd1)
            have HBS5 := Aside0.mk (Nat.le_trans HBS4.out hd1.size)
            have HNE5 : Aside0 (∀ k, (Value.slice A7 p7.length c7).ownBlock = some k → k ≠ w14.heap.size) := ⟨fun k hk => Nat.ne_of_lt (Kd.R_lt HO4.out k hk)⟩
            have hO0 : Aside0 (Kd.R (Kd.int .u8) 5 W2 B (fun _ => True) (.slice A7 p7.length c7) (p7 ++ sv.take 0)) := ⟨by rw [List.take_zero, List.append_nil]; exact HO5.out⟩
            clear hq1 hd1 hs1 HB4 HO4 HBS4 HO5
            generalize hg2 : w14.heap.size = g2 at *
            clear hg2 w14
            go_wp2
            go_loopw [7, 12] (fun v7 v12 wr => ∃ j : Nat, j ≤ 32 ∧ v12 = .int .i64 (j : Int) ∧ Aside0 (Kd.R (Kd.int .u8) 5 wr B (fun _ => True) v7 (p7 ++ sv.take j)) ∧ Aside0 (∀ k, v7.ownBlock = some k → k ≠ g2) ∧ Aside0 (ArrI .u8 wr g2 23 sv) ∧ Aside0 (Below B wc wr) ∧ Aside0 (B ≤ wr.heap.size)) (fun _ i _ => 32 - (intOf i).toNat)
            case atStart => exact ⟨0, Nat.zero_le _, rfl, hO0, HNE5, HG, HB5, HBS5⟩
            case round =>
              clear hO0 HNE5 HG HB5 HBS5
              obtain ⟨j, hj, rfl, HA, HNE, HG, HB, HBS⟩ := hrel
              have HLX : Aside0 (∀ (hlt : j < 32), (p7 ++ sv.take j) ++ [rdN sv j] = p7 ++ sv.take (j + 1)) := ⟨fun h => by rw [take_rdN sv j (by rw [HL.out]; exact h), List.append_assoc]⟩
              have HL9 : Aside0 (j = 32 → p7 ++ sv.take j = p7 ++ sv) := ⟨fun h => by rw [h, List.take_of_length_le (by rw [HL.out]; omega)]⟩
              have HL6 : Aside0 ((p7 ++ sv.take j).length < 140737488355328) := ⟨by rw [List.length_append, HP7.out, List.length_take]; omega⟩
              generalize p7 ++ sv.take j = x7 at HA HL6 HL9 HLX
              obtain ⟨A8, c8, ev8⟩ := Kd.R_slice HA.out
              subst ev8
              by_cases hlt : j < 32
              · have l4 : ((j : Int) < 32) = True := ltT hlt
                have l5 : decide ((j : Int) < 32) = true := ltD hlt
                have l6 : (j < 32) = True := eq_true hlt
                obtain ⟨y, hy⟩ : ∃ y, y = rdN sv j := ⟨_, rfl⟩
                have hx : wr.cell? ⟨g2, j, none⟩ = some (.int .u8 y) := by rw [hy]; exact ArrI.cell HG.out j (by rw [HL.out]; exact hlt)
                replace hy := Aside0.mk hy
                go_wp2_with (first | ((with_reducible refine gate_builtin (b := .append) (xs := #[.tmp 63, .tmp 67]) rfl ?_); at_builtin; refine Kd.R_append (Kd.int .u8) B rfl (.tmp 63) (.tmp 67) 22 5 (.int .u8 0) 1 rfl Tryd.underlying22 (by kernel_rfl) rfl (by decide) (by decide) _ (x7) (y) [.int .u8 (y)] (fun _ => True) (fun _ => False) rfl rfl ?aP (fun _ hk => hk.elim) ?aF ?aO (Below.refl _ _) ?aS ?aL ?_; (case aP => exact rfl); (case aF => exact (fun _ _ => trivial)); (case aO => exact (by (with_reducible repeat (first | apply Kd.R_alloc | apply Kd.R_drewN | apply Kd.R_drew)); exact HA.out)); (case aS => exact HBS.out); (case aL => exact shaL1 HL6.out); intro v9 w9 ho hb hg hat; have HA2 := Aside0.mk ho; have HB2 := Aside0.mk (Below.trans (by repeat (first | (with_reducible first | exact HB.out | apply below_alloc | apply pw_below_drewN | apply below_drew1) | exact HB.out)) hb); have HBS2 := Aside0.mk (Nat.le_trans HBS.out hb.size); have HG2 := Aside0.mk (arr_grown (by (with_reducible repeat (first | apply ArrI.alloc | apply ArrI.drew)); exact HG.out) hg HNE.out); have HNE2 := Aside0.mk (own_ne_after HNE.out hat (ArrI.lt (by (with_reducible repeat (first | apply ArrI.alloc | apply ArrI.drew)); exact HG.out))); clear ho hb hg hat))
                go_roundw
                case rel => exact ⟨j + 1, Nat.succ_le_of_lt hlt, by go_num, ⟨by rw [← HLX.out hlt, ← hy.out]; exact HA2.out⟩, HNE2, HG2, HB2, HBS2⟩
                case measure => exact shaM1 hlt
              · have l4 : ((j : Int) < 32) = False := ltF hlt
                have l5 : decide ((j : Int) < 32) = false := ltG hlt
                have HX7 := Aside0.mk (HL9.out (Nat.le_antisymm hj (Nat.le_of_not_lt hlt)))
                have HN7 : Aside0 (x7.length ≤ 2097152) := ⟨by rw [HX7.out, List.length_append, HP7.out, HL.out]; decide⟩
                have HE : Aside0 (sha x7 = hmac key b) := ⟨by rw [HX7.out, HSV.out, HX6.out, hp6.out, hp7.out]; rfl⟩
                obtain ⟨R, hR⟩ : ∃ S, S = ((sha x7).map (Value.int .u8)).toArray := ⟨_, rfl⟩
                have hl7 := sha_len x7
                have hsz7 : (Tryd.prog.info? 23).map (·.size) = some R.size := by rw [hR, List.size_toArray, List.length_map, hl7]; kernel_rfl
                have hold7 : ((List.replicate 32 (0 : Int)).map (Value.int .u8)).toArray.size = R.size := by rw [hR]; show 32 = _; rw [List.size_toArray, List.length_map, hl7]
                have hone7 : R.all (·.oneCell') = true := by rw [hR]; exact oneInts .u8 _
                replace hsz7 := Aside0.mk hsz7
                replace hold7 := Aside0.mk hold7
                replace hone7 := Aside0.mk hone7
                replace hR := Aside0.mk hR
                clear hl7 HL9 HLX HL6 hj hlt
                go_wp2_with (first | ((with_reducible refine gate_callee (f := 6) rfl ?_); refine goesL_ (some 70) rfl rfl Tryd.func6 (by kernel_rfl) rfl #[.slice A8 x7.length c8] rfl (by (try simp only [List.map_toArray, List.map_cons, List.map_nil]); first | done | rfl) ?_; (with_reducible refine (spec_Sha256.calls _ _ x7 _ (Kd.R_reads' HA.out).2.2 (Kd.R_reads' HA.out).2.1 HN7.out).mono ?_); rintro e w20 ⟨rfl, hb⟩; refine ⟨_, rfl, ?_⟩; rw [← hR.out]; have HB6 := Aside0.mk (Below.trans HB.out (hb.mono HBS.out)); have hZr : ArrI .u8 w20 w.heap.size 23 (List.replicate 32 0) := (HB6.out.block _ HZB.out).trans HZc.out; clear hb HB) | ((with_reducible refine gate_storeT (ty := 23) rfl ?_); refine wpList_store_row rfl 23 (.tmp 4) (.tmp 70) rfl w.heap.size R rfl rfl 23 _ hZr hsz7.out hold7.out hone7.out ?_))
                have hq : (w20.setRow w.heap.size R).heap[w.heap.size]? = some (Obj.cells R 23 (0, 0)) := setRow_heap w20 w.heap.size _ _ _ _ hZr
                have hB7 := xbelow_setRow (Below.trans HBc.out (HB6.out.mono (Nat.le_of_lt HZB.out))) (Nat.le_refl _) R
                generalize w20.setRow w.heap.size R = w5 at *
                have l1 := run_loadVar_row (P := Tryd.prog) w5 w.heap.size 23 23 _ _ _ hq Tryd.underlying23 rfl hsz7.out
                exact bodyPost_cell Tryd.results11 rfl l1 rfl ⟨by rw [hR.out, HE.out], hB7⟩

end Go.Proofs.YtblpeegpjjcemaaDoor.F
namespace Go.Proofs.YtblpeegpjjcemaaDoor.F
open Go Go.Shelf Go.RowKit Go.Proofs.YtblpeegpjjcemaaDoorW.PrintWords Go.Proofs.YtblpeegpjjcemaaDoorW.PrintLast Go.Proofs.YtblpeegpjjcemaaDoorW.PrintMore
attribute [local go_sem] max2_int min2_int max_two min_two max_three min_three max_four min_four   -- for this text's walks alone
set_option linter.unusedVariables false
set_option linter.unusedSimpArgs false

/-! ### spec_l01Join: function 43 -/
def joinS (l : List ByteArray) : List UInt8 := l.flatMap fun s => UInt8.ofNat s.size :: s.data.toList
def spec_l01Join.f (l0 : List ByteArray) : Option (ByteArray) := if (joinS l0).length + 1 ≤ 140737488355328 ∧ l0.length ≤ 140737488355328 then some ⟨(joinS l0 ++ [0]).toArray⟩ else none
theorem joinS_succ (l : List ByteArray) (k : Nat) (hk : k < l.length) : joinS (l.take (k + 1)) = joinS (l.take k) ++ (UInt8.ofNat (l[k]).size :: (l[k]).data.toList) := by
  simp only [joinS]
  rw [List.take_succ_eq_append_getElem hk, List.flatMap_append, List.flatMap_cons, List.flatMap_nil, List.append_nil]
theorem joinS_le (l : List ByteArray) (k : Nat) : (joinS (l.take k)).length ≤ (joinS l).length := by
  have h : joinS l = joinS (l.take k) ++ joinS (l.drop k) := by
    simp only [joinS]
    rw [← List.flatMap_append, List.take_append_drop]
  rw [h, List.length_append]
  omega
set_option maxHeartbeats 1000000 in
set_option maxRecDepth 100000 in
theorem spec_l01Join.calls (A0 : Option Addr) (c0 : Nat) (l0 : List ByteArray) (r : ByteArray) (w : World) (hr0 : Kd.C Kd.string w A0 l0.length l0) (_hc0 : l0.length ≤ c0) (h : spec_l01Join.f l0 = some r) :
    Calls Tryd.prog 43 #[.slice A0 l0.length c0] w fun e w' => e = .returned (.string r) ∧ Below w.heap.size w w' := by
  unfold spec_l01Join.f at h
  split at h
  case isFalse => cases h
  case isTrue hs =>
  obtain ⟨hs, hs2⟩ := hs
  obtain rfl := Option.some.inj h
  have HR := Aside0.mk hr0
  clear hr0
  go_enter Tryd.func43, Tryd.ntmps43
  go_wp2
  go_loopw [3, 4] (fun v i wr => ∃ k : Nat, k ≤ l0.length ∧ i = .int .i64 k ∧ v = .string ⟨(joinS (l0.take k)).toArray⟩ ∧ Aside0 (Below w.heap.size w wr)) (fun _ i _ => l0.length - (intOf i).toNat)
  case atStart => exact ⟨0, Nat.zero_le _, rfl, rfl, ⟨Below.refl _ _⟩⟩
  case round =>
    obtain ⟨k, hk, rfl, rfl, HB⟩ := hrel
    by_cases hlt : k < l0.length
    · obtain ⟨ad, e0, hx⟩ := Kd.at_string HR.out (k : Int) (by omega) (by omega)
      cases e0
      have hbl := World.block_lt_of_cell? w _ hx
      replace hx := (HB.out.cell hbl).trans hx
      have hlt2 : decide ((k : Int) < (l0.length : Int)) = true := decide_eq_true (by omega)
      have hlt3 : (k : Int) < (l0.length : Int) := by omega
      have h0k : 0 ≤ (k : Int) := by omega
      have hel : rdOf ByteArray.empty l0 (k : Int) = l0[k] := by simp [rdOf, List.getD_eq_getElem?_getD, hlt]
      rw [hel] at hx
      simp only [Int.toNat_natCast] at hx
      have HS := Aside0.mk (joinS_succ l0 k hlt)
      have hle1 := joinS_le l0 (k + 1)
      rw [HS.out] at hle1
      simp only [List.length_append, List.length_cons, Array.length_toList] at hle1
      have hsz : (l0[k]).data.size = (l0[k]).size := rfl
      rw [hsz] at hle1
      clear hel hsz
      generalize l0[k] = s at *
      generalize joinS (l0.take k) = t at *
      have hcv : Sem.run Tryd.prog (convert 22 9 (.slice (some ⟨wr.heap.size, 0, none⟩) 1 1)) (wr.alloc (.cells #[.int .u8 (IntKind.u8.wrap (s.size : Int))] 5)).drew = .ok (.string (strOfNums [IntKind.u8.wrap (s.size : Int)])) (wr.alloc (.cells #[.int .u8 (IntKind.u8.wrap (s.size : Int))] 5)).drew :=
        string_of_reads Tryd.underlying22 Tryd.underlying5 Tryd.underlying9 ⟨rfl, by omega, fun _ => ⟨_, rfl, fun j hj => by
          obtain rfl : j = 0 := by omega
          rw [add_plain]
          simp⟩⟩
      have hone : strOfNums [IntKind.u8.wrap (s.size : Int)] = ⟨#[UInt8.ofNat s.size]⟩ := by
        rw [IntKind.wrap_u8]
        simp only [strOfNums, List.map_cons, List.map_nil]
        congr 2
        apply congrArg (fun z => [z])
        apply UInt8.toNat_inj.1
        rw [UInt8.toNat_ofNat', UInt8.toNat_ofNat']
        omega
      rw [hone] at hcv
      clear hone
      rw [IntKind.wrap_u8] at hcv
      have hx2 : ∀ o, (wr.alloc o).cell? (ad.add k) = some (.string s) := fun o => (World.cell?_alloc_lt _ _ _ (World.block_lt_of_cell? wr _ hx)).trans hx
      obtain ⟨T, hT⟩ : ∃ T : ByteArray, T = ⟨t.toArray⟩ := ⟨_, rfl⟩
      obtain ⟨O, hO⟩ : ∃ O : ByteArray, O = ⟨#[UInt8.ofNat s.size]⟩ := ⟨_, rfl⟩
      have s1 : T.size + O.size ≤ 9223372036854775807 := by
        have e1 : T.size = t.length := by rw [hT]; rfl
        have e2 : O.size = 1 := by rw [hO]; rfl
        omega
      have s2 : (T ++ O).size + s.size ≤ 9223372036854775807 := by
        have e1 : T.size = t.length := by rw [hT]; rfl
        have e2 : O.size = 1 := by rw [hO]; rfl
        rw [ByteArray.size_append]
        omega
      rw [← hT]
      rw [← hO] at hcv
      have HT := Aside0.mk hT
      have HO := Aside0.mk hO
      clear hT hO
      have b1 := eq_true s1
      have b2 := eq_true s2
      have b3 : decide (T.size + O.size ≤ 9223372036854775807) = true := decide_eq_true s1
      have b4 : decide ((T ++ O).size + s.size ≤ 9223372036854775807) = true := decide_eq_true s2
      have b5 : (9223372036854775807 < T.size + O.size) = False := eq_false (Nat.not_lt.2 s1)
      have b6 : (9223372036854775807 < (T ++ O).size + s.size) = False := eq_false (Nat.not_lt.2 s2)
      have s3 : T.size + O.size + s.size ≤ 9223372036854775807 := by rw [ByteArray.size_append] at s2; exact s2
      have b7 := eq_true s3
      have b8 : (9223372036854775807 < T.size + O.size + s.size) = False := eq_false (Nat.not_lt.2 s3)
      clear s1 s2
      go_wp2
      go_region
      go_wp2
      go_roundw
      case rel => exact ⟨k + 1, by omega, by go_num, by rw [HS.out, HT.out, HO.out]; exact congrArg Value.string (WideShapes.bytes_inj (by simp [ByteArray.data_append])), ⟨(HB.out.alloc HB.out.size _).drew⟩⟩
      case measure => simp [intOf]; omega
    · obtain rfl : k = l0.length := by omega
      have hlt2 : decide ((l0.length : Int) < (l0.length : Int)) = false := decide_eq_false (by omega)
      rw [List.take_length]
      obtain ⟨T, hT⟩ : ∃ T : ByteArray, T = ⟨(joinS l0).toArray⟩ := ⟨_, rfl⟩
      have s1 : T.size + 1 ≤ 9223372036854775807 := by
        have e1 : T.size = (joinS l0).length := by rw [hT]; rfl
        omega
      have b1 := eq_true s1
      have b3 : decide (T.size + 1 ≤ 9223372036854775807) = true := decide_eq_true s1
      have b5 : (9223372036854775807 < T.size + 1) = False := eq_false (Nat.not_lt.2 s1)
      rw [← hT]
      have HT := Aside0.mk hT
      clear hT
      go_wp2
      go_ret
      exact ⟨by rw [HT.out]; exact congrArg (fun z => Ending.returned (Value.string z)) (WideShapes.bytes_inj (by simp [ByteArray.data_append])), HB.out⟩

end Go.Proofs.YtblpeegpjjcemaaDoor.F
namespace Go.Proofs.YtblpeegpjjcemaaDoor.F
open Go Go.Shelf Go.RowKit Go.Proofs.YtblpeegpjjcemaaDoorW.PrintWords Go.Proofs.YtblpeegpjjcemaaDoorW.PrintLast Go.Proofs.YtblpeegpjjcemaaDoorW.PrintMore
attribute [local go_sem] max2_int min2_int max_two min_two max_three min_three max_four min_four   -- for this text's walks alone
set_option linter.unusedVariables false
set_option linter.unusedSimpArgs false

/-! ### spec_l09Algorithm: function 33 -/
def spec_l09Algorithm.f  : Option (ByteArray) := (spec_l01Join.f (([(⟨#[104, 109, 97, 99, 45, 115, 104, 97, 50, 53, 54]⟩ : ByteArray)] : List ByteArray))).bind fun t104 => (some t104)
set_option maxHeartbeats 8000000 in
set_option maxRecDepth 100000 in
theorem spec_l09Algorithm.calls  (r : ByteArray) (w : World) (h : spec_l09Algorithm.f  = some r) :
    Calls Tryd.prog 33 #[] w fun e w' => e = .returned (.string r) ∧ Below w.heap.size w w' := by
  have HB := Aside0.mk (Below.refl w.heap.size w)
  have H : ((spec_l01Join.f (([(⟨#[104, 109, 97, 99, 45, 115, 104, 97, 50, 53, 54]⟩ : ByteArray)] : List ByteArray))).bind fun t104 => (some t104)) = some r := h
  clear h
  obtain ⟨y101, hy101⟩ : ∃ y_ : List ByteArray, y_ = (([(⟨#[104, 109, 97, 99, 45, 115, 104, 97, 50, 53, 54]⟩ : ByteArray)] : List ByteArray)) := ⟨_, rfl⟩
  replace H : ((spec_l01Join.f y101).bind fun t104 => (some t104)) = some r := by first | (rw [hy101]; with_reducible exact H) | (have H2_ := (Option.bind_some _ _).symm.trans H; rw [hy101]; with_reducible exact H2_) | (have H2_ := (Option.bind_some _ _).symm.trans H; with_reducible exact H2_) | with_reducible exact H | (rw [hy101]; exact H) | exact H
  have Ny101 := Aside0.mk hy101
  clear hy101
  replace H := Option.bind_eq_some_iff.mp H
  obtain ⟨t104, A10, H⟩ := H
  replace H : (some t104) = some r := H
  have A1 := Aside0.mk A10
  clear A10
  obtain rfl := Option.some.inj H
  go_enter Tryd.func33, Tryd.ntmps33
  go_wp2_with (first | ((with_reducible refine gate_dst (N := 1) rfl ?_); refine Kd.R_lit Kd.string _ 9 ?hg (N := 1) ?hd (xs := ([(⟨#[104, 109, 97, 99, 45, 115, 104, 97, 50, 53, 54]⟩ : ByteArray)] : List ByteArray)) (inner := [.string (⟨#[104, 109, 97, 99, 45, 115, 104, 97, 50, 53, 54]⟩ : ByteArray)]) (ok := fun _ => True) (okp := fun _ => True) ?hr ?hp (fun _ hk => hk) trivial (Below.refl _ _) (Nat.le_refl _) (by simp) ?_; (case hd => rfl); (case hg => rfl); (case hr => first | (go_simp; done) | (go_simp; rfl)); (case hp => exact (Reps.one (show Kd.M Kd.string _ _ _ (⟨#[104, 109, 97, 99, 45, 115, 104, 97, 50, 53, 54]⟩ : ByteArray) [.string (⟨#[104, 109, 97, 99, 45, 115, 104, 97, 50, 53, 54]⟩ : ByteArray)] from rfl) (Reps.none _ _))); intro v102 w2 ho3 hb hg_ hnew_; clear hg_ hnew_; (first | rw [← Ny101.out] at ho3 | (simp only [Int.reduceToNat] at ho3; rw [← Ny101.out] at ho3)); have n0_ := Aside0.mk (Kd.R_lower ho3 (below_size (by repeat (first | (with_reducible first | exact HB.out | apply below_alloc | apply pw_below_drewN | apply below_drew1) | exact HB.out)))); have n1_ := Aside0.mk (below_step (by repeat (first | (with_reducible first | exact HB.out | apply below_alloc | apply pw_below_drewN | apply below_drew1) | exact HB.out)) hb); clear HB; have HO103 := n0_; have HB := n1_; clear n0_ n1_; clear hb ho3; obtain ⟨Ao4, co4, eo4⟩ := Kd.R_slice HO103.out; subst eo4) | ((with_reducible refine gate_callee (f := 43) rfl ?_); refine goesL_ (some 2) rfl rfl Tryd.func43 (by kernel_rfl) rfl #[.slice Ao4 y101.length co4] rfl (by (try simp only [List.map_toArray, List.map_cons, List.map_nil]); first | done | rfl | (simp only [List.length_drop, List.length_take]; rfl)) ?_; (with_reducible refine (spec_l01Join.calls _ _ y101 t104 _ ?side1 ?side2 A1.out).mono ?_); (case side1 => repeat (first | exact (Kd.R_reads' HO103.out).2.2 | (with_reducible refine Kd.C_alloc ?_ _) | (with_reducible refine Kd.C_drewN ?_ _) | (with_reducible refine Kd.C_drew ?_))); (case side2 => exact (Kd.R_reads' HO103.out).2.1); rintro e w5 ⟨rfl, hb⟩; refine ⟨_, rfl, ?_⟩; have n0_ := Aside0.mk (Kd.R_below (by (with_reducible repeat (first | apply Kd.R_alloc | apply Kd.R_drewN | apply Kd.R_drew)); exact HO103.out) hb); have n1_ := Aside0.mk (below_step (by repeat (first | (with_reducible first | exact HB.out | apply below_alloc | apply pw_below_drewN | apply below_drew1) | exact HB.out)) hb); clear HO103; clear HB; have HO103 := n0_; have HB := n1_; clear n0_ n1_; (try clear hb); (try clear hb2); (try clear hk); (try clear hi)))
  go_ret
  exact ⟨by first | rfl | (simp [errW_none, errW_some] <;> rfl) | (simp [*, errW_none, errW_some] <;> rfl), by repeat (first | (with_reducible first | exact HB.out | apply below_alloc | apply pw_below_drewN | apply below_drew1) | exact HB.out)⟩


end Go.Proofs.YtblpeegpjjcemaaDoor.F
namespace Go.Proofs.YtblpeegpjjcemaaDoor.F
open Go Go.Shelf Go.RowKit Go.Proofs.YtblpeegpjjcemaaDoorW.PrintWords Go.Proofs.YtblpeegpjjcemaaDoorW.PrintLast Go.Proofs.YtblpeegpjjcemaaDoorW.PrintMore
attribute [local go_sem] max2_int min2_int max_two min_two max_three min_three max_four min_four   -- for this text's walks alone
set_option linter.unusedVariables false
set_option linter.unusedSimpArgs false

/-! ### spec_l01Small: function 47 -/
def spec_l01Small.l0 : Nat → ByteArray → List Int → Int → Option (ByteArray)
  | 0, _, _, _ => none
  | k + 1, x0, x3, x4 => if x4 < (x0.size : Int) then (if 0 ≤ x4 then (if (bt x0 x4) ≥ 65 then (if (bt x0 x4) ≤ 90 then (if x3.length < 140737488355328 then (spec_l01Small.l0 k x0 (x3 ++ [((bt x0 x4) + 32) % 256]) (wrap64 (x4 + 1))) else (none)) else (if x3.length < 140737488355328 then (spec_l01Small.l0 k x0 (x3 ++ [bt x0 x4]) (wrap64 (x4 + 1))) else (none))) else (if x3.length < 140737488355328 then (spec_l01Small.l0 k x0 (x3 ++ [bt x0 x4]) (wrap64 (x4 + 1))) else (none))) else (none)) else (some (strOfNums x3))
def spec_l01Small.f (k : Nat) (a0 : ByteArray) : Option (ByteArray) := spec_l01Small.l0 k a0 (([] : List Int)) 0
theorem spec_l01Small.mono_l : ∀ k, (∀ y0 y1 y2, LeO (spec_l01Small.l0 k y0 y1 y2) (spec_l01Small.l0 (k + 1) y0 y1 y2))
  | 0 => fun _ _ _ r h => by simp [spec_l01Small.l0] at h
  | k + 1 => by
    have ih0 := spec_l01Small.mono_l k
    · intro y0 y1 y2
      unfold spec_l01Small.l0
      repeat' first
      | (with_reducible exact ih0 _ _ _)
      | (with_reducible exact LeO.refl _)
      | (with_reducible exact LeO.none _)
      | (with_reducible refine LeO.ite ?_ ?_)
      | (with_reducible refine LeO.bind ?_ (fun _ => ?_))
      | exact ih0 _ _ _
      | exact LeO.none _
      | refine LeO.ite ?_ ?_
      | refine LeO.bind ?_ (fun _ => ?_)
theorem spec_l01Small.mono : ∀ a0 k, LeO (spec_l01Small.f k a0) (spec_l01Small.f (k + 1) a0) := by
  intro a0 k
  have ih0 := spec_l01Small.mono_l k
  unfold spec_l01Small.f
  repeat' first
      | (with_reducible exact ih0 _ _ _)
      | (with_reducible exact LeO.refl _)
      | (with_reducible exact LeO.none _)
      | (with_reducible refine LeO.ite ?_ ?_)
      | (with_reducible refine LeO.bind ?_ (fun _ => ?_))
      | exact ih0 _ _ _
      | exact LeO.none _
      | refine LeO.ite ?_ ?_
      | refine LeO.bind ?_ (fun _ => ?_)
set_option maxHeartbeats 8000000 in
set_option maxRecDepth 100000 in
theorem spec_l01Small.calls (k : Nat) (a0 : ByteArray) (r : ByteArray) (w : World) (h : spec_l01Small.f k a0 = some r) :
    Calls Tryd.prog 47 #[.string a0] w fun e w' => e = .returned (.string r) ∧ Below w.heap.size w w' := by
  have HB := Aside0.mk (Below.refl w.heap.size w)
  have H : (spec_l01Small.l0 k a0 (([] : List Int)) 0) = some r := h
  clear h
  obtain ⟨y101, hy101⟩ : ∃ y_ : List Int, y_ = (([] : List Int)) := ⟨_, rfl⟩
  replace H : (spec_l01Small.l0 k a0 y101 0) = some r := by first | (rw [hy101]; with_reducible exact H) | (have H2_ := (Option.bind_some _ _).symm.trans H; rw [hy101]; with_reducible exact H2_) | (have H2_ := (Option.bind_some _ _).symm.trans H; with_reducible exact H2_) | with_reducible exact H | (rw [hy101]; exact H) | exact H
  have Ny101 := Aside0.mk hy101
  clear hy101
  have H' := Aside0.mk H
  clear H
  go_enter Tryd.func47, Tryd.ntmps47
  go_wp2_with (first | ((with_reducible refine gate_dst (N := 6) rfl ?_); refine Kd.R_lit (Kd.int .u8) _ 5 ?hg (N := 6) ?hd (xs := ([] : List Int)) (inner := []) (ok := fun _ => True) (okp := fun _ => True) ?hr ?hp (fun _ hk => hk) trivial (Below.refl _ _) (Nat.le_refl _) (by simp) ?_; (case hd => rfl); (case hg => rfl); (case hr => first | (go_simp; done) | (go_simp; rfl)); (case hp => exact (Reps.none _ _)); intro v102 w2 ho3 hb hg_ hnew_; clear hg_ hnew_; (first | rw [← Ny101.out] at ho3 | (simp only [Int.reduceToNat] at ho3; rw [← Ny101.out] at ho3)); have n0_ := Aside0.mk (Kd.R_lower ho3 (below_size (by repeat (first | (with_reducible first | exact HB.out | apply below_alloc | apply pw_below_drewN | apply below_drew1) | exact HB.out)))); have n1_ := Aside0.mk (below_step (by repeat (first | (with_reducible first | exact HB.out | apply below_alloc | apply pw_below_drewN | apply below_drew1) | exact HB.out)) hb); clear HB; have HO103 := n0_; have HB := n1_; clear n0_ n1_; clear hb ho3))
  go_loopg [3, 4] k (fun kq v3 v4 w' => ∃ (x3_1 : List Int) (x4_1 : Int), v4 = .int .i64 x4_1 ∧ Aside0 (spec_l01Small.l0 kq a0 x3_1 x4_1 = some r) ∧ Aside0 (kq ≤ k) ∧ Aside0 (Kd.R (Kd.int .u8) 5 w' w.heap.size (fun _ => True) v3 x3_1) ∧ Aside0 (Below w.heap.size w w'))
  case atStart => exact ⟨(y101), (0), (by first | rfl | (simp; done) | (simp [*]; done)), H', ⟨Nat.le_refl _⟩, ⟨by (with_reducible repeat (first | apply Kd.R_alloc | apply Kd.R_drewN | apply Kd.R_drew)); exact HO103.out⟩, ⟨by repeat (first | (with_reducible first | exact HB.out | apply below_alloc | apply pw_below_drewN | apply below_drew1) | exact HB.out)⟩⟩
  case round =>
    clear H'
    try clear p2
    obtain ⟨x3_1, x4_1, rfl, HA, HK1, HO_3, HB⟩ := hrel
    cases gk with
    | zero => exact absurd HA.out (by simp [spec_l01Small.l0])
    | succ k1 =>
      have H := HA.out
      clear HA
      simp only [spec_l01Small.l0] at H
      by_cases c4 : x4_1 < (a0.size : Int)
      · rw [if_pos c4] at H
        have c4b0 : decide (x4_1 < (a0.size : Int)) = true := decide_eq_true c4
        clear c4
        by_cases c5 : 0 ≤ x4_1
        · rw [if_pos c5] at H
          have c5b0 : decide (0 ≤ x4_1) = true := decide_eq_true c5
          clear c5
          by_cases c7 : (bt a0 x4_1) ≥ 65
          · rw [if_pos c7] at H
            have c7b0 : decide (65 ≤ (bt a0 x4_1)) = true := decide_eq_true c7
            clear c7
            by_cases c8 : (bt a0 x4_1) ≤ 90
            · rw [if_pos c8] at H
              have c8b0 : decide ((bt a0 x4_1) ≤ 90) = true := decide_eq_true c8
              clear c8
              by_cases c9 : x3_1.length < 140737488355328
              · rw [if_pos c9] at H
                have LMc9 := Aside0.mk c9
                clear c9
                obtain ⟨y104, hy104⟩ : ∃ y_ : List Int, y_ = (x3_1 ++ [((bt a0 x4_1) + 32) % 256]) := ⟨_, rfl⟩
                replace H : (spec_l01Small.l0 k1 a0 y104 (wrap64 (x4_1 + 1))) = some r := by first | (rw [hy104]; with_reducible exact H) | (have H2_ := (Option.bind_some _ _).symm.trans H; rw [hy104]; with_reducible exact H2_) | (have H2_ := (Option.bind_some _ _).symm.trans H; with_reducible exact H2_) | with_reducible exact H | (rw [hy104]; exact H) | exact H
                have Ny104 := Aside0.mk hy104
                clear hy104
                have H' := Aside0.mk H
                clear H
                have p6 : 0 ≤ (x4_1 : Int) := of_decide_eq_true (by first | (with_reducible assumption) | assumption)
                have q6 : x4_1 < (a0.size : Int) := of_decide_eq_true (by first | (with_reducible assumption) | assumption)
                have hx6 := bt_at a0 x4_1
                replace p6 := eq_true p6
                replace q6 := eq_true q6
                go_wp2_with (first | ((with_reducible refine gate_builtin (b := .append) (xs := #[.tmp 24, .tmp 26]) rfl ?_); at_builtin; refine Kd.R_append (Kd.int .u8) (w0 := w) w.heap.size rfl (.tmp 24) (.tmp 26) 22 5 (.int .u8 0) 1 rfl Tryd.underlying22 info5 rfl (by decide) (by omega) u3 x3_1 (((bt a0 x4_1) + 32) % 256) [.int .u8 (((bt a0 x4_1) + 32) % 256)] (fun _ => True) (fun _ => False) rfl rfl ?aP (fun _ hk => hk.elim) ?aF ?aO ?aB ?aS ?aL ?_; (case aP => exact rfl); (case aB => exact (by repeat (first | (with_reducible first | exact HB.out | apply below_alloc | apply pw_below_drewN | apply below_drew1) | exact HB.out))); (case aF => exact (fun _ _ => trivial)); (case aO => exact (by (with_reducible repeat (first | apply Kd.R_alloc | apply Kd.R_drewN | apply Kd.R_drew)); exact HO_3.out)); (case aS => exact (below_size (by repeat (first | (with_reducible first | exact HB.out | apply below_alloc | apply pw_below_drewN | apply below_drew1) | exact HB.out)))); (case aL => have := LMc9.out; omega); intro v105 w10 ho hb hg hat; rw [← Ny104.out] at ho; have n0_ := Aside0.mk (hb); have n1_ := Aside0.mk (ho); clear HB; clear HO_3; have HB := n0_; have HO106 := n1_; clear n0_ n1_; clear ho hb hg hat))
                go_roundg k1
                case measure => have := HK1.out; omega
                case rel => exact ⟨(y104), (wrap64 (x4_1 + 1)), (by first | rfl | (simp; done) | (simp [*]; done)), H', ⟨by have := HK1.out; omega⟩, ⟨by (with_reducible repeat (first | apply Kd.R_alloc | apply Kd.R_drewN | apply Kd.R_drew)); exact HO106.out⟩, ⟨by repeat (first | (with_reducible first | exact HB.out | apply below_alloc | apply pw_below_drewN | apply below_drew1) | exact HB.out)⟩⟩
              · rw [if_neg c9] at H
                exact absurd H (by simp)
            · rw [if_neg c8] at H
              have c8b0 : decide ((bt a0 x4_1) ≤ 90) = false := decide_eq_false c8
              clear c8
              by_cases c11 : x3_1.length < 140737488355328
              · rw [if_pos c11] at H
                have LMc11 := Aside0.mk c11
                clear c11
                obtain ⟨y107, hy107⟩ : ∃ y_ : List Int, y_ = (x3_1 ++ [bt a0 x4_1]) := ⟨_, rfl⟩
                replace H : (spec_l01Small.l0 k1 a0 y107 (wrap64 (x4_1 + 1))) = some r := by first | (rw [hy107]; with_reducible exact H) | (have H2_ := (Option.bind_some _ _).symm.trans H; rw [hy107]; with_reducible exact H2_) | (have H2_ := (Option.bind_some _ _).symm.trans H; with_reducible exact H2_) | with_reducible exact H | (rw [hy107]; exact H) | exact H
                have Ny107 := Aside0.mk hy107
                clear hy107
                have H' := Aside0.mk H
                clear H
                have p6 : 0 ≤ (x4_1 : Int) := of_decide_eq_true (by first | (with_reducible assumption) | assumption)
                have q6 : x4_1 < (a0.size : Int) := of_decide_eq_true (by first | (with_reducible assumption) | assumption)
                have hx6 := bt_at a0 x4_1
                replace p6 := eq_true p6
                replace q6 := eq_true q6
                go_wp2_with (first | ((with_reducible refine gate_builtin (b := .append) (xs := #[.tmp 24, .tmp 26]) rfl ?_); at_builtin; refine Kd.R_append (Kd.int .u8) (w0 := w) w.heap.size rfl (.tmp 24) (.tmp 26) 22 5 (.int .u8 0) 1 rfl Tryd.underlying22 info5 rfl (by decide) (by omega) u3 x3_1 (bt a0 x4_1) [.int .u8 (bt a0 x4_1)] (fun _ => True) (fun _ => False) rfl rfl ?aP (fun _ hk => hk.elim) ?aF ?aO ?aB ?aS ?aL ?_; (case aP => exact rfl); (case aB => exact (by repeat (first | (with_reducible first | exact HB.out | apply below_alloc | apply pw_below_drewN | apply below_drew1) | exact HB.out))); (case aF => exact (fun _ _ => trivial)); (case aO => exact (by (with_reducible repeat (first | apply Kd.R_alloc | apply Kd.R_drewN | apply Kd.R_drew)); exact HO_3.out)); (case aS => exact (below_size (by repeat (first | (with_reducible first | exact HB.out | apply below_alloc | apply pw_below_drewN | apply below_drew1) | exact HB.out)))); (case aL => have := LMc11.out; omega); intro v108 w12 ho hb hg hat; rw [← Ny107.out] at ho; have n0_ := Aside0.mk (hb); have n1_ := Aside0.mk (ho); clear HB; clear HO_3; have HB := n0_; have HO109 := n1_; clear n0_ n1_; clear ho hb hg hat))
                go_roundg k1
                case measure => have := HK1.out; omega
                case rel => exact ⟨(y107), (wrap64 (x4_1 + 1)), (by first | rfl | (simp; done) | (simp [*]; done)), H', ⟨by have := HK1.out; omega⟩, ⟨by (with_reducible repeat (first | apply Kd.R_alloc | apply Kd.R_drewN | apply Kd.R_drew)); exact HO109.out⟩, ⟨by repeat (first | (with_reducible first | exact HB.out | apply below_alloc | apply pw_below_drewN | apply below_drew1) | exact HB.out)⟩⟩
              · rw [if_neg c11] at H
                exact absurd H (by simp)
          · rw [if_neg c7] at H
            have c7b0 : decide (65 ≤ (bt a0 x4_1)) = false := decide_eq_false c7
            clear c7
            by_cases c13 : x3_1.length < 140737488355328
            · rw [if_pos c13] at H
              have LMc13 := Aside0.mk c13
              clear c13
              obtain ⟨y110, hy110⟩ : ∃ y_ : List Int, y_ = (x3_1 ++ [bt a0 x4_1]) := ⟨_, rfl⟩
              replace H : (spec_l01Small.l0 k1 a0 y110 (wrap64 (x4_1 + 1))) = some r := by first | (rw [hy110]; with_reducible exact H) | (have H2_ := (Option.bind_some _ _).symm.trans H; rw [hy110]; with_reducible exact H2_) | (have H2_ := (Option.bind_some _ _).symm.trans H; with_reducible exact H2_) | with_reducible exact H | (rw [hy110]; exact H) | exact H
              have Ny110 := Aside0.mk hy110
              clear hy110
              have H' := Aside0.mk H
              clear H
              have p6 : 0 ≤ (x4_1 : Int) := of_decide_eq_true (by first | (with_reducible assumption) | assumption)
              have q6 : x4_1 < (a0.size : Int) := of_decide_eq_true (by first | (with_reducible assumption) | assumption)
              have hx6 := bt_at a0 x4_1
              replace p6 := eq_true p6
              replace q6 := eq_true q6
              go_wp2_with (first | ((with_reducible refine gate_builtin (b := .append) (xs := #[.tmp 24, .tmp 26]) rfl ?_); at_builtin; refine Kd.R_append (Kd.int .u8) (w0 := w) w.heap.size rfl (.tmp 24) (.tmp 26) 22 5 (.int .u8 0) 1 rfl Tryd.underlying22 info5 rfl (by decide) (by omega) u3 x3_1 (bt a0 x4_1) [.int .u8 (bt a0 x4_1)] (fun _ => True) (fun _ => False) rfl rfl ?aP (fun _ hk => hk.elim) ?aF ?aO ?aB ?aS ?aL ?_; (case aP => exact rfl); (case aB => exact (by repeat (first | (with_reducible first | exact HB.out | apply below_alloc | apply pw_below_drewN | apply below_drew1) | exact HB.out))); (case aF => exact (fun _ _ => trivial)); (case aO => exact (by (with_reducible repeat (first | apply Kd.R_alloc | apply Kd.R_drewN | apply Kd.R_drew)); exact HO_3.out)); (case aS => exact (below_size (by repeat (first | (with_reducible first | exact HB.out | apply below_alloc | apply pw_below_drewN | apply below_drew1) | exact HB.out)))); (case aL => have := LMc13.out; omega); intro v111 w14 ho hb hg hat; rw [← Ny110.out] at ho; have n0_ := Aside0.mk (hb); have n1_ := Aside0.mk (ho); clear HB; clear HO_3; have HB := n0_; have HO112 := n1_; clear n0_ n1_; clear ho hb hg hat))
              go_roundg k1
              case measure => have := HK1.out; omega
              case rel => exact ⟨(y110), (wrap64 (x4_1 + 1)), (by first | rfl | (simp; done) | (simp [*]; done)), H', ⟨by have := HK1.out; omega⟩, ⟨by (with_reducible repeat (first | apply Kd.R_alloc | apply Kd.R_drewN | apply Kd.R_drew)); exact HO112.out⟩, ⟨by repeat (first | (with_reducible first | exact HB.out | apply below_alloc | apply pw_below_drewN | apply below_drew1) | exact HB.out)⟩⟩
            · rw [if_neg c13] at H
              exact absurd H (by simp)
        · rw [if_neg c5] at H
          exact absurd H (by simp)
      · rw [if_neg c4] at H
        have c4b0 : decide (x4_1 < (a0.size : Int)) = false := decide_eq_false c4
        clear c4
        obtain rfl := Option.some.inj H
        have hcv15 := own_string (P := Tryd.prog) Tryd.underlying22 Tryd.underlying5 Tryd.underlying9 (Kd.own_of_R HO_3.out)
        go_wp2
        go_ret
        exact ⟨by first | rfl | (simp [errW_none, errW_some] <;> rfl) | (simp [*, errW_none, errW_some] <;> rfl), by repeat (first | (with_reducible first | exact HB.out | apply below_alloc | apply pw_below_drewN | apply below_drew1) | exact HB.out)⟩

end Go.Proofs.YtblpeegpjjcemaaDoor.F
namespace Go.Proofs.YtblpeegpjjcemaaDoor.F
open Go Go.Shelf Go.RowKit Go.Proofs.YtblpeegpjjcemaaDoorW.PrintWords Go.Proofs.YtblpeegpjjcemaaDoorW.PrintLast Go.Proofs.YtblpeegpjjcemaaDoorW.PrintMore
attribute [local go_sem] max2_int min2_int max_two min_two max_three min_three max_four min_four   -- for this text's walks alone
set_option linter.unusedVariables false
set_option linter.unusedSimpArgs false

/-! ### spec_FoldName: function 42 -/
def spec_FoldName.l0 : Nat → List ByteArray → Int → Option (ByteArray)
  | 0, _, _ => none
  | k + 1, x3, x5 => if x5 < (x3.length : Int) then (if 0 ≤ x5 then ((spec_l01Small.f k (rdOf ByteArray.empty x3 x5)).bind fun t106 => (spec_FoldName.l0 k (x3.set (x5 : Int).toNat t106) (wrap64 (x5 + 1)))) else (none)) else ((spec_l01Join.f x3).bind fun t108 => (some t108))
def spec_FoldName.f (k : Nat) (a0 : ByteArray) : Option (ByteArray) := (spec_l01Split.f k a0).bind fun bt101 => (if bt101.2 = true then (spec_FoldName.l0 k bt101.1 0) else (some (⟨#[]⟩ : ByteArray)))
theorem spec_FoldName.mono_l : ∀ k, (∀ y0 y1, LeO (spec_FoldName.l0 k y0 y1) (spec_FoldName.l0 (k + 1) y0 y1))
  | 0 => fun _ _ r h => by simp [spec_FoldName.l0] at h
  | k + 1 => by
    have ih0 := spec_FoldName.mono_l k
    · intro y0 y1
      unfold spec_FoldName.l0
      repeat' first
      | (with_reducible exact ih0 _ _)
      | (with_reducible exact spec_l01Small.mono _ _)
      | (with_reducible exact spec_l01Split.mono _ _)
      | (with_reducible exact LeO.refl _)
      | (with_reducible exact LeO.none _)
      | (with_reducible refine LeO.ite ?_ ?_)
      | (with_reducible refine LeO.bind ?_ (fun _ => ?_))
      | exact ih0 _ _
      | exact spec_l01Small.mono _ _
      | exact spec_l01Split.mono _ _
      | exact LeO.none _
      | refine LeO.ite ?_ ?_
      | refine LeO.bind ?_ (fun _ => ?_)
theorem spec_FoldName.mono : ∀ a0 k, LeO (spec_FoldName.f k a0) (spec_FoldName.f (k + 1) a0) := by
  intro a0 k
  have ih0 := spec_FoldName.mono_l k
  unfold spec_FoldName.f
  repeat' first
      | (with_reducible exact ih0 _ _)
      | (with_reducible exact spec_l01Small.mono _ _)
      | (with_reducible exact spec_l01Split.mono _ _)
      | (with_reducible exact LeO.refl _)
      | (with_reducible exact LeO.none _)
      | (with_reducible refine LeO.ite ?_ ?_)
      | (with_reducible refine LeO.bind ?_ (fun _ => ?_))
      | exact ih0 _ _
      | exact spec_l01Small.mono _ _
      | exact spec_l01Split.mono _ _
      | exact LeO.none _
      | refine LeO.ite ?_ ?_
      | refine LeO.bind ?_ (fun _ => ?_)
set_option maxHeartbeats 8000000 in
set_option maxRecDepth 100000 in
theorem spec_FoldName.calls (k : Nat) (a0 : ByteArray) (r : ByteArray) (w : World) (h : spec_FoldName.f k a0 = some r) :
    Calls Tryd.prog 42 #[.string a0] w fun e w' => e = .returned (.string r) ∧ Below w.heap.size w w' := by
  have HB := Aside0.mk (Below.refl w.heap.size w)
  have H : ((spec_l01Split.f k a0).bind fun bt101 => (if bt101.2 = true then (spec_FoldName.l0 k bt101.1 0) else (some (⟨#[]⟩ : ByteArray)))) = some r := h
  clear h
  replace H := Option.bind_eq_some_iff.mp H
  obtain ⟨⟨t101, t102⟩, A20, H⟩ := H
  replace H : (if t102 = true then (spec_FoldName.l0 k t101 0) else (some (⟨#[]⟩ : ByteArray))) = some r := H
  have A2 := Aside0.mk A20
  clear A20
  by_cases c3 : t102 = true
  · subst c3
    have H1 : (spec_FoldName.l0 k t101 0) = some r := by rw [if_pos rfl] at H; exact H
    clear H
    have H := H1
    clear H1
    have H' := Aside0.mk H
    clear H
    go_enter Tryd.func42, Tryd.ntmps42
    go_wp2_with (first | ((with_reducible refine gate_callee (f := 46) rfl ?_); refine goesL_ (some 8) rfl rfl Tryd.func46 (by kernel_rfl) rfl #[.string a0] rfl (by (try simp only [List.map_toArray, List.map_cons, List.map_nil]); first | done | rfl | (simp only [List.length_drop, List.length_take]; rfl)) ?_; (with_reducible refine (spec_l01Split.calls k a0 t101 true _ A2.out).mono ?_); rintro e w4 ⟨v103, rfl, ho0, hb⟩; refine ⟨_, rfl, ?_⟩; have n0_ := Aside0.mk (Kd.R_lower ho0 (below_size (by repeat (first | (with_reducible first | exact HB.out | apply below_alloc | apply pw_below_drewN | apply below_drew1) | exact HB.out)))); have n1_ := Aside0.mk (below_step (by repeat (first | (with_reducible first | exact HB.out | apply below_alloc | apply pw_below_drewN | apply below_drew1) | exact HB.out)) hb); clear HB; have HO104 := n0_; have HB := n1_; clear n0_ n1_; (try clear hb); (try clear hb2); (try clear hk); (try clear hi); (try clear ho0)))
    go_loopg [5] k (fun kq v5 w' => ∃ (x3_1 : List ByteArray) (x5_1 : Int), v5 = .int .i64 x5_1 ∧ Aside0 (spec_FoldName.l0 kq x3_1 x5_1 = some r) ∧ Aside0 (kq ≤ k) ∧ Aside0 (Kd.R Kd.string 9 w' w.heap.size (fun _ => True) v103 x3_1) ∧ Aside0 (Below w.heap.size w w'))
    case atStart => exact ⟨(t101), (0), (by first | rfl | (simp; done) | (simp [*]; done)), H', ⟨Nat.le_refl _⟩, ⟨by (with_reducible repeat (first | apply Kd.R_alloc | apply Kd.R_drewN | apply Kd.R_drew)); exact HO104.out⟩, ⟨by repeat (first | (with_reducible first | exact HB.out | apply below_alloc | apply pw_below_drewN | apply below_drew1) | exact HB.out)⟩⟩
    case round =>
      clear H'
      try clear p2
      try clear c3
      try clear c4
      obtain ⟨x3_1, x5_1, rfl, HA, HK1, HO_3, HB⟩ := hrel
      cases gk with
      | zero => exact absurd HA.out (by simp [spec_FoldName.l0])
      | succ k1 =>
        have H := HA.out
        clear HA
        simp only [spec_FoldName.l0] at H
        by_cases c5 : x5_1 < (x3_1.length : Int)
        · rw [if_pos c5] at H
          have c5b0 : decide (x5_1 < (x3_1.length : Int)) = true := decide_eq_true c5
          clear c5
          by_cases c6 : 0 ≤ x5_1
          · rw [if_pos c6] at H
            have c6b0 : decide (0 ≤ x5_1) = true := decide_eq_true c6
            clear c6
            replace H := Option.bind_eq_some_iff.mp H
            obtain ⟨t106, A70, H⟩ := H
            replace H : (spec_FoldName.l0 k1 (x3_1.set (x5_1 : Int).toNat t106) (wrap64 (x5_1 + 1))) = some r := H
            have A7 := Aside0.mk A70
            clear A70
            obtain ⟨y107, hy107⟩ : ∃ y_ : List ByteArray, y_ = (x3_1.set (x5_1 : Int).toNat t106) := ⟨_, rfl⟩
            replace H : (spec_FoldName.l0 k1 y107 (wrap64 (x5_1 + 1))) = some r := by first | (rw [hy107]; with_reducible exact H) | (have H2_ := (Option.bind_some _ _).symm.trans H; rw [hy107]; with_reducible exact H2_) | (have H2_ := (Option.bind_some _ _).symm.trans H; with_reducible exact H2_) | with_reducible exact H | (rw [hy107]; exact H) | exact H
            have Ny107 := Aside0.mk hy107
            clear hy107
            have H' := Aside0.mk H
            clear H
            obtain ⟨Ao9, co9, eo9⟩ := Kd.R_slice HO_3.out
            subst eo9
            have p105 : 0 ≤ (x5_1 : Int) := of_decide_eq_true (by first | (with_reducible assumption) | assumption)
            have q105 : x5_1 < (x3_1.length : Int) := of_decide_eq_true (by first | (with_reducible assumption) | assumption)
            obtain ⟨ad105, e105, hx105_0⟩ := Kd.at_string (Kd.R_reads' HO_3.out).2.2 x5_1 p105 q105
            cases e105
            replace p105 := eq_true p105
            replace q105 := eq_true q105
            go_wp2_with (first | ((with_reducible refine gate_callee (f := 47) rfl ?_); refine goesL_ (some 25) rfl rfl Tryd.func47 (by kernel_rfl) rfl #[.string (rdOf ByteArray.empty x3_1 x5_1)] rfl (by (try simp only [List.map_toArray, List.map_cons, List.map_nil]); first | done | rfl | (simp only [List.length_drop, List.length_take]; rfl)) ?_; (with_reducible refine (spec_l01Small.calls k1 (rdOf ByteArray.empty x3_1 x5_1) t106 _ A7.out).mono ?_); rintro e w10 ⟨rfl, hb⟩; refine ⟨_, rfl, ?_⟩; have n0_ := Aside0.mk (Kd.R_below (by (with_reducible repeat (first | apply Kd.R_alloc | apply Kd.R_drewN | apply Kd.R_drew)); exact HO_3.out) hb); have n1_ := Aside0.mk (below_step (by repeat (first | (with_reducible first | exact HB.out | apply below_alloc | apply pw_below_drewN | apply below_drew1) | exact HB.out)) hb); clear HO_3; clear HB; have HO_3 := n0_; have HB := n1_; clear n0_ n1_; (try clear hb); (try clear hb2); (try clear hk); (try clear hi); have p8 : 0 ≤ (x5_1 : Int) := of_decide_eq_true (by first | (with_reducible assumption) | assumption); have q8 : (x5_1 : Int) < ((x3_1.length : Int) : Int) := of_decide_eq_true (by first | (with_reducible assumption) | assumption); obtain ⟨go8, co8, eo8, gb8, gl8, cl8, HG8⟩ := Kd.R_form HO_3.out (by omega); (first | cases eo8 | (injection eo8 with ea_ en_ ec_; (first | subst ea_ | (injection ea_ with ea_; subst ea_)); subst ec_; clear en_)); have GB8 := Aside0.mk gb8; have GG8 := Aside0.mk HG8; clear gb8 gl8 HG8; (first | simp only [add_plain] at hx105_0 | skip); obtain ⟨hx8_0, hf8_0⟩ := Kd.R_celln (⟨#[]⟩ : ByteArray) HO_3.out (x5_1 : Int) p8 q8; replace p8 := eq_true p8; replace q8 := eq_true q8; obtain ⟨hy11_, hz11_⟩ := Kd.R_celln (⟨#[]⟩ : ByteArray) HO_3.out (x5_1 : Int) (of_decide_eq_true (by first | (with_reducible assumption) | assumption)) (of_decide_eq_true (by first | (with_reducible assumption) | assumption)); have HP11 := Kd.R_putg HO_3.out (x5_1 : Int) t106) | ((with_reducible refine gate_store (t := 9) (p := 26) rfl ?_); refine store_event (t := 9) (p := 26) (v := ?vo_w12) (w1 := (w10.setCell ⟨go8, (x5_1 : Int).toNat, none⟩ (.string t106))) ?hg ?ho ?hn ?hr ?_; (case ho => rfl); (case hg => rfl); (case hn => rfl); (case hr => first | (go_simp; done) | (go_simp; rfl)); intro w12 hw; have hg : w10.grownBy w12 (some go8) := (by rw [hw]; exact HP11.2); have hp_ : Kd.R Kd.string 9 w12 w.heap.size (fun _ => True) (.slice (some ⟨go8, 0, none⟩) x3_1.length co9) y107 := (by rw [hw, Ny107.out]; exact HP11.1); clear HP11; have n0_ := Aside0.mk (hp_); have n1_ := Aside0.mk ((by rw [hw]; exact below_set (HB.out) GB8.out : Below w.heap.size w w12)); clear HO_3; clear HB; have HO_3 := n0_; have HB := n1_; clear n0_ n1_; clear hg hw hp_))
            go_roundg k1
            case measure => have := HK1.out; omega
            case rel => exact ⟨(y107), (wrap64 (x5_1 + 1)), (by first | rfl | (simp; done) | (simp [*]; done)), H', ⟨by have := HK1.out; omega⟩, ⟨by (with_reducible repeat (first | apply Kd.R_alloc | apply Kd.R_drewN | apply Kd.R_drew)); exact HO_3.out⟩, ⟨by repeat (first | (with_reducible first | exact HB.out | apply below_alloc | apply pw_below_drewN | apply below_drew1) | exact HB.out)⟩⟩
          · rw [if_neg c6] at H
            exact absurd H (by simp)
        · rw [if_neg c5] at H
          have c5b0 : decide (x5_1 < (x3_1.length : Int)) = false := decide_eq_false c5
          clear c5
          replace H := Option.bind_eq_some_iff.mp H
          obtain ⟨t108, A130, H⟩ := H
          replace H : (some t108) = some r := H
          have A13 := Aside0.mk A130
          clear A130
          obtain rfl := Option.some.inj H
          obtain ⟨Ao14, co14, eo14⟩ := Kd.R_slice HO_3.out
          subst eo14
          go_wp2_with (first | ((with_reducible refine gate_callee (f := 43) rfl ?_); refine goesL_ (some 28) rfl rfl Tryd.func43 (by kernel_rfl) rfl #[.slice Ao14 x3_1.length co14] rfl (by (try simp only [List.map_toArray, List.map_cons, List.map_nil]); first | done | rfl | (simp only [List.length_drop, List.length_take]; rfl)) ?_; (with_reducible refine (spec_l01Join.calls _ _ x3_1 t108 _ ?side1 ?side2 A13.out).mono ?_); (case side1 => repeat (first | exact (Kd.R_reads' HO_3.out).2.2 | (with_reducible refine Kd.C_alloc ?_ _) | (with_reducible refine Kd.C_drewN ?_ _) | (with_reducible refine Kd.C_drew ?_))); (case side2 => exact (Kd.R_reads' HO_3.out).2.1); rintro e w15 ⟨rfl, hb⟩; refine ⟨_, rfl, ?_⟩; have n0_ := Aside0.mk (Kd.R_below (by (with_reducible repeat (first | apply Kd.R_alloc | apply Kd.R_drewN | apply Kd.R_drew)); exact HO_3.out) hb); have n1_ := Aside0.mk (below_step (by repeat (first | (with_reducible first | exact HB.out | apply below_alloc | apply pw_below_drewN | apply below_drew1) | exact HB.out)) hb); clear HO_3; clear HB; have HO_3 := n0_; have HB := n1_; clear n0_ n1_; (try clear hb); (try clear hb2); (try clear hk); (try clear hi)))
          go_ret
          exact ⟨by first | rfl | (simp [errW_none, errW_some] <;> rfl) | (simp [*, errW_none, errW_some] <;> rfl), by repeat (first | (with_reducible first | exact HB.out | apply below_alloc | apply pw_below_drewN | apply below_drew1) | exact HB.out)⟩
  · replace c3 := Bool.eq_false_iff.mpr c3
    subst c3
    have H1 : (some (⟨#[]⟩ : ByteArray)) = some r := by rw [if_neg (show ¬ (false = true) by decide)] at H; exact H
    clear H
    have H := H1
    clear H1
    obtain rfl := Option.some.inj H
    go_enter Tryd.func42, Tryd.ntmps42
    go_wp2_with (first | ((with_reducible refine gate_callee (f := 46) rfl ?_); refine goesL_ (some 8) rfl rfl Tryd.func46 (by kernel_rfl) rfl #[.string a0] rfl (by (try simp only [List.map_toArray, List.map_cons, List.map_nil]); first | done | rfl | (simp only [List.length_drop, List.length_take]; rfl)) ?_; (with_reducible refine (spec_l01Split.calls k a0 t101 false _ A2.out).mono ?_); rintro e w16 ⟨v103, rfl, ho0, hb⟩; refine ⟨_, rfl, ?_⟩; have n0_ := Aside0.mk (Kd.R_lower ho0 (below_size (by repeat (first | (with_reducible first | exact HB.out | apply below_alloc | apply pw_below_drewN | apply below_drew1) | exact HB.out)))); have n1_ := Aside0.mk (below_step (by repeat (first | (with_reducible first | exact HB.out | apply below_alloc | apply pw_below_drewN | apply below_drew1) | exact HB.out)) hb); clear HB; have HO104 := n0_; have HB := n1_; clear n0_ n1_; (try clear hb); (try clear hb2); (try clear hk); (try clear hi); (try clear ho0)))
    go_ret
    exact ⟨by first | rfl | (simp [errW_none, errW_some] <;> rfl) | (simp [*, errW_none, errW_some] <;> rfl), by repeat (first | (with_reducible first | exact HB.out | apply below_alloc | apply pw_below_drewN | apply below_drew1) | exact HB.out)⟩

end Go.Proofs.YtblpeegpjjcemaaDoor.F
namespace Go.Proofs.YtblpeegpjjcemaaDoor.F
open Go Go.Shelf Go.RowKit Go.Proofs.YtblpeegpjjcemaaDoorW.PrintWords Go.Proofs.YtblpeegpjjcemaaDoorW.PrintLast Go.Proofs.YtblpeegpjjcemaaDoorW.PrintMore
attribute [local go_sem] max2_int min2_int max_two min_two max_three min_three max_four min_four   -- for this text's walks alone
set_option linter.unusedVariables false
set_option linter.unusedSimpArgs false

/-! ### stands 21 -/
-- stands: a row of bytes of one's own, made by 'make' or by a conversion of a string (its end is frozen then): read, written in place, never appended to
def KB.R (_ : Kd Int) (e : TypeId) (w : World) (base : Nat) (ok : Nat → Prop) (v : Value) (xs : List Int) : Prop :=
  (∀ k, v.ownBlock = some k → ok k) ∧ ((v = .slice none 0 0 ∧ xs = []) ∨ ∃ (g c : Nat) (cur : Array Value) (fr : Nat × Nat), v = .slice (some ⟨g, 0, none⟩) xs.length c ∧ xs.length ≤ c ∧ xs.length ≤ 9223372036854775807 ∧ base ≤ g ∧ w.heap[g]? = some (.cells cur e fr) ∧ ∀ j, j < xs.length → w.cell? ⟨g, j, none⟩ = some (.int .u8 (rdN xs j)) ∧ w.frozen? ⟨g, j, none⟩ = false)
namespace KB
variable {d : Kd Int} {e base : Nat} {ok ok' S : Nat → Prop} {w w1 W W2 : World} {u v : Value} {xs : List Int}
theorem R_mono (h : KB.R d e w base ok v xs) (hok : ∀ k, ok k → ok' k) : KB.R d e w base ok' v xs := ⟨fun k hk => hok k (h.1 k hk), h.2⟩
theorem R_base (h : KB.R d e w base ok v xs) : ∀ k, v.ownBlock = some k → base ≤ k := by
  intro k hk
  rcases h.2 with ⟨rfl, _⟩ | ⟨g, c, cur, fr, rfl, _, _, hb, _⟩
  · simp [Value.ownBlock] at hk
  · simp [Value.ownBlock] at hk; omega
theorem R_lt (h : KB.R d e w base ok v xs) : ∀ k, v.ownBlock = some k → k < w.heap.size := by
  intro k hk
  rcases h.2 with ⟨rfl, _⟩ | ⟨g, c, cur, fr, rfl, _, _, _, hh, _⟩
  · simp [Value.ownBlock] at hk
  · simp [Value.ownBlock] at hk; subst hk; exact (Array.getElem?_eq_some_iff.1 hh).1
theorem R_move (h : KB.R d e w base ok v xs) (hm : ∀ k, v.ownBlock = some k → w1.heap[k]? = w.heap[k]?) : KB.R d e w1 base ok v xs := by
  refine ⟨h.1, ?_⟩
  rcases h.2 with h0 | ⟨g, c, cur, fr, rfl, h1, h2, h3, h4, h5⟩
  · exact .inl h0
  · have hg := hm g (by simp [Value.ownBlock])
    exact .inr ⟨g, c, cur, fr, rfl, h1, h2, h3, hg.trans h4, fun j hj => ⟨(World.cell?_of_block (a := ⟨g, j, none⟩) hg).trans (h5 j hj).1, (World.frozen?_of_block (a := ⟨g, j, none⟩) hg).trans (h5 j hj).2⟩⟩
theorem R_below (h : KB.R d e w base ok v xs) (hb : Below w.heap.size w w1) : KB.R d e w1 base ok v xs := R_move h (fun k hk => hb.block k (R_lt h k hk))
theorem R_alloc (h : KB.R d e w base ok v xs) (o : Obj) : KB.R d e (w.alloc o) base ok v xs := R_below h (below_alloc (Below.refl _ _) o)
theorem R_drew (h : KB.R d e w base ok v xs) : KB.R d e w.drew base ok v xs := R_below h (below_drew (Below.refl _ _))
theorem R_drewN (h : KB.R d e w base ok v xs) (m : Nat) : KB.R d e (w.drewN m) base ok v xs := R_below h (pw_below_drewN (Below.refl _ _) m)
theorem R_lower {base' : Nat} (h : KB.R d e w base ok v xs) (hb : base' ≤ base) : KB.R d e w base' ok v xs := by
  refine ⟨h.1, ?_⟩
  rcases h.2 with h0 | ⟨g, c, cur, fr, rfl, h1, h2, h3, h4, h5⟩
  · exact .inl h0
  · exact .inr ⟨g, c, cur, fr, rfl, h1, h2, Nat.le_trans hb h3, h4, h5⟩
theorem R_nil (d : Kd Int) (e : Nat) (w : World) (base : Nat) (ok : Nat → Prop) : KB.R d e w base ok (.slice none 0 0) [] := ⟨fun k hk => by simp [Value.ownBlock] at hk, .inl ⟨rfl, rfl⟩⟩
theorem R_slice (h : KB.R d e w base ok v xs) : ∃ A c, v = .slice A xs.length c := by
  rcases h.2 with ⟨rfl, rfl⟩ | ⟨g, c, _, _, rfl, _⟩
  · exact ⟨_, _, rfl⟩
  · exact ⟨_, _, rfl⟩
theorem R_reads' {A : Option Addr} {n c : Nat} (h : KB.R d e w base ok (.slice A n c) xs) : n = xs.length ∧ n ≤ c ∧ Kd.C (Kd.int .u8) w A xs.length xs := by
  rcases h.2 with ⟨e0, rfl⟩ | ⟨g, c', cur, fr, e0, h1, h2, h3, h4, h5⟩
  · injection e0 with e1 e2 e3
    subst e1 e2 e3
    exact ⟨rfl, Nat.le_refl _, Kd.C_of_reads (d := (0 : Int)) (enc := Value.int .u8) (h1 := fun _ => rfl) ⟨rfl, by simp, (fun h => absurd h (by simp))⟩⟩
  · injection e0 with e1 e2 e3
    subst e1 e2 e3
    exact ⟨rfl, h1, Kd.C_of_reads (d := (0 : Int)) (enc := Value.int .u8) (h1 := fun _ => rfl) ⟨rfl, h2, fun _ => ⟨_, rfl, fun j hj => by rw [add_plain]; exact (h5 j hj).1⟩⟩⟩
theorem R_elder' (hu : KB.R d e W base ok u xs) (hbase : ∀ k, v.ownBlock = some k → W.heap.size ≤ k) (hb : Below W.heap.size W w1) : KB.R d e w1 base (fun k => ok k ∧ some k ≠ v.ownBlock) u xs :=
  ⟨fun k hk => ⟨hu.1 k hk, fun he => by have := hbase k he.symm; have := R_lt hu k hk; omega⟩, (R_below hu hb).2⟩
theorem R_new' (h : KB.R d e w1 W.heap.size ok v xs) (hlt : ∀ k, u.ownBlock = some k → k < W.heap.size) : KB.R d e w1 W.heap.size (fun k => ok k ∧ some k ≠ u.ownBlock) v xs :=
  ⟨fun k hk => ⟨h.1 k hk, fun he => by have := hlt k he.symm; have := R_base h k hk; omega⟩, h.2⟩
theorem R_keptB (h : KB.R d e W base ok v xs) (hk : Kept W W2 S) (hne : ∀ k, ok k → ¬ S k) : KB.R d e W2 base (fun k => ok k ∧ (¬ S k ∧ k < W.heap.size)) v xs :=
  ⟨fun k hk' => ⟨h.1 k hk', hne k (h.1 k hk'), R_lt h k hk'⟩, (R_move h (fun k hk' => hk.2 k (R_lt h k hk') (hne k (h.1 k hk')))).2⟩
theorem R_ne (h : KB.R d e w base ok v xs) {g t : Nat} {cells : Array Value} (hb : w.heap[g]? = some (.cells cells t (0, 0))) (ht : e ≠ t) : some g ≠ v.ownBlock := by
  intro he
  rcases h.2 with ⟨rfl, _⟩ | ⟨g', c, cur, fr, rfl, _, _, _, hh, _⟩
  · simp [Value.ownBlock] at he
  · simp [Value.ownBlock] at he
    subst he
    rw [hb] at hh
    injection hh with hh
    injection hh with _ hh
    exact ht hh.symm
theorem R_tight (_ : d.E = []) (h : KB.R d e w base ok v xs) : KB.R d e w base (fun k => some k = v.ownBlock) v xs := ⟨fun _ hk => hk.symm, h.2⟩
theorem R_reok {ok1 : Nat → Prop} (_ : d.E = []) (h : KB.R d e W base ok1 v xs) (hok : ∀ k, v.ownBlock = some k → ok k) : KB.R d e W base ok v xs := ⟨hok, h.2⟩
theorem R_form (h : KB.R d e w base ok v xs) (hp : 0 < xs.length) : ∃ g cap, v = .slice (some ⟨g, 0, none⟩) xs.length cap ∧ base ≤ g ∧ g < w.heap.size ∧ ∃ cells fr, w.heap[g]? = some (.cells cells e fr) := by
  rcases h.2 with ⟨_, rfl⟩ | ⟨g, c, cur, fr, rfl, _, _, hb, hh, _⟩
  · exact absurd hp (by simp)
  · exact ⟨g, c, rfl, hb, (Array.getElem?_eq_some_iff.1 hh).1, cur, fr, hh⟩
theorem R_celln {g n cap : Nat} (_ : Int) (h : KB.R d e W base ok (.slice (some ⟨g, 0, none⟩) n cap) xs) (i : Int) (h0 : 0 ≤ i) (hi : i < n) : W.cell? ⟨g, i.toNat, none⟩ = some (.int .u8 (rd xs i)) ∧ W.frozen? ⟨g, i.toNat, none⟩ = false := by
  rcases h.2 with ⟨e0, _⟩ | ⟨g', c, cur, fr, e0, _, _, _, _, h5⟩
  · cases e0
  · injection e0 with e1 e2 e3
    injection e1 with e1
    injection e1 with e1
    subst e1
    obtain ⟨a, b⟩ := h5 i.toNat (by omega)
    exact ⟨a.trans (by simp [rd, rdN]), b⟩
theorem R_putg {g n cap : Nat} (h : KB.R d e W base ok (.slice (some ⟨g, 0, none⟩) n cap) xs) (i : Int) (x : Int) : KB.R d e (W.setCell ⟨g, i.toNat, none⟩ (.int .u8 x)) base ok (.slice (some ⟨g, 0, none⟩) n cap) (xs.set i.toNat x) ∧ W.grownBy (W.setCell ⟨g, i.toNat, none⟩ (.int .u8 x)) (some g) := by
  rcases h.2 with ⟨e0, _⟩ | ⟨g', c, cur, fr, e0, h1, h2, h3, h4, h5⟩
  · cases e0
  · injection e0 with e1 e2 e3
    injection e1 with e1
    injection e1 with e1
    subst e1 e2 e3
    have hset : (W.setCell ⟨g, i.toNat, none⟩ (.int .u8 x)).heap[g]? = some (.cells (cur.setIfInBounds i.toNat (.int .u8 x)) e fr) := by
      have hlt := (Array.getElem?_eq_some_iff.1 h4).1
      simp [World.setCell, Array.getElem?_modify, h4]
    refine ⟨⟨h.1, .inr ⟨g, cap, cur.setIfInBounds i.toNat (.int .u8 x), fr, by rw [List.length_set], by rw [List.length_set]; exact h1, by rw [List.length_set]; exact h2, h3, hset, fun j hj => ?_⟩⟩, ⟨rfl, rfl, rfl, by simp [World.setCell], fun k hk hne => Below.heap_setCell W ⟨g, i.toNat, none⟩ _ k (fun e => hne (by rw [e]))⟩⟩
    rw [List.length_set] at hj
    obtain ⟨a, b⟩ := h5 j hj
    rw [cell_of_row W g j cur e fr h4] at a
    constructor
    · rw [cell_of_row _ g j _ e fr hset, Array.getElem?_setIfInBounds]
      by_cases hij : i.toNat = j
      · subst hij
        have hsz : i.toNat < cur.size := (Array.getElem?_eq_some_iff.1 a).1
        rw [if_pos rfl, if_pos hsz]
        simp [rdN, List.getD_eq_getElem?_getD, hj]
      · rw [if_neg hij, a]
        simp [rdN, List.getD_eq_getElem?_getD, hij]
    · simp only [World.frozen?, h4] at b
      simp only [World.frozen?, hset]
      exact b
theorem of_R (h : Kd.R (Kd.int .u8) e w base ok v xs) (hn : xs.length ≤ 9223372036854775807) : KB.R d e w base ok v xs := by
  refine ⟨h.1, ?_⟩
  rcases (Kd.own_of_R h).2 with ⟨e0, h0⟩ | ⟨g, cap, cur, e0, hBg, hh, hle, _⟩
  · exact .inl ⟨e0, List.eq_nil_of_length_eq_zero h0⟩
  · subst e0
    exact .inr ⟨g, cap, cur, (0, 0), rfl, hle, hn, hBg, hh, fun j hj => by
      obtain ⟨x, y⟩ := Kd.R_celln 0 h (j : Int) (Int.natCast_nonneg _) (Int.ofNat_lt.mpr hj)
      rw [Int.toNat_natCast] at x y
      exact ⟨x.trans (by simp [rdOf, rdN]), y⟩⟩
theorem of_conv (d : Kd Int) (w : World) (e : TypeId) (s : ByteArray) (hz : s.size ≤ 9223372036854775807) (c : Nat) (hc : s.size ≤ c) : KB.R d e (Lib.bytesWorld w e s) w.heap.size (fun _ => True) (.slice (some ⟨w.heap.size, 0, none⟩) s.size c) (bytesOf s) := by
  refine ⟨fun _ _ => trivial, .inr ⟨w.heap.size, c, _, _, by rw [bytesOf_length], by rw [bytesOf_length]; exact hc, by rw [bytesOf_length]; exact hz, Nat.le_refl _, Lib.bytesWorld_at_new w e s, fun j hj => ?_⟩⟩
  have hr := Go.Proofs.YtblpeegpjjcemaaDoorW.XConv.Row8.conv w e s
  exact ⟨hr.cell j hj, hr.frozen j hj⟩
theorem conv_event {P : Program} {ops : Array Oper} {rest : List Oper} {o : Oper} {a : Act} {Q : Exit → Act → World → Prop} (d : Kd Int) (hgd : o.guard = none) (src dst e : TypeId) (x : Operand) (ho : o.op = .convert src dst x) (hs : P.underlying src = some .string) (hd : P.underlying dst = some (.slice e)) (he : P.underlying e = some (.int .u8))
    (s : ByteArray) (hx : a.eval x = .string s) (hz : s.size ≤ 9223372036854775807)
    (h : ∀ v w1, KB.R d e w1 W.heap.size (fun _ => True) v (bytesOf s) → Below W.heap.size W w1 → wpList P ops Q rest (a.put o.dst v) w1) : wpList P ops Q (o :: rest) a W := by
  refine wpList_plain hgd fun K hK => ?_
  unfold Oper.wp execOp
  simp only [ho, Sem.run_bind, Sem.run_pure, Result.andThen_ok, hx, Lib.run_convert_string_bytes W src dst e s hs hd he]
  exact hK _ _ (h _ _ (of_conv d W e s hz _ (grownCap_ge W s.size 0 e)) (bytes_below (Below.refl _ _) (Nat.le_refl _) e s))
end KB
def xbytes.f (a : ByteArray) : Option (List Int) := if a.size ≤ 9223372036854775807 then some (bytesOf a) else none
theorem xbytes_some {a : ByteArray} {r : List Int} (h : xbytes.f a = some r) : a.size ≤ 9223372036854775807 ∧ bytesOf a = r := by
  unfold xbytes.f at h
  split at h
  case isTrue hc => exact ⟨hc, Option.some.inj h⟩
  case isFalse => cases h
theorem Kd.R_reads_max {e base : Nat} {ok : Nat → Prop} {w : World} {v : Value} {xs : List Int} (h : Kd.R (Kd.int .u8) e w base ok v xs) : xs.length ≤ 9223372036854775807 := by
  obtain ⟨A, c, _, _, hC⟩ := Kd.R_reads h
  exact hC.2.1

end Go.Proofs.YtblpeegpjjcemaaDoor.F
namespace Go.Proofs.YtblpeegpjjcemaaDoor.F
open Go Go.Shelf Go.RowKit Go.Proofs.YtblpeegpjjcemaaDoorW.PrintWords Go.Proofs.YtblpeegpjjcemaaDoorW.PrintLast Go.Proofs.YtblpeegpjjcemaaDoorW.PrintMore
attribute [local go_sem] max2_int min2_int max_two min_two max_three min_three max_four min_four   -- for this text's walks alone
set_option linter.unusedVariables false
set_option linter.unusedSimpArgs false

/-! ### stands 22 -/
-- stands: []byte(s) as one event; the keyed sum of two strings
theorem conv_C (w : World) (e : TypeId) (s : ByteArray) (hs : s.size ≤ 9223372036854775807) : Kd.C (Kd.int .u8) (Lib.bytesWorld w e s) (some ⟨w.heap.size, 0, none⟩) (bytesOf s).length (bytesOf s) :=
  Kd.C_of_reads (d := (0 : Int)) (enc := Value.int .u8) (h1 := fun _ => rfl) ⟨rfl, by rw [bytesOf_length]; exact hs, fun _ => ⟨_, rfl, fun j hj => by rw [add_plain]; exact (Go.Proofs.YtblpeegpjjcemaaDoorW.XConv.Row8.conv w e s).cell j hj⟩⟩
theorem bytesOf_rng (s : ByteArray) : ∀ x ∈ bytesOf s, 0 ≤ x ∧ x < 256 := by
  intro x hx
  simp only [bytesOf, List.mem_map] at hx
  obtain ⟨u, _, rfl⟩ := hx
  have := u.toNat_lt
  omega
theorem conv_event {P : Program} {ops : Array Oper} {rest : List Oper} {o : Oper} {a : Act} {W : World} {Q : Exit → Act → World → Prop} (hgd : o.guard = none) (src dst e : TypeId) (x : Operand) (ho : o.op = .convert src dst x) (hs : P.underlying src = some .string) (hd : P.underlying dst = some (.slice e)) (he : P.underlying e = some (.int .u8))
    (s : ByteArray) (hx : a.eval x = .string s) (hz : s.size ≤ 9223372036854775807)
    (h : ∀ g w1 cap, Kd.C (Kd.int .u8) w1 (some ⟨g, 0, none⟩) (bytesOf s).length (bytesOf s) → (bytesOf s).length ≤ cap → Below W.heap.size W w1 → wpList P ops Q rest (a.put o.dst (.slice (some ⟨g, 0, none⟩) (bytesOf s).length cap)) w1) : wpList P ops Q (o :: rest) a W := by
  refine wpList_plain hgd fun K hK => ?_
  unfold Oper.wp execOp
  simp only [ho, Sem.run_bind, Sem.run_pure, Result.andThen_ok, hx, Lib.run_convert_string_bytes W src dst e s hs hd he]
  have h2 := h _ _ (grownCap W s.size 0 e) (conv_C W e s hz) (by rw [bytesOf_length]; exact grownCap_ge W s.size 0 e) (bytes_below (Below.refl _ _) (Nat.le_refl _) e s)
  rw [bytesOf_length] at h2
  exact hK _ _ h2
def xsum.f (a b : ByteArray) : Option ByteArray := if a.size ≤ 1048576 ∧ b.size ≤ 1572864 then some (strOfNums (hmac (bytesOf a) (bytesOf b))) else none
theorem xsum_some {a b r : ByteArray} (h : xsum.f a b = some r) : (bytesOf a).length ≤ 1048576 ∧ (bytesOf b).length ≤ 1572864 ∧ r = strOfNums (hmac (bytesOf a) (bytesOf b)) := by
  unfold xsum.f at h
  split at h
  case isTrue hc => exact ⟨by rw [bytesOf_length]; exact hc.1, by rw [bytesOf_length]; exact hc.2, (Option.some.inj h).symm⟩
  case isFalse => cases h

end Go.Proofs.YtblpeegpjjcemaaDoor.F
