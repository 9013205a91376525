/- Part 5 of 7 of the proof of FnExactHmac: what each Go function on its way computes, that the Go code does just this, and what the law says of it. No condition beyond the statement's own. -/
import Derived.Shelf.Bin.BEAppendUint64
import Derived.Shelf.Bin.BEPutUint32
import Derived.Lib.LazyBuf
import Derived.Test.YtlopdegnpbokjaaDoorMFnExactHmac4
namespace Go.Proofs.YtlopdegnpbokjaaDoor.F
open Go Go.Shelf Go.RowKit Go.Proofs.YtlopdegnpbokjaaDoorW.PrintWords Go.Proofs.YtlopdegnpbokjaaDoorW.PrintLast Go.Proofs.YtlopdegnpbokjaaDoorW.PrintMore
attribute [local go_sem] max2_int min2_int max_two min_two max_three min_three max_four min_four   -- for this text's walks alone
set_option linter.unusedVariables false
set_option linter.unusedSimpArgs false

/-! ### spec_l09Str: function 36 -/
set_option maxHeartbeats 8000000 in
set_option maxRecDepth 100000 in
theorem spec_l09Str.calls (xs : List Int) (hx : xs.length = 32) (w : World) :
    Calls Tryd.prog 36 #[.agg (xs.map (Value.int .u8)).toArray] w fun e w' => e = .returned (.string (strOfNums xs)) ∧ Below w.heap.size w w' := by
  have HX := Aside0.mk hx
  have hu := Tryd.underlying23
  clear hx
  go_enter Tryd.func36, Tryd.ntmps36
  go_wp2_with (first | ((with_reducible refine gate_dst (N := 1) rfl ?_); refine box_event ?hg (N := 1) ?hd (cs := (xs.map (Value.int .u8)).toArray) (t := 23) ?hr ?_; (case hd => rfl); (case hg => rfl); (case hr => first | (go_simp; done) | (go_simp; rfl)); intro g1 hg1 w6 hbox hb; have HB1 := Aside0.mk (show ArrI .u8 w6 g1 23 xs from hbox); have HB := Aside0.mk hb; have HG6 := Aside0.mk (HB1.out.lt); have HW6 := Aside0.mk hb.size; clear hb hbox hg1) | ((with_reducible refine gate_dst (N := 5) rfl ?_); refine Kd.R_lit (Kd.int .u8) _ 5 ?hg (N := 5) ?hd (xs := ([] : List Int)) (inner := []) (ok := fun _ => True) (okp := fun _ => True) ?hr ?hp (fun _ hk => hk) trivial (Below.refl _ _) (Nat.le_refl _) (by simp) ?_; (case hd => rfl); (case hg => rfl); (case hr => first | (go_simp; done) | (go_simp; rfl)); (case hp => exact (Reps.none _ _)); intro v1 w1 ho hb hg_ hnew_; have HR := Aside0.mk ho; have HB2 := Aside0.mk (below_step HB.out hb); have HA1 := Aside0.mk (ArrI.below HB1.out hb); have HBS := Aside0.mk hb.size; clear HB HB1 ho hb hg_ hnew_))
  have HGL := Aside0.mk (HA1.out.lt)
  obtain ⟨B, hBB⟩ : ∃ b, b = w6.heap.size := ⟨_, rfl⟩
  rw [← hBB] at HR HBS
  have HGB : Aside0 (g1 < B) := ⟨by rw [hBB]; exact HG6.out⟩
  have HWB : Aside0 (w.heap.size ≤ B) := ⟨by rw [hBB]; exact HW6.out⟩
  clear hBB HGL HG6 HW6
  go_loopw [3, 4] (fun v i wr => ∃ k : Nat, k ≤ 32 ∧ i = .int .i64 (k : Int) ∧ Aside0 (Kd.R (Kd.int .u8) 5 wr B (fun _ => True) v (xs.take k)) ∧ Aside0 (Below B w1 wr) ∧ Aside0 (B ≤ wr.heap.size)) (fun _ i _ => 32 - (intOf i).toNat)
  case atStart => exact ⟨0, Nat.zero_le _, rfl, HR, ⟨Below.refl _ _⟩, HBS⟩
  case round =>
    clear HR HBS
    obtain ⟨k, hk, rfl, HR, HB, HBS⟩ := hrel
    generalize hys : xs.take k = ys at HR
    replace hys := Aside0.mk hys
    obtain ⟨At, ct, et⟩ := Kd.R_slice HR.out
    subst et
    have hA : ArrI .u8 wr g1 23 xs := (HB.out.block g1 HGB.out).trans HA1.out
    by_cases h9 : k < 32
    · have l4 : ((k : Int) < 32) = True := ltT h9
      have l5 : decide ((k : Int) < 32) = true := ltD h9
      have l6 : (k < 32) = True := eq_true h9
      have HLN := Aside0.mk (show ys.length < 140737488355328 by rw [← hys.out]; exact hmT xs k (by rw [HX.out]; decide))
      obtain ⟨y, hy⟩ : ∃ y, y = rdN xs k := ⟨_, rfl⟩
      have x1 : wr.cell? ⟨g1, k, none⟩ = some (.int .u8 y) := by rw [hy]; exact ArrI.cell hA k (by rw [HX.out]; exact h9)
      replace hy := Aside0.mk hy
      clear hA
      go_wp2_with (first | ((with_reducible refine gate_builtin (b := .append) (xs := #[.tmp 10, .tmp 14]) rfl ?_); at_builtin; refine Kd.R_append (Kd.int .u8) B rfl (.tmp 10) (.tmp 14) 22 5 (.int .u8 0) 1 rfl Tryd.underlying22 (by kernel_rfl) rfl (by decide) (by decide) _ (ys) (y) [.int .u8 (y)] (fun _ => True) (fun _ => False) rfl rfl ?aP (fun _ hk => hk.elim) ?aF ?aO (Below.refl _ _) ?aS ?aL ?_; (case aP => exact rfl); (case aF => exact (fun _ _ => trivial)); (case aO => exact (by (with_reducible repeat (first | apply Kd.R_alloc | apply Kd.R_drewN | apply Kd.R_drew)); exact HR.out)); (case aS => exact HBS.out); (case aL => exact shaL1 HLN.out); intro v9 w9 ho hb hg hat; have HR2 := Aside0.mk ho; have HB3 := Aside0.mk (Below.trans (by repeat (first | (with_reducible first | exact HB.out | apply below_alloc | apply pw_below_drewN | apply below_drew1) | exact HB.out)) hb); have HBS2 := Aside0.mk (Nat.le_trans HBS.out hb.size); clear ho hb hg hat))
      go_roundw
      case rel => exact ⟨k + 1, Nat.succ_le_of_lt h9, by go_num, ⟨by rw [take_rdN xs k (by rw [HX.out]; exact h9), ← hy.out, hys.out]; exact HR2.out⟩, HB3, HBS2⟩
      case measure => exact shaM1 h9
    · have l4 : ((k : Int) < 32) = False := ltF h9
      have l5 : decide ((k : Int) < 32) = false := ltG h9
      have hcv := Kd.C_string (P := Tryd.prog) (c := ct) Tryd.underlying22 Tryd.underlying5 Tryd.underlying9 (Kd.R_reads' HR.out).2.2
      have HT := Aside0.mk (show ys = xs by rw [← hys.out]; exact List.take_of_length_le (by rw [HX.out]; omega))
      clear hA
      go_wp2
      go_ret
      exact ⟨by rw [← HT.out]; rfl, Below.trans HB2.out (HB.out.mono HWB.out)⟩

end Go.Proofs.YtlopdegnpbokjaaDoor.F
namespace Go.Proofs.YtlopdegnpbokjaaDoor.F
open Go Go.Shelf Go.RowKit Go.Proofs.YtlopdegnpbokjaaDoorW.PrintWords Go.Proofs.YtlopdegnpbokjaaDoorW.PrintLast Go.Proofs.YtlopdegnpbokjaaDoorW.PrintMore
attribute [local go_sem] max2_int min2_int max_two min_two max_three min_three max_four min_four   -- for this text's walks alone
set_option linter.unusedVariables false
set_option linter.unusedSimpArgs false

/-! ### spec_Hmac: function 12 -/
set_option maxHeartbeats 200000000 in
set_option maxRecDepth 100000 in
theorem spec_Hmac.calls (Ak : Option Addr) (ck : Nat) (key : List Int) (Ab : Option Addr) (cb : Nat) (b : List Int) (w : World) (hrk : Kd.C (Kd.int .u8) w Ak key.length key) (hck : key.length ≤ ck) (hrb : Kd.C (Kd.int .u8) w Ab b.length b) (hcb : b.length ≤ cb) (hrg : ∀ x ∈ key, 0 ≤ x ∧ x < 256) (hnk : key.length ≤ 1048576) (hnb : b.length ≤ 1048576) :
    Calls Tryd.prog 12 #[.slice Ak key.length ck, .slice Ab b.length cb] w fun e w' => e = .returned (.agg ((hmac key b).map (Value.int .u8)).toArray) ∧ Below w.heap.size w w' := by
  have HRK := Aside0.mk hrk
  have HRB := Aside0.mk hrb
  have HCK := Aside0.mk hck
  have HNK := Aside0.mk hnk
  have HNB := Aside0.mk hnb
  have HKR := Aside0.mk (hk_rng key hrg)
  have HKL := Aside0.mk (hk_len key)
  clear hrk hrb hck hnk hnb hrg
  go_enter Tryd.func12, Tryd.ntmps12
  go_upto_region 1 with fail
  obtain ⟨wz, hwz⟩ : ∃ wz, wz = w.alloc (Obj.cells (Array.replicate 32 (Value.int IntKind.u8 0)) 23) := ⟨_, rfl⟩
  have hZ : ArrI .u8 wz w.heap.size 23 (List.replicate 32 0) := by rw [hwz]; exact ArrI.new w .u8 23 (List.replicate 32 0)
  have hBz : Below w.heap.size w wz := by rw [hwz]; exact below_alloc (Below.refl _ _) _
  refine (show wz = _ from hwz) ▸ ?_
  clear hwz
  replace hZ := Aside0.mk hZ
  replace hBz := Aside0.mk hBz
  have HCz := Aside0.mk (Kd.C_below HRK.out hBz.out)
  have hcv := Kd.C_string (P := Tryd.prog) (c := ck) Tryd.underlying22 Tryd.underlying5 Tryd.underlying9 HCz.out
  go_upto_region 2 with fail
  clear hcv
  by_cases h64 : 64 < key.length
  case' pos =>
    have l1 : ((key.length : Int) > 64) = True := gtT h64
    have l2 : decide ((64 : Int) < (key.length : Int)) = true := ltD h64
    have l3 : decide ((key.length : Int) > 64) = true := ltD h64
    have l4 : ((64 : Int) < (key.length : Int)) = True := ltT h64
    have HK := Aside0.mk (show hmKey key = sha key by unfold hmKey; rw [if_pos h64])
    go_upto_region 4 with (first | ((with_reducible refine gate_callee (f := 7) rfl ?_); refine goesL_ (some 19) rfl rfl Tryd.func7 (by kernel_rfl) rfl #[.slice Ak key.length ck] rfl (by (try simp only [List.map_toArray, List.map_cons, List.map_nil]); first | done | rfl) ?_; (with_reducible refine (spec_Sha256.calls _ _ key _ HCz.out HCK.out (hmI HNK.out)).mono ?_); rintro e w10 ⟨rfl, hb⟩; refine ⟨_, rfl, ?_⟩; have hZ2 := Aside0.mk (ArrI.below hZ.out hb); have hB2 := Aside0.mk (below_step hBz.out hb); clear hb) | ((with_reducible refine gate_callee (f := 36) rfl ?_); refine goesL_ (some 20) rfl rfl Tryd.func36 (by kernel_rfl) rfl #[.agg ((sha key).map (Value.int .u8)).toArray] rfl (by (try simp only [List.map_toArray, List.map_cons, List.map_nil]); first | done | rfl) ?_; (with_reducible refine (spec_l09Str.calls (sha key) (sha_len key) _).mono ?_); rintro e wc ⟨rfl, hb⟩; refine ⟨_, rfl, ?_⟩; have HZc := Aside0.mk (ArrI.below hZ2.out hb); have HBc := Aside0.mk (below_step hB2.out hb); clear hb hZ2 hB2))
    rw [← HK.out]
  case' neg =>
    have l1 : ((key.length : Int) > 64) = False := ltF h64
    have l2 : decide ((64 : Int) < (key.length : Int)) = false := ltG h64
    have l3 : decide ((key.length : Int) > 64) = false := ltG h64
    have l4 : ((64 : Int) < (key.length : Int)) = False := ltF h64
    have HK := Aside0.mk (show hmKey key = key by unfold hmKey; rw [if_neg h64])
    go_upto_region 4 with fail
    have HZc := hZ
    have HBc := hBz
    clear hZ hBz HCz
    generalize wz = wc at *
    rw [show strOfNums key = strOfNums (hmKey key) by rw [HK.out]]
  all_goals
    clear l1 l2 l3 l4 HK h64
    generalize hs : strOfNums (hmKey key) = s
    replace hs := Aside0.mk hs
    have HSZ : Aside0 (s.size = (hmKey key).length) := ⟨by rw [← hs.out]; exact strOf_size _⟩
    have HRc := Aside0.mk (Kd.C_below HRB.out HBc.out)
    have HZL := Aside0.mk HZc.out.lt
    obtain ⟨B, hBB⟩ : ∃ x, x = wc.heap.size := ⟨_, rfl⟩
    go_upto_region 6 with (first | ((with_reducible refine gate_dst (N := 21) rfl ?_); refine Kd.R_lit (Kd.int .u8) _ 5 ?hg (N := 21) ?hd (xs := ([] : List Int)) (inner := []) (ok := fun _ => True) (okp := fun _ => True) ?hr ?hp (fun _ hk => hk) trivial (Below.refl _ _) (Nat.le_refl _) (by simp) ?_; (case hd => rfl); (case hg => rfl); (case hr => first | (go_simp; done) | (go_simp; rfl)); (case hp => exact (Reps.none _ _)); intro v1 w1 ho hb hg_ hnew_; have HA0 := Aside0.mk ho; have HB2 := Aside0.mk hb; have HS1 := Aside0.mk hb.size; clear ho hb hg_ hnew_) | ((with_reducible refine gate_dst (N := 22) rfl ?_); refine Kd.R_lit (Kd.int .u8) _ 5 ?hg (N := 22) ?hd (xs := ([] : List Int)) (inner := []) (ok := fun _ => True) (okp := fun _ => True) ?hr ?hp (fun _ hk => hk) trivial (Below.refl _ _) (Nat.le_refl _) (by simp) ?_; (case hd => rfl); (case hg => rfl); (case hr => first | (go_simp; done) | (go_simp; rfl)); (case hp => exact (Reps.none _ _)); intro v2 w2 ho hb hg_ hnew_; have HSEP := Aside0.mk (sep_new (w0 := w) HA0.out ho); have HA := Aside0.mk (Kd.R_below HA0.out hb); have HO := Aside0.mk ho; have HB3 := Aside0.mk hb; clear HA0 ho hb hg_ hnew_))
    rw [← hBB] at HA HB2
    have HB2' := Aside0.mk (Below.trans HB2.out (HB3.out.mono (by rw [hBB]; exact HS1.out)))
    have HZB : Aside0 (w.heap.size < B) := ⟨by rw [hBB]; exact HZL.out⟩
    have HO2 := Aside0.mk (Kd.R_lower HO.out (base' := B) (by rw [hBB]; exact HS1.out))
    have HBS : Aside0 (B ≤ w2.heap.size) := ⟨by rw [hBB]; exact Nat.le_trans HS1.out HB3.out.size⟩
    have HRB2 : Aside0 (∀ wr, Below B wc wr → ∀ j, j < b.length → ∃ ad, Ab = some ad ∧ wr.cell? (ad.add j) = some (.int .u8 (rdN b j))) := ⟨fun wr hb j hj => by
      obtain ⟨ad, e0, hx⟩ := Kd.at_int HRc.out (j : Int) (Int.natCast_nonneg _) (Int.ofNat_lt.mpr hj)
      have hrd : rd b (j : Int) = rdN b j := by simp [rd, rdN]
      rw [hrd, Int.toNat_natCast] at hx
      exact ⟨ad, e0, (hb.cell (by rw [hBB]; exact World.block_lt_of_cell? wc _ hx)).trans hx⟩⟩
    clear HO HB2 HB3 HS1 hBB HZL HRc
    go_wp2
    go_loopw [6, 7, 8, 9] (fun v6 v7 v8 v9 wr => ∃ i : Nat, i ≤ 64 ∧ v8 = .int .i64 (i : Int) ∧ Aside0 (Kd.R (Kd.int .u8) 5 wr B (fun _ => True) v6 (padN (hmKey key) 54 i)) ∧ Aside0 (Kd.R (Kd.int .u8) 5 wr B (fun _ => True) v7 (padN (hmKey key) 92 i)) ∧ Aside0 (∀ k, v7.ownBlock = some k → v6.ownBlock ≠ some k) ∧ Aside0 (Below B wc wr) ∧ Aside0 (B ≤ wr.heap.size)) (fun _ _ i _ _ => 64 - (intOf i).toNat)
    case atStart => exact ⟨0, Nat.zero_le _, rfl, HA, HO2, HSEP, HB2', HBS⟩
    case round =>
      clear HA HO2 HSEP HB2' HBS
      obtain ⟨i, hi, rfl, HA, HO, HSEP, HB, HBS⟩ := hrel
      by_cases h9 : i < 64
      · have l4 : ((i : Int) < 64) = True := ltT h9
        have l5 : decide ((i : Int) < 64) = true := ltD h9
        have l6 : (i < 64) = True := eq_true h9
        have HL6 : Aside0 ((padN (hmKey key) 54 i).length < 140737488355328) := ⟨hmB (by rw [padN_len]; exact hi)⟩
        have HL7 : Aside0 ((padN (hmKey key) 92 i).length < 140737488355328) := ⟨hmB (by rw [padN_len]; exact hi)⟩
        have e6 := padN_succ (hmKey key) 54 i
        have e7 := padN_succ (hmKey key) 92 i
        obtain ⟨y, hy⟩ : ∃ y, y = rdN (hmKey key) i := ⟨_, rfl⟩
        rw [← hy] at e6 e7
        generalize padN (hmKey key) 54 i = x6 at HA HL6 e6
        generalize padN (hmKey key) 92 i = x7 at HO HL7 e7
        replace e6 := Aside0.mk e6
        replace e7 := Aside0.mk e7
        obtain ⟨A6, c6, ev6⟩ := Kd.R_slice HA.out
        obtain ⟨A7, c7, ev7⟩ := Kd.R_slice HO.out
        subst ev6 ev7
        by_cases hin : i < (hmKey key).length
        case' pos =>
          have m1 : ((i : Int) < (s.size : Int)) = True := by rw [HSZ.out]; exact ltT hin
          have m2 : decide ((i : Int) < (s.size : Int)) = true := by rw [HSZ.out]; exact ltD hin
          have m3 : (i < s.size) = True := by rw [HSZ.out]; exact eq_true hin
          have hbt : ∀ h : i < s.size, ((s[i]'h).toNat : Int) = y := fun h => by rw [hy, ← bt_strOf _ HKR.out i hin, hs.out, ← bt_at s (i : Int) (by simpa using h)]; rfl
          replace hy := Aside0.mk hy
          go_wp2_with (first | ((with_reducible refine gate_builtin (b := .append) (xs := #[.tmp 34, .tmp 37]) rfl ?_); at_builtin; refine Kd.R_append (Kd.int .u8) B rfl (.tmp 34) (.tmp 37) 22 5 (.int .u8 0) 1 rfl Tryd.underlying22 (by kernel_rfl) rfl (by decide) (by decide) _ (x6) (Go.bits .xor .u8 y 54) [.int .u8 (Go.bits .xor .u8 y 54)] (fun _ => True) (fun _ => False) rfl rfl ?aP (fun _ hk => hk.elim) ?aF ?aO (Below.refl _ _) ?aS ?aL ?_; (case aP => exact rfl); (case aF => exact (fun _ _ => trivial)); (case aO => exact (by (with_reducible repeat (first | apply Kd.R_alloc | apply Kd.R_drewN | apply Kd.R_drew)); exact HA.out)); (case aS => exact HBS.out); (case aL => exact shaL1 HL6.out); intro v9 w9 ho hb hg hat; have HA2 := Aside0.mk ho; have HB2 := Aside0.mk (Below.trans (by repeat (first | (with_reducible first | exact HB.out | apply below_alloc | apply pw_below_drewN | apply below_drew1) | exact HB.out)) hb); have HBS2 := Aside0.mk (Nat.le_trans HBS.out hb.size); have HO2 := Aside0.mk (R_other (by (with_reducible repeat (first | apply Kd.R_alloc | apply Kd.R_drewN | apply Kd.R_drew)); exact HO.out) hg HSEP.out); have HSEP2 := Aside0.mk (sep_after HSEP.out hat (Kd.R_lt (by (with_reducible repeat (first | apply Kd.R_alloc | apply Kd.R_drewN | apply Kd.R_drew)); exact HO.out))); clear ho hb hg hat) | ((with_reducible refine gate_builtin (b := .append) (xs := #[.tmp 39, .tmp 42]) rfl ?_); at_builtin; refine Kd.R_append (Kd.int .u8) B rfl (.tmp 39) (.tmp 42) 22 5 (.int .u8 0) 1 rfl Tryd.underlying22 (by kernel_rfl) rfl (by decide) (by decide) _ (x7) (Go.bits .xor .u8 y 92) [.int .u8 (Go.bits .xor .u8 y 92)] (fun _ => True) (fun _ => False) rfl rfl ?aP (fun _ hk => hk.elim) ?aF ?aO (Below.refl _ _) ?aS ?aL ?_; (case aP => exact rfl); (case aF => exact (fun _ _ => trivial)); (case aO => exact (by (with_reducible repeat (first | apply Kd.R_alloc | apply Kd.R_drewN | apply Kd.R_drew)); exact HO2.out)); (case aS => exact HBS2.out); (case aL => exact shaL1 HL7.out); intro v9 w9 ho hb hg hat; have HO3 := Aside0.mk ho; have HB3 := Aside0.mk (Below.trans (by repeat (first | (with_reducible first | exact HB2.out | apply below_alloc | apply pw_below_drewN | apply below_drew1) | exact HB2.out)) hb); have HBS3 := Aside0.mk (Nat.le_trans HBS2.out hb.size); have HA3 := Aside0.mk (R_other (by (with_reducible repeat (first | apply Kd.R_alloc | apply Kd.R_drewN | apply Kd.R_drew)); exact HA2.out) hg (sep_symm HSEP2.out)); have HSEP3 := Aside0.mk (sep_after (sep_symm HSEP2.out) hat (Kd.R_lt (by (with_reducible repeat (first | apply Kd.R_alloc | apply Kd.R_drewN | apply Kd.R_drew)); exact HA2.out))); clear ho hb hg hat))
        case' neg =>
          have m1 : ((i : Int) < (s.size : Int)) = False := by rw [HSZ.out]; exact ltF hin
          have m2 : decide ((i : Int) < (s.size : Int)) = false := by rw [HSZ.out]; exact ltG hin
          obtain rfl : y = 0 := by rw [hy]; exact rdN_out _ _ hin
          replace hy := Aside0.mk hy
          go_wp2_with (first | ((with_reducible refine gate_builtin (b := .append) (xs := #[.tmp 34, .tmp 37]) rfl ?_); at_builtin; refine Kd.R_append (Kd.int .u8) B rfl (.tmp 34) (.tmp 37) 22 5 (.int .u8 0) 1 rfl Tryd.underlying22 (by kernel_rfl) rfl (by decide) (by decide) _ (x6) (Go.bits .xor .u8 0 54) [.int .u8 (Go.bits .xor .u8 0 54)] (fun _ => True) (fun _ => False) rfl rfl ?aP (fun _ hk => hk.elim) ?aF ?aO (Below.refl _ _) ?aS ?aL ?_; (case aP => exact rfl); (case aF => exact (fun _ _ => trivial)); (case aO => exact (by (with_reducible repeat (first | apply Kd.R_alloc | apply Kd.R_drewN | apply Kd.R_drew)); exact HA.out)); (case aS => exact HBS.out); (case aL => exact shaL1 HL6.out); intro v9 w9 ho hb hg hat; have HA2 := Aside0.mk ho; have HB2 := Aside0.mk (Below.trans (by repeat (first | (with_reducible first | exact HB.out | apply below_alloc | apply pw_below_drewN | apply below_drew1) | exact HB.out)) hb); have HBS2 := Aside0.mk (Nat.le_trans HBS.out hb.size); have HO2 := Aside0.mk (R_other (by (with_reducible repeat (first | apply Kd.R_alloc | apply Kd.R_drewN | apply Kd.R_drew)); exact HO.out) hg HSEP.out); have HSEP2 := Aside0.mk (sep_after HSEP.out hat (Kd.R_lt (by (with_reducible repeat (first | apply Kd.R_alloc | apply Kd.R_drewN | apply Kd.R_drew)); exact HO.out))); clear ho hb hg hat) | ((with_reducible refine gate_builtin (b := .append) (xs := #[.tmp 39, .tmp 42]) rfl ?_); at_builtin; refine Kd.R_append (Kd.int .u8) B rfl (.tmp 39) (.tmp 42) 22 5 (.int .u8 0) 1 rfl Tryd.underlying22 (by kernel_rfl) rfl (by decide) (by decide) _ (x7) (Go.bits .xor .u8 0 92) [.int .u8 (Go.bits .xor .u8 0 92)] (fun _ => True) (fun _ => False) rfl rfl ?aP (fun _ hk => hk.elim) ?aF ?aO (Below.refl _ _) ?aS ?aL ?_; (case aP => exact rfl); (case aF => exact (fun _ _ => trivial)); (case aO => exact (by (with_reducible repeat (first | apply Kd.R_alloc | apply Kd.R_drewN | apply Kd.R_drew)); exact HO2.out)); (case aS => exact HBS2.out); (case aL => exact shaL1 HL7.out); intro v9 w9 ho hb hg hat; have HO3 := Aside0.mk ho; have HB3 := Aside0.mk (Below.trans (by repeat (first | (with_reducible first | exact HB2.out | apply below_alloc | apply pw_below_drewN | apply below_drew1) | exact HB2.out)) hb); have HBS3 := Aside0.mk (Nat.le_trans HBS2.out hb.size); have HA3 := Aside0.mk (R_other (by (with_reducible repeat (first | apply Kd.R_alloc | apply Kd.R_drewN | apply Kd.R_drew)); exact HA2.out) hg (sep_symm HSEP2.out)); have HSEP3 := Aside0.mk (sep_after (sep_symm HSEP2.out) hat (Kd.R_lt (by (with_reducible repeat (first | apply Kd.R_alloc | apply Kd.R_drewN | apply Kd.R_drew)); exact HA2.out))); clear ho hb hg hat))
        all_goals
          go_roundw
          case rel => exact ⟨i + 1, Nat.succ_le_of_lt h9, by go_num, ⟨by rw [e6.out]; exact HA3.out⟩, ⟨by rw [e7.out]; exact HO3.out⟩, ⟨sep_symm HSEP3.out⟩, HB3, HBS3⟩
          case measure => exact shaM1 h9
      · have l4 : ((i : Int) < 64) = False := ltF h9
        have l5 : decide ((i : Int) < 64) = false := ltG h9
        obtain rfl : i = 64 := Nat.le_antisymm hi (Nat.le_of_not_lt h9)
        rw [show ((64 : Nat) : Int) = 64 from rfl]
        clear l4 l5
        have l4 : ((64 : Int) < 64) = False := eq_false (by decide)
        have l5 : decide ((64 : Int) < 64) = false := by decide
        have HP6 := Aside0.mk (padN_len (hmKey key) 54 64)
        have HP7 := Aside0.mk (padN_len (hmKey key) 92 64)
        obtain ⟨p6, hp6⟩ : ∃ p, p = padN (hmKey key) 54 64 := ⟨_, rfl⟩
        obtain ⟨p7, hp7⟩ : ∃ p, p = padN (hmKey key) 92 64 := ⟨_, rfl⟩
        rw [← hp6] at HA HP6
        rw [← hp7] at HO HP7
        replace hp6 := Aside0.mk hp6
        replace hp7 := Aside0.mk hp7
        obtain ⟨A7, c7, ev7⟩ := Kd.R_slice HO.out
        subst ev7
        have hA0 : Aside0 (Kd.R (Kd.int .u8) 5 wr B (fun _ => True) u6 (p6 ++ b.take 0)) := ⟨by rw [List.take_zero, List.append_nil]; exact HA.out⟩
        clear HA
        go_upto_region 14 with fail
        go_wp2
        go_loopw [6, 10] (fun v6 v10 wr => ∃ j : Nat, j ≤ b.length ∧ v10 = .int .i64 (j : Int) ∧ Aside0 (Kd.R (Kd.int .u8) 5 wr B (fun _ => True) v6 (p6 ++ b.take j)) ∧ Aside0 (Kd.R (Kd.int .u8) 5 wr B (fun _ => True) (.slice A7 p7.length c7) p7) ∧ Aside0 (∀ k, (Value.slice A7 p7.length c7).ownBlock = some k → v6.ownBlock ≠ some k) ∧ Aside0 (Below B wc wr) ∧ Aside0 (B ≤ wr.heap.size)) (fun _ i _ => b.length - (intOf i).toNat)
        case atStart => exact ⟨0, Nat.zero_le _, rfl, hA0, HO, HSEP, HB, HBS⟩
        case round =>
          clear hA0 HO HSEP HB HBS
          obtain ⟨j, hj, rfl, HA, HO, HSEP, HB, HBS⟩ := hrel
          have HL6 : Aside0 ((p6 ++ b.take j).length < 140737488355328) := ⟨hmK HNB.out (by rw [List.length_append, HP6.out, List.length_take]; omega)⟩
          have HL9 : Aside0 (j = b.length → p6 ++ b.take j = p6 ++ b) := ⟨fun h => by rw [h, List.take_length]⟩
          have HLX : Aside0 (∀ (hlt : j < b.length), (p6 ++ b.take j) ++ [rdN b j] = p6 ++ b.take (j + 1)) := ⟨fun h => by rw [take_rdN b j h, List.append_assoc]⟩
          generalize p6 ++ b.take j = x6 at HA HL6 HL9 HLX
          obtain ⟨A6, c6, ev6⟩ := Kd.R_slice HA.out
          subst ev6
          by_cases hlt : j < b.length
          · have l4 : ((j : Int) < (b.length : Int)) = True := ltT hlt
            have l5 : decide ((j : Int) < (b.length : Int)) = true := ltD hlt
            have l6 : (j < b.length) = True := eq_true hlt
            have l7 := hmW hlt HNB.out
            obtain ⟨ad, ea, hx⟩ := HRB2.out wr HB.out j hlt
            subst ea
            obtain ⟨y, hy⟩ : ∃ y, y = rdN b j := ⟨_, rfl⟩
            rw [← hy] at hx
            replace hy := Aside0.mk hy
            go_wp2_with (first | ((with_reducible refine gate_builtin (b := .append) (xs := #[.tmp 50, .tmp 55]) rfl ?_); at_builtin; refine Kd.R_append (Kd.int .u8) B rfl (.tmp 50) (.tmp 55) 22 5 (.int .u8 0) 1 rfl Tryd.underlying22 (by kernel_rfl) rfl (by decide) (by decide) _ (x6) (y) [.int .u8 (y)] (fun _ => True) (fun _ => False) rfl rfl ?aP (fun _ hk => hk.elim) ?aF ?aO (Below.refl _ _) ?aS ?aL ?_; (case aP => exact rfl); (case aF => exact (fun _ _ => trivial)); (case aO => exact (by (with_reducible repeat (first | apply Kd.R_alloc | apply Kd.R_drewN | apply Kd.R_drew)); exact HA.out)); (case aS => exact HBS.out); (case aL => exact shaL1 HL6.out); intro v9 w9 ho hb hg hat; have HA2 := Aside0.mk ho; have HB2 := Aside0.mk (Below.trans (by repeat (first | (with_reducible first | exact HB.out | apply below_alloc | apply pw_below_drewN | apply below_drew1) | exact HB.out)) hb); have HBS2 := Aside0.mk (Nat.le_trans HBS.out hb.size); have HO2 := Aside0.mk (R_other (by (with_reducible repeat (first | apply Kd.R_alloc | apply Kd.R_drewN | apply Kd.R_drew)); exact HO.out) hg HSEP.out); have HSEP2 := Aside0.mk (sep_after HSEP.out hat (Kd.R_lt (by (with_reducible repeat (first | apply Kd.R_alloc | apply Kd.R_drewN | apply Kd.R_drew)); exact HO.out))); clear ho hb hg hat))
            go_roundw
            case rel => exact ⟨j + 1, Nat.succ_le_of_lt hlt, by go_num, ⟨by rw [← HLX.out hlt, ← hy.out]; exact HA2.out⟩, HO2, HSEP2, HB2, HBS2⟩
            case measure => rw [l7]; exact shaM1 hlt
          · have l4 : ((j : Int) < (b.length : Int)) = False := ltF hlt
            have l5 : decide ((j : Int) < (b.length : Int)) = false := ltG hlt
            have HX6 := Aside0.mk (HL9.out (Nat.le_antisymm hj (Nat.le_of_not_lt hlt)))
            have HN6 : Aside0 (x6.length ≤ 2097152) := ⟨hmJ HP6.out HNB.out (by rw [HX6.out, List.length_append])⟩
            obtain ⟨sv, hsv⟩ : ∃ sv, sv = sha x6 := ⟨_, rfl⟩
            have hl32 : sv.length = 32 := by rw [hsv]; exact sha_len x6
            have HL := Aside0.mk hl32
            have HSV := Aside0.mk hsv
            obtain ⟨S, hS⟩ : ∃ S, S = (sv.map (Value.int .u8)).toArray := ⟨_, rfl⟩
            have hsz : (Tryd.prog.info? 23).map (·.size) = some S.size := by rw [hS, List.size_toArray, List.length_map, hl32]; kernel_rfl
            have hold : (Array.replicate 32 (Value.int IntKind.u8 0)).size = S.size := by rw [hS]; show 32 = _; rw [List.size_toArray, List.length_map, hl32]
            have hone : S.all (·.oneCell') = true := by rw [hS]; exact oneInts .u8 sv
            replace hsz := Aside0.mk hsz
            replace hold := Aside0.mk hold
            replace hone := Aside0.mk hone
            replace hS := Aside0.mk hS
            clear hl32 hsv HL9 HLX HL6 hj hlt
            go_upto_region 19 with (first | ((with_reducible refine gate_callee (f := 7) rfl ?_); refine goesL_ (some 58) rfl rfl Tryd.func7 (by kernel_rfl) rfl #[.slice A6 x6.length c6] rfl (by (try simp only [List.map_toArray, List.map_cons, List.map_nil]); first | done | rfl) ?_; (with_reducible refine (spec_Sha256.calls _ _ x6 _ (Kd.R_reads' HA.out).2.2 (Kd.R_reads' HA.out).2.1 HN6.out).mono ?_); rintro e w14 ⟨rfl, hb⟩; refine ⟨_, rfl, ?_⟩; rw [← HSV.out, ← hS.out]; have HB4 := Aside0.mk (Below.trans HB.out (hb.mono HBS.out)); have HO4 := Aside0.mk (Kd.R_below HO.out hb); have HBS4 := Aside0.mk (Nat.le_trans HBS.out hb.size); clear HB HO HA HBS HSEP hb) | ((with_reducible refine gate_storeT (ty := 23) rfl ?_); refine wpList_store_row rfl 23 (.tmp 11) (.tmp 58) rfl w14.heap.size S rfl rfl 23 _ (blk_new w14 _) hsz.out hold.out hone.out ?_))
            have hq1 := setRow_heap (w14.alloc (Obj.cells (Array.replicate 32 (Value.int IntKind.u8 0)) 23)) w14.heap.size _ S _ _ (blk_new w14 _)
            have hs1 : w14.heap.size < ((w14.alloc (Obj.cells (Array.replicate 32 (Value.int IntKind.u8 0)) 23)).setRow w14.heap.size S).heap.size := blk_lt hq1
            have hd1 : Below w14.heap.size w14 ((w14.alloc (Obj.cells (Array.replicate 32 (Value.int IntKind.u8 0)) 23)).setRow w14.heap.size S) := xbelow_setRow (below_alloc (Below.refl _ _) _) (Nat.le_refl _) S
            refine (show ∀ W2, W2 = (w14.alloc (Obj.cells (Array.replicate 32 (Value.int IntKind.u8 0)) 23)).setRow w14.heap.size S → Code.wp _ _ _ _ W2 from fun W2 hW2 => ?_) _ rfl
            rw [← hW2] at hq1 hs1 hd1
            clear hW2
            have HG : Aside0 (ArrI .u8 W2 w14.heap.size 23 sv) := ⟨by unfold ArrI; rw [← hS.out]; exact hq1⟩
            have HB5 := Aside0.mk (Below.trans HB4.out (hd1.mono HBS4.out))
            have HO5 := Aside0.mk (Kd.R_below HO4.out hd1)
            have HBS5 := Aside0.mk (Nat.le_trans HBS4.out hd1.size)
            have HNE5 : Aside0 (∀ k, (Value.slice A7 p7.length c7).ownBlock = some k → k ≠ w14.heap.size) := ⟨fun k hk => Nat.ne_of_lt (Kd.R_lt HO4.out k hk)⟩
            have hO0 : Aside0 (Kd.R (Kd.int .u8) 5 W2 B (fun _ => True) (.slice A7 p7.length c7) (p7 ++ sv.take 0)) := ⟨by rw [List.take_zero, List.append_nil]; exact HO5.out⟩
            clear hq1 hd1 hs1 HB4 HO4 HBS4 HO5
            generalize hg2 : w14.heap.size = g2 at *
            clear hg2 w14
            go_wp2
            go_loopw [7, 12] (fun v7 v12 wr => ∃ j : Nat, j ≤ 32 ∧ v12 = .int .i64 (j : Int) ∧ Aside0 (Kd.R (Kd.int .u8) 5 wr B (fun _ => True) v7 (p7 ++ sv.take j)) ∧ Aside0 (∀ k, v7.ownBlock = some k → k ≠ g2) ∧ Aside0 (ArrI .u8 wr g2 23 sv) ∧ Aside0 (Below B wc wr) ∧ Aside0 (B ≤ wr.heap.size)) (fun _ i _ => 32 - (intOf i).toNat)
            case atStart => exact ⟨0, Nat.zero_le _, rfl, hO0, HNE5, HG, HB5, HBS5⟩
            case round =>
              clear hO0 HNE5 HG HB5 HBS5
              obtain ⟨j, hj, rfl, HA, HNE, HG, HB, HBS⟩ := hrel
              have HLX : Aside0 (∀ (hlt : j < 32), (p7 ++ sv.take j) ++ [rdN sv j] = p7 ++ sv.take (j + 1)) := ⟨fun h => by rw [take_rdN sv j (by rw [HL.out]; exact h), List.append_assoc]⟩
              have HL9 : Aside0 (j = 32 → p7 ++ sv.take j = p7 ++ sv) := ⟨fun h => by rw [h, List.take_of_length_le (by rw [HL.out]; omega)]⟩
              have HL6 : Aside0 ((p7 ++ sv.take j).length < 140737488355328) := ⟨by rw [List.length_append, HP7.out, List.length_take]; omega⟩
              generalize p7 ++ sv.take j = x7 at HA HL6 HL9 HLX
              obtain ⟨A8, c8, ev8⟩ := Kd.R_slice HA.out
              subst ev8
              by_cases hlt : j < 32
              · have l4 : ((j : Int) < 32) = True := ltT hlt
                have l5 : decide ((j : Int) < 32) = true := ltD hlt
                have l6 : (j < 32) = True := eq_true hlt
                obtain ⟨y, hy⟩ : ∃ y, y = rdN sv j := ⟨_, rfl⟩
                have hx : wr.cell? ⟨g2, j, none⟩ = some (.int .u8 y) := by rw [hy]; exact ArrI.cell HG.out j (by rw [HL.out]; exact hlt)
                replace hy := Aside0.mk hy
                go_wp2_with (first | ((with_reducible refine gate_builtin (b := .append) (xs := #[.tmp 63, .tmp 67]) rfl ?_); at_builtin; refine Kd.R_append (Kd.int .u8) B rfl (.tmp 63) (.tmp 67) 22 5 (.int .u8 0) 1 rfl Tryd.underlying22 (by kernel_rfl) rfl (by decide) (by decide) _ (x7) (y) [.int .u8 (y)] (fun _ => True) (fun _ => False) rfl rfl ?aP (fun _ hk => hk.elim) ?aF ?aO (Below.refl _ _) ?aS ?aL ?_; (case aP => exact rfl); (case aF => exact (fun _ _ => trivial)); (case aO => exact (by (with_reducible repeat (first | apply Kd.R_alloc | apply Kd.R_drewN | apply Kd.R_drew)); exact HA.out)); (case aS => exact HBS.out); (case aL => exact shaL1 HL6.out); intro v9 w9 ho hb hg hat; have HA2 := Aside0.mk ho; have HB2 := Aside0.mk (Below.trans (by repeat (first | (with_reducible first | exact HB.out | apply below_alloc | apply pw_below_drewN | apply below_drew1) | exact HB.out)) hb); have HBS2 := Aside0.mk (Nat.le_trans HBS.out hb.size); have HG2 := Aside0.mk (arr_grown (by (with_reducible repeat (first | apply ArrI.alloc | apply ArrI.drew)); exact HG.out) hg HNE.out); have HNE2 := Aside0.mk (own_ne_after HNE.out hat (ArrI.lt (by (with_reducible repeat (first | apply ArrI.alloc | apply ArrI.drew)); exact HG.out))); clear ho hb hg hat))
                go_roundw
                case rel => exact ⟨j + 1, Nat.succ_le_of_lt hlt, by go_num, ⟨by rw [← HLX.out hlt, ← hy.out]; exact HA2.out⟩, HNE2, HG2, HB2, HBS2⟩
                case measure => exact shaM1 hlt
              · have l4 : ((j : Int) < 32) = False := ltF hlt
                have l5 : decide ((j : Int) < 32) = false := ltG hlt
                have HX7 := Aside0.mk (HL9.out (Nat.le_antisymm hj (Nat.le_of_not_lt hlt)))
                have HN7 : Aside0 (x7.length ≤ 2097152) := ⟨by rw [HX7.out, List.length_append, HP7.out, HL.out]; decide⟩
                have HE : Aside0 (sha x7 = hmac key b) := ⟨by rw [HX7.out, HSV.out, HX6.out, hp6.out, hp7.out]; rfl⟩
                obtain ⟨R, hR⟩ : ∃ S, S = ((sha x7).map (Value.int .u8)).toArray := ⟨_, rfl⟩
                have hl7 := sha_len x7
                have hsz7 : (Tryd.prog.info? 23).map (·.size) = some R.size := by rw [hR, List.size_toArray, List.length_map, hl7]; kernel_rfl
                have hold7 : ((List.replicate 32 (0 : Int)).map (Value.int .u8)).toArray.size = R.size := by rw [hR]; show 32 = _; rw [List.size_toArray, List.length_map, hl7]
                have hone7 : R.all (·.oneCell') = true := by rw [hR]; exact oneInts .u8 _
                replace hsz7 := Aside0.mk hsz7
                replace hold7 := Aside0.mk hold7
                replace hone7 := Aside0.mk hone7
                replace hR := Aside0.mk hR
                clear hl7 HL9 HLX HL6 hj hlt
                go_wp2_with (first | ((with_reducible refine gate_callee (f := 7) rfl ?_); refine goesL_ (some 70) rfl rfl Tryd.func7 (by kernel_rfl) rfl #[.slice A8 x7.length c8] rfl (by (try simp only [List.map_toArray, List.map_cons, List.map_nil]); first | done | rfl) ?_; (with_reducible refine (spec_Sha256.calls _ _ x7 _ (Kd.R_reads' HA.out).2.2 (Kd.R_reads' HA.out).2.1 HN7.out).mono ?_); rintro e w20 ⟨rfl, hb⟩; refine ⟨_, rfl, ?_⟩; rw [← hR.out]; have HB6 := Aside0.mk (Below.trans HB.out (hb.mono HBS.out)); have hZr : ArrI .u8 w20 w.heap.size 23 (List.replicate 32 0) := (HB6.out.block _ HZB.out).trans HZc.out; clear hb HB) | ((with_reducible refine gate_storeT (ty := 23) rfl ?_); refine wpList_store_row rfl 23 (.tmp 4) (.tmp 70) rfl w.heap.size R rfl rfl 23 _ hZr hsz7.out hold7.out hone7.out ?_))
                have hq : (w20.setRow w.heap.size R).heap[w.heap.size]? = some (Obj.cells R 23 (0, 0)) := setRow_heap w20 w.heap.size _ _ _ _ hZr
                have hB7 := xbelow_setRow (Below.trans HBc.out (HB6.out.mono (Nat.le_of_lt HZB.out))) (Nat.le_refl _) R
                generalize w20.setRow w.heap.size R = w5 at *
                have l1 := run_loadVar_row (P := Tryd.prog) w5 w.heap.size 23 23 _ _ _ hq Tryd.underlying23 rfl hsz7.out
                exact bodyPost_cell Tryd.results12 rfl l1 rfl ⟨by rw [hR.out, HE.out], hB7⟩

end Go.Proofs.YtlopdegnpbokjaaDoor.F
namespace Go.Proofs.YtlopdegnpbokjaaDoor.F
open Go Go.Shelf Go.RowKit Go.Proofs.YtlopdegnpbokjaaDoorW.PrintWords Go.Proofs.YtlopdegnpbokjaaDoorW.PrintLast Go.Proofs.YtlopdegnpbokjaaDoorW.PrintMore
attribute [local go_sem] max2_int min2_int max_two min_two max_three min_three max_four min_four   -- for this text's walks alone
set_option linter.unusedVariables false
set_option linter.unusedSimpArgs false

/-! ### stands 2 -/
-- stands: binary.BigEndian.AppendUint64 (the shelf's contract, laid)
def app64_ren : Go.Shelf.Ren := ⟨fun | 44 => 31 | n => n, fun | 0 => 0 | 5 => 5 | 22 => 22 | 33 => 60 | 37 => 58 | 45 => 51 | n => n, fun n => n⟩
theorem app64_lays : Go.Proofs.LaysBin.n44 Tryd.prog app64_ren := {
  mixed := by kernel_rfl
  f44 := Tryd.func31.trans (congrArg some (by kernel_rfl))
  t0 := Tryd.underlying0
  a0 := Tryd.isAgg0
  z0 := Tryd.sizeOf0
  v0 := Tryd.zeroValue0
  i0 := by kernel_rfl
  t5 := Tryd.underlying5
  a5 := Tryd.isAgg5
  z5 := Tryd.sizeOf5
  v5 := Tryd.zeroValue5
  i5 := by kernel_rfl
  t22 := Tryd.underlying22
  a22 := Tryd.isAgg22
  z22 := Tryd.sizeOf22
  v22 := Tryd.zeroValue22
  i22 := by kernel_rfl
  t33 := Tryd.underlying60
  a33 := Tryd.isAgg60
  z33 := Tryd.sizeOf60
  v33 := Tryd.zeroValue60
  i33 := by kernel_rfl
  t37 := Tryd.underlying58
  a37 := Tryd.isAgg58
  z37 := Tryd.sizeOf58
  v37 := Tryd.zeroValue58
  i37 := by kernel_rfl
  t45 := Tryd.underlying51
  a45 := Tryd.isAgg51
  z45 := Tryd.sizeOf51
  v45 := Tryd.zeroValue51
  i45 := by kernel_rfl }
theorem beBytes8 (v : Nat) (n : Nat) (hv : v = 8 * n) : Lib.byteCells (Lib.beBytes 8 v) = encs (Value.int .u8) (shaLen n) := by
  subst hv
  have key : ∀ m : Nat, ((m : Nat) : Int) = (m : Int) := fun _ => rfl
  have e0 : ((8 * n % 256 : Nat) : Int) = 8 * (n : Int) % 256 := by omega
  have e1 : ((8 * n / 256 % 256 : Nat) : Int) = 8 * (n : Int) / 256 % 256 := by omega
  have e2 : ((8 * n / 256 / 256 % 256 : Nat) : Int) = 8 * (n : Int) / 65536 % 256 := by omega
  have e3 : ((8 * n / 256 / 256 / 256 % 256 : Nat) : Int) = 8 * (n : Int) / 16777216 % 256 := by omega
  have e4 : ((8 * n / 256 / 256 / 256 / 256 % 256 : Nat) : Int) = 8 * (n : Int) / 4294967296 % 256 := by omega
  have e5 : ((8 * n / 256 / 256 / 256 / 256 / 256 % 256 : Nat) : Int) = 8 * (n : Int) / 1099511627776 % 256 := by omega
  have e6 : ((8 * n / 256 / 256 / 256 / 256 / 256 / 256 % 256 : Nat) : Int) = 8 * (n : Int) / 281474976710656 % 256 := by omega
  have e7 : ((8 * n / 256 / 256 / 256 / 256 / 256 / 256 / 256 % 256 : Nat) : Int) = 8 * (n : Int) / 72057594037927936 % 256 := by omega
  have hs : shaLen n = [8 * (n : Int) / 72057594037927936 % 256, 8 * (n : Int) / 281474976710656 % 256, 8 * (n : Int) / 1099511627776 % 256, 8 * (n : Int) / 4294967296 % 256, 8 * (n : Int) / 16777216 % 256, 8 * (n : Int) / 65536 % 256, 8 * (n : Int) / 256 % 256, 8 * (n : Int) % 256] := by
    simp [shaLen, List.range, List.range.loop]
  rw [hs]
  simp only [encs, Lib.byteCells, Lib.beBytes, Lib.leBytes, List.reverse_cons, List.reverse_nil, List.nil_append, List.cons_append, List.map, Lib.toUInt8_mod, e0, e1, e2, e3, e4, e5, e6, e7]
theorem xApp64.calls (B : Nat) (l : List Int) (n : Nat) (hn : n ≤ 2097152) (sv : Value) (w : World) (hr : Kd.R (Kd.int .u8) 5 w B (fun _ => True) sv l) (hB : B ≤ w.heap.size) (hl : l.length + 8 ≤ 140737488355328) :
    Calls Tryd.prog 31 #[.agg #[], sv, .int .u64 ((8 * n : Nat) : Int)] w fun e w' => ∃ v', e = .returned v' ∧ Kd.R (Kd.int .u8) 5 w' B (fun _ => True) v' (l ++ shaLen n) ∧ Below B w w' := by
  refine (Any.binary_BE_AppendUint64 app64_lays B l.length (8 * n) (by omega) sv (encs (Value.int .u8) l) w (Kd.own_of_R hr) hB hl).mono ?_
  rintro e w' ⟨v', rfl, ho, hb⟩
  refine ⟨v', rfl, ?_, hb⟩
  rw [beBytes8 _ n rfl, ← encs_append] at ho
  have hlen : (l ++ shaLen n).length = l.length + 8 := by rw [List.length_append, shaLen_len]
  rw [← hlen] at ho
  exact Kd.R_of_own ho (fun _ _ => trivial)

end Go.Proofs.YtlopdegnpbokjaaDoor.F
namespace Go.Proofs.YtlopdegnpbokjaaDoor.F
open Go Go.Shelf Go.RowKit Go.Proofs.YtlopdegnpbokjaaDoorW.PrintWords Go.Proofs.YtlopdegnpbokjaaDoorW.PrintLast Go.Proofs.YtlopdegnpbokjaaDoorW.PrintMore
attribute [local go_sem] max2_int min2_int max_two min_two max_three min_three max_four min_four   -- for this text's walks alone
set_option linter.unusedVariables false
set_option linter.unusedSimpArgs false

/-! ### stands 4 -/
-- stands: a call of a closure that holds nothing, in a region that draws its order
theorem goesV_ {P : Program} {ops : Array Oper} {Q : Exit → Act → World → Prop} {oi : Oper} {N : Option Tmp} {a : Act} {w : World} {K : Act → World → Prop} {f : FuncId} {fn : Func} {x : Operand} {xs : Array Operand} {ts : Array TypeId} (hf : P.funcs[f]? = some fn) (hname : (fn.name == "runtime.NumGoroutine") = false) (hb : fn.body.isSome = true) (args : Array Value)
    (hw : Region.wanted oi (yielded ops a.tmps) = true) (hN : oi.dst = N) (hop : oi.op = .call { callee := .value x, args := xs, argTypes := ts }) (hx : a.eval x = .func (.func f) #[] #[]) (hargs : xs.map a.eval = args)
    (h : Calls P f args w fun e w' => ∃ v, e = .returned v ∧ K (a.put N v) w') : if Region.wanted oi (yielded ops a.tmps) = true then Oper.wp P oi a w K Q else K (a.put N undef) w := by
  refine call_ f args hw hN ?_ h
  have he := enters_ hf hname hb args w
  unfold execOp
  simp [hop, resolve, Deferred.ofValue, invoke, hx, hargs, he]

end Go.Proofs.YtlopdegnpbokjaaDoor.F
namespace Go.Proofs.YtlopdegnpbokjaaDoor.F
open Go Go.Shelf Go.RowKit Go.Proofs.YtlopdegnpbokjaaDoorW.PrintWords Go.Proofs.YtlopdegnpbokjaaDoorW.PrintLast Go.Proofs.YtlopdegnpbokjaaDoorW.PrintMore
attribute [local go_sem] max2_int min2_int max_two min_two max_three min_three max_four min_four   -- for this text's walks alone
set_option linter.unusedVariables false
set_option linter.unusedSimpArgs false

/-! ### stands 10 -/
-- stands: binary.BigEndian.PutUint32 into four cells (the shelf's contract, laid)
def put32_ren : Go.Shelf.Ren := ⟨fun | 40 => 35 | n => n, fun | 0 => 0 | 5 => 5 | 22 => 22 | 29 => 52 | 37 => 58 | 45 => 51 | n => n, fun n => n⟩
theorem put32_lays : Go.Proofs.LaysBin.n40 Tryd.prog put32_ren := {
  mixed := by kernel_rfl
  f40 := Tryd.func35.trans (congrArg some (by kernel_rfl))
  t0 := Tryd.underlying0
  a0 := Tryd.isAgg0
  z0 := Tryd.sizeOf0
  v0 := Tryd.zeroValue0
  i0 := by kernel_rfl
  t5 := Tryd.underlying5
  a5 := Tryd.isAgg5
  z5 := Tryd.sizeOf5
  v5 := Tryd.zeroValue5
  i5 := by kernel_rfl
  t22 := Tryd.underlying22
  a22 := Tryd.isAgg22
  z22 := Tryd.sizeOf22
  v22 := Tryd.zeroValue22
  i22 := by kernel_rfl
  t29 := Tryd.underlying52
  a29 := Tryd.isAgg52
  z29 := Tryd.sizeOf52
  v29 := Tryd.zeroValue52
  i29 := by kernel_rfl
  t37 := Tryd.underlying58
  a37 := Tryd.isAgg58
  z37 := Tryd.sizeOf58
  v37 := Tryd.zeroValue58
  i37 := by kernel_rfl
  t45 := Tryd.underlying51
  a45 := Tryd.isAgg51
  z45 := Tryd.sizeOf51
  v45 := Tryd.zeroValue51
  i45 := by kernel_rfl }
theorem xPut32.calls (g c : Nat) (v : Int) (h0 : 0 ≤ v) (h1 : v < 4294967296) (x0 x1 x2 x3 : Value) (w : World)
    (c0 : w.cell? ⟨g, 0, none⟩ = some x0) (c1 : w.cell? ⟨g, 1, none⟩ = some x1) (c2 : w.cell? ⟨g, 2, none⟩ = some x2) (c3 : w.cell? ⟨g, 3, none⟩ = some x3)
    (f0 : w.frozen? ⟨g, 0, none⟩ = false) (f1 : w.frozen? ⟨g, 1, none⟩ = false) (f2 : w.frozen? ⟨g, 2, none⟩ = false) (f3 : w.frozen? ⟨g, 3, none⟩ = false) (hg : g < w.heap.size) :
    Calls Tryd.prog 35 #[.agg #[], .slice (some ⟨g, 0, none⟩) 4 c, .int .u32 v] w fun e w' => e = .returned (.tuple #[]) ∧ ReadsInt w' .u8 (some ⟨g, 0, none⟩) 4 [v / 16777216, v / 65536 % 256, v / 256 % 256, v % 256] ∧ Below g w w' := by
  obtain ⟨v, rfl⟩ := Int.eq_ofNat_of_zero_le h0
  refine (Any.binary_BE_PutUint32 put32_lays g 0 4 c v (by omega) x0 x1 x2 x3 w (by decide) c0 c1 c2 c3 f0 f1 f2 f3).mono ?_
  rintro e w' ⟨rfl, rfl⟩
  have d0 := cell?_alloc_old (.cells #[] (put32_ren.t 37)) c0
  have d1 := cell?_alloc_old (.cells #[] (put32_ren.t 37)) c1
  have d2 := cell?_alloc_old (.cells #[] (put32_ren.t 37)) c2
  have d3 := cell?_alloc_old (.cells #[] (put32_ren.t 37)) c3
  have e0 : ((v % 256 : Nat) : Int) = (v : Int) % 256 := by omega
  have e1 : ((v / 256 % 256 : Nat) : Int) = (v : Int) / 256 % 256 := by omega
  have e2 : ((v / 256 / 256 % 256 : Nat) : Int) = (v : Int) / 65536 % 256 := by omega
  have e3 : ((v / 256 / 256 / 256 % 256 : Nat) : Int) = (v : Int) / 16777216 := by omega
  have hb : Lib.byteCells (Lib.beBytes 4 v) = [Value.int .u8 ((v : Int) / 16777216), Value.int .u8 ((v : Int) / 65536 % 256), Value.int .u8 ((v : Int) / 256 % 256), Value.int .u8 ((v : Int) % 256)] := by
    simp only [Lib.byteCells, Lib.beBytes, Lib.leBytes, List.reverse_cons, List.reverse_nil, List.nil_append, List.cons_append, List.map, Lib.toUInt8_mod, e0, e1, e2, e3]
  rw [hb]
  have hin := World.cell?_setCells_in g [Value.int .u8 ((v : Int) / 16777216), Value.int .u8 ((v : Int) / 65536 % 256), Value.int .u8 ((v : Int) / 256 % 256), Value.int .u8 ((v : Int) % 256)] 0 (w.alloc (.cells #[] (put32_ren.t 37))) (by
    intro j hj
    simp only [List.length_cons, List.length_nil] at hj
    rcases (show j = 0 ∨ j = 1 ∨ j = 2 ∨ j = 3 by omega) with rfl | rfl | rfl | rfl
    · rw [Nat.zero_add, d0]; rfl
    · rw [Nat.zero_add, d1]; rfl
    · rw [Nat.zero_add, d2]; rfl
    · rw [Nat.zero_add, d3]; rfl)
  refine ⟨rfl, ⟨rfl, by decide, fun _ => ⟨_, rfl, fun j hj => ?_⟩⟩, below_setCells (Nat.le_refl _) _ _ _ ((below_alloc (Below.refl w.heap.size w) _).mono (by omega))⟩
  rw [add_plain, ← Nat.zero_add j]
  rw [hin j hj]
  rcases (show j = 0 ∨ j = 1 ∨ j = 2 ∨ j = 3 by omega) with rfl | rfl | rfl | rfl <;> rfl

end Go.Proofs.YtlopdegnpbokjaaDoor.F
namespace Go.Proofs.YtlopdegnpbokjaaDoor.F
open Go Go.Shelf Go.RowKit Go.Proofs.YtlopdegnpbokjaaDoorW.PrintWords Go.Proofs.YtlopdegnpbokjaaDoorW.PrintLast Go.Proofs.YtlopdegnpbokjaaDoorW.PrintMore
attribute [local go_sem] max2_int min2_int max_two min_two max_three min_three max_four min_four   -- for this text's walks alone
set_option linter.unusedVariables false
set_option linter.unusedSimpArgs false

/-! ### stands 18 -/
-- stands: PutUint32 into a row of bytes, at a place; the sum's numbers
theorem ArrI.set4 {q : IntKind} {w : World} {g : Nat} {t : TypeId} {xs : List Int} (h : ArrI q w g t xs) (o : Nat) (a b c d : Int) :
    ArrI q (w.setCells g o [.int q a, .int q b, .int q c, .int q d]) g t ((((xs.set o a).set (o + 1) b).set (o + 2) c).set (o + 3) d) :=
  (((h.set o a).set (o + 1) b).set (o + 2) c).set (o + 3) d
theorem xPut32n.calls (g o n c : Nat) (hn : 4 ≤ n) (v : Int) (h0 : 0 ≤ v) (h1 : v < 4294967296) (t : TypeId) (xs : List Int) (w : World) (hA : ArrI .u8 w g t xs) (ho : o + 4 ≤ xs.length) :
    Calls Tryd.prog 35 #[.agg #[], .slice (some ⟨g, o, none⟩) n c, .int .u32 v] w fun e w' => e = .returned (.tuple #[]) ∧ ArrI .u8 w' g t ((((xs.set o (v / 16777216)).set (o + 1) (v / 65536 % 256)).set (o + 2) (v / 256 % 256)).set (o + 3) (v % 256)) ∧ Below g w w' := by
  obtain ⟨v, rfl⟩ := Int.eq_ofNat_of_zero_le h0
  refine (Any.binary_BE_PutUint32 put32_lays g o n c v (by omega) _ _ _ _ w hn (hA.cell o (by omega)) (hA.cell (o + 1) (by omega)) (hA.cell (o + 2) (by omega)) (hA.cell (o + 3) (by omega)) (hA.frozen o) (hA.frozen (o + 1)) (hA.frozen (o + 2)) (hA.frozen (o + 3))).mono ?_
  rintro e w' ⟨rfl, rfl⟩
  have e0 : ((v % 256 : Nat) : Int) = (v : Int) % 256 := by omega
  have e1 : ((v / 256 % 256 : Nat) : Int) = (v : Int) / 256 % 256 := by omega
  have e2 : ((v / 256 / 256 % 256 : Nat) : Int) = (v : Int) / 65536 % 256 := by omega
  have e3 : ((v / 256 / 256 / 256 % 256 : Nat) : Int) = (v : Int) / 16777216 := by omega
  have hb : Lib.byteCells (Lib.beBytes 4 v) = [Value.int .u8 ((v : Int) / 16777216), Value.int .u8 ((v : Int) / 65536 % 256), Value.int .u8 ((v : Int) / 256 % 256), Value.int .u8 ((v : Int) % 256)] := by
    simp only [Lib.byteCells, Lib.beBytes, Lib.leBytes, List.reverse_cons, List.reverse_nil, List.nil_append, List.cons_append, List.map, Lib.toUInt8_mod, e0, e1, e2, e3]
  rw [hb]
  refine ⟨rfl, ArrI.set4 (hA.alloc _) o _ _ _ _, ?_⟩
  have hlt := hA.lt
  exact below_setCells (Nat.le_refl _) _ _ _ ((below_alloc (Below.refl w.heap.size w) _).mono (by omega))
theorem addN_rng (h v : List Int) (hh : ∀ x ∈ h, 0 ≤ x ∧ x < 4294967296) : ∀ i, ∀ x ∈ addN h v i, 0 ≤ x ∧ x < 4294967296 := by
  intro i
  induction i with
  | zero => exact hh
  | succ i ih =>
    intro x hx
    rw [addN] at hx
    rcases List.mem_or_eq_of_mem_set hx with h1 | h1
    · exact ih x h1
    · rw [h1]; omega
theorem shaN_rng (t : List Int) : ∀ b, ∀ x ∈ shaN t b, 0 ≤ x ∧ x < 4294967296 := by
  intro b
  induction b with
  | zero => exact (show ∀ x ∈ shaH0, 0 ≤ x ∧ x < 4294967296 by decide)
  | succ b ih => rw [shaN]; exact addN_rng _ _ ih 8
theorem shaN_at (t : List Int) (b k : Nat) (hk : k < 8) : 0 ≤ rdN (shaN t b) k ∧ rdN (shaN t b) k < 4294967296 := by
  have hl : k < (shaN t b).length := by rw [shaN_len]; exact hk
  have : rdN (shaN t b) k = (shaN t b)[k] := by simp [rdN, List.getD_eq_getElem?_getD, hl]
  rw [this]
  exact shaN_rng t b _ (List.getElem_mem hl)
theorem outN_4 (h : List Int) (k : Nat) (h0 : 0 ≤ rdN h k) (h1 : rdN h k < 4294967296) :
    outN h (4 * (k + 1)) = ((((outN h (4 * k)).set (4 * k) (rdN h k / 16777216)).set (4 * k + 1) (rdN h k / 65536 % 256)).set (4 * k + 2) (rdN h k / 256 % 256)).set (4 * k + 3) (rdN h k % 256) := by
  have e0 : outV h (4 * k) = rdN h k / 16777216 := by
    unfold outV; rw [show 4 * k / 4 = k by omega, show 24 - 8 * (4 * k % 4) = 24 by omega]; omega
  have e1 : outV h (4 * k + 1) = rdN h k / 65536 % 256 := by
    unfold outV; rw [show (4 * k + 1) / 4 = k by omega, show 24 - 8 * ((4 * k + 1) % 4) = 16 by omega]; omega
  have e2 : outV h (4 * k + 2) = rdN h k / 256 % 256 := by
    unfold outV; rw [show (4 * k + 2) / 4 = k by omega, show 24 - 8 * ((4 * k + 2) % 4) = 8 by omega]; omega
  have e3 : outV h (4 * k + 3) = rdN h k % 256 := by
    unfold outV; rw [show (4 * k + 3) / 4 = k by omega, show 24 - 8 * ((4 * k + 3) % 4) = 0 by omega]; omega
  show outN h (4 * k + 3 + 1) = _
  rw [outN, e3, outN, e2, outN, e1, outN, e0]
theorem idx8 (h : List Int) (k : Nat) (h8 : h.length = 8) (hk : k < 8) (W : World) : (Instr.index 53 (.agg (h.map (Value.int .u32)).toArray) (.int .i64 (k : Int))).run Tryd.prog W = .ok (.int .u32 (rdN h k)) W := by
  obtain ⟨a0, a1, a2, a3, a4, a5, a6, a7, rfl⟩ := len8 h h8
  rcases (show k = 0 ∨ k = 1 ∨ k = 2 ∨ k = 3 ∨ k = 4 ∨ k = 5 ∨ k = 6 ∨ k = 7 by omega) with rfl | rfl | rfl | rfl | rfl | rfl | rfl | rfl <;> kernel_rfl
theorem built8 (a0 a1 a2 a3 a4 a5 a6 a7 : Int) : Tryd.prog.built 53 [(0, .int .u32 a0), (1, .int .u32 a1), (2, .int .u32 a2), (3, .int .u32 a3), (4, .int .u32 a4), (5, .int .u32 a5), (6, .int .u32 a6), (7, .int .u32 a7)] = some #[.int .u32 a0, .int .u32 a1, .int .u32 a2, .int .u32 a3, .int .u32 a4, .int .u32 a5, .int .u32 a6, .int .u32 a7] := by kernel_rfl

end Go.Proofs.YtlopdegnpbokjaaDoor.F
