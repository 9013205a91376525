/- Part 9 of 13 of the proof of FnExactSign: what each Go function on its way computes, that the Go code does just this, and what the law says of it. No condition beyond the statement's own. -/
import Derived.Test.YtblpeegpjjcemaaDoorMFnExactSign8
namespace Go.Proofs.YtblpeegpjjcemaaDoor.F
open Go Go.Shelf Go.RowKit Go.Proofs.YtblpeegpjjcemaaDoorW.PrintWords Go.Proofs.YtblpeegpjjcemaaDoorW.PrintLast Go.Proofs.YtblpeegpjjcemaaDoorW.PrintMore
attribute [local go_sem] max2_int min2_int max_two min_two max_three min_three max_four min_four   -- for this text's walks alone
set_option linter.unusedVariables false
set_option linter.unusedSimpArgs false

/-! ### impl_Sha256: function 8 -/
set_option maxHeartbeats 200000000 in
set_option maxRecDepth 100000 in
theorem impl_Sha256.calls (A0 : Option Addr) (c0 : Nat) (l0 : List Int) (w : World) (hr0 : Kd.C (Kd.int .u8) w A0 l0.length l0) (hc0 : l0.length ≤ c0) (hn0 : l0.length ≤ 2097152) (hG : GlobK w) :
    Calls Tryd.prog 8 #[.slice A0 l0.length c0] w fun e w' => e = .returned (.agg ((sha l0).map (Value.int .u8)).toArray) ∧ Below w.heap.size w w' := by
  have HR0 := Aside0.mk hr0
  have HN := Aside0.mk hn0
  have HG0 := Aside0.mk hG
  clear hr0 hG
  go_enter Tryd.func8, Tryd.ntmps8
  go_upto_region 1 with fail
  obtain ⟨wz, hwz⟩ : ∃ wz, wz = w.alloc (Obj.cells (Array.replicate 32 (Value.int IntKind.u8 0)) 23) := ⟨_, rfl⟩
  have hZ : ArrI .u8 wz w.heap.size 23 (List.replicate 32 0) := by rw [hwz]; exact ArrI.new w .u8 23 (List.replicate 32 0)
  have hBz : Below w.heap.size w wz := by rw [hwz]; exact below_alloc (Below.refl _ _) _
  refine (show wz = _ from hwz) ▸ ?_
  clear hwz
  go_upto_region 2 with fail
  have hA : ArrI .u32 (wz.alloc (Obj.cells (shaH0.map (Value.int .u32)).toArray 41)) wz.heap.size 41 shaH0 := ArrI.new wz .u32 41 shaH0
  have hB1 : Below wz.heap.size wz (wz.alloc (Obj.cells (shaH0.map (Value.int .u32)).toArray 41)) := below_alloc (Below.refl _ _) _
  have hs1 : wz.heap.size < (wz.alloc (Obj.cells (shaH0.map (Value.int .u32)).toArray 41)).heap.size := by show _ < (wz.heap.push _).size; rw [Array.size_push]; omega
  have hs0 : w.heap.size < wz.heap.size := hZ.lt
  refine (show ∀ W2, W2 = wz.alloc (Obj.cells (shaH0.map (Value.int .u32)).toArray 41) → Code.wp _ _ _ _ W2 from fun W2 hW2 => ?_) _ rfl
  rw [← hW2] at hA hB1 hs1
  clear hW2
  have hZ1 := hZ.below hB1
  have hBw := below_step hBz hB1
  have hCw := Kd.C_below HR0.out hBw
  have hGw := GlobK.below HG0.out hBw
  clear hZ hBz hB1
  replace hA := Aside0.mk hA
  replace hZ1 := Aside0.mk hZ1
  replace hBw := Aside0.mk hBw
  replace hCw := Aside0.mk hCw
  replace hGw := Aside0.mk hGw
  replace hs0 := Aside0.mk hs0
  replace hs1 := Aside0.mk hs1
  have HKL : Aside0 (1 < wz.heap.size) := ⟨Nat.lt_trans (GlobK.lt HG0.out) hs0.out⟩
  have HL0 : Aside0 (l0.length * 1 ≤ 140737488355328) := ⟨by have := HN.out; omega⟩
  have HLN : Aside0 (([] ++ l0).length < 140737488355328) := ⟨by have := HN.out; rw [List.nil_append]; omega⟩
  obtain ⟨B, hBB⟩ : ∃ x, x = W2.heap.size := ⟨_, rfl⟩
  go_upto_region 3 with (first | ((with_reducible refine gate_dst (N := 21) rfl ?_); refine Kd.R_lit (Kd.int .u8) _ 5 ?hg (N := 21) ?hd (xs := ([] : List Int)) (inner := []) (ok := fun _ => True) (okp := fun _ => True) ?hr ?hp (fun _ hk => hk) trivial (Below.refl _ _) (Nat.le_refl _) (by simp) ?_; (case hd => rfl); (case hg => rfl); (case hr => first | (go_simp; done) | (go_simp; rfl)); (case hp => exact (Reps.none _ _)); intro v1 w1 ho hb hg_ hnew_; have HR := Aside0.mk ho; have HB := Aside0.mk hb; have HBS := Aside0.mk hb.size; have hCC := Kd.C_below hCw.out hb; rw [← hBB] at HR HB HBS; clear ho hb hg_ hnew_) | ((with_reducible refine gate_builtin (b := .append) (xs := #[.tmp 21, .tmp 22]) rfl ?_); at_builtin; refine Kd.R_append_rows (Kd.int .u8) (w0 := w1) B rfl (.tmp 21) (.tmp 22) 22 5 (.int .u8 0) 1 rfl Tryd.underlying22 (by kernel_rfl) rfl (by decide) (by decide) _ ([] : List Int) l0 _ _ _ (fun _ => True) (fun _ => False) rfl rfl ?aO ?aR (fun _ _ h => h) (fun _ h => h.elim) ?aF ?aB ?aS ?aL ?_; (case aO => exact HR.out); (case aR => exact hCC); (case aF => exact (fun _ _ => trivial)); (case aB => exact Below.refl _ _); (case aS => exact HBS.out); (case aL => rw [List.length_nil, Nat.zero_add]; exact HL0.out); intro v2 w2 ho hb hg hat; have HR2 := Aside0.mk ho; have HB2 := Aside0.mk (HB.out.trans hb); have HBS2 := Aside0.mk (Nat.le_trans HBS.out hb.size); clear ho hb hg hat hCC) | ((with_reducible refine gate_builtin (b := .append) (xs := #[.tmp 23, .tmp 24]) rfl ?_); at_builtin; refine Kd.R_append (Kd.int .u8) B rfl (.tmp 23) (.tmp 24) 22 5 (.int .u8 0) 1 rfl Tryd.underlying22 (by kernel_rfl) rfl (by decide) (by decide) _ ([] ++ l0) (128) [.int .u8 (128)] (fun _ => True) (fun _ => False) rfl rfl ?aP (fun _ hk => hk.elim) ?aF ?aO (Below.refl _ _) ?aS ?aL ?_; (case aP => exact rfl); (case aF => exact (fun _ _ => trivial)); (case aO => exact (by (with_reducible repeat (first | apply Kd.R_alloc | apply Kd.R_drewN | apply Kd.R_drew)); exact HR2.out)); (case aS => exact HBS2.out); (case aL => exact shaL1 HLN.out); intro v9 w9 ho hb hg hat; have HR3 := Aside0.mk ho; have HB3 := Aside0.mk (Below.trans (by repeat (first | (with_reducible first | exact HB2.out | apply below_alloc | apply pw_below_drewN | apply below_drew1) | exact HB2.out)) hb); have HBS3 := Aside0.mk (Nat.le_trans HBS2.out hb.size); clear ho hb hg hat))
  have HT := Aside0.mk (show ([] ++ l0) ++ [128] = l0 ++ 128 :: List.replicate 0 0 from rfl)
  generalize ([] ++ l0) ++ [128] = t0 at HR3 HT
  clear HLN HR HR2 HB HB2 HBS HBS2
  go_wp2
  go_loopw [4] (fun v wr => ∃ (j : Nat) (t : List Int), j ≤ shaZeros l0.length ∧ Aside0 (t = l0 ++ 128 :: List.replicate j 0) ∧ Aside0 (Kd.R (Kd.int .u8) 5 wr B (fun _ => True) v t) ∧ Aside0 (Below B W2 wr) ∧ Aside0 (B ≤ wr.heap.size)) (fun v _ => 3000000 - sliceN v)
  case atStart => exact ⟨0, t0, Nat.zero_le _, HT, HR3, HB3, HBS3⟩
  case round =>
    clear HR3 HB3 HBS3 HT
    obtain ⟨j, t, hj, HT, HR, HB, HBS⟩ := hrel
    obtain ⟨At, ct, et⟩ := Kd.R_slice HR.out
    subst et
    have hz := shaZ1 l0.length
    have hlen : t.length = l0.length + 1 + j := by rw [HT.out]; simp; omega
    have HLN := Aside0.mk (show t.length < 140737488355328 by rw [hlen]; exact shaZ2 HN.out hj)
    have HLE := Aside0.mk hlen
    by_cases hm : (l0.length + 1 + j) % 64 = 56
    · obtain rfl : j = shaZeros l0.length := shaZ3 hj hm
      have l3 : ((t.length : Int) % 64 != 56) = false := bne_eq_false_iff_eq.mpr (by rw [hlen]; omega)
      have l4 : Int.tmod (t.length : Int) 64 = (t.length : Int) % 64 := Int.tmod_eq_emod_of_nonneg (Int.natCast_nonneg _)
      have l5 : IntKind.u64.wrap ((l0.length : Int) * 8) = ((8 * l0.length : Nat) : Int) := shaM8 HN.out
      have l6 : (l0.length : Int) * 8 % 18446744073709551616 = ((8 * l0.length : Nat) : Int) := shaM8 HN.out
      have l7 : IntKind.u64.wrap (l0.length : Int) = (l0.length : Int) := shaM9 HN.out
      have l8 : (l0.length : Int) % 18446744073709551616 = (l0.length : Int) := shaM9 HN.out
      have HL8' : Aside0 (t.length + 8 ≤ 140737488355328) := ⟨by rw [hlen]; exact shaZ4 HN.out hj⟩
      clear hlen hz
      go_upto_region 6 with (first | (go_at_call 21; refine (xApp64.calls B t l0.length HN.out _ _ HR.out HBS.out HL8'.out).mono ?_; rintro e wt ⟨v', rfl, hr, hb⟩; have HRu := Aside0.mk hr; have HBu := Aside0.mk (HB.out.trans hb); clear hr hb))
      have hu : t ++ shaLen l0.length = shaPad l0 := by rw [HT.out]; rfl
      rw [hu] at HRu
      obtain ⟨u, hu2⟩ : ∃ u, u = shaPad l0 := ⟨_, rfl⟩
      rw [← hu2] at HRu
      have hul : u.length % 64 = 0 := by rw [hu2]; exact shaPad_len l0
      have hup : 0 < u.length := by rw [hu2, ← hu, List.length_append, shaLen_len]; omega
      have HP := Aside0.mk hu2
      have HUN : Aside0 (u.length < 140737488355328) := ⟨by rw [hu2, ← hu, List.length_append, shaLen_len, HLE.out]; exact shaZ7 HN.out⟩
      obtain ⟨g, cu, ev, hBg, hcu⟩ : ∃ g cu, v' = .slice (some ⟨g, 0, none⟩) u.length cu ∧ B ≤ g ∧ u.length ≤ cu := by
        rcases (Kd.own_of_R HRu.out).2 with ⟨_, h0⟩ | ⟨g, cap, cur, e, hBg, _, hle, _⟩
        · exact absurd h0 (Nat.ne_of_gt hup)
        · exact ⟨g, cap, e, hBg, hle⟩
      subst ev
      have HCU : Aside0 (∀ j, j < u.length → wt.cell? ⟨g, j, none⟩ = some (.int .u8 (rdN u j))) := ⟨fun j hj => by
        obtain ⟨ad2, e2, hx⟩ := Kd.at_int (Kd.R_reads' HRu.out).2.2 (j : Int) (Int.natCast_nonneg _) (Int.ofNat_lt.mpr hj)
        cases e2
        have hrd : rd u (j : Int) = rdN u j := by simp [rd, rdN]
        rw [hrd, Int.toNat_natCast, add_plain] at hx
        exact hx⟩
      have HGL : Aside0 (g < wt.heap.size) := ⟨World.block_lt_of_cell? wt _ (HCU.out 0 hup)⟩
      have hBu' : Below W2.heap.size W2 wt := by rw [← hBB]; exact HBu.out
      have HAt : Aside0 (ArrI .u32 wt wz.heap.size 41 shaH0) := ⟨ArrI.below hA.out hBu'⟩
      have HGt : Aside0 (GlobK wt) := ⟨GlobK.below hGw.out hBu'⟩
      have HZt : Aside0 (ArrI .u8 wt w.heap.size 23 (List.replicate 32 0)) := ⟨ArrI.below hZ1.out hBu'⟩
      have HBt : Aside0 (Below w.heap.size w wt) := ⟨below_step hBw.out hBu'⟩
      have HGB : Aside0 (wz.heap.size < g) := ⟨Nat.lt_of_lt_of_le hs1.out (by rw [← hBB]; exact hBg)⟩
      have HUL := Aside0.mk hul
      clear hBu' hul hu hu2 HRu HBu hBg hBB
      go_wp2
      go_loopw [4] (fun v wx => ∃ (b q m : Nat) (h : List Int), q = 64 * b ∧ q + m = u.length ∧ Aside0 (∃ A c, v = .slice A m c ∧ m ≤ c ∧ (0 < m → A = some ⟨g, q, none⟩)) ∧ Aside0 (h = shaN u b) ∧ Aside0 (ArrI .u32 wx wz.heap.size 41 h) ∧ Aside0 (Below wz.heap.size wt wx) ∧ Aside0 (wx.heap[g]? = wt.heap[g]?)) (fun v _ => sliceN v)
      case atStart => exact ⟨0, 0, u.length, shaH0, rfl, Nat.zero_add _, ⟨_, _, rfl, hcu, fun _ => rfl⟩, ⟨rfl⟩, HAt, ⟨Below.refl _ _⟩, ⟨rfl⟩⟩
      case round =>
        clear hup hcu
        obtain ⟨b, q, m, h, hq, hqm, HV, HH, HA, HW, HGE⟩ := hrel
        obtain ⟨A, c, ev, hmc, hA0⟩ := HV.out
        subst ev
        have HL8 := Aside0.mk (show h.length = 8 by rw [HH.out]; exact shaN_len u b)
        have HQ := Aside0.mk hq
        have HQM := Aside0.mk hqm
        clear HV
        by_cases hm0 : 0 < m
        · skip
          have l1 : ((0 : Int) < (m : Int)) = True := ltT hm0
          have l2 : decide ((0 : Int) < (m : Int)) = true := ltD hm0
          have l3 : (0 < m) = True := eq_true hm0
          obtain rfl := hA0 hm0
          have h64m : 64 ≤ m := shaG1 HUL.out hq hqm hm0
          have HCR : Aside0 (∀ j, j < m → wr.cell? ⟨g, q + j, none⟩ = some (.int .u8 (rdN u (q + j)))) := ⟨fun j hj => (World.cell?_of_block HGE.out).trans (HCU.out (q + j) (by rw [← hqm]; exact Nat.add_lt_add_left hj q))⟩
          have HGR : Aside0 (g < wr.heap.size) := ⟨Nat.lt_of_lt_of_le HGL.out HW.out.size⟩
          replace h64m := Aside0.mk h64m
          replace hmc := Aside0.mk hmc
          clear hq hqm hA0
          go_upto_region 10 with fail
          have hX : ArrI .u32 (wr.alloc (Obj.cells (Array.replicate 64 (Value.int IntKind.u32 0)) 42)) wr.heap.size 42 (schedN u q 0) := by
            unfold ArrI; rw [schedN, List.map_replicate]; exact blk_new wr _
          have hB2 : Below wr.heap.size wr (wr.alloc (Obj.cells (Array.replicate 64 (Value.int IntKind.u32 0)) 42)) := below_alloc (Below.refl _ _) _
          refine (show ∀ W3, W3 = wr.alloc (Obj.cells (Array.replicate 64 (Value.int IntKind.u32 0)) 42) → Code.wp _ _ _ _ W3 from fun W3 hW3 => ?_) _ rfl
          rw [← hW3] at hX hB2
          clear hW3
          generalize wr = wo at *
          go_wp2
          go_loopw [45] (fun i wx => ∃ k : Nat, k ≤ 64 ∧ i = .int .i64 (k : Int) ∧ Aside0 (ArrI .u32 wx wo.heap.size 42 (schedN u q k)) ∧ Aside0 (Below wo.heap.size wo wx)) (fun i _ => 64 - (intOf i).toNat)
          case atStart => exact ⟨0, Nat.zero_le _, rfl, ⟨hX⟩, ⟨hB2⟩⟩
          case round =>
            clear hX hB2
            obtain ⟨k, hk, rfl, HX, HXB⟩ := hrel
            by_cases h64 : k < 64
            · have l4 : ((k : Int) < 64) = True := ltT h64
              have l5 : decide ((k : Int) < 64) = true := ltD h64
              have l6 : (k < 64) = True := eq_true h64
              have hx := ArrI.cell HX.out k (by rw [schedN_len]; exact h64)
              have hf := ArrI.frozen HX.out k
              by_cases h16 : k < 16
              · as_aux_lemma =>
                have l7 : ((k : Int) < 16) = True := ltT h16
                have l8 : decide ((k : Int) < 16) = true := ltD h16
                obtain ⟨p, m4, c4, HPQ, e1, e2, e3, e4, e5, e6, e7, e8, e9, e10, e11⟩ := shaJdx k m c h16 h64m.out hmc.out
                have z0 := (HXB.out.cell HGR.out).trans (HCR.out p HPQ.out.2.2.2.1)
                have z1 := (HXB.out.cell HGR.out).trans (HCR.out (p + 1) HPQ.out.2.2.2.2.1)
                have z2 := (HXB.out.cell HGR.out).trans (HCR.out (p + 2) HPQ.out.2.2.2.2.2.1)
                have z3 := (HXB.out.cell HGR.out).trans (HCR.out (p + 3) HPQ.out.2.2.2.2.2.2)
                go_upto_region 14 with fail
                have z0d : wr.drew.cell? _ = _ := z0
                have z1d : wr.drew.cell? _ = _ := z1
                have z2d : wr.drew.cell? _ = _ := z2
                have z3d : wr.drew.cell? _ = _ := z3
                refine start_ (n := 9) (S := fun w' => w'.cell? ⟨wo.heap.size, k, none⟩ = some (.int .u32 ((schedN u q k).getD k 0))) (ds := [8]) #[false, false, false, false, false, false, false, false, false] (by kernel_rfl) rfl rfl (hx) (fun hHeld => ?_)
                refine pure_ (i := 0) (N := some 50) (v := ?_) (a' := ?_) #[true, false, false, false, false, false, false, false, false] rfl rfl (by kernel_rfl) (fun _ _ _ h => h) (Or.inl ⟨by rfl, ?_⟩) ?_ ?_
                rotate_left
                · intro w'
                  go_simp
                  with_reducible rfl
                rotate_left
                · simp only [Act.put, List.setIfInBounds_toArray, List.set_cons_zero, List.set_cons_succ, i64_w, i32_w]
                  rfl
                refine pure_ (i := 2) (N := some 52) (v := ?_) (a' := ?_) #[true, false, true, false, false, false, false, false, false] rfl rfl (by kernel_rfl) (fun _ _ _ h => h) (Or.inl ⟨by rfl, ?_⟩) ?_ ?_
                rotate_left
                · intro w'
                  go_simp
                  with_reducible rfl
                rotate_left
                · simp only [Act.put, List.setIfInBounds_toArray, List.set_cons_zero, List.set_cons_succ, i64_w, i32_w]
                  rfl
                refine pure_ (i := 3) (N := some 53) (v := ?_) (a' := ?_) #[true, false, true, true, false, false, false, false, false] rfl rfl (by kernel_rfl) (fun _ _ _ h => h) (Or.inl ⟨by rfl, ?_⟩) ?_ ?_
                rotate_left
                · intro w'
                  go_simp
                  with_reducible rfl
                rotate_left
                · simp only [Act.put, List.setIfInBounds_toArray, List.set_cons_zero, List.set_cons_succ, i64_w, i32_w]
                  rfl
                refine pure_ (i := 4) (N := some 54) (v := ?_) (a' := ?_) #[true, false, true, true, true, false, false, false, false] rfl rfl (by kernel_rfl) (fun _ _ _ h => h) (Or.inl ⟨by rfl, ?_⟩) ?_ ?_
                rotate_left
                · intro w'
                  go_simp
                  with_reducible rfl
                rotate_left
                · simp only [Act.put, List.setIfInBounds_toArray, List.set_cons_zero, List.set_cons_succ, i64_w, i32_w]
                  rfl
                refine pure_ (i := 5) (N := some 55) (v := ?_) (a' := ?_) #[true, false, true, true, true, true, false, false, false] rfl rfl (by kernel_rfl) (fun _ _ _ h => h) (Or.inl ⟨by rfl, ?_⟩) ?_ ?_
                rotate_left
                · intro w'
                  go_simp
                  with_reducible rfl
                rotate_left
                · simp only [Act.put, List.setIfInBounds_toArray, List.set_cons_zero, List.set_cons_succ, i64_w, i32_w]
                  rfl
                refine take_ (i := 1) (N := some 51) (v := ?_) (a' := ?_) #[true, true, true, true, true, true, false, false, false] rfl rfl (by kernel_rfl) (fun _ _ _ h => h) (Or.inl ⟨by rfl, ?_⟩) hHeld ?_ ?_
                rotate_left
                · intro w' s0
                  go_simp
                  with_reducible rfl
                rotate_left
                · simp only [Act.put, List.setIfInBounds_toArray, List.set_cons_zero, List.set_cons_succ, i64_w, i32_w]
                  rfl
                refine one_ (i := 6) (N := some 56) #[true, true, true, true, true, true, true, false, false] rfl rfl (by kernel_rfl) (by decide) (fun K hK => ?_)
                refine goes_ Tryd.func24 (by kernel_rfl) rfl #[.agg #[], .slice (some ⟨g, q + p, none⟩) m4 c4] (by rfl) rfl rfl (by simp only [List.map_toArray, List.map_cons, List.map_nil]; rfl) ?_
                with_reducible refine (xUint32n.calls g (q + p) m4 c4 HPQ.out.2.2.1 _ _ _ _ wr.drew z0d z1d z2d z3d).mono ?_
                rintro e w3 ⟨rfl, hb⟩
                refine ⟨_, rfl, ?_⟩
                have hX3 := ArrI.below (show ArrI .u32 wr.drew _ _ _ from HX.out) hb
                have hf3 := ArrI.frozen hX3 k
                have hB3 := below_step (below_drew HXB.out) hb
                refine hK.out _ _ (((hb.cell (World.block_lt_of_cell? _ _ hHeld)).trans hHeld)) (fun hHeld => ?_)
                clear hK K
                refine norm_ (a' := ?_) ?_ ?_
                rotate_left
                · show Act.put _ (some 56) _ = _
                  simp only [Act.put, List.setIfInBounds_toArray, List.set_cons_zero, List.set_cons_succ, i64_w, i32_w]
                  rfl
                refine pure_ (i := 7) (N := some 57) (v := ?_) (a' := ?_) #[true, true, true, true, true, true, true, true, false] rfl rfl (by kernel_rfl) (fun _ _ _ h => h) (Or.inl ⟨by rfl, ?_⟩) ?_ ?_
                rotate_left
                · intro w'
                  go_simp
                  with_reducible rfl
                rotate_left
                · simp only [Act.put, List.setIfInBounds_toArray, List.set_cons_zero, List.set_cons_succ, i64_w, i32_w]
                  rfl
                refine last_ (i := 8) (N := none) #[true, true, true, true, true, true, true, true, true] rfl rfl (by kernel_rfl) (by decide) (fun K hK => ?_)
                refine skip_ (w1 := ?_) (by rfl) rfl ?_ ?_
                rotate_left
                · go_simp
                  rfl
                refine hK.out _ _ ?_
                clear hK K
                refine done_ (by kernel_rfl) ?_

                go_wp2
                go_roundw
                case rel =>
                  refine ⟨k + 1, Nat.succ_le_of_lt h64, by go_num, ⟨?_⟩, ⟨hB3.setCell (p := ⟨wo.heap.size, k, none⟩) (Nat.le_refl _) _⟩⟩
                  show ArrI .u32 _ _ _ ((schedN u q k).set k (schedV u q (schedN u q k) k))
                  rw [schedV, if_pos h16, ← HPQ.out.1]
                  exact ArrI.set hX3 k _
                case measure => exact shaM1 h64
              · as_aux_lemma =>
                have l7 : ((k : Int) < 16) = False := ltF h16
                have l8 : decide ((k : Int) < 16) = false := ltG h16
                obtain ⟨j15, j2, j16, j7, HJ, ⟨m1, m2, m3, m4⟩, ⟨n1, n2, n3, n4⟩, ⟨b0, b1, b2, b3⟩, d0, d1, d2, d3⟩ := shaIdy k h64 h16
                obtain ⟨y15, hy15⟩ : ∃ y, y = rdN (schedN u q k) j15 := ⟨_, rfl⟩
                have x15 : wr.cell? ⟨wo.heap.size, j15, none⟩ = some (.int .u32 y15) := by rw [hy15]; exact ArrI.cell HX.out j15 (by rw [schedN_len]; exact b0)
                replace hy15 := Aside0.mk hy15
                obtain ⟨y2, hy2⟩ : ∃ y, y = rdN (schedN u q k) j2 := ⟨_, rfl⟩
                have x2 : wr.cell? ⟨wo.heap.size, j2, none⟩ = some (.int .u32 y2) := by rw [hy2]; exact ArrI.cell HX.out j2 (by rw [schedN_len]; exact b1)
                replace hy2 := Aside0.mk hy2
                obtain ⟨y16, hy16⟩ : ∃ y, y = rdN (schedN u q k) j16 := ⟨_, rfl⟩
                have x16 : wr.cell? ⟨wo.heap.size, j16, none⟩ = some (.int .u32 y16) := by rw [hy16]; exact ArrI.cell HX.out j16 (by rw [schedN_len]; exact b2)
                replace hy16 := Aside0.mk hy16
                obtain ⟨y7, hy7⟩ : ∃ y, y = rdN (schedN u q k) j7 := ⟨_, rfl⟩
                have x7 : wr.cell? ⟨wo.heap.size, j7, none⟩ = some (.int .u32 y7) := by rw [hy7]; exact ArrI.cell HX.out j7 (by rw [schedN_len]; exact b3)
                replace hy7 := Aside0.mk hy7
                replace b0 := eq_true b0
                replace b1 := eq_true b1
                replace b2 := eq_true b2
                replace b3 := eq_true b3
                go_upto_region 15 with fail
                refine start_ (n := 10) (S := fun w' => w'.cell? ⟨wo.heap.size, j15, none⟩ = some (.int .u32 y15) ∧ w'.cell? ⟨wo.heap.size, j2, none⟩ = some (.int .u32 y2)) (ds := []) #[false, false, false, false, false, false, false, false, false, false] (by kernel_rfl) rfl rfl ⟨x15, x2⟩ (fun hHeld => ?_)
                refine pure_ (i := 0) (N := some 58) (v := ?_) (a' := ?_) #[true, false, false, false, false, false, false, false, false, false] rfl rfl (by kernel_rfl) (fun _ _ _ h => h) (Or.inl ⟨by rfl, ?_⟩) ?_ ?_
                rotate_left
                · intro w'
                  go_simp
                  with_reducible rfl
                rotate_left
                · simp only [Act.put, List.setIfInBounds_toArray, List.set_cons_zero, List.set_cons_succ, i64_w, i32_w]
                  rfl
                refine pure_ (i := 1) (N := some 59) (v := ?_) (a' := ?_) #[true, true, false, false, false, false, false, false, false, false] rfl rfl (by kernel_rfl) (fun _ _ _ h => h) (Or.inl ⟨by rfl, ?_⟩) ?_ ?_
                rotate_left
                · intro w'
                  go_simp
                  with_reducible rfl
                rotate_left
                · simp only [Act.put, List.setIfInBounds_toArray, List.set_cons_zero, List.set_cons_succ, i64_w, i32_w]
                  rfl
                refine pure_ (i := 2) (N := some 60) (v := ?_) (a' := ?_) #[true, true, true, false, false, false, false, false, false, false] rfl rfl (by kernel_rfl) (fun _ _ _ h => h) (Or.inl ⟨by rfl, ?_⟩) ?_ ?_
                rotate_left
                · intro w'
                  go_simp
                  with_reducible rfl
                rotate_left
                · simp only [Act.put, List.setIfInBounds_toArray, List.set_cons_zero, List.set_cons_succ, i64_w, i32_w]
                  rfl
                refine pure_ (i := 4) (N := some 62) (v := ?_) (a' := ?_) #[true, true, true, false, true, false, false, false, false, false] rfl rfl (by kernel_rfl) (fun _ _ _ h => h) (Or.inl ⟨by rfl, ?_⟩) ?_ ?_
                rotate_left
                · intro w'
                  go_simp
                  with_reducible rfl
                rotate_left
                · simp only [Act.put, List.setIfInBounds_toArray, List.set_cons_zero, List.set_cons_succ, i64_w, i32_w]
                  rfl
                refine pure_ (i := 5) (N := some 63) (v := ?_) (a' := ?_) #[true, true, true, false, true, true, false, false, false, false] rfl rfl (by kernel_rfl) (fun _ _ _ h => h) (Or.inl ⟨by rfl, ?_⟩) ?_ ?_
                rotate_left
                · intro w'
                  go_simp
                  with_reducible rfl
                rotate_left
                · simp only [Act.put, List.setIfInBounds_toArray, List.set_cons_zero, List.set_cons_succ, i64_w, i32_w]
                  rfl
                refine pure_ (i := 6) (N := some 64) (v := ?_) (a' := ?_) #[true, true, true, false, true, true, true, false, false, false] rfl rfl (by kernel_rfl) (fun _ _ _ h => h) (Or.inl ⟨by rfl, ?_⟩) ?_ ?_
                rotate_left
                · intro w'
                  go_simp
                  with_reducible rfl
                rotate_left
                · simp only [Act.put, List.setIfInBounds_toArray, List.set_cons_zero, List.set_cons_succ, i64_w, i32_w]
                  rfl
                refine take_ (i := 3) (N := some 61) (v := ?_) (a' := ?_) #[true, true, true, true, true, true, true, false, false, false] rfl rfl (by kernel_rfl) (fun _ _ _ h => h) (Or.inl ⟨by rfl, ?_⟩) hHeld ?_ ?_
                rotate_left
                · rintro w' ⟨s0, s1⟩
                  go_simp
                  with_reducible rfl
                rotate_left
                · simp only [Act.put, List.setIfInBounds_toArray, List.set_cons_zero, List.set_cons_succ, i64_w, i32_w]
                  rfl
                refine pure_ (i := 8) (N := some 8) (v := ?_) (a' := ?_) #[true, true, true, true, true, true, true, false, true, false] rfl rfl (by kernel_rfl) (fun _ _ _ h => h) (Or.inl ⟨by rfl, ?_⟩) ?_ ?_
                rotate_left
                · intro w'
                  go_simp
                  with_reducible rfl
                rotate_left
                · simp only [Act.put, List.setIfInBounds_toArray, List.set_cons_zero, List.set_cons_succ, i64_w, i32_w]
                  rfl
                refine take_ (i := 7) (N := some 65) (v := ?_) (a' := ?_) #[true, true, true, true, true, true, true, true, true, false] rfl rfl (by kernel_rfl) (fun _ _ _ h => h) (Or.inl ⟨by rfl, ?_⟩) hHeld ?_ ?_
                rotate_left
                · rintro w' ⟨s0, s1⟩
                  go_simp
                  with_reducible rfl
                rotate_left
                · simp only [Act.put, List.setIfInBounds_toArray, List.set_cons_zero, List.set_cons_succ, i64_w, i32_w]
                  rfl
                refine pure_ (i := 9) (N := some 9) (v := ?_) (a' := ?_) #[true, true, true, true, true, true, true, true, true, true] rfl rfl (by kernel_rfl) (fun _ _ _ h => h) (Or.inl ⟨by rfl, ?_⟩) ?_ ?_
                rotate_left
                · intro w'
                  go_simp
                  with_reducible rfl
                rotate_left
                · simp only [Act.put, List.setIfInBounds_toArray, List.set_cons_zero, List.set_cons_succ, i64_w, i32_w]
                  rfl
                refine done_ (by kernel_rfl) ?_

                go_upto_region 16 with fail
                refine start_ (n := 34) (S := fun w' => w'.cell? ⟨wo.heap.size, j16, none⟩ = some (.int .u32 y16) ∧ w'.cell? ⟨wo.heap.size, j7, none⟩ = some (.int .u32 y7) ∧ w'.cell? ⟨wo.heap.size, k, none⟩ = some (.int .u32 ((schedN u q k).getD k 0))) (ds := [33]) #[false, false, false, false, false, false, false, false, false, false, false, false, false, false, false, false, false, false, false, false, false, false, false, false, false, false, false, false, false, false, false, false, false, false] (by kernel_rfl) rfl rfl ⟨x16, x7, hx⟩ (fun hHeld => ?_)
                refine pure_ (i := 0) (N := some 66) (v := ?_) (a' := ?_) #[true, false, false, false, false, false, false, false, false, false, false, false, false, false, false, false, false, false, false, false, false, false, false, false, false, false, false, false, false, false, false, false, false, false] rfl rfl (by kernel_rfl) (fun _ _ _ h => h) (Or.inl ⟨by rfl, ?_⟩) ?_ ?_
                rotate_left
                · intro w'
                  go_simp
                  with_reducible rfl
                rotate_left
                · simp only [Act.put, List.setIfInBounds_toArray, List.set_cons_zero, List.set_cons_succ, i64_w, i32_w]
                  rfl
                refine pure_ (i := 1) (N := some 67) (v := ?_) (a' := ?_) #[true, true, false, false, false, false, false, false, false, false, false, false, false, false, false, false, false, false, false, false, false, false, false, false, false, false, false, false, false, false, false, false, false, false] rfl rfl (by kernel_rfl) (fun _ _ _ h => h) (Or.inl ⟨by rfl, ?_⟩) ?_ ?_
                rotate_left
                · intro w'
                  go_simp
                  with_reducible rfl
                rotate_left
                · simp only [Act.put, List.setIfInBounds_toArray, List.set_cons_zero, List.set_cons_succ, i64_w, i32_w]
                  rfl
                refine pure_ (i := 2) (N := some 68) (v := ?_) (a' := ?_) #[true, true, true, false, false, false, false, false, false, false, false, false, false, false, false, false, false, false, false, false, false, false, false, false, false, false, false, false, false, false, false, false, false, false] rfl rfl (by kernel_rfl) (fun _ _ _ h => h) (Or.inl ⟨by rfl, ?_⟩) ?_ ?_
                rotate_left
                · intro w'
                  go_simp
                  with_reducible rfl
                rotate_left
                · simp only [Act.put, List.setIfInBounds_toArray, List.set_cons_zero, List.set_cons_succ, i64_w, i32_w]
                  rfl
                refine pure_ (i := 3) (N := some 69) (v := ?_) (a' := ?_) #[true, true, true, true, false, false, false, false, false, false, false, false, false, false, false, false, false, false, false, false, false, false, false, false, false, false, false, false, false, false, false, false, false, false] rfl rfl (by kernel_rfl) (fun _ _ _ h => h) (Or.inl ⟨by rfl, ?_⟩) ?_ ?_
                rotate_left
                · intro w'
                  go_simp
                  with_reducible rfl
                rotate_left
                · simp only [Act.put, List.setIfInBounds_toArray, List.set_cons_zero, List.set_cons_succ, i64_w, i32_w]
                  rfl
                refine pure_ (i := 5) (N := some 71) (v := ?_) (a' := ?_) #[true, true, true, true, false, true, false, false, false, false, false, false, false, false, false, false, false, false, false, false, false, false, false, false, false, false, false, false, false, false, false, false, false, false] rfl rfl (by kernel_rfl) (fun _ _ _ h => h) (Or.inl ⟨by rfl, ?_⟩) ?_ ?_
                rotate_left
                · intro w'
                  go_simp
                  with_reducible rfl
                rotate_left
                · simp only [Act.put, List.setIfInBounds_toArray, List.set_cons_zero, List.set_cons_succ, i64_w, i32_w]
                  rfl
                refine pure_ (i := 6) (N := some 72) (v := ?_) (a' := ?_) #[true, true, true, true, false, true, true, false, false, false, false, false, false, false, false, false, false, false, false, false, false, false, false, false, false, false, false, false, false, false, false, false, false, false] rfl rfl (by kernel_rfl) (fun _ _ _ h => h) (Or.inl ⟨by rfl, ?_⟩) ?_ ?_
                rotate_left
                · intro w'
                  go_simp
                  with_reducible rfl
                rotate_left
                · simp only [Act.put, List.setIfInBounds_toArray, List.set_cons_zero, List.set_cons_succ, i64_w, i32_w]
                  rfl
                refine pure_ (i := 8) (N := some 74) (v := ?_) (a' := ?_) #[true, true, true, true, false, true, true, false, true, false, false, false, false, false, false, false, false, false, false, false, false, false, false, false, false, false, false, false, false, false, false, false, false, false] rfl rfl (by kernel_rfl) (fun _ _ _ h => h) (Or.inl ⟨by rfl, ?_⟩) ?_ ?_
                rotate_left
                · intro w'
                  go_simp
                  with_reducible rfl
                rotate_left
                · simp only [Act.put, List.setIfInBounds_toArray, List.set_cons_zero, List.set_cons_succ, i64_w, i32_w]
                  rfl
                refine pure_ (i := 9) (N := some 75) (v := ?_) (a' := ?_) #[true, true, true, true, false, true, true, false, true, true, false, false, false, false, false, false, false, false, false, false, false, false, false, false, false, false, false, false, false, false, false, false, false, false] rfl rfl (by kernel_rfl) (fun _ _ _ h => h) (Or.inl ⟨by rfl, ?_⟩) ?_ ?_
                rotate_left
                · intro w'
                  go_simp
                  with_reducible rfl
                rotate_left
                · simp only [Act.put, List.setIfInBounds_toArray, List.set_cons_zero, List.set_cons_succ, i64_w, i32_w]
                  rfl
                refine pure_ (i := 12) (N := some 78) (v := ?_) (a' := ?_) #[true, true, true, true, false, true, true, false, true, true, false, false, true, false, false, false, false, false, false, false, false, false, false, false, false, false, false, false, false, false, false, false, false, false] rfl rfl (by kernel_rfl) (fun _ _ _ h => h) (Or.inl ⟨by rfl, ?_⟩) ?_ ?_
                rotate_left
                · intro w'
                  go_simp
                  with_reducible rfl
                rotate_left
                · simp only [Act.put, List.setIfInBounds_toArray, List.set_cons_zero, List.set_cons_succ, i64_w, i32_w]
                  rfl
                refine pure_ (i := 13) (N := some 79) (v := ?_) (a' := ?_) #[true, true, true, true, false, true, true, false, true, true, false, false, true, true, false, false, false, false, false, false, false, false, false, false, false, false, false, false, false, false, false, false, false, false] rfl rfl (by kernel_rfl) (fun _ _ _ h => h) (Or.inl ⟨by rfl, ?_⟩) ?_ ?_
                rotate_left
                · intro w'
                  go_simp
                  with_reducible rfl
                rotate_left
                · simp only [Act.put, List.setIfInBounds_toArray, List.set_cons_zero, List.set_cons_succ, i64_w, i32_w]
                  rfl
                refine pure_ (i := 16) (N := some 82) (v := ?_) (a' := ?_) #[true, true, true, true, false, true, true, false, true, true, false, false, true, true, false, false, true, false, false, false, false, false, false, false, false, false, false, false, false, false, false, false, false, false] rfl rfl (by kernel_rfl) (fun _ _ _ h => h) (Or.inl ⟨by rfl, ?_⟩) ?_ ?_
                rotate_left
                · intro w'
                  go_simp
                  with_reducible rfl
                rotate_left
                · simp only [Act.put, List.setIfInBounds_toArray, List.set_cons_zero, List.set_cons_succ, i64_w, i32_w]
                  rfl
                refine pure_ (i := 17) (N := some 83) (v := ?_) (a' := ?_) #[true, true, true, true, false, true, true, false, true, true, false, false, true, true, false, false, true, true, false, false, false, false, false, false, false, false, false, false, false, false, false, false, false, false] rfl rfl (by kernel_rfl) (fun _ _ _ h => h) (Or.inl ⟨by rfl, ?_⟩) ?_ ?_
                rotate_left
                · intro w'
                  go_simp
                  with_reducible rfl
                rotate_left
                · simp only [Act.put, List.setIfInBounds_toArray, List.set_cons_zero, List.set_cons_succ, i64_w, i32_w]
                  rfl
                refine pure_ (i := 18) (N := some 84) (v := ?_) (a' := ?_) #[true, true, true, true, false, true, true, false, true, true, false, false, true, true, false, false, true, true, true, false, false, false, false, false, false, false, false, false, false, false, false, false, false, false] rfl rfl (by kernel_rfl) (fun _ _ _ h => h) (Or.inl ⟨by rfl, ?_⟩) ?_ ?_
                rotate_left
                · intro w'
                  go_simp
                  with_reducible rfl
                rotate_left
                · simp only [Act.put, List.setIfInBounds_toArray, List.set_cons_zero, List.set_cons_succ, i64_w, i32_w]
                  rfl
                refine pure_ (i := 21) (N := some 87) (v := ?_) (a' := ?_) #[true, true, true, true, false, true, true, false, true, true, false, false, true, true, false, false, true, true, true, false, false, true, false, false, false, false, false, false, false, false, false, false, false, false] rfl rfl (by kernel_rfl) (fun _ _ _ h => h) (Or.inl ⟨by rfl, ?_⟩) ?_ ?_
                rotate_left
                · intro w'
                  go_simp
                  with_reducible rfl
                rotate_left
                · simp only [Act.put, List.setIfInBounds_toArray, List.set_cons_zero, List.set_cons_succ, i64_w, i32_w]
                  rfl
                refine pure_ (i := 22) (N := some 88) (v := ?_) (a' := ?_) #[true, true, true, true, false, true, true, false, true, true, false, false, true, true, false, false, true, true, true, false, false, true, true, false, false, false, false, false, false, false, false, false, false, false] rfl rfl (by kernel_rfl) (fun _ _ _ h => h) (Or.inl ⟨by rfl, ?_⟩) ?_ ?_
                rotate_left
                · intro w'
                  go_simp
                  with_reducible rfl
                rotate_left
                · simp only [Act.put, List.setIfInBounds_toArray, List.set_cons_zero, List.set_cons_succ, i64_w, i32_w]
                  rfl
                refine pure_ (i := 24) (N := some 90) (v := ?_) (a' := ?_) #[true, true, true, true, false, true, true, false, true, true, false, false, true, true, false, false, true, true, true, false, false, true, true, false, true, false, false, false, false, false, false, false, false, false] rfl rfl (by kernel_rfl) (fun _ _ _ h => h) (Or.inl ⟨by rfl, ?_⟩) ?_ ?_
                rotate_left
                · intro w'
                  go_simp
                  with_reducible rfl
                rotate_left
                · simp only [Act.put, List.setIfInBounds_toArray, List.set_cons_zero, List.set_cons_succ, i64_w, i32_w]
                  rfl
                refine pure_ (i := 25) (N := some 91) (v := ?_) (a' := ?_) #[true, true, true, true, false, true, true, false, true, true, false, false, true, true, false, false, true, true, true, false, false, true, true, false, true, true, false, false, false, false, false, false, false, false] rfl rfl (by kernel_rfl) (fun _ _ _ h => h) (Or.inl ⟨by rfl, ?_⟩) ?_ ?_
                rotate_left
                · intro w'
                  go_simp
                  with_reducible rfl
                rotate_left
                · simp only [Act.put, List.setIfInBounds_toArray, List.set_cons_zero, List.set_cons_succ, i64_w, i32_w]
                  rfl
                refine pure_ (i := 28) (N := some 94) (v := ?_) (a' := ?_) #[true, true, true, true, false, true, true, false, true, true, false, false, true, true, false, false, true, true, true, false, false, true, true, false, true, true, false, false, true, false, false, false, false, false] rfl rfl (by kernel_rfl) (fun _ _ _ h => h) (Or.inl ⟨by rfl, ?_⟩) ?_ ?_
                rotate_left
                · intro w'
                  go_simp
                  with_reducible rfl
                rotate_left
                · simp only [Act.put, List.setIfInBounds_toArray, List.set_cons_zero, List.set_cons_succ, i64_w, i32_w]
                  rfl
                refine pure_ (i := 29) (N := some 95) (v := ?_) (a' := ?_) #[true, true, true, true, false, true, true, false, true, true, false, false, true, true, false, false, true, true, true, false, false, true, true, false, true, true, false, false, true, true, false, false, false, false] rfl rfl (by kernel_rfl) (fun _ _ _ h => h) (Or.inl ⟨by rfl, ?_⟩) ?_ ?_
                rotate_left
                · intro w'
                  go_simp
                  with_reducible rfl
                rotate_left
                · simp only [Act.put, List.setIfInBounds_toArray, List.set_cons_zero, List.set_cons_succ, i64_w, i32_w]
                  rfl
                refine take_ (i := 4) (N := some 70) (v := ?_) (a' := ?_) #[true, true, true, true, true, true, true, false, true, true, false, false, true, true, false, false, true, true, true, false, false, true, true, false, true, true, false, false, true, true, false, false, false, false] rfl rfl (by kernel_rfl) (fun _ _ _ h => h) (Or.inl ⟨by rfl, ?_⟩) hHeld ?_ ?_
                rotate_left
                · rintro w' ⟨s0, s1, s2⟩
                  go_simp
                  with_reducible rfl
                rotate_left
                · simp only [Act.put, List.setIfInBounds_toArray, List.set_cons_zero, List.set_cons_succ, i64_w, i32_w]
                  rfl
                refine take_ (i := 19) (N := some 85) (v := ?_) (a' := ?_) #[true, true, true, true, true, true, true, false, true, true, false, false, true, true, false, false, true, true, true, true, false, true, true, false, true, true, false, false, true, true, false, false, false, false] rfl rfl (by kernel_rfl) (fun _ _ _ h => h) (Or.inl ⟨by rfl, ?_⟩) hHeld ?_ ?_
                rotate_left
                · rintro w' ⟨s0, s1, s2⟩
                  go_simp
                  with_reducible rfl
                rotate_left
                · simp only [Act.put, List.setIfInBounds_toArray, List.set_cons_zero, List.set_cons_succ, i64_w, i32_w]
                  rfl
                refine one_ (i := 7) (N := some 73) #[true, true, true, true, true, true, true, true, true, true, false, false, true, true, false, false, true, true, true, true, false, true, true, false, true, true, false, false, true, true, false, false, false, false] rfl rfl (by kernel_rfl) (by decide) (fun K hK => ?_)
                refine goesV_ Tryd.func22 (by kernel_rfl) rfl #[.int .u32 y15, .int .i64 7] (by rfl) rfl rfl rfl (by simp only [List.map_toArray, List.map_cons, List.map_nil]; rfl) ?_
                with_reducible refine (xTurnI.calls y15 7 7 (by decide) _).mono ?_
                rintro e w3 ⟨rfl, rfl⟩
                refine ⟨_, rfl, ?_⟩
                refine hK.out _ _ ⟨hHeld.1, hHeld.2.1, hHeld.2.2⟩ (fun hHeld => ?_)
                clear hK K
                refine norm_ (a' := ?_) ?_ ?_
                rotate_left
                · show Act.put _ (some 73) _ = _
                  simp only [Act.put, List.setIfInBounds_toArray, List.set_cons_zero, List.set_cons_succ, i64_w, i32_w]
                  rfl
                refine one_ (i := 10) (N := some 76) #[true, true, true, true, true, true, true, true, true, true, true, false, true, true, false, false, true, true, true, true, false, true, true, false, true, true, false, false, true, true, false, false, false, false] rfl rfl (by kernel_rfl) (by decide) (fun K hK => ?_)
                refine goesV_ Tryd.func22 (by kernel_rfl) rfl #[.int .u32 y15, .int .i64 18] (by rfl) rfl rfl rfl (by simp only [List.map_toArray, List.map_cons, List.map_nil]; rfl) ?_
                with_reducible refine (xTurnI.calls y15 18 18 (by decide) _).mono ?_
                rintro e w3 ⟨rfl, rfl⟩
                refine ⟨_, rfl, ?_⟩
                refine hK.out _ _ ⟨hHeld.1, hHeld.2.1, hHeld.2.2⟩ (fun hHeld => ?_)
                clear hK K
                refine norm_ (a' := ?_) ?_ ?_
                rotate_left
                · show Act.put _ (some 76) _ = _
                  simp only [Act.put, List.setIfInBounds_toArray, List.set_cons_zero, List.set_cons_succ, i64_w, i32_w]
                  rfl
                refine pure_ (i := 11) (N := some 77) (v := ?_) (a' := ?_) #[true, true, true, true, true, true, true, true, true, true, true, true, true, true, false, false, true, true, true, true, false, true, true, false, true, true, false, false, true, true, false, false, false, false] rfl rfl (by kernel_rfl) (fun _ _ _ h => h) (Or.inl ⟨by rfl, ?_⟩) ?_ ?_
                rotate_left
                · intro w'
                  go_simp
                  with_reducible rfl
                rotate_left
                · simp only [Act.put, List.setIfInBounds_toArray, List.set_cons_zero, List.set_cons_succ, i64_w, i32_w]
                  rfl
                refine pure_ (i := 14) (N := some 80) (v := ?_) (a' := ?_) #[true, true, true, true, true, true, true, true, true, true, true, true, true, true, true, false, true, true, true, true, false, true, true, false, true, true, false, false, true, true, false, false, false, false] rfl rfl (by kernel_rfl) (fun _ _ _ h => h) (Or.inl ⟨by rfl, ?_⟩) ?_ ?_
                rotate_left
                · intro w'
                  go_simp
                  with_reducible rfl
                rotate_left
                · simp only [Act.put, List.setIfInBounds_toArray, List.set_cons_zero, List.set_cons_succ, i64_w, i32_w]
                  rfl
                refine pure_ (i := 15) (N := some 81) (v := ?_) (a' := ?_) #[true, true, true, true, true, true, true, true, true, true, true, true, true, true, true, true, true, true, true, true, false, true, true, false, true, true, false, false, true, true, false, false, false, false] rfl rfl (by kernel_rfl) (fun _ _ _ h => h) (Or.inl ⟨by rfl, ?_⟩) ?_ ?_
                rotate_left
                · intro w'
                  go_simp
                  with_reducible rfl
                rotate_left
                · simp only [Act.put, List.setIfInBounds_toArray, List.set_cons_zero, List.set_cons_succ, i64_w, i32_w]
                  rfl
                refine pure_ (i := 20) (N := some 86) (v := ?_) (a' := ?_) #[true, true, true, true, true, true, true, true, true, true, true, true, true, true, true, true, true, true, true, true, true, true, true, false, true, true, false, false, true, true, false, false, false, false] rfl rfl (by kernel_rfl) (fun _ _ _ h => h) (Or.inl ⟨by rfl, ?_⟩) ?_ ?_
                rotate_left
                · intro w'
                  go_simp
                  with_reducible rfl
                rotate_left
                · simp only [Act.put, List.setIfInBounds_toArray, List.set_cons_zero, List.set_cons_succ, i64_w, i32_w]
                  rfl
                refine one_ (i := 23) (N := some 89) #[true, true, true, true, true, true, true, true, true, true, true, true, true, true, true, true, true, true, true, true, true, true, true, true, true, true, false, false, true, true, false, false, false, false] rfl rfl (by kernel_rfl) (by decide) (fun K hK => ?_)
                refine goesV_ Tryd.func22 (by kernel_rfl) rfl #[.int .u32 y2, .int .i64 17] (by rfl) rfl rfl rfl (by simp only [List.map_toArray, List.map_cons, List.map_nil]; rfl) ?_
                with_reducible refine (xTurnI.calls y2 17 17 (by decide) _).mono ?_
                rintro e w3 ⟨rfl, rfl⟩
                refine ⟨_, rfl, ?_⟩
                refine hK.out _ _ ⟨hHeld.1, hHeld.2.1, hHeld.2.2⟩ (fun hHeld => ?_)
                clear hK K
                refine norm_ (a' := ?_) ?_ ?_
                rotate_left
                · show Act.put _ (some 89) _ = _
                  simp only [Act.put, List.setIfInBounds_toArray, List.set_cons_zero, List.set_cons_succ, i64_w, i32_w]
                  rfl
                refine one_ (i := 26) (N := some 92) #[true, true, true, true, true, true, true, true, true, true, true, true, true, true, true, true, true, true, true, true, true, true, true, true, true, true, true, false, true, true, false, false, false, false] rfl rfl (by kernel_rfl) (by decide) (fun K hK => ?_)
                refine goesV_ Tryd.func22 (by kernel_rfl) rfl #[.int .u32 y2, .int .i64 19] (by rfl) rfl rfl rfl (by simp only [List.map_toArray, List.map_cons, List.map_nil]; rfl) ?_
                with_reducible refine (xTurnI.calls y2 19 19 (by decide) _).mono ?_
                rintro e w3 ⟨rfl, rfl⟩
                refine ⟨_, rfl, ?_⟩
                refine hK.out _ _ ⟨hHeld.1, hHeld.2.1, hHeld.2.2⟩ (fun hHeld => ?_)
                clear hK K
                refine norm_ (a' := ?_) ?_ ?_
                rotate_left
                · show Act.put _ (some 92) _ = _
                  simp only [Act.put, List.setIfInBounds_toArray, List.set_cons_zero, List.set_cons_succ, i64_w, i32_w]
                  rfl
                refine pure_ (i := 27) (N := some 93) (v := ?_) (a' := ?_) #[true, true, true, true, true, true, true, true, true, true, true, true, true, true, true, true, true, true, true, true, true, true, true, true, true, true, true, true, true, true, false, false, false, false] rfl rfl (by kernel_rfl) (fun _ _ _ h => h) (Or.inl ⟨by rfl, ?_⟩) ?_ ?_
                rotate_left
                · intro w'
                  go_simp
                  with_reducible rfl
                rotate_left
                · simp only [Act.put, List.setIfInBounds_toArray, List.set_cons_zero, List.set_cons_succ, i64_w, i32_w]
                  rfl
                refine pure_ (i := 30) (N := some 96) (v := ?_) (a' := ?_) #[true, true, true, true, true, true, true, true, true, true, true, true, true, true, true, true, true, true, true, true, true, true, true, true, true, true, true, true, true, true, true, false, false, false] rfl rfl (by kernel_rfl) (fun _ _ _ h => h) (Or.inl ⟨by rfl, ?_⟩) ?_ ?_
                rotate_left
                · intro w'
                  go_simp
                  with_reducible rfl
                rotate_left
                · simp only [Act.put, List.setIfInBounds_toArray, List.set_cons_zero, List.set_cons_succ, i64_w, i32_w]
                  rfl
                refine pure_ (i := 31) (N := some 97) (v := ?_) (a' := ?_) #[true, true, true, true, true, true, true, true, true, true, true, true, true, true, true, true, true, true, true, true, true, true, true, true, true, true, true, true, true, true, true, true, false, false] rfl rfl (by kernel_rfl) (fun _ _ _ h => h) (Or.inl ⟨by rfl, ?_⟩) ?_ ?_
                rotate_left
                · intro w'
                  go_simp
                  with_reducible rfl
                rotate_left
                · simp only [Act.put, List.setIfInBounds_toArray, List.set_cons_zero, List.set_cons_succ, i64_w, i32_w]
                  rfl
                refine pure_ (i := 32) (N := some 98) (v := ?_) (a' := ?_) #[true, true, true, true, true, true, true, true, true, true, true, true, true, true, true, true, true, true, true, true, true, true, true, true, true, true, true, true, true, true, true, true, true, false] rfl rfl (by kernel_rfl) (fun _ _ _ h => h) (Or.inl ⟨by rfl, ?_⟩) ?_ ?_
                rotate_left
                · intro w'
                  go_simp
                  with_reducible rfl
                rotate_left
                · simp only [Act.put, List.setIfInBounds_toArray, List.set_cons_zero, List.set_cons_succ, i64_w, i32_w]
                  rfl
                refine last_ (i := 33) (N := none) #[true, true, true, true, true, true, true, true, true, true, true, true, true, true, true, true, true, true, true, true, true, true, true, true, true, true, true, true, true, true, true, true, true, true] rfl rfl (by kernel_rfl) (by decide) (fun K hK => ?_)
                refine skip_ (w1 := ?_) (by rfl) rfl ?_ ?_
                rotate_left
                · go_simp
                  rfl
                refine hK.out _ _ ?_
                clear hK K
                refine done_ (by kernel_rfl) ?_

                go_wp2
                go_roundw
                case rel =>
                  refine ⟨k + 1, Nat.succ_le_of_lt h64, by go_num, ⟨?_⟩, ⟨below_drew (below_drew (HXB.out.setCell (p := ⟨wo.heap.size, k, none⟩) (Nat.le_refl _) _))⟩⟩
                  obtain ⟨e0, e1, e2, e3⟩ := HJ.out
                  show ArrI .u32 _ _ _ ((schedN u q k).set k (schedV u q (schedN u q k) k))
                  rw [schedV, if_neg h16, ← e0, ← e1, ← e2, ← e3, ← hy15.out, ← hy2.out, ← hy16.out, ← hy7.out]
                  exact ArrI.drew (ArrI.drew (ArrI.set HX.out k _))
                case measure => exact shaM1 h64
            · skip
              have l3 : ((k : Int) < 64) = False := ltF h64
              have l4 : decide ((k : Int) < 64) = false := ltG h64
              have hX := HX.out
              rw [show k = 64 from Nat.le_antisymm hk (Nat.le_of_not_lt h64)] at hX
              clear HX
              have hAo := ArrI.below HA.out HXB.out
              obtain ⟨h0, h1, h2, h3, h4, h5, h6, h7, eh⟩ := len8 h HL8.out
              have hAl : wr.heap[wz.heap.size]? = some (Obj.cells #[.int .u32 h0, .int .u32 h1, .int .u32 h2, .int .u32 h3, .int .u32 h4, .int .u32 h5, .int .u32 h6, .int .u32 h7] 41 (0, 0)) := by have := hAo; rw [eh] at this; exact this
              replace eh := Aside0.mk eh
              replace hAo := Aside0.mk hAo
              replace hX := Aside0.mk hX
              go_upto_region 19 with (first | ((with_reducible refine gate_dst (N := 100) rfl ?_); refine wpList_load_row rfl 41 (.tmp 3) rfl wz.heap.size rfl 41 #[.int .u32 h0, .int .u32 h1, .int .u32 h2, .int .u32 h3, .int .u32 h4, .int .u32 h5, .int .u32 h6, .int .u32 h7] (0, 0) _ hAl Tryd.underlying41 rfl (by kernel_rfl) ?_))
              have hV : ArrI .u32 (wr.alloc (Obj.cells #[.int .u32 h0, .int .u32 h1, .int .u32 h2, .int .u32 h3, .int .u32 h4, .int .u32 h5, .int .u32 h6, .int .u32 h7] 41)) wr.heap.size 41 h := by rw [eh.out]; exact ArrI.new wr .u32 41 [h0, h1, h2, h3, h4, h5, h6, h7]
              have hB4 : Below wr.heap.size wr (wr.alloc (Obj.cells #[.int .u32 h0, .int .u32 h1, .int .u32 h2, .int .u32 h3, .int .u32 h4, .int .u32 h5, .int .u32 h6, .int .u32 h7] 41)) := below_alloc (Below.refl _ _) _
              refine (show ∀ W4, W4 = wr.alloc (Obj.cells #[.int .u32 h0, .int .u32 h1, .int .u32 h2, .int .u32 h3, .int .u32 h4, .int .u32 h5, .int .u32 h6, .int .u32 h7] 41) → Code.wp _ _ _ _ W4 from fun W4 hW4 => ?_) _ rfl
              rw [← hW4] at hV hB4
              clear hW4 hAl
              have hlt2 : wo.heap.size < wr.heap.size := hX.out.lt
              have hlt1 : wz.heap.size < wr.heap.size := hAo.out.lt
              replace hlt1 := Aside0.mk hlt1
              replace hlt2 := Aside0.mk hlt2
              have HKw : Aside0 (GlobK wr) := ⟨GlobK.below (GlobK.belowAt HGt.out HKL.out HW.out) HXB.out⟩
              generalize wr = wp at *
              go_wp2
              go_loopw [101] (fun i wx => ∃ (k : Nat) (v : List Int), k ≤ 64 ∧ i = .int .i64 (k : Int) ∧ Aside0 (v = roundsN (schedN u q 64) h k) ∧ Aside0 (ArrI .u32 wx wp.heap.size 41 v) ∧ Aside0 (Below wp.heap.size wp wx)) (fun i _ => 64 - (intOf i).toNat)
              case atStart => exact ⟨0, h, Nat.zero_le _, rfl, ⟨rfl⟩, ⟨hV⟩, ⟨hB4⟩⟩
              case round =>
                clear hV hB4
                obtain ⟨k, v, hk, rfl, HV8, HV, HVB⟩ := hrel
                have HX := Aside0.mk (ArrI.below hX.out HVB.out)
                have HKr := Aside0.mk (GlobK.below HKw.out HVB.out)
                obtain ⟨v0, v1_, v2, v3, v4, v5, v6, v7, ev⟩ := len8 v (by rw [HV8.out]; exact roundsN_len _ _ HL8.out k)
                replace ev := Aside0.mk ev
                by_cases h64 : k < 64
                · skip
                  have l3 : ((k : Int) < 64) = True := ltT h64
                  have l4 : decide ((k : Int) < 64) = true := ltD h64
                  have l5 : (k < 64) = True := eq_true h64
                  obtain ⟨y, hy⟩ : ∃ y, y = rdN (schedN u q 64) k := ⟨_, rfl⟩
                  have hx : wr.cell? ⟨wo.heap.size, k, none⟩ = some (.int .u32 y) := by rw [hy]; exact ArrI.cell HX.out k (by rw [schedN_len]; exact h64)
                  replace hy := Aside0.mk hy
                  obtain ⟨kk, hkk⟩ : ∃ y, y = rdN shaK k := ⟨_, rfl⟩
                  have hxk : wr.cell? ⟨1, k, none⟩ = some (.int .u32 kk) := by rw [hkk]; exact HKr.out k h64
                  replace hkk := Aside0.mk hkk
                  have HVL : Aside0 (ArrI .u32 wr wp.heap.size 41 [v0, v1_, v2, v3, v4, v5, v6, v7]) := ⟨by rw [← ev.out]; exact HV.out⟩
                  have c0 : wr.cell? ⟨wp.heap.size, 0, none⟩ = some (.int .u32 v0) := ArrI.cell HVL.out 0 (by show _ < 8; decide)
                  have c1 : wr.cell? ⟨wp.heap.size, 1, none⟩ = some (.int .u32 v1_) := ArrI.cell HVL.out 1 (by show _ < 8; decide)
                  have c2 : wr.cell? ⟨wp.heap.size, 2, none⟩ = some (.int .u32 v2) := ArrI.cell HVL.out 2 (by show _ < 8; decide)
                  have c3 : wr.cell? ⟨wp.heap.size, 3, none⟩ = some (.int .u32 v3) := ArrI.cell HVL.out 3 (by show _ < 8; decide)
                  have c4 : wr.cell? ⟨wp.heap.size, 4, none⟩ = some (.int .u32 v4) := ArrI.cell HVL.out 4 (by show _ < 8; decide)
                  have c5 : wr.cell? ⟨wp.heap.size, 5, none⟩ = some (.int .u32 v5) := ArrI.cell HVL.out 5 (by show _ < 8; decide)
                  have c6 : wr.cell? ⟨wp.heap.size, 6, none⟩ = some (.int .u32 v6) := ArrI.cell HVL.out 6 (by show _ < 8; decide)
                  have c7 : wr.cell? ⟨wp.heap.size, 7, none⟩ = some (.int .u32 v7) := ArrI.cell HVL.out 7 (by show _ < 8; decide)
                  go_upto_region 22 with fail
                  refine start_ (n := 6) (S := fun w' => w'.cell? ⟨wp.heap.size, 0, none⟩ = some (.int .u32 v0) ∧ w'.cell? ⟨wp.heap.size, 4, none⟩ = some (.int .u32 v4)) (ds := []) #[false, false, false, false, false, false] (by kernel_rfl) rfl rfl ⟨c0, c4⟩ (fun hHeld => ?_)
                  refine pure_ (i := 0) (N := some 104) (v := ?_) (a' := ?_) #[true, false, false, false, false, false] rfl rfl (by kernel_rfl) (fun _ _ _ h => h) (Or.inl ⟨by rfl, ?_⟩) ?_ ?_
                  rotate_left
                  · intro w'
                    go_simp
                    with_reducible rfl
                  rotate_left
                  · simp only [Act.put, List.setIfInBounds_toArray, List.set_cons_zero, List.set_cons_succ, i64_w, i32_w]
                    rfl
                  refine pure_ (i := 2) (N := some 106) (v := ?_) (a' := ?_) #[true, false, true, false, false, false] rfl rfl (by kernel_rfl) (fun _ _ _ h => h) (Or.inl ⟨by rfl, ?_⟩) ?_ ?_
                  rotate_left
                  · intro w'
                    go_simp
                    with_reducible rfl
                  rotate_left
                  · simp only [Act.put, List.setIfInBounds_toArray, List.set_cons_zero, List.set_cons_succ, i64_w, i32_w]
                    rfl
                  refine take_ (i := 1) (N := some 105) (v := ?_) (a' := ?_) #[true, true, true, false, false, false] rfl rfl (by kernel_rfl) (fun _ _ _ h => h) (Or.inl ⟨by rfl, ?_⟩) hHeld ?_ ?_
                  rotate_left
                  · rintro w' ⟨s0, s1⟩
                    go_simp
                    with_reducible rfl
                  rotate_left
                  · simp only [Act.put, List.setIfInBounds_toArray, List.set_cons_zero, List.set_cons_succ, i64_w, i32_w]
                    rfl
                  refine pure_ (i := 4) (N := some 12) (v := ?_) (a' := ?_) #[true, true, true, false, true, false] rfl rfl (by kernel_rfl) (fun _ _ _ h => h) (Or.inl ⟨by rfl, ?_⟩) ?_ ?_
                  rotate_left
                  · intro w'
                    go_simp
                    with_reducible rfl
                  rotate_left
                  · simp only [Act.put, List.setIfInBounds_toArray, List.set_cons_zero, List.set_cons_succ, i64_w, i32_w]
                    rfl
                  refine take_ (i := 3) (N := some 107) (v := ?_) (a' := ?_) #[true, true, true, true, true, false] rfl rfl (by kernel_rfl) (fun _ _ _ h => h) (Or.inl ⟨by rfl, ?_⟩) hHeld ?_ ?_
                  rotate_left
                  · rintro w' ⟨s0, s1⟩
                    go_simp
                    with_reducible rfl
                  rotate_left
                  · simp only [Act.put, List.setIfInBounds_toArray, List.set_cons_zero, List.set_cons_succ, i64_w, i32_w]
                    rfl
                  refine pure_ (i := 5) (N := some 13) (v := ?_) (a' := ?_) #[true, true, true, true, true, true] rfl rfl (by kernel_rfl) (fun _ _ _ h => h) (Or.inl ⟨by rfl, ?_⟩) ?_ ?_
                  rotate_left
                  · intro w'
                    go_simp
                    with_reducible rfl
                  rotate_left
                  · simp only [Act.put, List.setIfInBounds_toArray, List.set_cons_zero, List.set_cons_succ, i64_w, i32_w]
                    rfl
                  refine done_ (by kernel_rfl) ?_

                  go_upto_region 23 with fail
                  refine start_ (n := 34) (S := fun w' => w'.cell? ⟨wp.heap.size, 7, none⟩ = some (.int .u32 v7) ∧ w'.cell? ⟨wp.heap.size, 5, none⟩ = some (.int .u32 v5) ∧ w'.cell? ⟨wp.heap.size, 6, none⟩ = some (.int .u32 v6) ∧ w'.cell? ⟨1, k, none⟩ = some (.int .u32 kk) ∧ w'.cell? ⟨wo.heap.size, k, none⟩ = some (.int .u32 y)) (ds := []) #[false, false, false, false, false, false, false, false, false, false, false, false, false, false, false, false, false, false, false, false, false, false, false, false, false, false, false, false, false, false, false, false, false, false] (by kernel_rfl) rfl rfl ⟨c7, c5, c6, hxk, hx⟩ (fun hHeld => ?_)
                  refine pure_ (i := 0) (N := some 108) (v := ?_) (a' := ?_) #[true, false, false, false, false, false, false, false, false, false, false, false, false, false, false, false, false, false, false, false, false, false, false, false, false, false, false, false, false, false, false, false, false, false] rfl rfl (by kernel_rfl) (fun _ _ _ h => h) (Or.inl ⟨by rfl, ?_⟩) ?_ ?_
                  rotate_left
                  · intro w'
                    go_simp
                    with_reducible rfl
                  rotate_left
                  · simp only [Act.put, List.setIfInBounds_toArray, List.set_cons_zero, List.set_cons_succ, i64_w, i32_w]
                    rfl
                  refine pure_ (i := 2) (N := some 110) (v := ?_) (a' := ?_) #[true, false, true, false, false, false, false, false, false, false, false, false, false, false, false, false, false, false, false, false, false, false, false, false, false, false, false, false, false, false, false, false, false, false] rfl rfl (by kernel_rfl) (fun _ _ _ h => h) (Or.inl ⟨by rfl, ?_⟩) ?_ ?_
                  rotate_left
                  · intro w'
                    go_simp
                    with_reducible rfl
                  rotate_left
                  · simp only [Act.put, List.setIfInBounds_toArray, List.set_cons_zero, List.set_cons_succ, i64_w, i32_w]
                    rfl
                  refine pure_ (i := 3) (N := some 111) (v := ?_) (a' := ?_) #[true, false, true, true, false, false, false, false, false, false, false, false, false, false, false, false, false, false, false, false, false, false, false, false, false, false, false, false, false, false, false, false, false, false] rfl rfl (by kernel_rfl) (fun _ _ _ h => h) (Or.inl ⟨by rfl, ?_⟩) ?_ ?_
                  rotate_left
                  · intro w'
                    go_simp
                    with_reducible rfl
                  rotate_left
                  · simp only [Act.put, List.setIfInBounds_toArray, List.set_cons_zero, List.set_cons_succ, i64_w, i32_w]
                    rfl
                  refine pure_ (i := 5) (N := some 113) (v := ?_) (a' := ?_) #[true, false, true, true, false, true, false, false, false, false, false, false, false, false, false, false, false, false, false, false, false, false, false, false, false, false, false, false, false, false, false, false, false, false] rfl rfl (by kernel_rfl) (fun _ _ _ h => h) (Or.inl ⟨by rfl, ?_⟩) ?_ ?_
                  rotate_left
                  · intro w'
                    go_simp
                    with_reducible rfl
                  rotate_left
                  · simp only [Act.put, List.setIfInBounds_toArray, List.set_cons_zero, List.set_cons_succ, i64_w, i32_w]
                    rfl
                  refine pure_ (i := 6) (N := some 114) (v := ?_) (a' := ?_) #[true, false, true, true, false, true, true, false, false, false, false, false, false, false, false, false, false, false, false, false, false, false, false, false, false, false, false, false, false, false, false, false, false, false] rfl rfl (by kernel_rfl) (fun _ _ _ h => h) (Or.inl ⟨by rfl, ?_⟩) ?_ ?_
                  rotate_left
                  · intro w'
                    go_simp
                    with_reducible rfl
                  rotate_left
                  · simp only [Act.put, List.setIfInBounds_toArray, List.set_cons_zero, List.set_cons_succ, i64_w, i32_w]
                    rfl
                  refine pure_ (i := 9) (N := some 117) (v := ?_) (a' := ?_) #[true, false, true, true, false, true, true, false, false, true, false, false, false, false, false, false, false, false, false, false, false, false, false, false, false, false, false, false, false, false, false, false, false, false] rfl rfl (by kernel_rfl) (fun _ _ _ h => h) (Or.inl ⟨by rfl, ?_⟩) ?_ ?_
                  rotate_left
                  · intro w'
                    go_simp
                    with_reducible rfl
                  rotate_left
                  · simp only [Act.put, List.setIfInBounds_toArray, List.set_cons_zero, List.set_cons_succ, i64_w, i32_w]
                    rfl
                  refine pure_ (i := 10) (N := some 118) (v := ?_) (a' := ?_) #[true, false, true, true, false, true, true, false, false, true, true, false, false, false, false, false, false, false, false, false, false, false, false, false, false, false, false, false, false, false, false, false, false, false] rfl rfl (by kernel_rfl) (fun _ _ _ h => h) (Or.inl ⟨by rfl, ?_⟩) ?_ ?_
                  rotate_left
                  · intro w'
                    go_simp
                    with_reducible rfl
                  rotate_left
                  · simp only [Act.put, List.setIfInBounds_toArray, List.set_cons_zero, List.set_cons_succ, i64_w, i32_w]
                    rfl
                  refine pure_ (i := 14) (N := some 122) (v := ?_) (a' := ?_) #[true, false, true, true, false, true, true, false, false, true, true, false, false, false, true, false, false, false, false, false, false, false, false, false, false, false, false, false, false, false, false, false, false, false] rfl rfl (by kernel_rfl) (fun _ _ _ h => h) (Or.inl ⟨by rfl, ?_⟩) ?_ ?_
                  rotate_left
                  · intro w'
                    go_simp
                    with_reducible rfl
                  rotate_left
                  · simp only [Act.put, List.setIfInBounds_toArray, List.set_cons_zero, List.set_cons_succ, i64_w, i32_w]
                    rfl
                  refine pure_ (i := 15) (N := some 123) (v := ?_) (a' := ?_) #[true, false, true, true, false, true, true, false, false, true, true, false, false, false, true, true, false, false, false, false, false, false, false, false, false, false, false, false, false, false, false, false, false, false] rfl rfl (by kernel_rfl) (fun _ _ _ h => h) (Or.inl ⟨by rfl, ?_⟩) ?_ ?_
                  rotate_left
                  · intro w'
                    go_simp
                    with_reducible rfl
                  rotate_left
                  · simp only [Act.put, List.setIfInBounds_toArray, List.set_cons_zero, List.set_cons_succ, i64_w, i32_w]
                    rfl
                  refine pure_ (i := 18) (N := some 126) (v := ?_) (a' := ?_) #[true, false, true, true, false, true, true, false, false, true, true, false, false, false, true, true, false, false, true, false, false, false, false, false, false, false, false, false, false, false, false, false, false, false] rfl rfl (by kernel_rfl) (fun _ _ _ h => h) (Or.inl ⟨by rfl, ?_⟩) ?_ ?_
                  rotate_left
                  · intro w'
                    go_simp
                    with_reducible rfl
                  rotate_left
                  · simp only [Act.put, List.setIfInBounds_toArray, List.set_cons_zero, List.set_cons_succ, i64_w, i32_w]
                    rfl
                  refine pure_ (i := 19) (N := some 127) (v := ?_) (a' := ?_) #[true, false, true, true, false, true, true, false, false, true, true, false, false, false, true, true, false, false, true, true, false, false, false, false, false, false, false, false, false, false, false, false, false, false] rfl rfl (by kernel_rfl) (fun _ _ _ h => h) (Or.inl ⟨by rfl, ?_⟩) ?_ ?_
                  rotate_left
                  · intro w'
                    go_simp
                    with_reducible rfl
                  rotate_left
                  · simp only [Act.put, List.setIfInBounds_toArray, List.set_cons_zero, List.set_cons_succ, i64_w, i32_w]
                    rfl
                  refine pure_ (i := 20) (N := some 128) (v := ?_) (a' := ?_) #[true, false, true, true, false, true, true, false, false, true, true, false, false, false, true, true, false, false, true, true, true, false, false, false, false, false, false, false, false, false, false, false, false, false] rfl rfl (by kernel_rfl) (fun _ _ _ h => h) (Or.inl ⟨by rfl, ?_⟩) ?_ ?_
                  rotate_left
                  · intro w'
                    go_simp
                    with_reducible rfl
                  rotate_left
                  · simp only [Act.put, List.setIfInBounds_toArray, List.set_cons_zero, List.set_cons_succ, i64_w, i32_w]
                    rfl
                  refine pure_ (i := 25) (N := some 133) (v := ?_) (a' := ?_) #[true, false, true, true, false, true, true, false, false, true, true, false, false, false, true, true, false, false, true, true, true, false, false, false, false, true, false, false, false, false, false, false, false, false] rfl rfl (by kernel_rfl) (fun _ _ _ h => h) (Or.inl ⟨by rfl, ?_⟩) ?_ ?_
                  rotate_left
                  · intro w'
                    go_simp
                    with_reducible rfl
                  rotate_left
                  · simp only [Act.put, List.setIfInBounds_toArray, List.set_cons_zero, List.set_cons_succ, i64_w, i32_w]
                    rfl
                  refine pure_ (i := 26) (N := some 134) (v := ?_) (a' := ?_) #[true, false, true, true, false, true, true, false, false, true, true, false, false, false, true, true, false, false, true, true, true, false, false, false, false, true, true, false, false, false, false, false, false, false] rfl rfl (by kernel_rfl) (fun _ _ _ h => h) (Or.inl ⟨by rfl, ?_⟩) ?_ ?_
                  rotate_left
                  · intro w'
                    go_simp
                    with_reducible rfl
                  rotate_left
                  · simp only [Act.put, List.setIfInBounds_toArray, List.set_cons_zero, List.set_cons_succ, i64_w, i32_w]
                    rfl
                  refine pure_ (i := 29) (N := some 137) (v := ?_) (a' := ?_) #[true, false, true, true, false, true, true, false, false, true, true, false, false, false, true, true, false, false, true, true, true, false, false, false, false, true, true, false, false, true, false, false, false, false] rfl rfl (by kernel_rfl) (fun _ _ _ h => h) (Or.inl ⟨by rfl, ?_⟩) ?_ ?_
                  rotate_left
                  · intro w'
                    go_simp
                    with_reducible rfl
                  rotate_left
                  · simp only [Act.put, List.setIfInBounds_toArray, List.set_cons_zero, List.set_cons_succ, i64_w, i32_w]
                    rfl
                  refine pure_ (i := 30) (N := some 138) (v := ?_) (a' := ?_) #[true, false, true, true, false, true, true, false, false, true, true, false, false, false, true, true, false, false, true, true, true, false, false, false, false, true, true, false, false, true, true, false, false, false] rfl rfl (by kernel_rfl) (fun _ _ _ h => h) (Or.inl ⟨by rfl, ?_⟩) ?_ ?_
                  rotate_left
                  · intro w'
                    go_simp
                    with_reducible rfl
                  rotate_left
                  · simp only [Act.put, List.setIfInBounds_toArray, List.set_cons_zero, List.set_cons_succ, i64_w, i32_w]
                    rfl
                  refine take_ (i := 1) (N := some 109) (v := ?_) (a' := ?_) #[true, true, true, true, false, true, true, false, false, true, true, false, false, false, true, true, false, false, true, true, true, false, false, false, false, true, true, false, false, true, true, false, false, false] rfl rfl (by kernel_rfl) (fun _ _ _ h => h) (Or.inl ⟨by rfl, ?_⟩) hHeld ?_ ?_
                  rotate_left
                  · rintro w' ⟨s0, s1, s2, s3, s4⟩
                    go_simp
                    with_reducible rfl
                  rotate_left
                  · simp only [Act.put, List.setIfInBounds_toArray, List.set_cons_zero, List.set_cons_succ, i64_w, i32_w]
                    rfl
                  refine take_ (i := 16) (N := some 124) (v := ?_) (a' := ?_) #[true, true, true, true, false, true, true, false, false, true, true, false, false, false, true, true, true, false, true, true, true, false, false, false, false, true, true, false, false, true, true, false, false, false] rfl rfl (by kernel_rfl) (fun _ _ _ h => h) (Or.inl ⟨by rfl, ?_⟩) hHeld ?_ ?_
                  rotate_left
                  · rintro w' ⟨s0, s1, s2, s3, s4⟩
                    go_simp
                    with_reducible rfl
                  rotate_left
                  · simp only [Act.put, List.setIfInBounds_toArray, List.set_cons_zero, List.set_cons_succ, i64_w, i32_w]
                    rfl
                  refine pure_ (i := 17) (N := some 125) (v := ?_) (a' := ?_) #[true, true, true, true, false, true, true, false, false, true, true, false, false, false, true, true, true, true, true, true, true, false, false, false, false, true, true, false, false, true, true, false, false, false] rfl rfl (by kernel_rfl) (fun _ _ _ h => h) (Or.inl ⟨by rfl, ?_⟩) ?_ ?_
                  rotate_left
                  · intro w'
                    go_simp
                    with_reducible rfl
                  rotate_left
                  · simp only [Act.put, List.setIfInBounds_toArray, List.set_cons_zero, List.set_cons_succ, i64_w, i32_w]
                    rfl
                  refine take_ (i := 21) (N := some 129) (v := ?_) (a' := ?_) #[true, true, true, true, false, true, true, false, false, true, true, false, false, false, true, true, true, true, true, true, true, true, false, false, false, true, true, false, false, true, true, false, false, false] rfl rfl (by kernel_rfl) (fun _ _ _ h => h) (Or.inl ⟨by rfl, ?_⟩) hHeld ?_ ?_
                  rotate_left
                  · rintro w' ⟨s0, s1, s2, s3, s4⟩
                    go_simp
                    with_reducible rfl
                  rotate_left
                  · simp only [Act.put, List.setIfInBounds_toArray, List.set_cons_zero, List.set_cons_succ, i64_w, i32_w]
                    rfl
                  refine pure_ (i := 22) (N := some 130) (v := ?_) (a' := ?_) #[true, true, true, true, false, true, true, false, false, true, true, false, false, false, true, true, true, true, true, true, true, true, true, false, false, true, true, false, false, true, true, false, false, false] rfl rfl (by kernel_rfl) (fun _ _ _ h => h) (Or.inl ⟨by rfl, ?_⟩) ?_ ?_
                  rotate_left
                  · intro w'
                    go_simp
                    with_reducible rfl
                  rotate_left
                  · simp only [Act.put, List.setIfInBounds_toArray, List.set_cons_zero, List.set_cons_succ, i64_w, i32_w]
                    rfl
                  refine pure_ (i := 23) (N := some 131) (v := ?_) (a' := ?_) #[true, true, true, true, false, true, true, false, false, true, true, false, false, false, true, true, true, true, true, true, true, true, true, true, false, true, true, false, false, true, true, false, false, false] rfl rfl (by kernel_rfl) (fun _ _ _ h => h) (Or.inl ⟨by rfl, ?_⟩) ?_ ?_
                  rotate_left
                  · intro w'
                    go_simp
                    with_reducible rfl
                  rotate_left
                  · simp only [Act.put, List.setIfInBounds_toArray, List.set_cons_zero, List.set_cons_succ, i64_w, i32_w]
                    rfl
                  refine take_ (i := 27) (N := some 135) (v := ?_) (a' := ?_) #[true, true, true, true, false, true, true, false, false, true, true, false, false, false, true, true, true, true, true, true, true, true, true, true, false, true, true, true, false, true, true, false, false, false] rfl rfl (by kernel_rfl) (fun _ _ _ h => h) (Or.inl ⟨by rfl, ?_⟩) hHeld ?_ ?_
                  rotate_left
                  · rintro w' ⟨s0, s1, s2, s3, s4⟩
                    go_simp
                    with_reducible rfl
                  rotate_left
                  · simp only [Act.put, List.setIfInBounds_toArray, List.set_cons_zero, List.set_cons_succ, i64_w, i32_w]
                    rfl
                  refine take_ (i := 31) (N := some 139) (v := ?_) (a' := ?_) #[true, true, true, true, false, true, true, false, false, true, true, false, false, false, true, true, true, true, true, true, true, true, true, true, false, true, true, true, false, true, true, true, false, false] rfl rfl (by kernel_rfl) (fun _ _ _ h => h) (Or.inl ⟨by rfl, ?_⟩) hHeld ?_ ?_
                  rotate_left
                  · rintro w' ⟨s0, s1, s2, s3, s4⟩
                    go_simp
                    with_reducible rfl
                  rotate_left
                  · simp only [Act.put, List.setIfInBounds_toArray, List.set_cons_zero, List.set_cons_succ, i64_w, i32_w]
                    rfl
                  refine one_ (i := 4) (N := some 112) #[true, true, true, true, true, true, true, false, false, true, true, false, false, false, true, true, true, true, true, true, true, true, true, true, false, true, true, true, false, true, true, true, false, false] rfl rfl (by kernel_rfl) (by decide) (fun K hK => ?_)
                  refine goesV_ Tryd.func22 (by kernel_rfl) rfl #[.int .u32 v4, .int .i64 6] (by rfl) rfl rfl rfl (by simp only [List.map_toArray, List.map_cons, List.map_nil]; rfl) ?_
                  with_reducible refine (xTurnI.calls v4 6 6 (by decide) _).mono ?_
                  rintro e w3 ⟨rfl, rfl⟩
                  refine ⟨_, rfl, ?_⟩
                  refine hK.out _ _ ⟨hHeld.1, hHeld.2.1, hHeld.2.2.1, hHeld.2.2.2.1, hHeld.2.2.2.2⟩ (fun hHeld => ?_)
                  clear hK K
                  refine norm_ (a' := ?_) ?_ ?_
                  rotate_left
                  · show Act.put _ (some 112) _ = _
                    simp only [Act.put, List.setIfInBounds_toArray, List.set_cons_zero, List.set_cons_succ, i64_w, i32_w]
                    rfl
                  refine one_ (i := 7) (N := some 115) #[true, true, true, true, true, true, true, true, false, true, true, false, false, false, true, true, true, true, true, true, true, true, true, true, false, true, true, true, false, true, true, true, false, false] rfl rfl (by kernel_rfl) (by decide) (fun K hK => ?_)
                  refine goesV_ Tryd.func22 (by kernel_rfl) rfl #[.int .u32 v4, .int .i64 11] (by rfl) rfl rfl rfl (by simp only [List.map_toArray, List.map_cons, List.map_nil]; rfl) ?_
                  with_reducible refine (xTurnI.calls v4 11 11 (by decide) _).mono ?_
                  rintro e w3 ⟨rfl, rfl⟩
                  refine ⟨_, rfl, ?_⟩
                  refine hK.out _ _ ⟨hHeld.1, hHeld.2.1, hHeld.2.2.1, hHeld.2.2.2.1, hHeld.2.2.2.2⟩ (fun hHeld => ?_)
                  clear hK K
                  refine norm_ (a' := ?_) ?_ ?_
                  rotate_left
                  · show Act.put _ (some 115) _ = _
                    simp only [Act.put, List.setIfInBounds_toArray, List.set_cons_zero, List.set_cons_succ, i64_w, i32_w]
                    rfl
                  refine pure_ (i := 8) (N := some 116) (v := ?_) (a' := ?_) #[true, true, true, true, true, true, true, true, true, true, true, false, false, false, true, true, true, true, true, true, true, true, true, true, false, true, true, true, false, true, true, true, false, false] rfl rfl (by kernel_rfl) (fun _ _ _ h => h) (Or.inl ⟨by rfl, ?_⟩) ?_ ?_
                  rotate_left
                  · intro w'
                    go_simp
                    with_reducible rfl
                  rotate_left
                  · simp only [Act.put, List.setIfInBounds_toArray, List.set_cons_zero, List.set_cons_succ, i64_w, i32_w]
                    rfl
                  refine one_ (i := 11) (N := some 119) #[true, true, true, true, true, true, true, true, true, true, true, true, false, false, true, true, true, true, true, true, true, true, true, true, false, true, true, true, false, true, true, true, false, false] rfl rfl (by kernel_rfl) (by decide) (fun K hK => ?_)
                  refine goesV_ Tryd.func22 (by kernel_rfl) rfl #[.int .u32 v4, .int .i64 25] (by rfl) rfl rfl rfl (by simp only [List.map_toArray, List.map_cons, List.map_nil]; rfl) ?_
                  with_reducible refine (xTurnI.calls v4 25 25 (by decide) _).mono ?_
                  rintro e w3 ⟨rfl, rfl⟩
                  refine ⟨_, rfl, ?_⟩
                  refine hK.out _ _ ⟨hHeld.1, hHeld.2.1, hHeld.2.2.1, hHeld.2.2.2.1, hHeld.2.2.2.2⟩ (fun hHeld => ?_)
                  clear hK K
                  refine norm_ (a' := ?_) ?_ ?_
                  rotate_left
                  · show Act.put _ (some 119) _ = _
                    simp only [Act.put, List.setIfInBounds_toArray, List.set_cons_zero, List.set_cons_succ, i64_w, i32_w]
                    rfl
                  refine pure_ (i := 12) (N := some 120) (v := ?_) (a' := ?_) #[true, true, true, true, true, true, true, true, true, true, true, true, true, false, true, true, true, true, true, true, true, true, true, true, false, true, true, true, false, true, true, true, false, false] rfl rfl (by kernel_rfl) (fun _ _ _ h => h) (Or.inl ⟨by rfl, ?_⟩) ?_ ?_
                  rotate_left
                  · intro w'
                    go_simp
                    with_reducible rfl
                  rotate_left
                  · simp only [Act.put, List.setIfInBounds_toArray, List.set_cons_zero, List.set_cons_succ, i64_w, i32_w]
                    rfl
                  refine pure_ (i := 13) (N := some 121) (v := ?_) (a' := ?_) #[true, true, true, true, true, true, true, true, true, true, true, true, true, true, true, true, true, true, true, true, true, true, true, true, false, true, true, true, false, true, true, true, false, false] rfl rfl (by kernel_rfl) (fun _ _ _ h => h) (Or.inl ⟨by rfl, ?_⟩) ?_ ?_
                  rotate_left
                  · intro w'
                    go_simp
                    with_reducible rfl
                  rotate_left
                  · simp only [Act.put, List.setIfInBounds_toArray, List.set_cons_zero, List.set_cons_succ, i64_w, i32_w]
                    rfl
                  refine pure_ (i := 24) (N := some 132) (v := ?_) (a' := ?_) #[true, true, true, true, true, true, true, true, true, true, true, true, true, true, true, true, true, true, true, true, true, true, true, true, true, true, true, true, false, true, true, true, false, false] rfl rfl (by kernel_rfl) (fun _ _ _ h => h) (Or.inl ⟨by rfl, ?_⟩) ?_ ?_
                  rotate_left
                  · intro w'
                    go_simp
                    with_reducible rfl
                  rotate_left
                  · simp only [Act.put, List.setIfInBounds_toArray, List.set_cons_zero, List.set_cons_succ, i64_w, i32_w]
                    rfl
                  refine pure_ (i := 28) (N := some 136) (v := ?_) (a' := ?_) #[true, true, true, true, true, true, true, true, true, true, true, true, true, true, true, true, true, true, true, true, true, true, true, true, true, true, true, true, true, true, true, true, false, false] rfl rfl (by kernel_rfl) (fun _ _ _ h => h) (Or.inl ⟨by rfl, ?_⟩) ?_ ?_
                  rotate_left
                  · intro w'
                    go_simp
                    with_reducible rfl
                  rotate_left
                  · simp only [Act.put, List.setIfInBounds_toArray, List.set_cons_zero, List.set_cons_succ, i64_w, i32_w]
                    rfl
                  refine pure_ (i := 32) (N := some 140) (v := ?_) (a' := ?_) #[true, true, true, true, true, true, true, true, true, true, true, true, true, true, true, true, true, true, true, true, true, true, true, true, true, true, true, true, true, true, true, true, true, false] rfl rfl (by kernel_rfl) (fun _ _ _ h => h) (Or.inl ⟨by rfl, ?_⟩) ?_ ?_
                  rotate_left
                  · intro w'
                    go_simp
                    with_reducible rfl
                  rotate_left
                  · simp only [Act.put, List.setIfInBounds_toArray, List.set_cons_zero, List.set_cons_succ, i64_w, i32_w]
                    rfl
                  refine pure_ (i := 33) (N := some 14) (v := ?_) (a' := ?_) #[true, true, true, true, true, true, true, true, true, true, true, true, true, true, true, true, true, true, true, true, true, true, true, true, true, true, true, true, true, true, true, true, true, true] rfl rfl (by kernel_rfl) (fun _ _ _ h => h) (Or.inl ⟨by rfl, ?_⟩) ?_ ?_
                  rotate_left
                  · intro w'
                    go_simp
                    with_reducible rfl
                  rotate_left
                  · simp only [Act.put, List.setIfInBounds_toArray, List.set_cons_zero, List.set_cons_succ, i64_w, i32_w]
                    rfl
                  refine done_ (by kernel_rfl) ?_

                  generalize hT1 : IntKind.u32.wrap (_ + y) = T1
                  replace hT1 := Aside0.mk hT1
                  go_upto_region 24 with fail
                  refine start_ (n := 28) (S := fun w' => w'.cell? ⟨wp.heap.size, 1, none⟩ = some (.int .u32 v1_) ∧ w'.cell? ⟨wp.heap.size, 2, none⟩ = some (.int .u32 v2)) (ds := []) #[false, false, false, false, false, false, false, false, false, false, false, false, false, false, false, false, false, false, false, false, false, false, false, false, false, false, false, false] (by kernel_rfl) rfl rfl ⟨c1, c2⟩ (fun hHeld => ?_)
                  refine pure_ (i := 0) (N := some 141) (v := ?_) (a' := ?_) #[true, false, false, false, false, false, false, false, false, false, false, false, false, false, false, false, false, false, false, false, false, false, false, false, false, false, false, false] rfl rfl (by kernel_rfl) (fun _ _ _ h => h) (Or.inl ⟨by rfl, ?_⟩) ?_ ?_
                  rotate_left
                  · intro w'
                    go_simp
                    with_reducible rfl
                  rotate_left
                  · simp only [Act.put, List.setIfInBounds_toArray, List.set_cons_zero, List.set_cons_succ, i64_w, i32_w]
                    rfl
                  refine pure_ (i := 1) (N := some 142) (v := ?_) (a' := ?_) #[true, true, false, false, false, false, false, false, false, false, false, false, false, false, false, false, false, false, false, false, false, false, false, false, false, false, false, false] rfl rfl (by kernel_rfl) (fun _ _ _ h => h) (Or.inl ⟨by rfl, ?_⟩) ?_ ?_
                  rotate_left
                  · intro w'
                    go_simp
                    with_reducible rfl
                  rotate_left
                  · simp only [Act.put, List.setIfInBounds_toArray, List.set_cons_zero, List.set_cons_succ, i64_w, i32_w]
                    rfl
                  refine pure_ (i := 3) (N := some 144) (v := ?_) (a' := ?_) #[true, true, false, true, false, false, false, false, false, false, false, false, false, false, false, false, false, false, false, false, false, false, false, false, false, false, false, false] rfl rfl (by kernel_rfl) (fun _ _ _ h => h) (Or.inl ⟨by rfl, ?_⟩) ?_ ?_
                  rotate_left
                  · intro w'
                    go_simp
                    with_reducible rfl
                  rotate_left
                  · simp only [Act.put, List.setIfInBounds_toArray, List.set_cons_zero, List.set_cons_succ, i64_w, i32_w]
                    rfl
                  refine pure_ (i := 4) (N := some 145) (v := ?_) (a' := ?_) #[true, true, false, true, true, false, false, false, false, false, false, false, false, false, false, false, false, false, false, false, false, false, false, false, false, false, false, false] rfl rfl (by kernel_rfl) (fun _ _ _ h => h) (Or.inl ⟨by rfl, ?_⟩) ?_ ?_
                  rotate_left
                  · intro w'
                    go_simp
                    with_reducible rfl
                  rotate_left
                  · simp only [Act.put, List.setIfInBounds_toArray, List.set_cons_zero, List.set_cons_succ, i64_w, i32_w]
                    rfl
                  refine pure_ (i := 7) (N := some 148) (v := ?_) (a' := ?_) #[true, true, false, true, true, false, false, true, false, false, false, false, false, false, false, false, false, false, false, false, false, false, false, false, false, false, false, false] rfl rfl (by kernel_rfl) (fun _ _ _ h => h) (Or.inl ⟨by rfl, ?_⟩) ?_ ?_
                  rotate_left
                  · intro w'
                    go_simp
                    with_reducible rfl
                  rotate_left
                  · simp only [Act.put, List.setIfInBounds_toArray, List.set_cons_zero, List.set_cons_succ, i64_w, i32_w]
                    rfl
                  refine pure_ (i := 8) (N := some 149) (v := ?_) (a' := ?_) #[true, true, false, true, true, false, false, true, true, false, false, false, false, false, false, false, false, false, false, false, false, false, false, false, false, false, false, false] rfl rfl (by kernel_rfl) (fun _ _ _ h => h) (Or.inl ⟨by rfl, ?_⟩) ?_ ?_
                  rotate_left
                  · intro w'
                    go_simp
                    with_reducible rfl
                  rotate_left
                  · simp only [Act.put, List.setIfInBounds_toArray, List.set_cons_zero, List.set_cons_succ, i64_w, i32_w]
                    rfl
                  refine pure_ (i := 11) (N := some 152) (v := ?_) (a' := ?_) #[true, true, false, true, true, false, false, true, true, false, false, true, false, false, false, false, false, false, false, false, false, false, false, false, false, false, false, false] rfl rfl (by kernel_rfl) (fun _ _ _ h => h) (Or.inl ⟨by rfl, ?_⟩) ?_ ?_
                  rotate_left
                  · intro w'
                    go_simp
                    with_reducible rfl
                  rotate_left
                  · simp only [Act.put, List.setIfInBounds_toArray, List.set_cons_zero, List.set_cons_succ, i64_w, i32_w]
                    rfl
                  refine pure_ (i := 12) (N := some 153) (v := ?_) (a' := ?_) #[true, true, false, true, true, false, false, true, true, false, false, true, true, false, false, false, false, false, false, false, false, false, false, false, false, false, false, false] rfl rfl (by kernel_rfl) (fun _ _ _ h => h) (Or.inl ⟨by rfl, ?_⟩) ?_ ?_
                  rotate_left
                  · intro w'
                    go_simp
                    with_reducible rfl
                  rotate_left
                  · simp only [Act.put, List.setIfInBounds_toArray, List.set_cons_zero, List.set_cons_succ, i64_w, i32_w]
                    rfl
                  refine pure_ (i := 15) (N := some 156) (v := ?_) (a' := ?_) #[true, true, false, true, true, false, false, true, true, false, false, true, true, false, false, true, false, false, false, false, false, false, false, false, false, false, false, false] rfl rfl (by kernel_rfl) (fun _ _ _ h => h) (Or.inl ⟨by rfl, ?_⟩) ?_ ?_
                  rotate_left
                  · intro w'
                    go_simp
                    with_reducible rfl
                  rotate_left
                  · simp only [Act.put, List.setIfInBounds_toArray, List.set_cons_zero, List.set_cons_succ, i64_w, i32_w]
                    rfl
                  refine pure_ (i := 16) (N := some 157) (v := ?_) (a' := ?_) #[true, true, false, true, true, false, false, true, true, false, false, true, true, false, false, true, true, false, false, false, false, false, false, false, false, false, false, false] rfl rfl (by kernel_rfl) (fun _ _ _ h => h) (Or.inl ⟨by rfl, ?_⟩) ?_ ?_
                  rotate_left
                  · intro w'
                    go_simp
                    with_reducible rfl
                  rotate_left
                  · simp only [Act.put, List.setIfInBounds_toArray, List.set_cons_zero, List.set_cons_succ, i64_w, i32_w]
                    rfl
                  refine pure_ (i := 20) (N := some 161) (v := ?_) (a' := ?_) #[true, true, false, true, true, false, false, true, true, false, false, true, true, false, false, true, true, false, false, false, true, false, false, false, false, false, false, false] rfl rfl (by kernel_rfl) (fun _ _ _ h => h) (Or.inl ⟨by rfl, ?_⟩) ?_ ?_
                  rotate_left
                  · intro w'
                    go_simp
                    with_reducible rfl
                  rotate_left
                  · simp only [Act.put, List.setIfInBounds_toArray, List.set_cons_zero, List.set_cons_succ, i64_w, i32_w]
                    rfl
                  refine pure_ (i := 22) (N := some 163) (v := ?_) (a' := ?_) #[true, true, false, true, true, false, false, true, true, false, false, true, true, false, false, true, true, false, false, false, true, false, true, false, false, false, false, false] rfl rfl (by kernel_rfl) (fun _ _ _ h => h) (Or.inl ⟨by rfl, ?_⟩) ?_ ?_
                  rotate_left
                  · intro w'
                    go_simp
                    with_reducible rfl
                  rotate_left
                  · simp only [Act.put, List.setIfInBounds_toArray, List.set_cons_zero, List.set_cons_succ, i64_w, i32_w]
                    rfl
                  refine take_ (i := 13) (N := some 154) (v := ?_) (a' := ?_) #[true, true, false, true, true, false, false, true, true, false, false, true, true, true, false, true, true, false, false, false, true, false, true, false, false, false, false, false] rfl rfl (by kernel_rfl) (fun _ _ _ h => h) (Or.inl ⟨by rfl, ?_⟩) hHeld ?_ ?_
                  rotate_left
                  · rintro w' ⟨s0, s1⟩
                    go_simp
                    with_reducible rfl
                  rotate_left
                  · simp only [Act.put, List.setIfInBounds_toArray, List.set_cons_zero, List.set_cons_succ, i64_w, i32_w]
                    rfl
                  refine pure_ (i := 14) (N := some 155) (v := ?_) (a' := ?_) #[true, true, false, true, true, false, false, true, true, false, false, true, true, true, true, true, true, false, false, false, true, false, true, false, false, false, false, false] rfl rfl (by kernel_rfl) (fun _ _ _ h => h) (Or.inl ⟨by rfl, ?_⟩) ?_ ?_
                  rotate_left
                  · intro w'
                    go_simp
                    with_reducible rfl
                  rotate_left
                  · simp only [Act.put, List.setIfInBounds_toArray, List.set_cons_zero, List.set_cons_succ, i64_w, i32_w]
                    rfl
                  refine take_ (i := 17) (N := some 158) (v := ?_) (a' := ?_) #[true, true, false, true, true, false, false, true, true, false, false, true, true, true, true, true, true, true, false, false, true, false, true, false, false, false, false, false] rfl rfl (by kernel_rfl) (fun _ _ _ h => h) (Or.inl ⟨by rfl, ?_⟩) hHeld ?_ ?_
                  rotate_left
                  · rintro w' ⟨s0, s1⟩
                    go_simp
                    with_reducible rfl
                  rotate_left
                  · simp only [Act.put, List.setIfInBounds_toArray, List.set_cons_zero, List.set_cons_succ, i64_w, i32_w]
                    rfl
                  refine pure_ (i := 18) (N := some 159) (v := ?_) (a' := ?_) #[true, true, false, true, true, false, false, true, true, false, false, true, true, true, true, true, true, true, true, false, true, false, true, false, false, false, false, false] rfl rfl (by kernel_rfl) (fun _ _ _ h => h) (Or.inl ⟨by rfl, ?_⟩) ?_ ?_
                  rotate_left
                  · intro w'
                    go_simp
                    with_reducible rfl
                  rotate_left
                  · simp only [Act.put, List.setIfInBounds_toArray, List.set_cons_zero, List.set_cons_succ, i64_w, i32_w]
                    rfl
                  refine pure_ (i := 19) (N := some 160) (v := ?_) (a' := ?_) #[true, true, false, true, true, false, false, true, true, false, false, true, true, true, true, true, true, true, true, true, true, false, true, false, false, false, false, false] rfl rfl (by kernel_rfl) (fun _ _ _ h => h) (Or.inl ⟨by rfl, ?_⟩) ?_ ?_
                  rotate_left
                  · intro w'
                    go_simp
                    with_reducible rfl
                  rotate_left
                  · simp only [Act.put, List.setIfInBounds_toArray, List.set_cons_zero, List.set_cons_succ, i64_w, i32_w]
                    rfl
                  refine take_ (i := 21) (N := some 162) (v := ?_) (a' := ?_) #[true, true, false, true, true, false, false, true, true, false, false, true, true, true, true, true, true, true, true, true, true, true, true, false, false, false, false, false] rfl rfl (by kernel_rfl) (fun _ _ _ h => h) (Or.inl ⟨by rfl, ?_⟩) hHeld ?_ ?_
                  rotate_left
                  · rintro w' ⟨s0, s1⟩
                    go_simp
                    with_reducible rfl
                  rotate_left
                  · simp only [Act.put, List.setIfInBounds_toArray, List.set_cons_zero, List.set_cons_succ, i64_w, i32_w]
                    rfl
                  refine take_ (i := 23) (N := some 164) (v := ?_) (a' := ?_) #[true, true, false, true, true, false, false, true, true, false, false, true, true, true, true, true, true, true, true, true, true, true, true, true, false, false, false, false] rfl rfl (by kernel_rfl) (fun _ _ _ h => h) (Or.inl ⟨by rfl, ?_⟩) hHeld ?_ ?_
                  rotate_left
                  · rintro w' ⟨s0, s1⟩
                    go_simp
                    with_reducible rfl
                  rotate_left
                  · simp only [Act.put, List.setIfInBounds_toArray, List.set_cons_zero, List.set_cons_succ, i64_w, i32_w]
                    rfl
                  refine pure_ (i := 24) (N := some 165) (v := ?_) (a' := ?_) #[true, true, false, true, true, false, false, true, true, false, false, true, true, true, true, true, true, true, true, true, true, true, true, true, true, false, false, false] rfl rfl (by kernel_rfl) (fun _ _ _ h => h) (Or.inl ⟨by rfl, ?_⟩) ?_ ?_
                  rotate_left
                  · intro w'
                    go_simp
                    with_reducible rfl
                  rotate_left
                  · simp only [Act.put, List.setIfInBounds_toArray, List.set_cons_zero, List.set_cons_succ, i64_w, i32_w]
                    rfl
                  refine pure_ (i := 25) (N := some 166) (v := ?_) (a' := ?_) #[true, true, false, true, true, false, false, true, true, false, false, true, true, true, true, true, true, true, true, true, true, true, true, true, true, true, false, false] rfl rfl (by kernel_rfl) (fun _ _ _ h => h) (Or.inl ⟨by rfl, ?_⟩) ?_ ?_
                  rotate_left
                  · intro w'
                    go_simp
                    with_reducible rfl
                  rotate_left
                  · simp only [Act.put, List.setIfInBounds_toArray, List.set_cons_zero, List.set_cons_succ, i64_w, i32_w]
                    rfl
                  refine one_ (i := 2) (N := some 143) #[true, true, true, true, true, false, false, true, true, false, false, true, true, true, true, true, true, true, true, true, true, true, true, true, true, true, false, false] rfl rfl (by kernel_rfl) (by decide) (fun K hK => ?_)
                  refine goesV_ Tryd.func22 (by kernel_rfl) rfl #[.int .u32 v0, .int .i64 2] (by rfl) rfl rfl rfl (by simp only [List.map_toArray, List.map_cons, List.map_nil]; rfl) ?_
                  with_reducible refine (xTurnI.calls v0 2 2 (by decide) _).mono ?_
                  rintro e w3 ⟨rfl, rfl⟩
                  refine ⟨_, rfl, ?_⟩
                  refine hK.out _ _ ⟨hHeld.1, hHeld.2⟩ (fun hHeld => ?_)
                  clear hK K
                  refine norm_ (a' := ?_) ?_ ?_
                  rotate_left
                  · show Act.put _ (some 143) _ = _
                    simp only [Act.put, List.setIfInBounds_toArray, List.set_cons_zero, List.set_cons_succ, i64_w, i32_w]
                    rfl
                  refine one_ (i := 5) (N := some 146) #[true, true, true, true, true, true, false, true, true, false, false, true, true, true, true, true, true, true, true, true, true, true, true, true, true, true, false, false] rfl rfl (by kernel_rfl) (by decide) (fun K hK => ?_)
                  refine goesV_ Tryd.func22 (by kernel_rfl) rfl #[.int .u32 v0, .int .i64 13] (by rfl) rfl rfl rfl (by simp only [List.map_toArray, List.map_cons, List.map_nil]; rfl) ?_
                  with_reducible refine (xTurnI.calls v0 13 13 (by decide) _).mono ?_
                  rintro e w3 ⟨rfl, rfl⟩
                  refine ⟨_, rfl, ?_⟩
                  refine hK.out _ _ ⟨hHeld.1, hHeld.2⟩ (fun hHeld => ?_)
                  clear hK K
                  refine norm_ (a' := ?_) ?_ ?_
                  rotate_left
                  · show Act.put _ (some 146) _ = _
                    simp only [Act.put, List.setIfInBounds_toArray, List.set_cons_zero, List.set_cons_succ, i64_w, i32_w]
                    rfl
                  refine pure_ (i := 6) (N := some 147) (v := ?_) (a' := ?_) #[true, true, true, true, true, true, true, true, true, false, false, true, true, true, true, true, true, true, true, true, true, true, true, true, true, true, false, false] rfl rfl (by kernel_rfl) (fun _ _ _ h => h) (Or.inl ⟨by rfl, ?_⟩) ?_ ?_
                  rotate_left
                  · intro w'
                    go_simp
                    with_reducible rfl
                  rotate_left
                  · simp only [Act.put, List.setIfInBounds_toArray, List.set_cons_zero, List.set_cons_succ, i64_w, i32_w]
                    rfl
                  refine one_ (i := 9) (N := some 150) #[true, true, true, true, true, true, true, true, true, true, false, true, true, true, true, true, true, true, true, true, true, true, true, true, true, true, false, false] rfl rfl (by kernel_rfl) (by decide) (fun K hK => ?_)
                  refine goesV_ Tryd.func22 (by kernel_rfl) rfl #[.int .u32 v0, .int .i64 22] (by rfl) rfl rfl rfl (by simp only [List.map_toArray, List.map_cons, List.map_nil]; rfl) ?_
                  with_reducible refine (xTurnI.calls v0 22 22 (by decide) _).mono ?_
                  rintro e w3 ⟨rfl, rfl⟩
                  refine ⟨_, rfl, ?_⟩
                  refine hK.out _ _ ⟨hHeld.1, hHeld.2⟩ (fun hHeld => ?_)
                  clear hK K
                  refine norm_ (a' := ?_) ?_ ?_
                  rotate_left
                  · show Act.put _ (some 150) _ = _
                    simp only [Act.put, List.setIfInBounds_toArray, List.set_cons_zero, List.set_cons_succ, i64_w, i32_w]
                    rfl
                  refine pure_ (i := 10) (N := some 151) (v := ?_) (a' := ?_) #[true, true, true, true, true, true, true, true, true, true, true, true, true, true, true, true, true, true, true, true, true, true, true, true, true, true, false, false] rfl rfl (by kernel_rfl) (fun _ _ _ h => h) (Or.inl ⟨by rfl, ?_⟩) ?_ ?_
                  rotate_left
                  · intro w'
                    go_simp
                    with_reducible rfl
                  rotate_left
                  · simp only [Act.put, List.setIfInBounds_toArray, List.set_cons_zero, List.set_cons_succ, i64_w, i32_w]
                    rfl
                  refine pure_ (i := 26) (N := some 167) (v := ?_) (a' := ?_) #[true, true, true, true, true, true, true, true, true, true, true, true, true, true, true, true, true, true, true, true, true, true, true, true, true, true, true, false] rfl rfl (by kernel_rfl) (fun _ _ _ h => h) (Or.inl ⟨by rfl, ?_⟩) ?_ ?_
                  rotate_left
                  · intro w'
                    go_simp
                    with_reducible rfl
                  rotate_left
                  · simp only [Act.put, List.setIfInBounds_toArray, List.set_cons_zero, List.set_cons_succ, i64_w, i32_w]
                    rfl
                  refine pure_ (i := 27) (N := some 15) (v := ?_) (a' := ?_) #[true, true, true, true, true, true, true, true, true, true, true, true, true, true, true, true, true, true, true, true, true, true, true, true, true, true, true, true] rfl rfl (by kernel_rfl) (fun _ _ _ h => h) (Or.inl ⟨by rfl, ?_⟩) ?_ ?_
                  rotate_left
                  · intro w'
                    go_simp
                    with_reducible rfl
                  rotate_left
                  · simp only [Act.put, List.setIfInBounds_toArray, List.set_cons_zero, List.set_cons_succ, i64_w, i32_w]
                    rfl
                  refine done_ (by kernel_rfl) ?_

                  go_upto_region 25 with fail
                  generalize hT2 : IntKind.u32.wrap (_ + _) = T2
                  replace hT2 := Aside0.mk hT2
                  clear c0 c1 c2 c3 c4 c5 c6 c7 hx hxk
                  generalize hW5 : World.drew (World.drew (World.drew wr)) = w5
                  have HB6 : Aside0 (Below wp.heap.size wp w5) := ⟨by rw [← hW5]; (repeat first | apply pw_below_drewN | apply below_drew1 | apply below_drew); exact HVB.out⟩
                  have HV6 : Aside0 (ArrI .u32 w5 wp.heap.size 41 [v0, v1_, v2, v3, v4, v5, v6, v7]) := ⟨by rw [← hW5]; exact HVL.out⟩
                  clear hW5
                  have c1 : w5.cell? ⟨wp.heap.size, 1, none⟩ = some (.int .u32 v1_) := ArrI.cell HV6.out 1 (by show _ < 8; decide)
                  have c2 : w5.cell? ⟨wp.heap.size, 2, none⟩ = some (.int .u32 v2) := ArrI.cell HV6.out 2 (by show _ < 8; decide)
                  have c3 : w5.cell? ⟨wp.heap.size, 3, none⟩ = some (.int .u32 v3) := ArrI.cell HV6.out 3 (by show _ < 8; decide)
                  have c5 : w5.cell? ⟨wp.heap.size, 5, none⟩ = some (.int .u32 v5) := ArrI.cell HV6.out 5 (by show _ < 8; decide)
                  have c6 : w5.cell? ⟨wp.heap.size, 6, none⟩ = some (.int .u32 v6) := ArrI.cell HV6.out 6 (by show _ < 8; decide)
                  have hg8 : w5.heap[wp.heap.size]? = some (Obj.cells #[.int .u32 v0, .int .u32 v1_, .int .u32 v2, .int .u32 v3, .int .u32 v4, .int .u32 v5, .int .u32 v6, .int .u32 v7] 41 (0, 0)) := HV6.out
                  go_wp2_with (first | ((with_reducible refine gate_dst (N := 185) rfl ?_); refine wpList_buildTo rfl 41 _ rfl #[.int .u32 (IntKind.u32.wrap (T1 + T2)), .int .u32 v0, .int .u32 v1_, .int .u32 v2, .int .u32 (IntKind.u32.wrap (v3 + T1)), .int .u32 v4, .int .u32 v5, .int .u32 v6] ?hbld ?_; rotate_left) | ((with_reducible refine gate_storeT (ty := 41) rfl ?_); refine wpList_store_row rfl 41 (.tmp 10) (.tmp 185) rfl wp.heap.size #[.int .u32 (IntKind.u32.wrap (T1 + T2)), .int .u32 v0, .int .u32 v1_, .int .u32 v2, .int .u32 (IntKind.u32.wrap (v3 + T1)), .int .u32 v4, .int .u32 v5, .int .u32 v6] rfl rfl 41 _ hg8 (by kernel_rfl) rfl (by kernel_rfl) ?_))
                  case hbld => exact (congrArg (Program.built _ _) (show _ = [(0, Value.int .u32 (IntKind.u32.wrap (T1 + T2))), (1, .int .u32 v0), (2, .int .u32 v1_), (3, .int .u32 v2), (4, .int .u32 (IntKind.u32.wrap (v3 + T1))), (5, .int .u32 v4), (6, .int .u32 v5), (7, .int .u32 v6)] from rfl)).trans (built8 _ _ _ _ _ _ _ _)
                  generalize hN0 : (T1 + T2) % 4294967296 = n0
                  generalize hN4 : (v3 + T1) % 4294967296 = n4
                  go_roundw
                  case rel =>
                    refine ⟨k + 1, [n0, v0, v1_, v2, n4, v4, v5, v6], Nat.succ_le_of_lt h64, by go_num, ⟨?_⟩, ⟨ArrI.setRow (xs := [v0, v1_, v2, v3, v4, v5, v6, v7]) HV6.out [n0, v0, v1_, v2, n4, v4, v5, v6]⟩, ⟨xbelow_setRow HB6.out (Nat.le_refl _) _⟩⟩
                    rw [roundsN, ← HV8.out, ev.out, ← hkk.out, ← hy.out, ← hN0, ← hN4, ← hT1.out, ← hT2.out]
                    rfl
                  case measure => exact shaM1 h64
                · skip
                  have l3 : ((k : Int) < 64) = False := ltF h64
                  have l4 : decide ((k : Int) < 64) = false := ltG h64
                  have hV8 := HV8.out
                  rw [show k = 64 from Nat.le_antisymm hk (Nat.le_of_not_lt h64)] at hV8
                  replace hV8 := Aside0.mk hV8
                  clear HV8
                  have hAq := ArrI.below hAo.out HVB.out
                  have hVq := HV.out
                  have hBq := Below.trans (Below.trans HW.out (HXB.out.mono (Nat.le_of_lt (Nat.lt_of_lt_of_le HA.out.lt (Nat.le_refl _))))) (HVB.out.mono (Nat.le_of_lt hlt1.out))
                  have hGq : wr.heap[g]? = wt.heap[g]? := ((HVB.out.block g (Nat.lt_of_lt_of_le HGR.out HXB.out.size)).trans (HXB.out.block g HGR.out)).trans HGE.out
                  go_upto_region 27 with fail
                  generalize wr = wq at *
                  go_wp2
                  go_loopw [187] (fun i wx => ∃ k : Nat, k ≤ 8 ∧ i = .int .i64 (k : Int) ∧ Aside0 (ArrI .u32 wx wz.heap.size 41 (addN h v k)) ∧ Aside0 (ArrI .u32 wx wp.heap.size 41 v) ∧ Aside0 (Below wz.heap.size wt wx) ∧ Aside0 (wx.heap[g]? = wt.heap[g]?)) (fun i _ => 8 - (intOf i).toNat)
                  case atStart => exact ⟨0, Nat.zero_le _, rfl, ⟨hAq⟩, ⟨hVq⟩, ⟨hBq⟩, ⟨hGq⟩⟩
                  case round =>
                    clear hAq hVq hBq hGq
                    obtain ⟨k, hk, rfl, HA9, HV9, HB9, HG9⟩ := hrel
                    by_cases h9 : k < 8
                    · as_aux_lemma =>
                      have l3 : ((k : Int) < 8) = True := ltT h9
                      have l4 : decide ((k : Int) < 8) = true := ltD h9
                      have l5 : (k < 8) = True := eq_true h9
                      have hlen9 : v.length = 8 := by rw [ev.out]; rfl
                      have x1 := ArrI.cell HA9.out k (by rw [addN_len, HL8.out]; exact h9)
                      have x2 := ArrI.cell HV9.out k (by rw [hlen9]; exact h9)
                      have hf := ArrI.frozen HA9.out k
                      obtain ⟨y1, hy1⟩ : ∃ y, y = rdN (addN h v k) k := ⟨_, rfl⟩
                      obtain ⟨y2, hy2⟩ : ∃ y, y = rdN v k := ⟨_, rfl⟩
                      rw [← rdN, ← hy1] at x1
                      rw [← rdN, ← hy2] at x2
                      replace hy1 := Aside0.mk hy1
                      replace hy2 := Aside0.mk hy2
                      clear hlen9
                      go_upto_region 30 with fail
                      refine start_ (n := 9) (S := fun w' => w'.cell? ⟨wz.heap.size, k, none⟩ = some (.int .u32 y1) ∧ w'.cell? ⟨wp.heap.size, k, none⟩ = some (.int .u32 y2)) (ds := [8]) #[false, false, false, false, false, false, false, false, false] (by kernel_rfl) rfl rfl ⟨x1, x2⟩ (fun hHeld => ?_)
                      refine pure_ (i := 0) (N := some 190) (v := ?_) (a' := ?_) #[true, false, false, false, false, false, false, false, false] rfl rfl (by kernel_rfl) (fun _ _ _ h => h) (Or.inl ⟨by rfl, ?_⟩) ?_ ?_
                      rotate_left
                      · intro w'
                        go_simp
                        with_reducible rfl
                      rotate_left
                      · simp only [Act.put, List.setIfInBounds_toArray, List.set_cons_zero, List.set_cons_succ, i64_w, i32_w]
                        rfl
                      refine pure_ (i := 1) (N := some 191) (v := ?_) (a' := ?_) #[true, true, false, false, false, false, false, false, false] rfl rfl (by kernel_rfl) (fun _ _ _ h => h) (Or.inl ⟨by rfl, ?_⟩) ?_ ?_
                      rotate_left
                      · intro w'
                        go_simp
                        with_reducible rfl
                      rotate_left
                      · simp only [Act.put, List.setIfInBounds_toArray, List.set_cons_zero, List.set_cons_succ, i64_w, i32_w]
                        rfl
                      refine pure_ (i := 3) (N := some 193) (v := ?_) (a' := ?_) #[true, true, false, true, false, false, false, false, false] rfl rfl (by kernel_rfl) (fun _ _ _ h => h) (Or.inl ⟨by rfl, ?_⟩) ?_ ?_
                      rotate_left
                      · intro w'
                        go_simp
                        with_reducible rfl
                      rotate_left
                      · simp only [Act.put, List.setIfInBounds_toArray, List.set_cons_zero, List.set_cons_succ, i64_w, i32_w]
                        rfl
                      refine pure_ (i := 4) (N := some 194) (v := ?_) (a' := ?_) #[true, true, false, true, true, false, false, false, false] rfl rfl (by kernel_rfl) (fun _ _ _ h => h) (Or.inl ⟨by rfl, ?_⟩) ?_ ?_
                      rotate_left
                      · intro w'
                        go_simp
                        with_reducible rfl
                      rotate_left
                      · simp only [Act.put, List.setIfInBounds_toArray, List.set_cons_zero, List.set_cons_succ, i64_w, i32_w]
                        rfl
                      refine take_ (i := 2) (N := some 192) (v := ?_) (a' := ?_) #[true, true, true, true, true, false, false, false, false] rfl rfl (by kernel_rfl) (fun _ _ _ h => h) (Or.inl ⟨by rfl, ?_⟩) hHeld ?_ ?_
                      rotate_left
                      · rintro w' ⟨s0, s1⟩
                        go_simp
                        with_reducible rfl
                      rotate_left
                      · simp only [Act.put, List.setIfInBounds_toArray, List.set_cons_zero, List.set_cons_succ, i64_w, i32_w]
                        rfl
                      refine take_ (i := 5) (N := some 195) (v := ?_) (a' := ?_) #[true, true, true, true, true, true, false, false, false] rfl rfl (by kernel_rfl) (fun _ _ _ h => h) (Or.inl ⟨by rfl, ?_⟩) hHeld ?_ ?_
                      rotate_left
                      · rintro w' ⟨s0, s1⟩
                        go_simp
                        with_reducible rfl
                      rotate_left
                      · simp only [Act.put, List.setIfInBounds_toArray, List.set_cons_zero, List.set_cons_succ, i64_w, i32_w]
                        rfl
                      refine pure_ (i := 6) (N := some 196) (v := ?_) (a' := ?_) #[true, true, true, true, true, true, true, false, false] rfl rfl (by kernel_rfl) (fun _ _ _ h => h) (Or.inl ⟨by rfl, ?_⟩) ?_ ?_
                      rotate_left
                      · intro w'
                        go_simp
                        with_reducible rfl
                      rotate_left
                      · simp only [Act.put, List.setIfInBounds_toArray, List.set_cons_zero, List.set_cons_succ, i64_w, i32_w]
                        rfl
                      refine pure_ (i := 7) (N := some 197) (v := ?_) (a' := ?_) #[true, true, true, true, true, true, true, true, false] rfl rfl (by kernel_rfl) (fun _ _ _ h => h) (Or.inl ⟨by rfl, ?_⟩) ?_ ?_
                      rotate_left
                      · intro w'
                        go_simp
                        with_reducible rfl
                      rotate_left
                      · simp only [Act.put, List.setIfInBounds_toArray, List.set_cons_zero, List.set_cons_succ, i64_w, i32_w]
                        rfl
                      refine last_ (i := 8) (N := none) #[true, true, true, true, true, true, true, true, true] rfl rfl (by kernel_rfl) (by decide) (fun K hK => ?_)
                      refine skip_ (w1 := ?_) (by rfl) rfl ?_ ?_
                      rotate_left
                      · go_simp
                        rfl
                      refine hK.out _ _ ?_
                      clear hK K
                      refine done_ (by kernel_rfl) ?_

                      go_wp2
                      go_roundw
                      case rel =>
                        refine ⟨k + 1, Nat.succ_le_of_lt h9, by go_num, ⟨?_⟩, ⟨?_⟩, ⟨below_drew (HB9.out.setCell (p := ⟨wz.heap.size, k, none⟩) (Nat.le_refl _) _)⟩, ⟨?_⟩⟩
                        · show ArrI .u32 _ _ _ ((addN h v k).set k ((rdN (addN h v k) k + rdN v k) % 4294967296))
                          rw [← hy1.out, ← hy2.out]
                          exact ArrI.set (show ArrI .u32 _ _ _ _ from HA9.out) k _
                        · exact ArrI.setOther (show ArrI .u32 _ _ _ _ from HV9.out) (Nat.ne_of_lt hlt1.out) _
                        · exact (Below.heap_setCell _ ⟨wz.heap.size, k, none⟩ _ g (fun e => Nat.ne_of_gt HGB.out e)).trans HG9.out
                      case measure => exact shaM1 h9
                    · skip
                      have l3 : ((k : Int) < 8) = False := ltF h9
                      have l4 : decide ((k : Int) < 8) = false := ltG h9
                      have hA9 := HA9.out
                      rw [show k = 8 from Nat.le_antisymm hk (Nat.le_of_not_lt h9)] at hA9
                      obtain ⟨m', c', HM, e1, e2, e3, e4, e5, e6⟩ := shaCut m c h64m.out hmc.out
                      go_wp2
                      go_roundw
                      case rel =>
                        refine ⟨b + 1, q + 64, m', addN h v 8, shaQ HQ.out, shaQM HM.out.1 HQM.out, ⟨_, c', rfl, HM.out.2.1, fun h0 => if_neg (shaC64 HM.out.2.1 HM.out.2.2 h0)⟩, ⟨?_⟩, ⟨hA9⟩, HB9, HG9⟩
                        rw [shaN, ← HQ.out, ← HH.out, ← hV8.out]
                      case measure => exact shaCm HM.out.1
        · skip
          have l1 : ((0 : Int) < (m : Int)) = False := ltF hm0
          have l2 : decide ((0 : Int) < (m : Int)) = false := ltG hm0
          have l3 : (0 < m) = False := eq_false hm0
          have eb : b = u.length / 64 := shaB2 hq hqm hm0
          have HH2 : Aside0 (h = shaN (shaPad l0) ((shaPad l0).length / 64)) := ⟨by rw [HH.out, eb, HP.out]⟩
          have hsz8 : (Tryd.prog.info? 41).map (·.size) = some (h.map (Value.int .u32)).toArray.size := by rw [List.size_toArray, List.length_map, HL8.out]; kernel_rfl
          clear eb hq hqm hA0 hmc
          go_upto_region 33 with fail
          have hX : ArrI .u8 (wr.alloc (Obj.cells (Array.replicate 32 (Value.int IntKind.u8 0)) 23)) wr.heap.size 23 (outN h (4 * 0)) := by
            show ArrI _ _ _ _ (outN h 0)
            unfold ArrI; rw [outN, List.map_replicate]; exact blk_new wr _
          have hAX : ArrI .u32 (wr.alloc (Obj.cells (Array.replicate 32 (Value.int IntKind.u8 0)) 23)) wz.heap.size 41 h := ArrI.alloc HA.out _
          have hB2 : Below wr.heap.size wr (wr.alloc (Obj.cells (Array.replicate 32 (Value.int IntKind.u8 0)) 23)) := below_alloc (Below.refl _ _) _
          refine (show ∀ W3, W3 = wr.alloc (Obj.cells (Array.replicate 32 (Value.int IntKind.u8 0)) 23) → Code.wp _ _ _ _ W3 from fun W3 hW3 => ?_) _ rfl
          rw [← hW3] at hX hB2 hAX
          clear hW3
          go_upto_region 34 with (first | ((with_reducible refine gate_dst (N := 199) rfl ?_); refine wpList_load_row rfl 41 (.tmp 3) rfl wz.heap.size rfl 41 (h.map (Value.int .u32)).toArray (0, 0) _ hAX Tryd.underlying41 rfl hsz8 ?_))
          generalize wr = wo at *
          go_loopw [200] (fun i wx => ∃ k : Nat, k ≤ 8 ∧ i = .int .i64 (k : Int) ∧ Aside0 (ArrI .u8 wx wo.heap.size 23 (outN h (4 * k))) ∧ Aside0 (Below wo.heap.size wo wx)) (fun i _ => 8 - (intOf i).toNat)
          case atStart => exact ⟨0, Nat.zero_le _, rfl, ⟨hX⟩, ⟨hB2⟩⟩
          case round =>
            clear hX hB2 hAX
            obtain ⟨k, hk, rfl, HX, HXB⟩ := hrel
            by_cases h9 : k < 8
            · as_aux_lemma =>
              have l4 : ((k : Int) < 8) = True := ltT h9
              have l5 : decide ((k : Int) < 8) = true := ltD h9
              have l6 : (k < 8) = True := eq_true h9
              have l7 : (k < h.length) = True := eq_true (by rw [HL8.out]; exact h9)
              have l8 : h.length = 8 := HL8.out
              obtain ⟨p, n4, HP4, e1, e2, e3, e4, e5, e6, e7⟩ := shaPdx k h9
              have hidx := fun W => idx8 h k HL8.out h9 W
              have hr := shaN_at u b k h9
              rw [← HH.out] at hr
              obtain ⟨xv, hxv⟩ : ∃ x, x = rdN h k := ⟨_, rfl⟩
              have hxp : ArrI .u8 wr wo.heap.size 23 (outN h p) := by rw [HP4.out.1]; exact HX.out
              have hlo : p + 4 ≤ (outN h p).length := by rw [outN_len]; exact HP4.out.2.2
              have hxpd := ArrI.drew hxp
              rw [← hxv] at hr
              simp only [← hxv] at hidx
              replace hxv := Aside0.mk hxv
              go_upto_region 36 with fail
              refine start_ (n := 6) (S := fun w' => True) (ds := []) #[false, false, false, false, false, false] (by kernel_rfl) rfl rfl trivial (fun hHeld => ?_)
              refine pure_ (i := 1) (N := some 205) (v := ?_) (a' := ?_) #[false, true, false, false, false, false] rfl rfl (by kernel_rfl) (fun _ _ _ h => h) (Or.inl ⟨by rfl, ?_⟩) ?_ ?_
              rotate_left
              · intro w'
                go_simp
                with_reducible rfl
              rotate_left
              · simp only [Act.put, List.setIfInBounds_toArray, List.set_cons_zero, List.set_cons_succ, i64_w, i32_w]
                rfl
              refine pure_ (i := 2) (N := some 206) (v := ?_) (a' := ?_) #[false, true, true, false, false, false] rfl rfl (by kernel_rfl) (fun _ _ _ h => h) (Or.inl ⟨by rfl, ?_⟩) ?_ ?_
              rotate_left
              · intro w'
                go_simp
                with_reducible rfl
              rotate_left
              · simp only [Act.put, List.setIfInBounds_toArray, List.set_cons_zero, List.set_cons_succ, i64_w, i32_w]
                rfl
              refine pure_ (i := 3) (N := some 207) (v := ?_) (a' := ?_) #[false, true, true, true, false, false] rfl rfl (by kernel_rfl) (fun _ _ _ h => h) (Or.inl ⟨by rfl, ?_⟩) ?_ ?_
              rotate_left
              · intro w'
                go_simp
                with_reducible rfl
              rotate_left
              · simp only [Act.put, List.setIfInBounds_toArray, List.set_cons_zero, List.set_cons_succ, i64_w, i32_w]
                rfl
              refine pure_ (i := 4) (N := some 208) (v := ?_) (a' := ?_) #[false, true, true, true, true, false] rfl rfl (by kernel_rfl) (fun _ _ _ h => h) (Or.inl ⟨by rfl, ?_⟩) ?_ ?_
              rotate_left
              · intro w'
                go_simp
                with_reducible rfl
              rotate_left
              · simp only [Act.put, List.setIfInBounds_toArray, List.set_cons_zero, List.set_cons_succ, i64_w, i32_w]
                rfl
              refine take_ (i := 0) (N := some 204) (v := ?_) (a' := ?_) #[true, true, true, true, true, false] rfl rfl (by kernel_rfl) (fun _ _ _ h => h) (Or.inl ⟨by rfl, ?_⟩) hHeld ?_ ?_
              rotate_left
              · intro w' _
                go_simp
                with_reducible rfl
              rotate_left
              · simp only [Act.put, List.setIfInBounds_toArray, List.set_cons_zero, List.set_cons_succ, i64_w, i32_w]
                rfl
              refine one_ (i := 5) (N := some 209) #[true, true, true, true, true, true] rfl rfl (by kernel_rfl) (by decide) (fun K hK => ?_)
              refine goes_ Tryd.func25 (by kernel_rfl) rfl #[.agg #[], .slice (some ⟨wo.heap.size, p, none⟩) n4 n4, .int .u32 xv] (by rfl) rfl rfl (by simp only [List.map_toArray, List.map_cons, List.map_nil]; rfl) ?_
              with_reducible refine (xPut32n.calls wo.heap.size p n4 n4 HP4.out.2.1 xv hr.1 hr.2 23 (outN h p) wr.drew hxpd hlo).mono ?_
              rintro e w3 ⟨rfl, hA3, hB3⟩
              refine ⟨_, rfl, ?_⟩
              refine hK.out _ _ trivial (fun hHeld => ?_)
              clear hK K
              refine norm_ (a' := ?_) ?_ ?_
              rotate_left
              · show Act.put _ (some 209) _ = _
                simp only [Act.put, List.setIfInBounds_toArray, List.set_cons_zero, List.set_cons_succ, i64_w, i32_w]
                rfl
              refine done_ (by kernel_rfl) ?_

              go_wp2
              go_roundw
              case rel =>
                refine ⟨k + 1, Nat.succ_le_of_lt h9, by go_num, ⟨?_⟩, ⟨Below.trans (below_drew HXB.out) hB3⟩⟩
                rw [outN_4 h k (by rw [← hxv.out]; exact hr.1) (by rw [← hxv.out]; exact hr.2), ← HP4.out.1, ← hxv.out]
                exact hA3
              case measure => exact shaM1 h9
            · have l4 : ((k : Int) < 8) = False := ltF h9
              have l5 : decide ((k : Int) < 8) = false := ltG h9
              have hX := HX.out
              rw [show k = 8 from Nat.le_antisymm hk (Nat.le_of_not_lt h9)] at hX
              obtain ⟨sv, hsv⟩ : ∃ sv, sv = sha l0 := ⟨_, rfl⟩
              rw [show 4 * 8 = 32 from rfl, sha_eq HH2.out, ← hsv] at hX
              have hl32 : sv.length = 32 := by rw [hsv]; exact sha_len l0
              replace hsv := Aside0.mk hsv
              have hZo : ArrI .u8 wo w.heap.size 23 (List.replicate 32 0) := (HW.out.block _ hs0.out).trans HZt.out
              have hZr := ArrI.below hZo HXB.out
              have hBr := Aside0.mk (below_step (Below.trans HBt.out (HW.out.mono (Nat.le_of_lt hs0.out))) HXB.out)
              have hsz : (Tryd.prog.info? 23).map (·.size) = some (sv.map (Value.int .u8)).toArray.size := by rw [List.size_toArray, List.length_map, hl32]; kernel_rfl
              have hold : ((List.replicate 32 (0 : Int)).map (Value.int .u8)).toArray.size = (sv.map (Value.int .u8)).toArray.size := by rw [List.size_toArray, List.length_map, List.size_toArray, List.length_map, hl32, List.length_replicate]
              have hone : (sv.map (Value.int .u8)).toArray.all (·.oneCell') = true := oneInts .u8 sv
              clear hl32
              go_wp2_with (first | ((with_reducible refine gate_dst (N := 211) rfl ?_); refine wpList_load_row rfl 23 (.tmp 17) rfl wo.heap.size rfl 23 (sv.map (Value.int .u8)).toArray (0, 0) _ hX Tryd.underlying23 rfl hsz ?_) | ((with_reducible refine gate_storeT (ty := 23) rfl ?_); refine wpList_store_row rfl 23 (.tmp 2) (.tmp 211) rfl w.heap.size (sv.map (Value.int .u8)).toArray rfl rfl 23 _ hZr hsz hold hone ?_))
              have hq : (wr.setRow w.heap.size (sv.map (Value.int .u8)).toArray).heap[w.heap.size]? = some (Obj.cells (sv.map (Value.int .u8)).toArray 23 (0, 0)) := setRow_heap wr w.heap.size _ _ _ _ hZr
              have hB3 := xbelow_setRow hBr.out (Nat.le_refl _) (sv.map (Value.int .u8)).toArray
              generalize wr.setRow w.heap.size (sv.map (Value.int .u8)).toArray = w5 at *
              have l1 := run_loadVar_row (P := Tryd.prog) w5 w.heap.size 23 23 _ _ _ hq Tryd.underlying23 rfl hsz
              exact bodyPost_cell Tryd.results8 rfl l1 rfl ⟨by rw [hsv.out], hB3⟩
    · as_aux_lemma =>
        have l3 : ((t.length : Int) % 64 != 56) = true := bne_iff_ne.mpr (by rw [hlen]; omega)
        have l4 : Int.tmod (t.length : Int) 64 = (t.length : Int) % 64 := Int.tmod_eq_emod_of_nonneg (Int.natCast_nonneg _)
        have hj2 : j < shaZeros l0.length := shaZ5 hj hm
        clear hlen hz hm
        go_wp2_with (first | ((with_reducible refine gate_builtin (b := .append) (xs := #[.tmp 30, .tmp 31]) rfl ?_); at_builtin; refine Kd.R_append (Kd.int .u8) B rfl (.tmp 30) (.tmp 31) 22 5 (.int .u8 0) 1 rfl Tryd.underlying22 (by kernel_rfl) rfl (by decide) (by decide) _ (t) (0) [.int .u8 (0)] (fun _ => True) (fun _ => False) rfl rfl ?aP (fun _ hk => hk.elim) ?aF ?aO (Below.refl _ _) ?aS ?aL ?_; (case aP => exact rfl); (case aF => exact (fun _ _ => trivial)); (case aO => exact (by (with_reducible repeat (first | apply Kd.R_alloc | apply Kd.R_drewN | apply Kd.R_drew)); exact HR.out)); (case aS => exact HBS.out); (case aL => exact shaL1 HLN.out); intro v9 w9 ho hb hg hat; have HR2 := Aside0.mk ho; have HB2 := Aside0.mk (Below.trans (by repeat (first | (with_reducible first | exact HB.out | apply below_alloc | apply pw_below_drewN | apply below_drew1) | exact HB.out)) hb); have HBS2 := Aside0.mk (Nat.le_trans HBS.out hb.size); clear ho hb hg hat))
        go_roundw
        case rel => exact ⟨j + 1, t ++ [0], hj2, ⟨by rw [HT.out, List.replicate_succ', List.append_assoc, List.cons_append]⟩, HR2, HB2, HBS2⟩
        case measure =>
          obtain ⟨A2, c2, e2⟩ := Kd.R_slice HR2.out
          subst e2
          have := HLE.out
          simp [sliceN]
          first | exact shaZ6 HN.out this hj | exact shaZ6' HN.out this hj

end Go.Proofs.YtblpeegpjjcemaaDoor.F
namespace Go.Proofs.YtblpeegpjjcemaaDoor.F
open Go Go.Shelf Go.RowKit Go.Proofs.YtblpeegpjjcemaaDoorW.PrintWords Go.Proofs.YtblpeegpjjcemaaDoorW.PrintLast Go.Proofs.YtblpeegpjjcemaaDoorW.PrintMore
attribute [local go_sem] max2_int min2_int max_two min_two max_three min_three max_four min_four   -- for this text's walks alone
set_option linter.unusedVariables false
set_option linter.unusedSimpArgs false

/-! ### stands 20 -/
-- stands: the closure of Hmac: a block of 64 bytes, each with one byte
set_option maxHeartbeats 8000000 in
set_option maxRecDepth 100000 in
theorem xHPad.calls (x : Int) (gk kb ck : Nat) (K : List Int) (w : World) (h1 : w.cell? ⟨gk, 0, none⟩ = some (.slice (some ⟨kb, 0, none⟩) 64 ck)) (h2 : ∀ j, j < 64 → w.cell? ⟨kb, j, none⟩ = some (.int .u8 (rdN K j))) :
    Calls Tryd.prog 27 #[.int .u8 x, .pointer (some ⟨gk, 0, none⟩)] w fun e w' => ∃ v, e = .returned v ∧ Kd.R (Kd.int .u8) 5 w' w.heap.size (fun _ => True) v (padN K x 64) ∧ Below w.heap.size w w' := by
  have H1 := Aside0.mk h1
  have H2 := Aside0.mk h2
  clear h1 h2
  go_enter Tryd.func27, Tryd.ntmps27
  go_upto_region 2 with (first | ((with_reducible refine gate_dst (N := 6) rfl ?_); refine Kd.R_make (Kd.int .u8) _ 5 rfl (N := 6) rfl 22 _ _ rfl (64 : Int) rfl rfl Tryd.underlying22 (.int .u8 0) 1 info5 rfl (by decide) (by decide) 0 (ok := fun _ => True) (okp := fun _ => True) rfl (fun _ hk => hk) trivial (by decide) (by decide) (Below.refl _ _) (Nat.le_refl _) ?_; intro v1 w1 ho hb hg_ hnew_; have HO := Aside0.mk (show Kd.R (Kd.int .u8) 5 w1 w.heap.size (fun _ => True) v1 (padR K x 0) from ho); have HB := Aside0.mk hb; clear ho hb hg_ hnew_))
  have x0 := (HB.out.cell (World.block_lt_of_cell? w _ H1.out)).trans H1.out
  go_upto_region 3 with fail
  clear x0
  go_loopw [9] (fun i wr => ∃ k : Nat, k ≤ 64 ∧ i = .int .i64 (k : Int) ∧ Aside0 (Kd.R (Kd.int .u8) 5 wr w.heap.size (fun _ => True) v1 (padR K x k)) ∧ Aside0 (Below w.heap.size w wr)) (fun i _ => 64 - (intOf i).toNat)
  case atStart => exact ⟨0, Nat.zero_le _, rfl, HO, HB⟩
  case round =>
    clear HO HB
    obtain ⟨k, hk, rfl, HO, HB⟩ := hrel
    have x0 := (HB.out.cell (World.block_lt_of_cell? w _ H1.out)).trans H1.out
    by_cases h9 : k < 64
    · have l4 : ((k : Int) < 64) = True := ltT h9
      have l5 : decide ((k : Int) < 64) = true := ltD h9
      have l6 : (k < 64) = True := eq_true h9
      have es := padR_set K x k h9
      have hlen := padR_len K x k hk
      have x1 := (HB.out.cell (World.block_lt_of_cell? w _ (H2.out k h9))).trans (H2.out k h9)
      obtain ⟨y, hy⟩ : ∃ y, y = rdN K k := ⟨_, rfl⟩
      rw [← hy] at es x1
      replace hy := Aside0.mk hy
      generalize padR K x k = x3 at HO es hlen
      replace es := Aside0.mk es
      obtain ⟨g, c, ev, hg0, _, _⟩ := Kd.R_form HO.out (by rw [hlen]; decide)
      subst ev
      obtain ⟨hx, hf⟩ := Kd.R_celln 0 HO.out (k : Int) (Int.natCast_nonneg _) (by rw [hlen]; exact Int.ofNat_lt.mpr h9)
      have HP := Kd.R_putg HO.out (k : Int) (xorB y x)
      rw [Int.toNat_natCast] at hx hf HP
      have HG := Aside0.mk hg0
      replace HP := Aside0.mk HP
      have l7 : ((k : Int) < (x3.length : Int)) = True := by rw [hlen]; exact ltT h9
      have l8 : decide ((k : Int) < (x3.length : Int)) = true := by rw [hlen]; exact ltD h9
      have l9 : (k < x3.length) = True := by rw [hlen]; exact eq_true h9
      clear hlen hg0
      go_wp2_with (first | ((with_reducible refine gate_store (t := 5) (p := 20) rfl ?_); refine store_event (t := 5) (p := 20) (v := ?vo_w11) (w1 := (wr.setCell ⟨g, k, none⟩ (.int .u8 (xorB y x)))) ?hg ?ho ?hn ?hr ?_; (case ho => rfl); (case hg => rfl); (case hn => rfl); (case hr => first | (go_simp; done) | (go_simp; rfl)); intro w11 hw; have HO2 := Aside0.mk (show Kd.R (Kd.int .u8) 5 w11 w.heap.size (fun _ => True) (.slice (some ⟨g, 0, none⟩) x3.length c) (padR K x (k + 1)) from (by rw [hw, ← es.out]; exact HP.out.1)); have HB2 := Aside0.mk ((by rw [hw]; exact below_set HB.out HG.out : Below w.heap.size w w11)); clear HO HB hw hx hf x0 x1))
      go_roundw
      case rel => exact ⟨k + 1, Nat.succ_le_of_lt h9, by go_num, HO2, HB2⟩
      case measure => exact shaM1 h9
    · have l4 : ((k : Int) < 64) = False := ltF h9
      have l5 : decide ((k : Int) < 64) = false := ltG h9
      obtain rfl : k = 64 := Nat.le_antisymm hk (Nat.le_of_not_lt h9)
      have hO := HO.out
      rw [padR_end] at hO
      go_wp2
      go_ret
      exact ⟨_, rfl, hO, HB.out⟩

end Go.Proofs.YtblpeegpjjcemaaDoor.F
