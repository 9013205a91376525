/- Part 4 of 13 of the proof of FnExactSign: what each Go function on its way computes, that the Go code does just this, and what the law says of it. No condition beyond the statement's own. -/
import Derived.Test.YtblpeegpjjcemaaDoorMFnExactSign3
namespace Go.Proofs.YtblpeegpjjcemaaDoor.F
open Go Go.Shelf Go.RowKit Go.Proofs.YtblpeegpjjcemaaDoorW.PrintWords Go.Proofs.YtblpeegpjjcemaaDoorW.PrintLast Go.Proofs.YtblpeegpjjcemaaDoorW.PrintMore
attribute [local go_sem] max2_int min2_int max_two min_two max_three min_three max_four min_four   -- for this text's walks alone
set_option linter.unusedVariables false
set_option linter.unusedSimpArgs false

/-! ### spec_Sha256: function 6 -/
theorem spec_Sha256.k (i : Nat) (hi : i < 64) (y : Int) (hy : y = rdN shaK i) (w : World) :
    Calls Tryd.prog 20 #[.int .i64 (i : Int)] w fun e w' => e = .returned (.int .u32 y) ∧ Below w.heap.size w w' := by rw [hy]; exact spec_l09K.calls i hi w
theorem spec_Sha256.turn (x : Int) (n : Int) {m : Nat} (hm : n = (m : Int) ∧ 1 ≤ m ∧ m ≤ 31) (w : World) :
    Calls Tryd.prog 19 #[.int .u32 x, .int .u64 n] w fun e w' => e = .returned (.int .u32 (turnV x m)) ∧ ∃ j, w' = w.drewN j := by
  obtain ⟨rfl, h1, h2⟩ := hm
  have key : ∀ m : Fin 32, 1 ≤ m.val → (0 : Int) ≤ m.val ∧ IntKind.u64.wrap (32 - (m.val : Int)) = ((32 - m.val : Nat) : Int) := by decide
  obtain ⟨k1, k2⟩ := key ⟨m, by omega⟩ h1
  refine (spec_l09Turn.calls x (m : Int) (turnV x m) w ?_).mono ?_
  · show spec_l09Turn.f x m = some (turnV x m)
    unfold spec_l09Turn.f
    rw [if_pos k1, k2, if_pos (by omega), or32c]
    unfold turnV shl shr
    have q1 : min ((m : Int)).toNat IntKind.u32.bits = m := by show min _ 32 = m; omega
    have q2 : min (((32 - m : Nat) : Int)).toNat IntKind.u32.bits = 32 - m := by show min _ 32 = _; omega
    show some (bits BinOp.or IntKind.u32 (IntKind.u32.wrap (x * 2 ^ min (((32 - m : Nat) : Int)).toNat IntKind.u32.bits)) (x / 2 ^ min (m : Int).toNat IntKind.u32.bits)) = _
    rw [q1, q2]
    rfl
  · rintro e w1 ⟨rfl, ⟨⟨j, rfl⟩⟩⟩
    exact ⟨rfl, j, rfl⟩
set_option maxHeartbeats 200000000 in
set_option maxRecDepth 100000 in
theorem spec_Sha256.calls (A0 : Option Addr) (c0 : Nat) (l0 : List Int) (w : World) (hr0 : Kd.C (Kd.int .u8) w A0 l0.length l0) (hc0 : l0.length ≤ c0) (hn0 : l0.length ≤ 2097152) :
    Calls Tryd.prog 6 #[.slice A0 l0.length c0] w fun e w' => e = .returned (.agg ((sha l0).map (Value.int .u8)).toArray) ∧ Below w.heap.size w w' := by
  have HR0 := Aside0.mk hr0
  have HN := Aside0.mk hn0
  clear hr0
  go_enter Tryd.func6, Tryd.ntmps6
  go_upto_region 1 with fail
  obtain ⟨wz, hwz⟩ : ∃ wz, wz = w.alloc (Obj.cells (Array.replicate 32 (Value.int IntKind.u8 0)) 23) := ⟨_, rfl⟩
  have hZ : ArrI .u8 wz w.heap.size 23 (List.replicate 32 0) := by rw [hwz]; exact ArrI.new w .u8 23 (List.replicate 32 0)
  have hBz : Below w.heap.size w wz := by rw [hwz]; exact below_alloc (Below.refl _ _) _
  have hsz : wz.heap.size = w.heap.size + 1 := by rw [hwz]; show (w.heap.push _).size = _; rw [Array.size_push]
  refine (show wz = _ from hwz) ▸ ?_
  clear hwz
  go_wp2_with (first | ((with_reducible refine gate_dst (N := 25) rfl ?_); refine Kd.R_lit (Kd.int .u8) _ 5 ?hg (N := 25) ?hd (xs := ([] : List Int)) (inner := []) (ok := fun _ => True) (okp := fun _ => True) ?hr ?hp (fun _ hk => hk) trivial (Below.refl _ _) (Nat.le_refl _) (by simp) ?_; (case hd => rfl); (case hg => rfl); (case hr => first | (go_simp; done) | (go_simp; rfl)); (case hp => exact (Reps.none _ _)); intro v1 w1 ho hb hg_ hnew_; have HR := Aside0.mk ho; have HB := Aside0.mk (below_step hBz hb); have HZ := Aside0.mk (hZ.below hb); clear ho hb hg_ hnew_))
  clear hZ hBz
  generalize wz.heap.size = B at *
  clear wz
  go_loopw [3, 4] (fun v i wr => ∃ k : Nat, k ≤ l0.length ∧ i = .int .i64 k ∧ Aside0 (Kd.R (Kd.int .u8) 5 wr B (fun _ => True) v (l0.take k)) ∧ Aside0 (Below w.heap.size w wr) ∧ Aside0 (ArrI .u8 wr w.heap.size 23 (List.replicate 32 0)) ∧ Aside0 (B ≤ wr.heap.size)) (fun _ i _ => l0.length - (intOf i).toNat)
  case atStart => exact ⟨0, Nat.zero_le _, rfl, HR, HB, HZ, ⟨by have := HZ.out.lt; omega⟩⟩
  case round =>
    obtain ⟨k, hk, rfl, HR, HB, HZ, HBS⟩ := hrel
    by_cases hlt : k < l0.length
    · as_aux_lemma =>
      obtain ⟨ad, e0, hx⟩ := Kd.at_int HR0.out (k : Int) (by omega) (by omega)
      cases e0
      have hbl := World.block_lt_of_cell? w _ hx
      replace hx := (HB.out.cell hbl).trans hx
      have l1 : ((k : Int) < (l0.length : Int)) = True := eq_true (by omega)
      have l2 : decide ((k : Int) < (l0.length : Int)) = true := decide_eq_true (by omega)
      have l3 : (k < l0.length) = True := eq_true (by omega)
      have hrd : rd l0 (k : Int) = l0[k] := by simp [rd, List.getD_eq_getElem?_getD, hlt]
      rw [hrd, Int.toNat_natCast] at hx
      have HLN := Aside0.mk (show (l0.take k).length < 140737488355328 by rw [List.length_take]; omega)
      clear hbl
      go_wp2_with (first | ((with_reducible refine gate_builtin (b := .append) (xs := #[.tmp 32, .tmp 37]) rfl ?_); at_builtin; refine Kd.R_append (Kd.int .u8) B rfl (.tmp 32) (.tmp 37) 22 5 (.int .u8 0) 1 rfl Tryd.underlying22 (by kernel_rfl) rfl (by decide) (by omega) _ (l0.take k) (l0[k]) [.int .u8 (l0[k])] (fun _ => True) (fun _ => False) rfl rfl ?aP (fun _ hk => hk.elim) ?aF ?aO (Below.refl _ _) ?aS ?aL ?_; (case aP => exact rfl); (case aF => exact (fun _ _ => trivial)); (case aO => exact (by (with_reducible repeat (first | apply Kd.R_alloc | apply Kd.R_drewN | apply Kd.R_drew)); exact HR.out)); (case aS => exact HBS.out); (case aL => have := HLN.out; omega); intro v9 w9 ho hb hg hat; have HR2 := Aside0.mk ho; have HB2 := Aside0.mk (below_weaken (by repeat (first | (with_reducible first | exact HB.out | apply below_alloc | apply pw_below_drewN | apply below_drew1) | exact HB.out)) (by omega) hb); have HZ2 := Aside0.mk (ArrI.keep (by repeat (first | (with_reducible first | exact HZ.out | apply ArrI.alloc | apply ArrI.drew) | exact HZ.out)) (hb.block _ (by omega))); have HBS2 := Aside0.mk (Nat.le_trans HBS.out hb.size); clear ho hb hg hat))
      go_roundw
      case rel => exact ⟨k + 1, by omega, by go_num, ⟨by rw [List.take_succ_eq_append_getElem hlt]; exact HR2.out⟩, HB2, HZ2, HBS2⟩
      case measure => simp [intOf]; omega
    · obtain rfl : k = l0.length := by omega
      have l1 : ((l0.length : Int) < (l0.length : Int)) = False := eq_false (by omega)
      have l2 : decide ((l0.length : Int) < (l0.length : Int)) = false := decide_eq_false (by omega)
      have hR := HR.out
      rw [List.take_length] at hR
      replace HR := Aside0.mk hR
      have HLN := Aside0.mk (show l0.length < 140737488355328 by omega)
      clear hR
      go_wp2_with (first | ((with_reducible refine gate_builtin (b := .append) (xs := #[.tmp 39, .tmp 40]) rfl ?_); at_builtin; refine Kd.R_append (Kd.int .u8) B rfl (.tmp 39) (.tmp 40) 22 5 (.int .u8 0) 1 rfl Tryd.underlying22 (by kernel_rfl) rfl (by decide) (by omega) _ (l0) (128) [.int .u8 (128)] (fun _ => True) (fun _ => False) rfl rfl ?aP (fun _ hk => hk.elim) ?aF ?aO (Below.refl _ _) ?aS ?aL ?_; (case aP => exact rfl); (case aF => exact (fun _ _ => trivial)); (case aO => exact (by (with_reducible repeat (first | apply Kd.R_alloc | apply Kd.R_drewN | apply Kd.R_drew)); exact HR.out)); (case aS => exact HBS.out); (case aL => have := HLN.out; omega); intro v9 w9 ho hb hg hat; have HR2 := Aside0.mk ho; have HB2 := Aside0.mk (below_weaken (by repeat (first | (with_reducible first | exact HB.out | apply below_alloc | apply pw_below_drewN | apply below_drew1) | exact HB.out)) (by omega) hb); have HZ2 := Aside0.mk (ArrI.keep (by repeat (first | (with_reducible first | exact HZ.out | apply ArrI.alloc | apply ArrI.drew) | exact HZ.out)) (hb.block _ (by omega))); have HBS2 := Aside0.mk (Nat.le_trans HBS.out hb.size); clear ho hb hg hat))
      have HT := Aside0.mk (show l0 ++ [128] = l0 ++ 128 :: List.replicate 0 0 from rfl)
      generalize l0 ++ [128] = t0 at HR2 HT
      go_loopw [3] (fun v wr => ∃ (j : Nat) (t : List Int), j ≤ shaZeros l0.length ∧ Aside0 (t = l0 ++ 128 :: List.replicate j 0) ∧ Aside0 (Kd.R (Kd.int .u8) 5 wr B (fun _ => True) v t) ∧ Aside0 (Below w.heap.size w wr) ∧ Aside0 (ArrI .u8 wr w.heap.size 23 (List.replicate 32 0)) ∧ Aside0 (B ≤ wr.heap.size)) (fun v _ => 3000000 - sliceN v)
      case atStart => exact ⟨0, t0, Nat.zero_le _, HT, HR2, HB2, HZ2, HBS2⟩
      case round =>
        clear HR2 HB2 HZ2 HBS2 HR HB HZ HBS HT
        obtain ⟨j, t, hj, HT, HR, HB, HZ, HBS⟩ := hrel
        obtain ⟨At, ct, et⟩ := Kd.R_slice HR.out
        subst et
        have hz : (l0.length + 1 + shaZeros l0.length) % 64 = 56 ∧ shaZeros l0.length < 64 := by unfold shaZeros; omega
        have hlen : t.length = l0.length + 1 + j := by rw [HT.out]; simp; omega
        have HLN := Aside0.mk (show t.length < 140737488355328 by rw [hlen]; omega)
        have HLE := Aside0.mk hlen
        by_cases hm : (l0.length + 1 + j) % 64 = 56
        · obtain rfl : j = shaZeros l0.length := by omega
          have l3 : ((t.length : Int) % 64 != 56) = false := bne_eq_false_iff_eq.mpr (by omega)
          have l4 : Int.tmod (t.length : Int) 64 = (t.length : Int) % 64 := Int.tmod_eq_emod_of_nonneg (by omega)
          clear hlen hz
          go_wp2
          have HT2 := Aside0.mk (show t = t ++ (shaLen l0.length).take 0 by simp)
          have hm2 := HLE.out
          go_loopw [3, 5] (fun v i wr => ∃ (j : Nat) (u : List Int), j ≤ 8 ∧ i = .int .i64 (7 - (j : Int)) ∧ Aside0 (u = t ++ (shaLen l0.length).take j) ∧ Aside0 (Kd.R (Kd.int .u8) 5 wr B (fun _ => True) v u) ∧ Aside0 (Below w.heap.size w wr) ∧ Aside0 (ArrI .u8 wr w.heap.size 23 (List.replicate 32 0)) ∧ Aside0 (B ≤ wr.heap.size)) (fun _ i _ => (intOf i + 1).toNat)
          case atStart => exact ⟨0, t, by omega, rfl, HT2, HR, HB, HZ, HBS⟩
          case round =>
            clear HR HB HZ HBS HT2 HLN
            obtain ⟨j, u, hj, rfl, HU, HR, HB, HZ, HBS⟩ := hrel
            obtain ⟨Au, cu, eu⟩ := Kd.R_slice HR.out
            subst eu
            have hul : u.length ≤ t.length + 8 := by rw [HU.out, List.length_append, List.length_take]; omega
            have hz2 : shaZeros l0.length < 64 := by unfold shaZeros; omega
            have HLN := Aside0.mk (show u.length < 140737488355328 by omega)
            clear hul hz2 hm2 hm
            by_cases h8 : j < 8
            · as_aux_lemma =>
              obtain ⟨e, he⟩ : ∃ e : Nat, e + j = 7 := ⟨7 - j, by omega⟩
              have e1 : 7 - (j : Int) = (e : Int) := by omega
              rw [e1]
              have l5 : decide ((0 : Int) ≤ (e : Int)) = true := decide_eq_true (by omega)
              have l6 : IntKind.i64.wrap (8 * (l0.length : Int)) = 8 * (l0.length : Int) := by rw [i64_w]; unfold wrap64; omega
              have l7 : IntKind.i64.wrap (8 * (e : Int)) = 8 * (e : Int) := by rw [i64_w]; unfold wrap64; omega
              go_wp2_with (first | ((with_reducible refine gate_builtin (b := .append) (xs := #[.tmp 53, .tmp 62]) rfl ?_); at_builtin; refine Kd.R_append (Kd.int .u8) B rfl (.tmp 53) (.tmp 62) 22 5 (.int .u8 0) 1 rfl Tryd.underlying22 (by kernel_rfl) rfl (by decide) (by omega) _ (u) (8 * (l0.length : Int) / 2 ^ (8 * e) % 256) [.int .u8 (8 * (l0.length : Int) / 2 ^ (8 * e) % 256)] (fun _ => True) (fun _ => False) rfl rfl ?aP (fun _ hk => hk.elim) ?aF ?aO (Below.refl _ _) ?aS ?aL ?_; (case aP => exact rfl); (case aF => exact (fun _ _ => trivial)); (case aO => exact (by (with_reducible repeat (first | apply Kd.R_alloc | apply Kd.R_drewN | apply Kd.R_drew)); exact HR.out)); (case aS => exact HBS.out); (case aL => have := HLN.out; omega); intro v9 w9 ho hb hg hat; have HR2 := Aside0.mk ho; have HB2 := Aside0.mk (below_weaken (by repeat (first | (with_reducible first | exact HB.out | apply below_alloc | apply pw_below_drewN | apply below_drew1) | exact HB.out)) (by omega) hb); have HZ2 := Aside0.mk (ArrI.keep (by repeat (first | (with_reducible first | exact HZ.out | apply ArrI.alloc | apply ArrI.drew) | exact HZ.out)) (hb.block _ (by omega))); have HBS2 := Aside0.mk (Nat.le_trans HBS.out hb.size); clear ho hb hg hat))
              go_roundw
              case rel => exact ⟨j + 1, u ++ [8 * (l0.length : Int) / 2 ^ (8 * e) % 256], by omega, by first | (go_num; done) | (congr 1; omega), ⟨by rw [HU.out, shaLen_take _ j e he, List.append_assoc]⟩, HR2, HB2, HZ2, HBS2⟩
              case measure => first | (simp [intOf]; done) | (simp [intOf]; omega)
            · obtain rfl : j = 8 := by omega
              rw [show (7 - ((8 : Nat) : Int)) = -1 from rfl]
              have hU := HU.out
              rw [List.take_of_length_le (by rw [shaLen_len]; omega), HT.out] at hU
              have HP := Aside0.mk (show u = shaPad l0 from hU)
              have l5 : decide ((0 : Int) ≤ -1) = false := by decide
              clear hU HU
              go_upto_region 14 with fail
              have hA : ArrI .u32 (wr.alloc (Obj.cells (shaH0.map (Value.int .u32)).toArray 41)) wr.heap.size 41 shaH0 := ArrI.new wr .u32 41 shaH0
              have hBt : Below wr.heap.size wr (wr.alloc (Obj.cells (shaH0.map (Value.int .u32)).toArray 41)) := below_alloc (Below.refl _ _) _
              have hst : (wr.alloc (Obj.cells (shaH0.map (Value.int .u32)).toArray 41)).heap.size = wr.heap.size + 1 := by show (wr.heap.push _).size = _; rw [Array.size_push]
              refine (show ∀ W2, W2 = wr.alloc (Obj.cells (shaH0.map (Value.int .u32)).toArray 41) → Code.wp _ _ _ _ W2 from fun W2 hW2 => ?_) _ rfl
              rw [← hW2] at hA hBt hst
              clear hW2
              have hC := (Kd.R_reads' HR.out).2.2
              have HC := Aside0.mk hC
              have hul : u.length % 64 = 0 := by rw [HP.out]; exact shaPad_len l0
              have HUL := Aside0.mk hul
              have hwB : w.heap.size < wr.heap.size := by have := HZ.out.lt; omega
              clear hC hul
              have HR9 := HR
              clear HR
              generalize wr = wt at *
              go_wp2
              go_loopw [7] (fun i wx => ∃ (b q : Nat) (h : List Int), q = 64 * b ∧ q ≤ u.length ∧ i = .int .i64 (q : Int) ∧ Aside0 (h = shaN u b) ∧ Aside0 (ArrI .u32 wx wt.heap.size 41 h) ∧ Aside0 (Below wt.heap.size wt wx)) (fun i _ => u.length - (intOf i).toNat)
              case atStart => exact ⟨0, 0, shaH0, rfl, Nat.zero_le _, rfl, ⟨rfl⟩, ⟨hA⟩, ⟨hBt⟩⟩
              case round =>
                clear hA hBt hst
                obtain ⟨b, q, h, hq, hb, rfl, HH, HA, HW⟩ := hrel
                by_cases hlt : q < u.length
                · skip
                  have hul := HUL.out
                  have hb64 : q + 64 ≤ u.length := by omega
                  have l1 : ((q : Int) < (u.length : Int)) = True := eq_true (by omega)
                  have l2 : decide ((q : Int) < (u.length : Int)) = true := decide_eq_true (by omega)
                  have HQ := Aside0.mk hq
                  clear hul hq
                  have HCU : Aside0 (∃ ad, Au = some ad ∧ ∀ j, j < u.length → wr.cell? (ad.add j) = some (.int .u8 (rdN u j))) := by
                    obtain ⟨ad, e0, hx⟩ := Kd.at_int HC.out (q : Int) (by omega) (by omega)
                    refine ⟨ad, e0, fun j hj => ?_⟩
                    obtain ⟨ad2, e2, hx⟩ := Kd.at_int HC.out (j : Int) (by omega) (by omega)
                    cases e0.symm.trans e2
                    have hrd : rd u (j : Int) = rdN u j := by simp [rd, rdN]
                    rw [hrd, Int.toNat_natCast] at hx
                    exact (HW.out.cell (World.block_lt_of_cell? wt _ hx)).trans hx
                  obtain ⟨ad, ead, hcu⟩ := HCU.out
                  subst ead
                  have HCU := Aside0.mk hcu
                  clear hcu
                  go_upto_region 18 with (first | ((with_reducible refine gate_dst (N := 71) rfl ?_); refine wpList_buildTo rfl 42 _ rfl shaZ ?hb ?_; rotate_left) | ((with_reducible refine gate_storeT (ty := 42) rfl ?_); refine wpList_store_row rfl 42 (.tmp 8) (.tmp 71) rfl wr.heap.size shaZ ?e1 ?e2 42 ?e3 ?e4 ?h1 ?h2 ?h3 ?_; rotate_left 7; have hA2 := setRow_heap (wr.alloc (Obj.cells (List.replicate 64 (Value.int .u32 0)).toArray 42)) wr.heap.size _ shaZ _ _ (blk_new wr _); have hB2 := xbelow_setRow (below_alloc (Below.refl wr.heap.size wr) (Obj.cells (List.replicate 64 (Value.int .u32 0)).toArray 42)) (Nat.le_refl _) shaZ; change wpList _ _ _ _ _ ((wr.alloc (Obj.cells (List.replicate 64 (Value.int .u32 0)).toArray 42)).setRow wr.heap.size shaZ); generalize World.setRow _ _ _ = w3 at hA2 hB2 ⊢))
                  case e1 => rfl
                  case e2 => rfl
                  case e4 => exact blk_new wr _
                  case h1 => kernel_rfl
                  case h2 => rfl
                  case h3 => kernel_rfl
                  case hb => exact (congrArg (Program.built _ _) (by rfl)).trans shaZBuilt
                  have hX : ArrI .u32 w3 wr.heap.size 42 (schedN u q 0) := by unfold ArrI; rw [schedN, List.map_replicate]; exact hA2
                  clear hA2
                  go_wp2
                  generalize wr = wo at *
                  go_loopw [9] (fun i wz => ∃ k : Nat, k ≤ 64 ∧ i = .int .i64 (k : Int) ∧ Aside0 (ArrI .u32 wz wo.heap.size 42 (schedN u q k)) ∧ Aside0 (Below wo.heap.size wo wz)) (fun i _ => 64 - (intOf i).toNat)
                  case atStart => exact ⟨0, by omega, rfl, ⟨hX⟩, ⟨hB2⟩⟩
                  case round =>
                    clear hX hB2
                    obtain ⟨k, hk, rfl, HX, HXB⟩ := hrel
                    by_cases h64 : k < 64
                    · have l3 : ((k : Int) < 64) = True := ltT h64
                      have l4 : decide ((k : Int) < 64) = true := ltD h64
                      have l5 : (k < 64) = True := eq_true h64
                      have hx := ArrI.cell HX.out k (by rw [schedN_len]; exact h64)
                      have hf := ArrI.frozen HX.out k
                      by_cases h16 : k < 16
                      · as_aux_lemma =>
                        have l6 : ((k : Int) < 16) = True := ltT h16
                        have l7 : decide ((k : Int) < 16) = true := ltD h16
                        obtain ⟨p, p1, p2, p3, HPQ, ⟨m1, m2, m3, m4, m5⟩, ⟨n1, n2, n3, n4, n5⟩, ⟨b0, b1, b2, b3⟩, d0, d1, d2, d3⟩ := shaIdx q k u.length hb64 h16 HLN.out
                        have x0 := HCU.out p b0
                        have x1 := HCU.out p1 b1
                        have x2 := HCU.out p2 b2
                        have x3 := HCU.out p3 b3
                        replace x0 := (HXB.out.cell (World.block_lt_of_cell? wo _ x0)).trans x0
                        replace x1 := (HXB.out.cell (World.block_lt_of_cell? wo _ x1)).trans x1
                        replace x2 := (HXB.out.cell (World.block_lt_of_cell? wo _ x2)).trans x2
                        replace x3 := (HXB.out.cell (World.block_lt_of_cell? wo _ x3)).trans x3
                        replace b0 := eq_true b0
                        replace b1 := eq_true b1
                        replace b2 := eq_true b2
                        replace b3 := eq_true b3
                        go_upto_region 23 with fail
                        have x0' : wr.drew.cell? _ = _ := x0
                        have x1' : wr.drew.cell? _ = _ := x1
                        have x2' : wr.drew.cell? _ = _ := x2
                        have x3' : wr.drew.cell? _ = _ := x3
                        have hx' : wr.drew.cell? _ = _ := hx
                        have hf' : wr.drew.frozen? _ = _ := hf
                        refine start_ (n := 32) (S := fun w' => w'.cell? (ad.add p) = some (.int .u8 (rdN u p)) ∧ w'.cell? (ad.add p1) = some (.int .u8 (rdN u p1)) ∧ w'.cell? (ad.add p2) = some (.int .u8 (rdN u p2)) ∧ w'.cell? (ad.add p3) = some (.int .u8 (rdN u p3)) ∧ w'.cell? ⟨wo.heap.size, k, none⟩ = some (.int .u32 ((schedN u q k).getD k 0))) (ds := [31]) #[false, false, false, false, false, false, false, false, false, false, false, false, false, false, false, false, false, false, false, false, false, false, false, false, false, false, false, false, false, false, false, false] (by kernel_rfl) rfl rfl ⟨x0', x1', x2', x3', hx'⟩ (fun hHeld => ?_)
                        refine pure_ (i := 0) (N := some 82) (v := ?_) (a' := ?_) #[true, false, false, false, false, false, false, false, false, false, false, false, false, false, false, false, false, false, false, false, false, false, false, false, false, false, false, false, false, false, false, false] rfl rfl (by kernel_rfl) (fun _ _ _ h => h) (Or.inl ⟨by rfl, ?_⟩) ?_ ?_
                        rotate_left
                        · intro w'
                          go_simp
                          with_reducible rfl
                        rotate_left
                        · simp only [Act.put, List.setIfInBounds_toArray, List.set_cons_zero, List.set_cons_succ, i64_w, i32_w]
                          rfl
                        refine pure_ (i := 1) (N := some 83) (v := ?_) (a' := ?_) #[true, true, false, false, false, false, false, false, false, false, false, false, false, false, false, false, false, false, false, false, false, false, false, false, false, false, false, false, false, false, false, false] rfl rfl (by kernel_rfl) (fun _ _ _ h => h) (Or.inl ⟨by rfl, ?_⟩) ?_ ?_
                        rotate_left
                        · intro w'
                          go_simp
                          with_reducible rfl
                        rotate_left
                        · simp only [Act.put, List.setIfInBounds_toArray, List.set_cons_zero, List.set_cons_succ, i64_w, i32_w]
                          rfl
                        refine pure_ (i := 2) (N := some 84) (v := ?_) (a' := ?_) #[true, true, true, false, false, false, false, false, false, false, false, false, false, false, false, false, false, false, false, false, false, false, false, false, false, false, false, false, false, false, false, false] rfl rfl (by kernel_rfl) (fun _ _ _ h => h) (Or.inl ⟨by rfl, ?_⟩) ?_ ?_
                        rotate_left
                        · intro w'
                          go_simp
                          with_reducible rfl
                        rotate_left
                        · simp only [Act.put, List.setIfInBounds_toArray, List.set_cons_zero, List.set_cons_succ, i64_w, i32_w]
                          rfl
                        refine pure_ (i := 3) (N := some 85) (v := ?_) (a' := ?_) #[true, true, true, true, false, false, false, false, false, false, false, false, false, false, false, false, false, false, false, false, false, false, false, false, false, false, false, false, false, false, false, false] rfl rfl (by kernel_rfl) (fun _ _ _ h => h) (Or.inl ⟨by rfl, ?_⟩) ?_ ?_
                        rotate_left
                        · intro w'
                          go_simp
                          with_reducible rfl
                        rotate_left
                        · simp only [Act.put, List.setIfInBounds_toArray, List.set_cons_zero, List.set_cons_succ, i64_w, i32_w]
                          rfl
                        refine pure_ (i := 7) (N := some 89) (v := ?_) (a' := ?_) #[true, true, true, true, false, false, false, true, false, false, false, false, false, false, false, false, false, false, false, false, false, false, false, false, false, false, false, false, false, false, false, false] rfl rfl (by kernel_rfl) (fun _ _ _ h => h) (Or.inl ⟨by rfl, ?_⟩) ?_ ?_
                        rotate_left
                        · intro w'
                          go_simp
                          with_reducible rfl
                        rotate_left
                        · simp only [Act.put, List.setIfInBounds_toArray, List.set_cons_zero, List.set_cons_succ, i64_w, i32_w]
                          rfl
                        refine pure_ (i := 8) (N := some 90) (v := ?_) (a' := ?_) #[true, true, true, true, false, false, false, true, true, false, false, false, false, false, false, false, false, false, false, false, false, false, false, false, false, false, false, false, false, false, false, false] rfl rfl (by kernel_rfl) (fun _ _ _ h => h) (Or.inl ⟨by rfl, ?_⟩) ?_ ?_
                        rotate_left
                        · intro w'
                          go_simp
                          with_reducible rfl
                        rotate_left
                        · simp only [Act.put, List.setIfInBounds_toArray, List.set_cons_zero, List.set_cons_succ, i64_w, i32_w]
                          rfl
                        refine pure_ (i := 9) (N := some 91) (v := ?_) (a' := ?_) #[true, true, true, true, false, false, false, true, true, true, false, false, false, false, false, false, false, false, false, false, false, false, false, false, false, false, false, false, false, false, false, false] rfl rfl (by kernel_rfl) (fun _ _ _ h => h) (Or.inl ⟨by rfl, ?_⟩) ?_ ?_
                        rotate_left
                        · intro w'
                          go_simp
                          with_reducible rfl
                        rotate_left
                        · simp only [Act.put, List.setIfInBounds_toArray, List.set_cons_zero, List.set_cons_succ, i64_w, i32_w]
                          rfl
                        refine pure_ (i := 10) (N := some 92) (v := ?_) (a' := ?_) #[true, true, true, true, false, false, false, true, true, true, true, false, false, false, false, false, false, false, false, false, false, false, false, false, false, false, false, false, false, false, false, false] rfl rfl (by kernel_rfl) (fun _ _ _ h => h) (Or.inl ⟨by rfl, ?_⟩) ?_ ?_
                        rotate_left
                        · intro w'
                          go_simp
                          with_reducible rfl
                        rotate_left
                        · simp only [Act.put, List.setIfInBounds_toArray, List.set_cons_zero, List.set_cons_succ, i64_w, i32_w]
                          rfl
                        refine pure_ (i := 15) (N := some 97) (v := ?_) (a' := ?_) #[true, true, true, true, false, false, false, true, true, true, true, false, false, false, false, true, false, false, false, false, false, false, false, false, false, false, false, false, false, false, false, false] rfl rfl (by kernel_rfl) (fun _ _ _ h => h) (Or.inl ⟨by rfl, ?_⟩) ?_ ?_
                        rotate_left
                        · intro w'
                          go_simp
                          with_reducible rfl
                        rotate_left
                        · simp only [Act.put, List.setIfInBounds_toArray, List.set_cons_zero, List.set_cons_succ, i64_w, i32_w]
                          rfl
                        refine pure_ (i := 16) (N := some 98) (v := ?_) (a' := ?_) #[true, true, true, true, false, false, false, true, true, true, true, false, false, false, false, true, true, false, false, false, false, false, false, false, false, false, false, false, false, false, false, false] rfl rfl (by kernel_rfl) (fun _ _ _ h => h) (Or.inl ⟨by rfl, ?_⟩) ?_ ?_
                        rotate_left
                        · intro w'
                          go_simp
                          with_reducible rfl
                        rotate_left
                        · simp only [Act.put, List.setIfInBounds_toArray, List.set_cons_zero, List.set_cons_succ, i64_w, i32_w]
                          rfl
                        refine pure_ (i := 17) (N := some 99) (v := ?_) (a' := ?_) #[true, true, true, true, false, false, false, true, true, true, true, false, false, false, false, true, true, true, false, false, false, false, false, false, false, false, false, false, false, false, false, false] rfl rfl (by kernel_rfl) (fun _ _ _ h => h) (Or.inl ⟨by rfl, ?_⟩) ?_ ?_
                        rotate_left
                        · intro w'
                          go_simp
                          with_reducible rfl
                        rotate_left
                        · simp only [Act.put, List.setIfInBounds_toArray, List.set_cons_zero, List.set_cons_succ, i64_w, i32_w]
                          rfl
                        refine pure_ (i := 18) (N := some 100) (v := ?_) (a' := ?_) #[true, true, true, true, false, false, false, true, true, true, true, false, false, false, false, true, true, true, true, false, false, false, false, false, false, false, false, false, false, false, false, false] rfl rfl (by kernel_rfl) (fun _ _ _ h => h) (Or.inl ⟨by rfl, ?_⟩) ?_ ?_
                        rotate_left
                        · intro w'
                          go_simp
                          with_reducible rfl
                        rotate_left
                        · simp only [Act.put, List.setIfInBounds_toArray, List.set_cons_zero, List.set_cons_succ, i64_w, i32_w]
                          rfl
                        refine pure_ (i := 23) (N := some 105) (v := ?_) (a' := ?_) #[true, true, true, true, false, false, false, true, true, true, true, false, false, false, false, true, true, true, true, false, false, false, false, true, false, false, false, false, false, false, false, false] rfl rfl (by kernel_rfl) (fun _ _ _ h => h) (Or.inl ⟨by rfl, ?_⟩) ?_ ?_
                        rotate_left
                        · intro w'
                          go_simp
                          with_reducible rfl
                        rotate_left
                        · simp only [Act.put, List.setIfInBounds_toArray, List.set_cons_zero, List.set_cons_succ, i64_w, i32_w]
                          rfl
                        refine pure_ (i := 24) (N := some 106) (v := ?_) (a' := ?_) #[true, true, true, true, false, false, false, true, true, true, true, false, false, false, false, true, true, true, true, false, false, false, false, true, true, false, false, false, false, false, false, false] rfl rfl (by kernel_rfl) (fun _ _ _ h => h) (Or.inl ⟨by rfl, ?_⟩) ?_ ?_
                        rotate_left
                        · intro w'
                          go_simp
                          with_reducible rfl
                        rotate_left
                        · simp only [Act.put, List.setIfInBounds_toArray, List.set_cons_zero, List.set_cons_succ, i64_w, i32_w]
                          rfl
                        refine pure_ (i := 25) (N := some 107) (v := ?_) (a' := ?_) #[true, true, true, true, false, false, false, true, true, true, true, false, false, false, false, true, true, true, true, false, false, false, false, true, true, true, false, false, false, false, false, false] rfl rfl (by kernel_rfl) (fun _ _ _ h => h) (Or.inl ⟨by rfl, ?_⟩) ?_ ?_
                        rotate_left
                        · intro w'
                          go_simp
                          with_reducible rfl
                        rotate_left
                        · simp only [Act.put, List.setIfInBounds_toArray, List.set_cons_zero, List.set_cons_succ, i64_w, i32_w]
                          rfl
                        refine pure_ (i := 26) (N := some 108) (v := ?_) (a' := ?_) #[true, true, true, true, false, false, false, true, true, true, true, false, false, false, false, true, true, true, true, false, false, false, false, true, true, true, true, false, false, false, false, false] rfl rfl (by kernel_rfl) (fun _ _ _ h => h) (Or.inl ⟨by rfl, ?_⟩) ?_ ?_
                        rotate_left
                        · intro w'
                          go_simp
                          with_reducible rfl
                        rotate_left
                        · simp only [Act.put, List.setIfInBounds_toArray, List.set_cons_zero, List.set_cons_succ, i64_w, i32_w]
                          rfl
                        refine take_ (i := 4) (N := some 86) (v := ?_) (a' := ?_) #[true, true, true, true, true, false, false, true, true, true, true, false, false, false, false, true, true, true, true, false, false, false, false, true, true, true, true, false, false, false, false, false] rfl rfl (by kernel_rfl) (fun _ _ _ h => h) (Or.inl ⟨by rfl, ?_⟩) hHeld ?_ ?_
                        rotate_left
                        · rintro w' ⟨s0, s1, s2, s3, s4⟩
                          go_simp
                          with_reducible rfl
                        rotate_left
                        · simp only [Act.put, List.setIfInBounds_toArray, List.set_cons_zero, List.set_cons_succ, i64_w, i32_w]
                          rfl
                        refine pure_ (i := 5) (N := some 87) (v := ?_) (a' := ?_) #[true, true, true, true, true, true, false, true, true, true, true, false, false, false, false, true, true, true, true, false, false, false, false, true, true, true, true, false, false, false, false, false] rfl rfl (by kernel_rfl) (fun _ _ _ h => h) (Or.inl ⟨by rfl, ?_⟩) ?_ ?_
                        rotate_left
                        · intro w'
                          go_simp
                          with_reducible rfl
                        rotate_left
                        · simp only [Act.put, List.setIfInBounds_toArray, List.set_cons_zero, List.set_cons_succ, i64_w, i32_w]
                          rfl
                        refine pure_ (i := 6) (N := some 88) (v := ?_) (a' := ?_) #[true, true, true, true, true, true, true, true, true, true, true, false, false, false, false, true, true, true, true, false, false, false, false, true, true, true, true, false, false, false, false, false] rfl rfl (by kernel_rfl) (fun _ _ _ h => h) (Or.inl ⟨by rfl, ?_⟩) ?_ ?_
                        rotate_left
                        · intro w'
                          go_simp
                          with_reducible rfl
                        rotate_left
                        · simp only [Act.put, List.setIfInBounds_toArray, List.set_cons_zero, List.set_cons_succ, i64_w, i32_w]
                          rfl
                        refine take_ (i := 11) (N := some 93) (v := ?_) (a' := ?_) #[true, true, true, true, true, true, true, true, true, true, true, true, false, false, false, true, true, true, true, false, false, false, false, true, true, true, true, false, false, false, false, false] rfl rfl (by kernel_rfl) (fun _ _ _ h => h) (Or.inl ⟨by rfl, ?_⟩) hHeld ?_ ?_
                        rotate_left
                        · rintro w' ⟨s0, s1, s2, s3, s4⟩
                          go_simp
                          with_reducible rfl
                        rotate_left
                        · simp only [Act.put, List.setIfInBounds_toArray, List.set_cons_zero, List.set_cons_succ, i64_w, i32_w]
                          rfl
                        refine pure_ (i := 12) (N := some 94) (v := ?_) (a' := ?_) #[true, true, true, true, true, true, true, true, true, true, true, true, true, false, false, true, true, true, true, false, false, false, false, true, true, true, true, false, false, false, false, false] rfl rfl (by kernel_rfl) (fun _ _ _ h => h) (Or.inl ⟨by rfl, ?_⟩) ?_ ?_
                        rotate_left
                        · intro w'
                          go_simp
                          with_reducible rfl
                        rotate_left
                        · simp only [Act.put, List.setIfInBounds_toArray, List.set_cons_zero, List.set_cons_succ, i64_w, i32_w]
                          rfl
                        refine pure_ (i := 13) (N := some 95) (v := ?_) (a' := ?_) #[true, true, true, true, true, true, true, true, true, true, true, true, true, true, false, true, true, true, true, false, false, false, false, true, true, true, true, false, false, false, false, false] rfl rfl (by kernel_rfl) (fun _ _ _ h => h) (Or.inl ⟨by rfl, ?_⟩) ?_ ?_
                        rotate_left
                        · intro w'
                          go_simp
                          with_reducible rfl
                        rotate_left
                        · simp only [Act.put, List.setIfInBounds_toArray, List.set_cons_zero, List.set_cons_succ, i64_w, i32_w]
                          rfl
                        refine pure_ (i := 14) (N := some 96) (v := ?_) (a' := ?_) #[true, true, true, true, true, true, true, true, true, true, true, true, true, true, true, true, true, true, true, false, false, false, false, true, true, true, true, false, false, false, false, false] rfl rfl (by kernel_rfl) (fun _ _ _ h => h) (Or.inl ⟨by rfl, ?_⟩) ?_ ?_
                        rotate_left
                        · intro w'
                          go_simp
                          with_reducible rfl
                        rotate_left
                        · simp only [Act.put, List.setIfInBounds_toArray, List.set_cons_zero, List.set_cons_succ, i64_w, i32_w]
                          rfl
                        refine take_ (i := 19) (N := some 101) (v := ?_) (a' := ?_) #[true, true, true, true, true, true, true, true, true, true, true, true, true, true, true, true, true, true, true, true, false, false, false, true, true, true, true, false, false, false, false, false] rfl rfl (by kernel_rfl) (fun _ _ _ h => h) (Or.inl ⟨by rfl, ?_⟩) hHeld ?_ ?_
                        rotate_left
                        · rintro w' ⟨s0, s1, s2, s3, s4⟩
                          go_simp
                          with_reducible rfl
                        rotate_left
                        · simp only [Act.put, List.setIfInBounds_toArray, List.set_cons_zero, List.set_cons_succ, i64_w, i32_w]
                          rfl
                        refine pure_ (i := 20) (N := some 102) (v := ?_) (a' := ?_) #[true, true, true, true, true, true, true, true, true, true, true, true, true, true, true, true, true, true, true, true, true, false, false, true, true, true, true, false, false, false, false, false] rfl rfl (by kernel_rfl) (fun _ _ _ h => h) (Or.inl ⟨by rfl, ?_⟩) ?_ ?_
                        rotate_left
                        · intro w'
                          go_simp
                          with_reducible rfl
                        rotate_left
                        · simp only [Act.put, List.setIfInBounds_toArray, List.set_cons_zero, List.set_cons_succ, i64_w, i32_w]
                          rfl
                        refine pure_ (i := 21) (N := some 103) (v := ?_) (a' := ?_) #[true, true, true, true, true, true, true, true, true, true, true, true, true, true, true, true, true, true, true, true, true, true, false, true, true, true, true, false, false, false, false, false] rfl rfl (by kernel_rfl) (fun _ _ _ h => h) (Or.inl ⟨by rfl, ?_⟩) ?_ ?_
                        rotate_left
                        · intro w'
                          go_simp
                          with_reducible rfl
                        rotate_left
                        · simp only [Act.put, List.setIfInBounds_toArray, List.set_cons_zero, List.set_cons_succ, i64_w, i32_w]
                          rfl
                        refine pure_ (i := 22) (N := some 104) (v := ?_) (a' := ?_) #[true, true, true, true, true, true, true, true, true, true, true, true, true, true, true, true, true, true, true, true, true, true, true, true, true, true, true, false, false, false, false, false] rfl rfl (by kernel_rfl) (fun _ _ _ h => h) (Or.inl ⟨by rfl, ?_⟩) ?_ ?_
                        rotate_left
                        · intro w'
                          go_simp
                          with_reducible rfl
                        rotate_left
                        · simp only [Act.put, List.setIfInBounds_toArray, List.set_cons_zero, List.set_cons_succ, i64_w, i32_w]
                          rfl
                        refine take_ (i := 27) (N := some 109) (v := ?_) (a' := ?_) #[true, true, true, true, true, true, true, true, true, true, true, true, true, true, true, true, true, true, true, true, true, true, true, true, true, true, true, true, false, false, false, false] rfl rfl (by kernel_rfl) (fun _ _ _ h => h) (Or.inl ⟨by rfl, ?_⟩) hHeld ?_ ?_
                        rotate_left
                        · rintro w' ⟨s0, s1, s2, s3, s4⟩
                          go_simp
                          with_reducible rfl
                        rotate_left
                        · simp only [Act.put, List.setIfInBounds_toArray, List.set_cons_zero, List.set_cons_succ, i64_w, i32_w]
                          rfl
                        refine pure_ (i := 28) (N := some 110) (v := ?_) (a' := ?_) #[true, true, true, true, true, true, true, true, true, true, true, true, true, true, true, true, true, true, true, true, true, true, true, true, true, true, true, true, true, false, false, false] rfl rfl (by kernel_rfl) (fun _ _ _ h => h) (Or.inl ⟨by rfl, ?_⟩) ?_ ?_
                        rotate_left
                        · intro w'
                          go_simp
                          with_reducible rfl
                        rotate_left
                        · simp only [Act.put, List.setIfInBounds_toArray, List.set_cons_zero, List.set_cons_succ, i64_w, i32_w]
                          rfl
                        refine pure_ (i := 29) (N := some 111) (v := ?_) (a' := ?_) #[true, true, true, true, true, true, true, true, true, true, true, true, true, true, true, true, true, true, true, true, true, true, true, true, true, true, true, true, true, true, false, false] rfl rfl (by kernel_rfl) (fun _ _ _ h => h) (Or.inl ⟨by rfl, ?_⟩) ?_ ?_
                        rotate_left
                        · intro w'
                          go_simp
                          with_reducible rfl
                        rotate_left
                        · simp only [Act.put, List.setIfInBounds_toArray, List.set_cons_zero, List.set_cons_succ, i64_w, i32_w]
                          rfl
                        refine pure_ (i := 30) (N := some 112) (v := ?_) (a' := ?_) #[true, true, true, true, true, true, true, true, true, true, true, true, true, true, true, true, true, true, true, true, true, true, true, true, true, true, true, true, true, true, true, false] rfl rfl (by kernel_rfl) (fun _ _ _ h => h) (Or.inl ⟨by rfl, ?_⟩) ?_ ?_
                        rotate_left
                        · intro w'
                          go_simp
                          with_reducible rfl
                        rotate_left
                        · simp only [Act.put, List.setIfInBounds_toArray, List.set_cons_zero, List.set_cons_succ, i64_w, i32_w]
                          rfl
                        refine last_ (i := 31) (N := none) #[true, true, true, true, true, true, true, true, true, true, true, true, true, true, true, true, true, true, true, true, true, true, true, true, true, true, true, true, true, true, true, true] rfl rfl (by kernel_rfl) (by decide) (fun K hK => ?_)
                        refine skip_ (w1 := ?_) (by rfl) rfl ?_ ?_
                        rotate_left
                        · go_simp
                          rfl
                        refine hK.out _ _ ?_
                        clear hK K
                        refine done_ (by kernel_rfl) ?_

                        go_wp2
                        go_roundw
                        case rel =>
                          refine ⟨k + 1, Nat.succ_le_of_lt h64, by go_num, ⟨?_⟩, ⟨below_drew (HXB.out.setCell (p := ⟨wo.heap.size, k, none⟩) (Nat.le_refl _) _)⟩⟩
                          obtain ⟨e0, e1, e2, e3⟩ := HPQ.out
                          rw [xu32_turn]
                          show ArrI .u32 _ _ _ ((schedN u q k).set k (schedV u q (schedN u q k) k))
                          rw [schedV, if_pos h16, ← e0, ← e1, ← e2, ← e3]
                          exact ArrI.drew (HX.out.set k _)
                        case measure => first | exact shaM1 h64 | exact shaM1 h9
                      · as_aux_lemma =>
                        have l6 : ((k : Int) < 16) = False := ltF h16
                        have l7 : decide ((k : Int) < 16) = false := ltG h16
                        obtain ⟨j15, j2, j16, j7, HJ, ⟨m1, m2, m3, m4⟩, ⟨n1, n2, n3, n4⟩, ⟨b0, b1, b2, b3⟩, d0, d1, d2, d3⟩ := shaIdy k h64 h16
                        obtain ⟨y15, hy15⟩ : ∃ y, y = rdN (schedN u q k) j15 := ⟨_, rfl⟩
                        have x15 : wr.cell? ⟨wo.heap.size, j15, none⟩ = some (.int .u32 y15) := by rw [hy15]; exact ArrI.cell HX.out j15 (by rw [schedN_len]; exact b0)
                        replace hy15 := Aside0.mk hy15
                        obtain ⟨y2, hy2⟩ : ∃ y, y = rdN (schedN u q k) j2 := ⟨_, rfl⟩
                        have x2 : wr.cell? ⟨wo.heap.size, j2, none⟩ = some (.int .u32 y2) := by rw [hy2]; exact ArrI.cell HX.out j2 (by rw [schedN_len]; exact b1)
                        replace hy2 := Aside0.mk hy2
                        obtain ⟨y16, hy16⟩ : ∃ y, y = rdN (schedN u q k) j16 := ⟨_, rfl⟩
                        have x16 : wr.cell? ⟨wo.heap.size, j16, none⟩ = some (.int .u32 y16) := by rw [hy16]; exact ArrI.cell HX.out j16 (by rw [schedN_len]; exact b2)
                        replace hy16 := Aside0.mk hy16
                        obtain ⟨y7, hy7⟩ : ∃ y, y = rdN (schedN u q k) j7 := ⟨_, rfl⟩
                        have x7 : wr.cell? ⟨wo.heap.size, j7, none⟩ = some (.int .u32 y7) := by rw [hy7]; exact ArrI.cell HX.out j7 (by rw [schedN_len]; exact b3)
                        replace hy7 := Aside0.mk hy7
                        replace b0 := eq_true b0
                        replace b1 := eq_true b1
                        replace b2 := eq_true b2
                        replace b3 := eq_true b3
                        go_upto_region 28 with (first | (go_at_call 19; refine (spec_Sha256.turn _ _ (m := 7) (by decide) _).mono ?_; rintro e w1 ⟨rfl, n_, rfl⟩) | (go_at_call 19; refine (spec_Sha256.turn _ _ (m := 18) (by decide) _).mono ?_; rintro e w1 ⟨rfl, n_, rfl⟩) | (go_at_call 19; refine (spec_Sha256.turn _ _ (m := 17) (by decide) _).mono ?_; rintro e w1 ⟨rfl, n_, rfl⟩) | (go_at_call 19; refine (spec_Sha256.turn _ _ (m := 19) (by decide) _).mono ?_; rintro e w1 ⟨rfl, n_, rfl⟩))
                        refine start_ (n := 16) (S := fun w' => w'.cell? ⟨wo.heap.size, j16, none⟩ = some (.int .u32 y16) ∧ w'.cell? ⟨wo.heap.size, j7, none⟩ = some (.int .u32 y7) ∧ w'.cell? ⟨wo.heap.size, k, none⟩ = some (.int .u32 ((schedN u q k).getD k 0))) (ds := [15]) #[false, false, false, false, false, false, false, false, false, false, false, false, false, false, false, false] (by kernel_rfl) rfl rfl ⟨x16, x7, hx⟩ (fun hHeld => ?_)
                        refine pure_ (i := 0) (N := some 137) (v := ?_) (a' := ?_) #[true, false, false, false, false, false, false, false, false, false, false, false, false, false, false, false] rfl rfl (by kernel_rfl) (fun _ _ _ h => h) (Or.inl ⟨by rfl, ?_⟩) ?_ ?_
                        rotate_left
                        · intro w'
                          go_simp
                          with_reducible rfl
                        rotate_left
                        · simp only [Act.put, List.setIfInBounds_toArray, List.set_cons_zero, List.set_cons_succ, i64_w, i32_w]
                          rfl
                        refine pure_ (i := 1) (N := some 138) (v := ?_) (a' := ?_) #[true, true, false, false, false, false, false, false, false, false, false, false, false, false, false, false] rfl rfl (by kernel_rfl) (fun _ _ _ h => h) (Or.inl ⟨by rfl, ?_⟩) ?_ ?_
                        rotate_left
                        · intro w'
                          go_simp
                          with_reducible rfl
                        rotate_left
                        · simp only [Act.put, List.setIfInBounds_toArray, List.set_cons_zero, List.set_cons_succ, i64_w, i32_w]
                          rfl
                        refine pure_ (i := 2) (N := some 139) (v := ?_) (a' := ?_) #[true, true, true, false, false, false, false, false, false, false, false, false, false, false, false, false] rfl rfl (by kernel_rfl) (fun _ _ _ h => h) (Or.inl ⟨by rfl, ?_⟩) ?_ ?_
                        rotate_left
                        · intro w'
                          go_simp
                          with_reducible rfl
                        rotate_left
                        · simp only [Act.put, List.setIfInBounds_toArray, List.set_cons_zero, List.set_cons_succ, i64_w, i32_w]
                          rfl
                        refine pure_ (i := 3) (N := some 140) (v := ?_) (a' := ?_) #[true, true, true, true, false, false, false, false, false, false, false, false, false, false, false, false] rfl rfl (by kernel_rfl) (fun _ _ _ h => h) (Or.inl ⟨by rfl, ?_⟩) ?_ ?_
                        rotate_left
                        · intro w'
                          go_simp
                          with_reducible rfl
                        rotate_left
                        · simp only [Act.put, List.setIfInBounds_toArray, List.set_cons_zero, List.set_cons_succ, i64_w, i32_w]
                          rfl
                        refine pure_ (i := 5) (N := some 142) (v := ?_) (a' := ?_) #[true, true, true, true, false, true, false, false, false, false, false, false, false, false, false, false] rfl rfl (by kernel_rfl) (fun _ _ _ h => h) (Or.inl ⟨by rfl, ?_⟩) ?_ ?_
                        rotate_left
                        · intro w'
                          go_simp
                          with_reducible rfl
                        rotate_left
                        · simp only [Act.put, List.setIfInBounds_toArray, List.set_cons_zero, List.set_cons_succ, i64_w, i32_w]
                          rfl
                        refine pure_ (i := 7) (N := some 144) (v := ?_) (a' := ?_) #[true, true, true, true, false, true, false, true, false, false, false, false, false, false, false, false] rfl rfl (by kernel_rfl) (fun _ _ _ h => h) (Or.inl ⟨by rfl, ?_⟩) ?_ ?_
                        rotate_left
                        · intro w'
                          go_simp
                          with_reducible rfl
                        rotate_left
                        · simp only [Act.put, List.setIfInBounds_toArray, List.set_cons_zero, List.set_cons_succ, i64_w, i32_w]
                          rfl
                        refine pure_ (i := 8) (N := some 145) (v := ?_) (a' := ?_) #[true, true, true, true, false, true, false, true, true, false, false, false, false, false, false, false] rfl rfl (by kernel_rfl) (fun _ _ _ h => h) (Or.inl ⟨by rfl, ?_⟩) ?_ ?_
                        rotate_left
                        · intro w'
                          go_simp
                          with_reducible rfl
                        rotate_left
                        · simp only [Act.put, List.setIfInBounds_toArray, List.set_cons_zero, List.set_cons_succ, i64_w, i32_w]
                          rfl
                        refine pure_ (i := 9) (N := some 146) (v := ?_) (a' := ?_) #[true, true, true, true, false, true, false, true, true, true, false, false, false, false, false, false] rfl rfl (by kernel_rfl) (fun _ _ _ h => h) (Or.inl ⟨by rfl, ?_⟩) ?_ ?_
                        rotate_left
                        · intro w'
                          go_simp
                          with_reducible rfl
                        rotate_left
                        · simp only [Act.put, List.setIfInBounds_toArray, List.set_cons_zero, List.set_cons_succ, i64_w, i32_w]
                          rfl
                        refine pure_ (i := 12) (N := some 149) (v := ?_) (a' := ?_) #[true, true, true, true, false, true, false, true, true, true, false, false, true, false, false, false] rfl rfl (by kernel_rfl) (fun _ _ _ h => h) (Or.inl ⟨by rfl, ?_⟩) ?_ ?_
                        rotate_left
                        · intro w'
                          go_simp
                          with_reducible rfl
                        rotate_left
                        · simp only [Act.put, List.setIfInBounds_toArray, List.set_cons_zero, List.set_cons_succ, i64_w, i32_w]
                          rfl
                        refine take_ (i := 4) (N := some 141) (v := ?_) (a' := ?_) #[true, true, true, true, true, true, false, true, true, true, false, false, true, false, false, false] rfl rfl (by kernel_rfl) (fun _ _ _ h => h) (Or.inl ⟨by rfl, ?_⟩) hHeld ?_ ?_
                        rotate_left
                        · rintro w' ⟨s0, s1, s2⟩
                          go_simp
                          with_reducible rfl
                        rotate_left
                        · simp only [Act.put, List.setIfInBounds_toArray, List.set_cons_zero, List.set_cons_succ, i64_w, i32_w]
                          rfl
                        refine pure_ (i := 6) (N := some 143) (v := ?_) (a' := ?_) #[true, true, true, true, true, true, true, true, true, true, false, false, true, false, false, false] rfl rfl (by kernel_rfl) (fun _ _ _ h => h) (Or.inl ⟨by rfl, ?_⟩) ?_ ?_
                        rotate_left
                        · intro w'
                          go_simp
                          with_reducible rfl
                        rotate_left
                        · simp only [Act.put, List.setIfInBounds_toArray, List.set_cons_zero, List.set_cons_succ, i64_w, i32_w]
                          rfl
                        refine take_ (i := 10) (N := some 147) (v := ?_) (a' := ?_) #[true, true, true, true, true, true, true, true, true, true, true, false, true, false, false, false] rfl rfl (by kernel_rfl) (fun _ _ _ h => h) (Or.inl ⟨by rfl, ?_⟩) hHeld ?_ ?_
                        rotate_left
                        · rintro w' ⟨s0, s1, s2⟩
                          go_simp
                          with_reducible rfl
                        rotate_left
                        · simp only [Act.put, List.setIfInBounds_toArray, List.set_cons_zero, List.set_cons_succ, i64_w, i32_w]
                          rfl
                        refine pure_ (i := 11) (N := some 148) (v := ?_) (a' := ?_) #[true, true, true, true, true, true, true, true, true, true, true, true, true, false, false, false] rfl rfl (by kernel_rfl) (fun _ _ _ h => h) (Or.inl ⟨by rfl, ?_⟩) ?_ ?_
                        rotate_left
                        · intro w'
                          go_simp
                          with_reducible rfl
                        rotate_left
                        · simp only [Act.put, List.setIfInBounds_toArray, List.set_cons_zero, List.set_cons_succ, i64_w, i32_w]
                          rfl
                        refine pure_ (i := 13) (N := some 150) (v := ?_) (a' := ?_) #[true, true, true, true, true, true, true, true, true, true, true, true, true, true, false, false] rfl rfl (by kernel_rfl) (fun _ _ _ h => h) (Or.inl ⟨by rfl, ?_⟩) ?_ ?_
                        rotate_left
                        · intro w'
                          go_simp
                          with_reducible rfl
                        rotate_left
                        · simp only [Act.put, List.setIfInBounds_toArray, List.set_cons_zero, List.set_cons_succ, i64_w, i32_w]
                          rfl
                        refine pure_ (i := 14) (N := some 151) (v := ?_) (a' := ?_) #[true, true, true, true, true, true, true, true, true, true, true, true, true, true, true, false] rfl rfl (by kernel_rfl) (fun _ _ _ h => h) (Or.inl ⟨by rfl, ?_⟩) ?_ ?_
                        rotate_left
                        · intro w'
                          go_simp
                          with_reducible rfl
                        rotate_left
                        · simp only [Act.put, List.setIfInBounds_toArray, List.set_cons_zero, List.set_cons_succ, i64_w, i32_w]
                          rfl
                        refine last_ (i := 15) (N := none) #[true, true, true, true, true, true, true, true, true, true, true, true, true, true, true, true] rfl rfl (by kernel_rfl) (by decide) (fun K hK => ?_)
                        refine skip_ (w1 := ?_) (by rfl) rfl ?_ ?_
                        rotate_left
                        · go_simp
                          rfl
                        refine hK.out _ _ ?_
                        clear hK K
                        refine done_ (by kernel_rfl) ?_

                        go_wp2
                        go_roundw
                        case rel =>
                          refine ⟨k + 1, Nat.succ_le_of_lt h64, by go_num, ⟨?_⟩, ⟨Below.setCell (p := ⟨wo.heap.size, k, none⟩) (by apply pw_below_drewN; exact HXB.out) (Nat.le_refl _) _⟩⟩
                          obtain ⟨e0, e1, e2, e3⟩ := HJ.out
                          show ArrI .u32 _ _ _ ((schedN u q k).set k (schedV u q (schedN u q k) k))
                          rw [schedV, if_neg h16, ← e0, ← e1, ← e2, ← e3, ← hy15.out, ← hy2.out, ← hy16.out, ← hy7.out]
                          exact ArrI.set (show ArrI .u32 (wr.drewN _) _ _ _ from HX.out) k _
                        case measure => first | exact shaM1 h64 | exact shaM1 h9
                    · skip
                      have l3 : ((k : Int) < 64) = False := ltF h64
                      have l4 : decide ((k : Int) < 64) = false := ltG h64
                      have hX := HX.out
                      rw [show k = 64 from Nat.le_antisymm hk (Nat.le_of_not_lt h64)] at hX
                      clear HX
                      have HL8 := Aside0.mk (show h.length = 8 by rw [HH.out]; exact shaN_len u b)
                      have hAo := ArrI.below HA.out HXB.out
                      obtain ⟨h0, h1, h2, h3, h4, h5, h6, h7, eh⟩ := len8 h HL8.out
                      have hAl : wr.heap[wt.heap.size]? = some (Obj.cells #[.int .u32 h0, .int .u32 h1, .int .u32 h2, .int .u32 h3, .int .u32 h4, .int .u32 h5, .int .u32 h6, .int .u32 h7] 41 (0, 0)) := by have := hAo; rw [eh] at this; exact this
                      replace eh := Aside0.mk eh
                      replace hAo := Aside0.mk hAo
                      replace hX := Aside0.mk hX
                      go_upto_region 30 with (first | ((with_reducible refine gate_dst (N := 152) rfl ?_); refine wpList_load_row rfl 41 (.tmp 6) rfl wt.heap.size rfl 41 #[.int .u32 h0, .int .u32 h1, .int .u32 h2, .int .u32 h3, .int .u32 h4, .int .u32 h5, .int .u32 h6, .int .u32 h7] (0, 0) _ hAl Tryd.underlying41 rfl (by kernel_rfl) ?_))
                      have hV : ArrI .u32 (wr.alloc (Obj.cells #[.int .u32 h0, .int .u32 h1, .int .u32 h2, .int .u32 h3, .int .u32 h4, .int .u32 h5, .int .u32 h6, .int .u32 h7] 41)) wr.heap.size 41 h := by rw [eh.out]; exact ArrI.new wr .u32 41 [h0, h1, h2, h3, h4, h5, h6, h7]
                      have hB4 : Below wr.heap.size wr (wr.alloc (Obj.cells #[.int .u32 h0, .int .u32 h1, .int .u32 h2, .int .u32 h3, .int .u32 h4, .int .u32 h5, .int .u32 h6, .int .u32 h7] 41)) := below_alloc (Below.refl _ _) _
                      refine (show ∀ W2, W2 = wr.alloc (Obj.cells #[.int .u32 h0, .int .u32 h1, .int .u32 h2, .int .u32 h3, .int .u32 h4, .int .u32 h5, .int .u32 h6, .int .u32 h7] 41) → Code.wp _ _ _ _ W2 from fun W2 hW2 => ?_) _ rfl
                      rw [← hW2] at hV hB4
                      clear hW2 hAl
                      have hlt2 : wo.heap.size < wr.heap.size := hX.out.lt
                      have hlt1 : wt.heap.size < wr.heap.size := hAo.out.lt
                      replace hlt1 := Aside0.mk hlt1
                      replace hlt2 := Aside0.mk hlt2
                      generalize wr = wp at *
                      go_wp2
                      go_loopw [16] (fun i wz => ∃ (k : Nat) (v : List Int), k ≤ 64 ∧ i = .int .i64 (k : Int) ∧ Aside0 (v = roundsN (schedN u q 64) h k) ∧ Aside0 (ArrI .u32 wz wp.heap.size 41 v) ∧ Aside0 (Below wp.heap.size wp wz)) (fun i _ => 64 - (intOf i).toNat)
                      case atStart => exact ⟨0, h, by omega, rfl, ⟨rfl⟩, ⟨hV⟩, ⟨hB4⟩⟩
                      case round =>
                        clear hV hB4
                        obtain ⟨k, v, hk, rfl, HV8, HV, HVB⟩ := hrel
                        have HX := Aside0.mk (ArrI.below hX.out HVB.out)
                        obtain ⟨v0, v1_, v2, v3, v4, v5, v6, v7, ev⟩ := len8 v (by rw [HV8.out]; exact roundsN_len _ _ HL8.out k)
                        replace ev := Aside0.mk ev
                        by_cases h64 : k < 64
                        · skip
                          have l3 : ((k : Int) < 64) = True := ltT h64
                          have l4 : decide ((k : Int) < 64) = true := ltD h64
                          have l5 : (k < 64) = True := eq_true h64
                          obtain ⟨y, hy⟩ : ∃ y, y = rdN (schedN u q 64) k := ⟨_, rfl⟩
                          have hx : wr.cell? ⟨wo.heap.size, k, none⟩ = some (.int .u32 y) := by rw [hy]; exact ArrI.cell HX.out k (by rw [schedN_len]; exact h64)
                          replace hy := Aside0.mk hy
                          obtain ⟨kk, hkk⟩ : ∃ y, y = rdN shaK k := ⟨_, rfl⟩
                          replace hkk := Aside0.mk hkk
                          have HVL : Aside0 (ArrI .u32 wr wp.heap.size 41 [v0, v1_, v2, v3, v4, v5, v6, v7]) := ⟨by rw [← ev.out]; exact HV.out⟩
                          have c0 : wr.cell? ⟨wp.heap.size, 0, none⟩ = some (.int .u32 v0) := ArrI.cell HVL.out 0 (by show _ < 8; decide)
                          have c1 : wr.cell? ⟨wp.heap.size, 1, none⟩ = some (.int .u32 v1_) := ArrI.cell HVL.out 1 (by show _ < 8; decide)
                          have c2 : wr.cell? ⟨wp.heap.size, 2, none⟩ = some (.int .u32 v2) := ArrI.cell HVL.out 2 (by show _ < 8; decide)
                          have c3 : wr.cell? ⟨wp.heap.size, 3, none⟩ = some (.int .u32 v3) := ArrI.cell HVL.out 3 (by show _ < 8; decide)
                          have c4 : wr.cell? ⟨wp.heap.size, 4, none⟩ = some (.int .u32 v4) := ArrI.cell HVL.out 4 (by show _ < 8; decide)
                          have c5 : wr.cell? ⟨wp.heap.size, 5, none⟩ = some (.int .u32 v5) := ArrI.cell HVL.out 5 (by show _ < 8; decide)
                          have c6 : wr.cell? ⟨wp.heap.size, 6, none⟩ = some (.int .u32 v6) := ArrI.cell HVL.out 6 (by show _ < 8; decide)
                          have c7 : wr.cell? ⟨wp.heap.size, 7, none⟩ = some (.int .u32 v7) := ArrI.cell HVL.out 7 (by show _ < 8; decide)
                          go_upto_region 35 with fail
                          refine start_ (n := 30) (S := fun w' => w'.cell? ⟨wp.heap.size, 7, none⟩ = some (.int .u32 v7) ∧ w'.cell? ⟨wp.heap.size, 5, none⟩ = some (.int .u32 v5) ∧ w'.cell? ⟨wp.heap.size, 6, none⟩ = some (.int .u32 v6) ∧ w'.cell? ⟨wo.heap.size, k, none⟩ = some (.int .u32 y)) (ds := []) #[false, false, false, false, false, false, false, false, false, false, false, false, false, false, false, false, false, false, false, false, false, false, false, false, false, false, false, false, false, false] (by kernel_rfl) rfl rfl ⟨c7, c5, c6, hx⟩ (fun hHeld => ?_)
                          refine pure_ (i := 0) (N := some 161) (v := ?_) (a' := ?_) #[true, false, false, false, false, false, false, false, false, false, false, false, false, false, false, false, false, false, false, false, false, false, false, false, false, false, false, false, false, false] rfl rfl (by kernel_rfl) (fun _ _ _ h => h) (Or.inl ⟨by rfl, ?_⟩) ?_ ?_
                          rotate_left
                          · intro w'
                            go_simp
                            with_reducible rfl
                          rotate_left
                          · simp only [Act.put, List.setIfInBounds_toArray, List.set_cons_zero, List.set_cons_succ, i64_w, i32_w]
                            rfl
                          refine pure_ (i := 2) (N := some 163) (v := ?_) (a' := ?_) #[true, false, true, false, false, false, false, false, false, false, false, false, false, false, false, false, false, false, false, false, false, false, false, false, false, false, false, false, false, false] rfl rfl (by kernel_rfl) (fun _ _ _ h => h) (Or.inl ⟨by rfl, ?_⟩) ?_ ?_
                          rotate_left
                          · intro w'
                            go_simp
                            with_reducible rfl
                          rotate_left
                          · simp only [Act.put, List.setIfInBounds_toArray, List.set_cons_zero, List.set_cons_succ, i64_w, i32_w]
                            rfl
                          refine pure_ (i := 4) (N := some 165) (v := ?_) (a' := ?_) #[true, false, true, false, true, false, false, false, false, false, false, false, false, false, false, false, false, false, false, false, false, false, false, false, false, false, false, false, false, false] rfl rfl (by kernel_rfl) (fun _ _ _ h => h) (Or.inl ⟨by rfl, ?_⟩) ?_ ?_
                          rotate_left
                          · intro w'
                            go_simp
                            with_reducible rfl
                          rotate_left
                          · simp only [Act.put, List.setIfInBounds_toArray, List.set_cons_zero, List.set_cons_succ, i64_w, i32_w]
                            rfl
                          refine pure_ (i := 7) (N := some 168) (v := ?_) (a' := ?_) #[true, false, true, false, true, false, false, true, false, false, false, false, false, false, false, false, false, false, false, false, false, false, false, false, false, false, false, false, false, false] rfl rfl (by kernel_rfl) (fun _ _ _ h => h) (Or.inl ⟨by rfl, ?_⟩) ?_ ?_
                          rotate_left
                          · intro w'
                            go_simp
                            with_reducible rfl
                          rotate_left
                          · simp only [Act.put, List.setIfInBounds_toArray, List.set_cons_zero, List.set_cons_succ, i64_w, i32_w]
                            rfl
                          refine pure_ (i := 11) (N := some 172) (v := ?_) (a' := ?_) #[true, false, true, false, true, false, false, true, false, false, false, true, false, false, false, false, false, false, false, false, false, false, false, false, false, false, false, false, false, false] rfl rfl (by kernel_rfl) (fun _ _ _ h => h) (Or.inl ⟨by rfl, ?_⟩) ?_ ?_
                          rotate_left
                          · intro w'
                            go_simp
                            with_reducible rfl
                          rotate_left
                          · simp only [Act.put, List.setIfInBounds_toArray, List.set_cons_zero, List.set_cons_succ, i64_w, i32_w]
                            rfl
                          refine pure_ (i := 12) (N := some 173) (v := ?_) (a' := ?_) #[true, false, true, false, true, false, false, true, false, false, false, true, true, false, false, false, false, false, false, false, false, false, false, false, false, false, false, false, false, false] rfl rfl (by kernel_rfl) (fun _ _ _ h => h) (Or.inl ⟨by rfl, ?_⟩) ?_ ?_
                          rotate_left
                          · intro w'
                            go_simp
                            with_reducible rfl
                          rotate_left
                          · simp only [Act.put, List.setIfInBounds_toArray, List.set_cons_zero, List.set_cons_succ, i64_w, i32_w]
                            rfl
                          refine pure_ (i := 15) (N := some 176) (v := ?_) (a' := ?_) #[true, false, true, false, true, false, false, true, false, false, false, true, true, false, false, true, false, false, false, false, false, false, false, false, false, false, false, false, false, false] rfl rfl (by kernel_rfl) (fun _ _ _ h => h) (Or.inl ⟨by rfl, ?_⟩) ?_ ?_
                          rotate_left
                          · intro w'
                            go_simp
                            with_reducible rfl
                          rotate_left
                          · simp only [Act.put, List.setIfInBounds_toArray, List.set_cons_zero, List.set_cons_succ, i64_w, i32_w]
                            rfl
                          refine pure_ (i := 16) (N := some 177) (v := ?_) (a' := ?_) #[true, false, true, false, true, false, false, true, false, false, false, true, true, false, false, true, true, false, false, false, false, false, false, false, false, false, false, false, false, false] rfl rfl (by kernel_rfl) (fun _ _ _ h => h) (Or.inl ⟨by rfl, ?_⟩) ?_ ?_
                          rotate_left
                          · intro w'
                            go_simp
                            with_reducible rfl
                          rotate_left
                          · simp only [Act.put, List.setIfInBounds_toArray, List.set_cons_zero, List.set_cons_succ, i64_w, i32_w]
                            rfl
                          refine pure_ (i := 17) (N := some 178) (v := ?_) (a' := ?_) #[true, false, true, false, true, false, false, true, false, false, false, true, true, false, false, true, true, true, false, false, false, false, false, false, false, false, false, false, false, false] rfl rfl (by kernel_rfl) (fun _ _ _ h => h) (Or.inl ⟨by rfl, ?_⟩) ?_ ?_
                          rotate_left
                          · intro w'
                            go_simp
                            with_reducible rfl
                          rotate_left
                          · simp only [Act.put, List.setIfInBounds_toArray, List.set_cons_zero, List.set_cons_succ, i64_w, i32_w]
                            rfl
                          refine pure_ (i := 22) (N := some 183) (v := ?_) (a' := ?_) #[true, false, true, false, true, false, false, true, false, false, false, true, true, false, false, true, true, true, false, false, false, false, true, false, false, false, false, false, false, false] rfl rfl (by kernel_rfl) (fun _ _ _ h => h) (Or.inl ⟨by rfl, ?_⟩) ?_ ?_
                          rotate_left
                          · intro w'
                            go_simp
                            with_reducible rfl
                          rotate_left
                          · simp only [Act.put, List.setIfInBounds_toArray, List.set_cons_zero, List.set_cons_succ, i64_w, i32_w]
                            rfl
                          refine pure_ (i := 25) (N := some 186) (v := ?_) (a' := ?_) #[true, false, true, false, true, false, false, true, false, false, false, true, true, false, false, true, true, true, false, false, false, false, true, false, false, true, false, false, false, false] rfl rfl (by kernel_rfl) (fun _ _ _ h => h) (Or.inl ⟨by rfl, ?_⟩) ?_ ?_
                          rotate_left
                          · intro w'
                            go_simp
                            with_reducible rfl
                          rotate_left
                          · simp only [Act.put, List.setIfInBounds_toArray, List.set_cons_zero, List.set_cons_succ, i64_w, i32_w]
                            rfl
                          refine pure_ (i := 26) (N := some 187) (v := ?_) (a' := ?_) #[true, false, true, false, true, false, false, true, false, false, false, true, true, false, false, true, true, true, false, false, false, false, true, false, false, true, true, false, false, false] rfl rfl (by kernel_rfl) (fun _ _ _ h => h) (Or.inl ⟨by rfl, ?_⟩) ?_ ?_
                          rotate_left
                          · intro w'
                            go_simp
                            with_reducible rfl
                          rotate_left
                          · simp only [Act.put, List.setIfInBounds_toArray, List.set_cons_zero, List.set_cons_succ, i64_w, i32_w]
                            rfl
                          refine take_ (i := 1) (N := some 162) (v := ?_) (a' := ?_) #[true, true, true, false, true, false, false, true, false, false, false, true, true, false, false, true, true, true, false, false, false, false, true, false, false, true, true, false, false, false] rfl rfl (by kernel_rfl) (fun _ _ _ h => h) (Or.inl ⟨by rfl, ?_⟩) hHeld ?_ ?_
                          rotate_left
                          · rintro w' ⟨s0, s1, s2, s3⟩
                            go_simp
                            with_reducible rfl
                          rotate_left
                          · simp only [Act.put, List.setIfInBounds_toArray, List.set_cons_zero, List.set_cons_succ, i64_w, i32_w]
                            rfl
                          refine take_ (i := 13) (N := some 174) (v := ?_) (a' := ?_) #[true, true, true, false, true, false, false, true, false, false, false, true, true, true, false, true, true, true, false, false, false, false, true, false, false, true, true, false, false, false] rfl rfl (by kernel_rfl) (fun _ _ _ h => h) (Or.inl ⟨by rfl, ?_⟩) hHeld ?_ ?_
                          rotate_left
                          · rintro w' ⟨s0, s1, s2, s3⟩
                            go_simp
                            with_reducible rfl
                          rotate_left
                          · simp only [Act.put, List.setIfInBounds_toArray, List.set_cons_zero, List.set_cons_succ, i64_w, i32_w]
                            rfl
                          refine pure_ (i := 14) (N := some 175) (v := ?_) (a' := ?_) #[true, true, true, false, true, false, false, true, false, false, false, true, true, true, true, true, true, true, false, false, false, false, true, false, false, true, true, false, false, false] rfl rfl (by kernel_rfl) (fun _ _ _ h => h) (Or.inl ⟨by rfl, ?_⟩) ?_ ?_
                          rotate_left
                          · intro w'
                            go_simp
                            with_reducible rfl
                          rotate_left
                          · simp only [Act.put, List.setIfInBounds_toArray, List.set_cons_zero, List.set_cons_succ, i64_w, i32_w]
                            rfl
                          refine take_ (i := 18) (N := some 179) (v := ?_) (a' := ?_) #[true, true, true, false, true, false, false, true, false, false, false, true, true, true, true, true, true, true, true, false, false, false, true, false, false, true, true, false, false, false] rfl rfl (by kernel_rfl) (fun _ _ _ h => h) (Or.inl ⟨by rfl, ?_⟩) hHeld ?_ ?_
                          rotate_left
                          · rintro w' ⟨s0, s1, s2, s3⟩
                            go_simp
                            with_reducible rfl
                          rotate_left
                          · simp only [Act.put, List.setIfInBounds_toArray, List.set_cons_zero, List.set_cons_succ, i64_w, i32_w]
                            rfl
                          refine pure_ (i := 19) (N := some 180) (v := ?_) (a' := ?_) #[true, true, true, false, true, false, false, true, false, false, false, true, true, true, true, true, true, true, true, true, false, false, true, false, false, true, true, false, false, false] rfl rfl (by kernel_rfl) (fun _ _ _ h => h) (Or.inl ⟨by rfl, ?_⟩) ?_ ?_
                          rotate_left
                          · intro w'
                            go_simp
                            with_reducible rfl
                          rotate_left
                          · simp only [Act.put, List.setIfInBounds_toArray, List.set_cons_zero, List.set_cons_succ, i64_w, i32_w]
                            rfl
                          refine pure_ (i := 20) (N := some 181) (v := ?_) (a' := ?_) #[true, true, true, false, true, false, false, true, false, false, false, true, true, true, true, true, true, true, true, true, true, false, true, false, false, true, true, false, false, false] rfl rfl (by kernel_rfl) (fun _ _ _ h => h) (Or.inl ⟨by rfl, ?_⟩) ?_ ?_
                          rotate_left
                          · intro w'
                            go_simp
                            with_reducible rfl
                          rotate_left
                          · simp only [Act.put, List.setIfInBounds_toArray, List.set_cons_zero, List.set_cons_succ, i64_w, i32_w]
                            rfl
                          refine take_ (i := 27) (N := some 188) (v := ?_) (a' := ?_) #[true, true, true, false, true, false, false, true, false, false, false, true, true, true, true, true, true, true, true, true, true, false, true, false, false, true, true, true, false, false] rfl rfl (by kernel_rfl) (fun _ _ _ h => h) (Or.inl ⟨by rfl, ?_⟩) hHeld ?_ ?_
                          rotate_left
                          · rintro w' ⟨s0, s1, s2, s3⟩
                            go_simp
                            with_reducible rfl
                          rotate_left
                          · simp only [Act.put, List.setIfInBounds_toArray, List.set_cons_zero, List.set_cons_succ, i64_w, i32_w]
                            rfl
                          refine one_ (i := 3) (N := some 164) #[true, true, true, true, true, false, false, true, false, false, false, true, true, true, true, true, true, true, true, true, true, false, true, false, false, true, true, true, false, false] rfl rfl (by kernel_rfl) (by decide) (fun K hK => ?_)
                          refine goes_ Tryd.func19 (by kernel_rfl) rfl #[.int .u32 v4, .int .u64 6] (by rfl) rfl rfl (by simp only [List.map_toArray, List.map_cons, List.map_nil]; rfl) ?_
                          with_reducible refine (spec_Sha256.turn v4 6 (m := 6) (by decide) _).mono ?_
                          rintro e w3 ⟨rfl, n_, rfl⟩
                          refine ⟨_, rfl, ?_⟩
                          refine hK.out _ _ ⟨hHeld.1, hHeld.2.1, hHeld.2.2.1, hHeld.2.2.2⟩ (fun hHeld => ?_)
                          clear hK K
                          refine norm_ (a' := ?_) ?_ ?_
                          rotate_left
                          · show Act.put _ (some 164) _ = _
                            simp only [Act.put, List.setIfInBounds_toArray, List.set_cons_zero, List.set_cons_succ, i64_w, i32_w]
                            rfl
                          refine one_ (i := 5) (N := some 166) #[true, true, true, true, true, true, false, true, false, false, false, true, true, true, true, true, true, true, true, true, true, false, true, false, false, true, true, true, false, false] rfl rfl (by kernel_rfl) (by decide) (fun K hK => ?_)
                          refine goes_ Tryd.func19 (by kernel_rfl) rfl #[.int .u32 v4, .int .u64 11] (by rfl) rfl rfl (by simp only [List.map_toArray, List.map_cons, List.map_nil]; rfl) ?_
                          with_reducible refine (spec_Sha256.turn v4 11 (m := 11) (by decide) _).mono ?_
                          rintro e w3 ⟨rfl, n_, rfl⟩
                          refine ⟨_, rfl, ?_⟩
                          refine hK.out _ _ ⟨hHeld.1, hHeld.2.1, hHeld.2.2.1, hHeld.2.2.2⟩ (fun hHeld => ?_)
                          clear hK K
                          refine norm_ (a' := ?_) ?_ ?_
                          rotate_left
                          · show Act.put _ (some 166) _ = _
                            simp only [Act.put, List.setIfInBounds_toArray, List.set_cons_zero, List.set_cons_succ, i64_w, i32_w]
                            rfl
                          refine pure_ (i := 6) (N := some 167) (v := ?_) (a' := ?_) #[true, true, true, true, true, true, true, true, false, false, false, true, true, true, true, true, true, true, true, true, true, false, true, false, false, true, true, true, false, false] rfl rfl (by kernel_rfl) (fun _ _ _ h => h) (Or.inl ⟨by rfl, ?_⟩) ?_ ?_
                          rotate_left
                          · intro w'
                            go_simp
                            with_reducible rfl
                          rotate_left
                          · simp only [Act.put, List.setIfInBounds_toArray, List.set_cons_zero, List.set_cons_succ, i64_w, i32_w]
                            rfl
                          refine one_ (i := 8) (N := some 169) #[true, true, true, true, true, true, true, true, true, false, false, true, true, true, true, true, true, true, true, true, true, false, true, false, false, true, true, true, false, false] rfl rfl (by kernel_rfl) (by decide) (fun K hK => ?_)
                          refine goes_ Tryd.func19 (by kernel_rfl) rfl #[.int .u32 v4, .int .u64 25] (by rfl) rfl rfl (by simp only [List.map_toArray, List.map_cons, List.map_nil]; rfl) ?_
                          with_reducible refine (spec_Sha256.turn v4 25 (m := 25) (by decide) _).mono ?_
                          rintro e w3 ⟨rfl, n_, rfl⟩
                          refine ⟨_, rfl, ?_⟩
                          refine hK.out _ _ ⟨hHeld.1, hHeld.2.1, hHeld.2.2.1, hHeld.2.2.2⟩ (fun hHeld => ?_)
                          clear hK K
                          refine norm_ (a' := ?_) ?_ ?_
                          rotate_left
                          · show Act.put _ (some 169) _ = _
                            simp only [Act.put, List.setIfInBounds_toArray, List.set_cons_zero, List.set_cons_succ, i64_w, i32_w]
                            rfl
                          refine pure_ (i := 9) (N := some 170) (v := ?_) (a' := ?_) #[true, true, true, true, true, true, true, true, true, true, false, true, true, true, true, true, true, true, true, true, true, false, true, false, false, true, true, true, false, false] rfl rfl (by kernel_rfl) (fun _ _ _ h => h) (Or.inl ⟨by rfl, ?_⟩) ?_ ?_
                          rotate_left
                          · intro w'
                            go_simp
                            with_reducible rfl
                          rotate_left
                          · simp only [Act.put, List.setIfInBounds_toArray, List.set_cons_zero, List.set_cons_succ, i64_w, i32_w]
                            rfl
                          refine pure_ (i := 10) (N := some 171) (v := ?_) (a' := ?_) #[true, true, true, true, true, true, true, true, true, true, true, true, true, true, true, true, true, true, true, true, true, false, true, false, false, true, true, true, false, false] rfl rfl (by kernel_rfl) (fun _ _ _ h => h) (Or.inl ⟨by rfl, ?_⟩) ?_ ?_
                          rotate_left
                          · intro w'
                            go_simp
                            with_reducible rfl
                          rotate_left
                          · simp only [Act.put, List.setIfInBounds_toArray, List.set_cons_zero, List.set_cons_succ, i64_w, i32_w]
                            rfl
                          refine pure_ (i := 21) (N := some 182) (v := ?_) (a' := ?_) #[true, true, true, true, true, true, true, true, true, true, true, true, true, true, true, true, true, true, true, true, true, true, true, false, false, true, true, true, false, false] rfl rfl (by kernel_rfl) (fun _ _ _ h => h) (Or.inl ⟨by rfl, ?_⟩) ?_ ?_
                          rotate_left
                          · intro w'
                            go_simp
                            with_reducible rfl
                          rotate_left
                          · simp only [Act.put, List.setIfInBounds_toArray, List.set_cons_zero, List.set_cons_succ, i64_w, i32_w]
                            rfl
                          refine one_ (i := 23) (N := some 184) #[true, true, true, true, true, true, true, true, true, true, true, true, true, true, true, true, true, true, true, true, true, true, true, true, false, true, true, true, false, false] rfl rfl (by kernel_rfl) (by decide) (fun K hK => ?_)
                          refine goes_ Tryd.func20 (by kernel_rfl) rfl #[.int .i64 (k : Int)] (by rfl) rfl rfl (by simp only [List.map_toArray, List.map_cons, List.map_nil]; rfl) ?_
                          with_reducible refine (spec_Sha256.k k h64 kk hkk.out _).mono ?_
                          rintro e wk ⟨rfl, hbk⟩
                          refine ⟨_, rfl, ?_⟩
                          refine hK.out _ _ ⟨((hbk.cell (World.block_lt_of_cell? _ _ hHeld.1)).trans hHeld.1), ((hbk.cell (World.block_lt_of_cell? _ _ hHeld.2.1)).trans hHeld.2.1), ((hbk.cell (World.block_lt_of_cell? _ _ hHeld.2.2.1)).trans hHeld.2.2.1), ((hbk.cell (World.block_lt_of_cell? _ _ hHeld.2.2.2)).trans hHeld.2.2.2)⟩ (fun hHeld => ?_)
                          clear hK K
                          refine norm_ (a' := ?_) ?_ ?_
                          rotate_left
                          · show Act.put _ (some 184) _ = _
                            simp only [Act.put, List.setIfInBounds_toArray, List.set_cons_zero, List.set_cons_succ, i64_w, i32_w]
                            rfl
                          refine pure_ (i := 24) (N := some 185) (v := ?_) (a' := ?_) #[true, true, true, true, true, true, true, true, true, true, true, true, true, true, true, true, true, true, true, true, true, true, true, true, true, true, true, true, false, false] rfl rfl (by kernel_rfl) (fun _ _ _ h => h) (Or.inl ⟨by rfl, ?_⟩) ?_ ?_
                          rotate_left
                          · intro w'
                            go_simp
                            with_reducible rfl
                          rotate_left
                          · simp only [Act.put, List.setIfInBounds_toArray, List.set_cons_zero, List.set_cons_succ, i64_w, i32_w]
                            rfl
                          refine pure_ (i := 28) (N := some 189) (v := ?_) (a' := ?_) #[true, true, true, true, true, true, true, true, true, true, true, true, true, true, true, true, true, true, true, true, true, true, true, true, true, true, true, true, true, false] rfl rfl (by kernel_rfl) (fun _ _ _ h => h) (Or.inl ⟨by rfl, ?_⟩) ?_ ?_
                          rotate_left
                          · intro w'
                            go_simp
                            with_reducible rfl
                          rotate_left
                          · simp only [Act.put, List.setIfInBounds_toArray, List.set_cons_zero, List.set_cons_succ, i64_w, i32_w]
                            rfl
                          refine pure_ (i := 29) (N := some 19) (v := ?_) (a' := ?_) #[true, true, true, true, true, true, true, true, true, true, true, true, true, true, true, true, true, true, true, true, true, true, true, true, true, true, true, true, true, true] rfl rfl (by kernel_rfl) (fun _ _ _ h => h) (Or.inl ⟨by rfl, ?_⟩) ?_ ?_
                          rotate_left
                          · intro w'
                            go_simp
                            with_reducible rfl
                          rotate_left
                          · simp only [Act.put, List.setIfInBounds_toArray, List.set_cons_zero, List.set_cons_succ, i64_w, i32_w]
                            rfl
                          refine done_ (by kernel_rfl) ?_

                          generalize hT1 : IntKind.u32.wrap (_ + y) = T1
                          replace hT1 := Aside0.mk hT1
                          have HB5 : Aside0 (Below wp.heap.size wp wk) := ⟨below_step (by (repeat first | apply pw_below_drewN | apply below_drew1 | apply below_drew); exact HVB.out) hbk⟩
                          have HVK : Aside0 (ArrI .u32 wk wp.heap.size 41 [v0, v1_, v2, v3, v4, v5, v6, v7]) := ⟨by refine ArrI.below ?_ hbk; exact HVL.out⟩
                          clear hbk c0 c1 c2 c3 c4 c5 c6 c7 hx
                          have c0 : wk.cell? ⟨wp.heap.size, 0, none⟩ = some (.int .u32 v0) := ArrI.cell HVK.out 0 (by show _ < 8; decide)
                          have c1 : wk.cell? ⟨wp.heap.size, 1, none⟩ = some (.int .u32 v1_) := ArrI.cell HVK.out 1 (by show _ < 8; decide)
                          have c2 : wk.cell? ⟨wp.heap.size, 2, none⟩ = some (.int .u32 v2) := ArrI.cell HVK.out 2 (by show _ < 8; decide)
                          have c3 : wk.cell? ⟨wp.heap.size, 3, none⟩ = some (.int .u32 v3) := ArrI.cell HVK.out 3 (by show _ < 8; decide)
                          have c4 : wk.cell? ⟨wp.heap.size, 4, none⟩ = some (.int .u32 v4) := ArrI.cell HVK.out 4 (by show _ < 8; decide)
                          have c5 : wk.cell? ⟨wp.heap.size, 5, none⟩ = some (.int .u32 v5) := ArrI.cell HVK.out 5 (by show _ < 8; decide)
                          have c6 : wk.cell? ⟨wp.heap.size, 6, none⟩ = some (.int .u32 v6) := ArrI.cell HVK.out 6 (by show _ < 8; decide)
                          go_upto_region 36 with fail
                          refine start_ (n := 25) (S := fun w' => w'.cell? ⟨wp.heap.size, 1, none⟩ = some (.int .u32 v1_) ∧ w'.cell? ⟨wp.heap.size, 2, none⟩ = some (.int .u32 v2)) (ds := []) #[false, false, false, false, false, false, false, false, false, false, false, false, false, false, false, false, false, false, false, false, false, false, false, false, false] (by kernel_rfl) rfl rfl ⟨c1, c2⟩ (fun hHeld => ?_)
                          refine pure_ (i := 0) (N := some 190) (v := ?_) (a' := ?_) #[true, false, false, false, false, false, false, false, false, false, false, false, false, false, false, false, false, false, false, false, false, false, false, false, false] rfl rfl (by kernel_rfl) (fun _ _ _ h => h) (Or.inl ⟨by rfl, ?_⟩) ?_ ?_
                          rotate_left
                          · intro w'
                            go_simp
                            with_reducible rfl
                          rotate_left
                          · simp only [Act.put, List.setIfInBounds_toArray, List.set_cons_zero, List.set_cons_succ, i64_w, i32_w]
                            rfl
                          refine pure_ (i := 2) (N := some 192) (v := ?_) (a' := ?_) #[true, false, true, false, false, false, false, false, false, false, false, false, false, false, false, false, false, false, false, false, false, false, false, false, false] rfl rfl (by kernel_rfl) (fun _ _ _ h => h) (Or.inl ⟨by rfl, ?_⟩) ?_ ?_
                          rotate_left
                          · intro w'
                            go_simp
                            with_reducible rfl
                          rotate_left
                          · simp only [Act.put, List.setIfInBounds_toArray, List.set_cons_zero, List.set_cons_succ, i64_w, i32_w]
                            rfl
                          refine pure_ (i := 5) (N := some 195) (v := ?_) (a' := ?_) #[true, false, true, false, false, true, false, false, false, false, false, false, false, false, false, false, false, false, false, false, false, false, false, false, false] rfl rfl (by kernel_rfl) (fun _ _ _ h => h) (Or.inl ⟨by rfl, ?_⟩) ?_ ?_
                          rotate_left
                          · intro w'
                            go_simp
                            with_reducible rfl
                          rotate_left
                          · simp only [Act.put, List.setIfInBounds_toArray, List.set_cons_zero, List.set_cons_succ, i64_w, i32_w]
                            rfl
                          refine pure_ (i := 8) (N := some 198) (v := ?_) (a' := ?_) #[true, false, true, false, false, true, false, false, true, false, false, false, false, false, false, false, false, false, false, false, false, false, false, false, false] rfl rfl (by kernel_rfl) (fun _ _ _ h => h) (Or.inl ⟨by rfl, ?_⟩) ?_ ?_
                          rotate_left
                          · intro w'
                            go_simp
                            with_reducible rfl
                          rotate_left
                          · simp only [Act.put, List.setIfInBounds_toArray, List.set_cons_zero, List.set_cons_succ, i64_w, i32_w]
                            rfl
                          refine pure_ (i := 9) (N := some 199) (v := ?_) (a' := ?_) #[true, false, true, false, false, true, false, false, true, true, false, false, false, false, false, false, false, false, false, false, false, false, false, false, false] rfl rfl (by kernel_rfl) (fun _ _ _ h => h) (Or.inl ⟨by rfl, ?_⟩) ?_ ?_
                          rotate_left
                          · intro w'
                            go_simp
                            with_reducible rfl
                          rotate_left
                          · simp only [Act.put, List.setIfInBounds_toArray, List.set_cons_zero, List.set_cons_succ, i64_w, i32_w]
                            rfl
                          refine pure_ (i := 12) (N := some 202) (v := ?_) (a' := ?_) #[true, false, true, false, false, true, false, false, true, true, false, false, true, false, false, false, false, false, false, false, false, false, false, false, false] rfl rfl (by kernel_rfl) (fun _ _ _ h => h) (Or.inl ⟨by rfl, ?_⟩) ?_ ?_
                          rotate_left
                          · intro w'
                            go_simp
                            with_reducible rfl
                          rotate_left
                          · simp only [Act.put, List.setIfInBounds_toArray, List.set_cons_zero, List.set_cons_succ, i64_w, i32_w]
                            rfl
                          refine pure_ (i := 13) (N := some 203) (v := ?_) (a' := ?_) #[true, false, true, false, false, true, false, false, true, true, false, false, true, true, false, false, false, false, false, false, false, false, false, false, false] rfl rfl (by kernel_rfl) (fun _ _ _ h => h) (Or.inl ⟨by rfl, ?_⟩) ?_ ?_
                          rotate_left
                          · intro w'
                            go_simp
                            with_reducible rfl
                          rotate_left
                          · simp only [Act.put, List.setIfInBounds_toArray, List.set_cons_zero, List.set_cons_succ, i64_w, i32_w]
                            rfl
                          refine pure_ (i := 17) (N := some 207) (v := ?_) (a' := ?_) #[true, false, true, false, false, true, false, false, true, true, false, false, true, true, false, false, false, true, false, false, false, false, false, false, false] rfl rfl (by kernel_rfl) (fun _ _ _ h => h) (Or.inl ⟨by rfl, ?_⟩) ?_ ?_
                          rotate_left
                          · intro w'
                            go_simp
                            with_reducible rfl
                          rotate_left
                          · simp only [Act.put, List.setIfInBounds_toArray, List.set_cons_zero, List.set_cons_succ, i64_w, i32_w]
                            rfl
                          refine pure_ (i := 19) (N := some 209) (v := ?_) (a' := ?_) #[true, false, true, false, false, true, false, false, true, true, false, false, true, true, false, false, false, true, false, true, false, false, false, false, false] rfl rfl (by kernel_rfl) (fun _ _ _ h => h) (Or.inl ⟨by rfl, ?_⟩) ?_ ?_
                          rotate_left
                          · intro w'
                            go_simp
                            with_reducible rfl
                          rotate_left
                          · simp only [Act.put, List.setIfInBounds_toArray, List.set_cons_zero, List.set_cons_succ, i64_w, i32_w]
                            rfl
                          refine take_ (i := 10) (N := some 200) (v := ?_) (a' := ?_) #[true, false, true, false, false, true, false, false, true, true, true, false, true, true, false, false, false, true, false, true, false, false, false, false, false] rfl rfl (by kernel_rfl) (fun _ _ _ h => h) (Or.inl ⟨by rfl, ?_⟩) hHeld ?_ ?_
                          rotate_left
                          · rintro w' ⟨s0, s1⟩
                            go_simp
                            with_reducible rfl
                          rotate_left
                          · simp only [Act.put, List.setIfInBounds_toArray, List.set_cons_zero, List.set_cons_succ, i64_w, i32_w]
                            rfl
                          refine pure_ (i := 11) (N := some 201) (v := ?_) (a' := ?_) #[true, false, true, false, false, true, false, false, true, true, true, true, true, true, false, false, false, true, false, true, false, false, false, false, false] rfl rfl (by kernel_rfl) (fun _ _ _ h => h) (Or.inl ⟨by rfl, ?_⟩) ?_ ?_
                          rotate_left
                          · intro w'
                            go_simp
                            with_reducible rfl
                          rotate_left
                          · simp only [Act.put, List.setIfInBounds_toArray, List.set_cons_zero, List.set_cons_succ, i64_w, i32_w]
                            rfl
                          refine take_ (i := 14) (N := some 204) (v := ?_) (a' := ?_) #[true, false, true, false, false, true, false, false, true, true, true, true, true, true, true, false, false, true, false, true, false, false, false, false, false] rfl rfl (by kernel_rfl) (fun _ _ _ h => h) (Or.inl ⟨by rfl, ?_⟩) hHeld ?_ ?_
                          rotate_left
                          · rintro w' ⟨s0, s1⟩
                            go_simp
                            with_reducible rfl
                          rotate_left
                          · simp only [Act.put, List.setIfInBounds_toArray, List.set_cons_zero, List.set_cons_succ, i64_w, i32_w]
                            rfl
                          refine pure_ (i := 15) (N := some 205) (v := ?_) (a' := ?_) #[true, false, true, false, false, true, false, false, true, true, true, true, true, true, true, true, false, true, false, true, false, false, false, false, false] rfl rfl (by kernel_rfl) (fun _ _ _ h => h) (Or.inl ⟨by rfl, ?_⟩) ?_ ?_
                          rotate_left
                          · intro w'
                            go_simp
                            with_reducible rfl
                          rotate_left
                          · simp only [Act.put, List.setIfInBounds_toArray, List.set_cons_zero, List.set_cons_succ, i64_w, i32_w]
                            rfl
                          refine pure_ (i := 16) (N := some 206) (v := ?_) (a' := ?_) #[true, false, true, false, false, true, false, false, true, true, true, true, true, true, true, true, true, true, false, true, false, false, false, false, false] rfl rfl (by kernel_rfl) (fun _ _ _ h => h) (Or.inl ⟨by rfl, ?_⟩) ?_ ?_
                          rotate_left
                          · intro w'
                            go_simp
                            with_reducible rfl
                          rotate_left
                          · simp only [Act.put, List.setIfInBounds_toArray, List.set_cons_zero, List.set_cons_succ, i64_w, i32_w]
                            rfl
                          refine take_ (i := 18) (N := some 208) (v := ?_) (a' := ?_) #[true, false, true, false, false, true, false, false, true, true, true, true, true, true, true, true, true, true, true, true, false, false, false, false, false] rfl rfl (by kernel_rfl) (fun _ _ _ h => h) (Or.inl ⟨by rfl, ?_⟩) hHeld ?_ ?_
                          rotate_left
                          · rintro w' ⟨s0, s1⟩
                            go_simp
                            with_reducible rfl
                          rotate_left
                          · simp only [Act.put, List.setIfInBounds_toArray, List.set_cons_zero, List.set_cons_succ, i64_w, i32_w]
                            rfl
                          refine take_ (i := 20) (N := some 210) (v := ?_) (a' := ?_) #[true, false, true, false, false, true, false, false, true, true, true, true, true, true, true, true, true, true, true, true, true, false, false, false, false] rfl rfl (by kernel_rfl) (fun _ _ _ h => h) (Or.inl ⟨by rfl, ?_⟩) hHeld ?_ ?_
                          rotate_left
                          · rintro w' ⟨s0, s1⟩
                            go_simp
                            with_reducible rfl
                          rotate_left
                          · simp only [Act.put, List.setIfInBounds_toArray, List.set_cons_zero, List.set_cons_succ, i64_w, i32_w]
                            rfl
                          refine pure_ (i := 21) (N := some 211) (v := ?_) (a' := ?_) #[true, false, true, false, false, true, false, false, true, true, true, true, true, true, true, true, true, true, true, true, true, true, false, false, false] rfl rfl (by kernel_rfl) (fun _ _ _ h => h) (Or.inl ⟨by rfl, ?_⟩) ?_ ?_
                          rotate_left
                          · intro w'
                            go_simp
                            with_reducible rfl
                          rotate_left
                          · simp only [Act.put, List.setIfInBounds_toArray, List.set_cons_zero, List.set_cons_succ, i64_w, i32_w]
                            rfl
                          refine pure_ (i := 22) (N := some 212) (v := ?_) (a' := ?_) #[true, false, true, false, false, true, false, false, true, true, true, true, true, true, true, true, true, true, true, true, true, true, true, false, false] rfl rfl (by kernel_rfl) (fun _ _ _ h => h) (Or.inl ⟨by rfl, ?_⟩) ?_ ?_
                          rotate_left
                          · intro w'
                            go_simp
                            with_reducible rfl
                          rotate_left
                          · simp only [Act.put, List.setIfInBounds_toArray, List.set_cons_zero, List.set_cons_succ, i64_w, i32_w]
                            rfl
                          refine one_ (i := 1) (N := some 191) #[true, true, true, false, false, true, false, false, true, true, true, true, true, true, true, true, true, true, true, true, true, true, true, false, false] rfl rfl (by kernel_rfl) (by decide) (fun K hK => ?_)
                          refine goes_ Tryd.func19 (by kernel_rfl) rfl #[.int .u32 v0, .int .u64 2] (by rfl) rfl rfl (by simp only [List.map_toArray, List.map_cons, List.map_nil]; rfl) ?_
                          with_reducible refine (spec_Sha256.turn v0 2 (m := 2) (by decide) _).mono ?_
                          rintro e w3 ⟨rfl, n_, rfl⟩
                          refine ⟨_, rfl, ?_⟩
                          refine hK.out _ _ ⟨hHeld.1, hHeld.2⟩ (fun hHeld => ?_)
                          clear hK K
                          refine norm_ (a' := ?_) ?_ ?_
                          rotate_left
                          · show Act.put _ (some 191) _ = _
                            simp only [Act.put, List.setIfInBounds_toArray, List.set_cons_zero, List.set_cons_succ, i64_w, i32_w]
                            rfl
                          refine one_ (i := 3) (N := some 193) #[true, true, true, true, false, true, false, false, true, true, true, true, true, true, true, true, true, true, true, true, true, true, true, false, false] rfl rfl (by kernel_rfl) (by decide) (fun K hK => ?_)
                          refine goes_ Tryd.func19 (by kernel_rfl) rfl #[.int .u32 v0, .int .u64 13] (by rfl) rfl rfl (by simp only [List.map_toArray, List.map_cons, List.map_nil]; rfl) ?_
                          with_reducible refine (spec_Sha256.turn v0 13 (m := 13) (by decide) _).mono ?_
                          rintro e w3 ⟨rfl, n_, rfl⟩
                          refine ⟨_, rfl, ?_⟩
                          refine hK.out _ _ ⟨hHeld.1, hHeld.2⟩ (fun hHeld => ?_)
                          clear hK K
                          refine norm_ (a' := ?_) ?_ ?_
                          rotate_left
                          · show Act.put _ (some 193) _ = _
                            simp only [Act.put, List.setIfInBounds_toArray, List.set_cons_zero, List.set_cons_succ, i64_w, i32_w]
                            rfl
                          refine pure_ (i := 4) (N := some 194) (v := ?_) (a' := ?_) #[true, true, true, true, true, true, false, false, true, true, true, true, true, true, true, true, true, true, true, true, true, true, true, false, false] rfl rfl (by kernel_rfl) (fun _ _ _ h => h) (Or.inl ⟨by rfl, ?_⟩) ?_ ?_
                          rotate_left
                          · intro w'
                            go_simp
                            with_reducible rfl
                          rotate_left
                          · simp only [Act.put, List.setIfInBounds_toArray, List.set_cons_zero, List.set_cons_succ, i64_w, i32_w]
                            rfl
                          refine one_ (i := 6) (N := some 196) #[true, true, true, true, true, true, true, false, true, true, true, true, true, true, true, true, true, true, true, true, true, true, true, false, false] rfl rfl (by kernel_rfl) (by decide) (fun K hK => ?_)
                          refine goes_ Tryd.func19 (by kernel_rfl) rfl #[.int .u32 v0, .int .u64 22] (by rfl) rfl rfl (by simp only [List.map_toArray, List.map_cons, List.map_nil]; rfl) ?_
                          with_reducible refine (spec_Sha256.turn v0 22 (m := 22) (by decide) _).mono ?_
                          rintro e w3 ⟨rfl, n_, rfl⟩
                          refine ⟨_, rfl, ?_⟩
                          refine hK.out _ _ ⟨hHeld.1, hHeld.2⟩ (fun hHeld => ?_)
                          clear hK K
                          refine norm_ (a' := ?_) ?_ ?_
                          rotate_left
                          · show Act.put _ (some 196) _ = _
                            simp only [Act.put, List.setIfInBounds_toArray, List.set_cons_zero, List.set_cons_succ, i64_w, i32_w]
                            rfl
                          refine pure_ (i := 7) (N := some 197) (v := ?_) (a' := ?_) #[true, true, true, true, true, true, true, true, true, true, true, true, true, true, true, true, true, true, true, true, true, true, true, false, false] rfl rfl (by kernel_rfl) (fun _ _ _ h => h) (Or.inl ⟨by rfl, ?_⟩) ?_ ?_
                          rotate_left
                          · intro w'
                            go_simp
                            with_reducible rfl
                          rotate_left
                          · simp only [Act.put, List.setIfInBounds_toArray, List.set_cons_zero, List.set_cons_succ, i64_w, i32_w]
                            rfl
                          refine pure_ (i := 23) (N := some 213) (v := ?_) (a' := ?_) #[true, true, true, true, true, true, true, true, true, true, true, true, true, true, true, true, true, true, true, true, true, true, true, true, false] rfl rfl (by kernel_rfl) (fun _ _ _ h => h) (Or.inl ⟨by rfl, ?_⟩) ?_ ?_
                          rotate_left
                          · intro w'
                            go_simp
                            with_reducible rfl
                          rotate_left
                          · simp only [Act.put, List.setIfInBounds_toArray, List.set_cons_zero, List.set_cons_succ, i64_w, i32_w]
                            rfl
                          refine pure_ (i := 24) (N := some 20) (v := ?_) (a' := ?_) #[true, true, true, true, true, true, true, true, true, true, true, true, true, true, true, true, true, true, true, true, true, true, true, true, true] rfl rfl (by kernel_rfl) (fun _ _ _ h => h) (Or.inl ⟨by rfl, ?_⟩) ?_ ?_
                          rotate_left
                          · intro w'
                            go_simp
                            with_reducible rfl
                          rotate_left
                          · simp only [Act.put, List.setIfInBounds_toArray, List.set_cons_zero, List.set_cons_succ, i64_w, i32_w]
                            rfl
                          refine done_ (by kernel_rfl) ?_

                          go_upto_region 37 with fail
                          generalize hT2 : IntKind.u32.wrap (_ + _) = T2
                          replace hT2 := Aside0.mk hT2
                          clear c0 c1 c2 c3 c4 c5 c6
                          generalize hW5 : World.drewN _ _ = w5
                          have HB6 : Aside0 (Below wp.heap.size wp w5) := ⟨by rw [← hW5]; (repeat first | apply pw_below_drewN | apply below_drew1 | apply below_drew); exact HB5.out⟩
                          have HV6 : Aside0 (ArrI .u32 w5 wp.heap.size 41 [v0, v1_, v2, v3, v4, v5, v6, v7]) := ⟨by rw [← hW5]; exact HVK.out⟩
                          clear hW5
                          have c0 : w5.cell? ⟨wp.heap.size, 0, none⟩ = some (.int .u32 v0) := ArrI.cell HV6.out 0 (by show _ < 8; decide)
                          have c1 : w5.cell? ⟨wp.heap.size, 1, none⟩ = some (.int .u32 v1_) := ArrI.cell HV6.out 1 (by show _ < 8; decide)
                          have c2 : w5.cell? ⟨wp.heap.size, 2, none⟩ = some (.int .u32 v2) := ArrI.cell HV6.out 2 (by show _ < 8; decide)
                          have c3 : w5.cell? ⟨wp.heap.size, 3, none⟩ = some (.int .u32 v3) := ArrI.cell HV6.out 3 (by show _ < 8; decide)
                          have c4 : w5.cell? ⟨wp.heap.size, 4, none⟩ = some (.int .u32 v4) := ArrI.cell HV6.out 4 (by show _ < 8; decide)
                          have c5 : w5.cell? ⟨wp.heap.size, 5, none⟩ = some (.int .u32 v5) := ArrI.cell HV6.out 5 (by show _ < 8; decide)
                          have c6 : w5.cell? ⟨wp.heap.size, 6, none⟩ = some (.int .u32 v6) := ArrI.cell HV6.out 6 (by show _ < 8; decide)
                          go_upto_region 38 with fail
                          generalize hN0 : (T1 + T2) % 4294967296 = n0
                          generalize hN4 : (v3 + T1) % 4294967296 = n4
                          replace hN0 := Aside0.mk hN0
                          replace hN4 := Aside0.mk hN4
                          have hg8 : (w5.alloc (Obj.cells #[.int .u32 n0, .int .u32 v0, .int .u32 v1_, .int .u32 v2, .int .u32 n4, .int .u32 v4, .int .u32 v5, .int .u32 v6] 41)).heap[wp.heap.size]? = some (Obj.cells #[.int .u32 v0, .int .u32 v1_, .int .u32 v2, .int .u32 v3, .int .u32 v4, .int .u32 v5, .int .u32 v6, .int .u32 v7] 41 (0, 0)) := ArrI.alloc HV6.out _
                          clear c0 c1 c2 c3 c4 c5 c6
                          go_wp2_with (first | ((with_reducible refine gate_dst (N := 234) rfl ?_); refine wpList_load_row rfl 41 (.tmp 21) rfl w5.heap.size rfl 41 _ (0, 0) _ (blk_new w5 _) Tryd.underlying41 rfl (by kernel_rfl) ?_) | ((with_reducible refine gate_storeT (ty := 41) rfl ?_); refine wpList_store_row rfl 41 (.tmp 15) (.tmp 234) rfl wp.heap.size #[.int .u32 n0, .int .u32 v0, .int .u32 v1_, .int .u32 v2, .int .u32 n4, .int .u32 v4, .int .u32 v5, .int .u32 v6] rfl rfl 41 _ hg8 (by kernel_rfl) rfl (by kernel_rfl) ?_))
                          go_roundw
                          case rel =>
                            refine ⟨k + 1, [n0, v0, v1_, v2, n4, v4, v5, v6], Nat.succ_le_of_lt h64, by go_num, ⟨?_⟩, ⟨ArrI.setRow (xs := [v0, v1_, v2, v3, v4, v5, v6, v7]) (ArrI.alloc HV6.out _) [n0, v0, v1_, v2, n4, v4, v5, v6]⟩, ⟨xbelow_setRow (below_alloc HB6.out _) (Nat.le_refl _) _⟩⟩
                            rw [roundsN, ← HV8.out, ev.out, ← hkk.out, ← hy.out, ← hN0.out, ← hN4.out, ← hT1.out, ← hT2.out]
                            rfl
                          case measure => first | exact shaM1 h64 | exact shaM1 h9
                        · skip
                          have l3 : ((k : Int) < 64) = False := ltF h64
                          have l4 : decide ((k : Int) < 64) = false := ltG h64
                          have hV8 := HV8.out
                          rw [show k = 64 from Nat.le_antisymm hk (Nat.le_of_not_lt h64)] at hV8
                          replace hV8 := Aside0.mk hV8
                          clear HV8
                          have hAq := ArrI.below hAo.out HVB.out
                          have hVq := HV.out
                          have hBq := below_step (below_step HW.out HXB.out) HVB.out
                          go_upto_region 39 with fail
                          generalize wr = wq at *
                          go_wp2
                          go_loopw [22] (fun i wz => ∃ k : Nat, k ≤ 8 ∧ i = .int .i64 (k : Int) ∧ Aside0 (ArrI .u32 wz wt.heap.size 41 (addN h v k)) ∧ Aside0 (ArrI .u32 wz wp.heap.size 41 v) ∧ Aside0 (Below wt.heap.size wt wz)) (fun i _ => 8 - (intOf i).toNat)
                          case atStart => exact ⟨0, by omega, rfl, ⟨hAq⟩, ⟨hVq⟩, ⟨hBq⟩⟩
                          case round =>
                            clear hAq hVq hBq
                            obtain ⟨k, hk, rfl, HA9, HV9, HB9⟩ := hrel
                            by_cases h9 : k < 8
                            · as_aux_lemma =>
                              have l3 : ((k : Int) < 8) = True := ltT h9
                              have l4 : decide ((k : Int) < 8) = true := ltD h9
                              have l5 : (k < 8) = True := eq_true h9
                              have hlen9 : v.length = 8 := by rw [ev.out]; rfl
                              have x1 := ArrI.cell HA9.out k (by rw [addN_len, HL8.out]; exact h9)
                              have x2 := ArrI.cell HV9.out k (by rw [hlen9]; exact h9)
                              have hf := ArrI.frozen HA9.out k
                              obtain ⟨y1, hy1⟩ : ∃ y, y = rdN (addN h v k) k := ⟨_, rfl⟩
                              obtain ⟨y2, hy2⟩ : ∃ y, y = rdN v k := ⟨_, rfl⟩
                              rw [← rdN, ← hy1] at x1
                              rw [← rdN, ← hy2] at x2
                              replace hy1 := Aside0.mk hy1
                              replace hy2 := Aside0.mk hy2
                              clear hlen9
                              go_upto_region 42 with fail
                              refine start_ (n := 10) (S := fun w' => w'.cell? ⟨wt.heap.size, k, none⟩ = some (.int .u32 y1) ∧ w'.cell? ⟨wp.heap.size, k, none⟩ = some (.int .u32 y2)) (ds := [9]) #[false, false, false, false, false, false, false, false, false, false] (by kernel_rfl) rfl rfl ⟨x1, x2⟩ (fun hHeld => ?_)
                              refine pure_ (i := 0) (N := some 239) (v := ?_) (a' := ?_) #[true, false, false, false, false, false, false, false, false, false] rfl rfl (by kernel_rfl) (fun _ _ _ h => h) (Or.inl ⟨by rfl, ?_⟩) ?_ ?_
                              rotate_left
                              · intro w'
                                go_simp
                                with_reducible rfl
                              rotate_left
                              · simp only [Act.put, List.setIfInBounds_toArray, List.set_cons_zero, List.set_cons_succ, i64_w, i32_w]
                                rfl
                              refine pure_ (i := 1) (N := some 240) (v := ?_) (a' := ?_) #[true, true, false, false, false, false, false, false, false, false] rfl rfl (by kernel_rfl) (fun _ _ _ h => h) (Or.inl ⟨by rfl, ?_⟩) ?_ ?_
                              rotate_left
                              · intro w'
                                go_simp
                                with_reducible rfl
                              rotate_left
                              · simp only [Act.put, List.setIfInBounds_toArray, List.set_cons_zero, List.set_cons_succ, i64_w, i32_w]
                                rfl
                              refine pure_ (i := 2) (N := some 241) (v := ?_) (a' := ?_) #[true, true, true, false, false, false, false, false, false, false] rfl rfl (by kernel_rfl) (fun _ _ _ h => h) (Or.inl ⟨by rfl, ?_⟩) ?_ ?_
                              rotate_left
                              · intro w'
                                go_simp
                                with_reducible rfl
                              rotate_left
                              · simp only [Act.put, List.setIfInBounds_toArray, List.set_cons_zero, List.set_cons_succ, i64_w, i32_w]
                                rfl
                              refine pure_ (i := 4) (N := some 243) (v := ?_) (a' := ?_) #[true, true, true, false, true, false, false, false, false, false] rfl rfl (by kernel_rfl) (fun _ _ _ h => h) (Or.inl ⟨by rfl, ?_⟩) ?_ ?_
                              rotate_left
                              · intro w'
                                go_simp
                                with_reducible rfl
                              rotate_left
                              · simp only [Act.put, List.setIfInBounds_toArray, List.set_cons_zero, List.set_cons_succ, i64_w, i32_w]
                                rfl
                              refine pure_ (i := 5) (N := some 244) (v := ?_) (a' := ?_) #[true, true, true, false, true, true, false, false, false, false] rfl rfl (by kernel_rfl) (fun _ _ _ h => h) (Or.inl ⟨by rfl, ?_⟩) ?_ ?_
                              rotate_left
                              · intro w'
                                go_simp
                                with_reducible rfl
                              rotate_left
                              · simp only [Act.put, List.setIfInBounds_toArray, List.set_cons_zero, List.set_cons_succ, i64_w, i32_w]
                                rfl
                              refine take_ (i := 3) (N := some 242) (v := ?_) (a' := ?_) #[true, true, true, true, true, true, false, false, false, false] rfl rfl (by kernel_rfl) (fun _ _ _ h => h) (Or.inl ⟨by rfl, ?_⟩) hHeld ?_ ?_
                              rotate_left
                              · rintro w' ⟨s0, s1⟩
                                go_simp
                                with_reducible rfl
                              rotate_left
                              · simp only [Act.put, List.setIfInBounds_toArray, List.set_cons_zero, List.set_cons_succ, i64_w, i32_w]
                                rfl
                              refine take_ (i := 6) (N := some 245) (v := ?_) (a' := ?_) #[true, true, true, true, true, true, true, false, false, false] rfl rfl (by kernel_rfl) (fun _ _ _ h => h) (Or.inl ⟨by rfl, ?_⟩) hHeld ?_ ?_
                              rotate_left
                              · rintro w' ⟨s0, s1⟩
                                go_simp
                                with_reducible rfl
                              rotate_left
                              · simp only [Act.put, List.setIfInBounds_toArray, List.set_cons_zero, List.set_cons_succ, i64_w, i32_w]
                                rfl
                              refine pure_ (i := 7) (N := some 246) (v := ?_) (a' := ?_) #[true, true, true, true, true, true, true, true, false, false] rfl rfl (by kernel_rfl) (fun _ _ _ h => h) (Or.inl ⟨by rfl, ?_⟩) ?_ ?_
                              rotate_left
                              · intro w'
                                go_simp
                                with_reducible rfl
                              rotate_left
                              · simp only [Act.put, List.setIfInBounds_toArray, List.set_cons_zero, List.set_cons_succ, i64_w, i32_w]
                                rfl
                              refine pure_ (i := 8) (N := some 247) (v := ?_) (a' := ?_) #[true, true, true, true, true, true, true, true, true, false] rfl rfl (by kernel_rfl) (fun _ _ _ h => h) (Or.inl ⟨by rfl, ?_⟩) ?_ ?_
                              rotate_left
                              · intro w'
                                go_simp
                                with_reducible rfl
                              rotate_left
                              · simp only [Act.put, List.setIfInBounds_toArray, List.set_cons_zero, List.set_cons_succ, i64_w, i32_w]
                                rfl
                              refine last_ (i := 9) (N := none) #[true, true, true, true, true, true, true, true, true, true] rfl rfl (by kernel_rfl) (by decide) (fun K hK => ?_)
                              refine skip_ (w1 := ?_) (by rfl) rfl ?_ ?_
                              rotate_left
                              · go_simp
                                rfl
                              refine hK.out _ _ ?_
                              clear hK K
                              refine done_ (by kernel_rfl) ?_

                              go_wp2
                              go_roundw
                              case rel =>
                                refine ⟨k + 1, Nat.succ_le_of_lt h9, by go_num, ⟨?_⟩, ⟨?_⟩, ⟨below_drew (HB9.out.setCell (p := ⟨wt.heap.size, k, none⟩) (Nat.le_refl _) _)⟩⟩
                                · show ArrI .u32 _ _ _ ((addN h v k).set k ((rdN (addN h v k) k + rdN v k) % 4294967296))
                                  rw [← hy1.out, ← hy2.out]
                                  exact ArrI.set (show ArrI .u32 _ _ _ _ from HA9.out) k _
                                · exact ArrI.setOther (show ArrI .u32 _ _ _ _ from HV9.out) (Nat.ne_of_lt hlt1.out) _
                              case measure => first | exact shaM1 h64 | exact shaM1 h9
                            · skip
                              have l3 : ((k : Int) < 8) = False := ltF h9
                              have l4 : decide ((k : Int) < 8) = false := ltG h9
                              have hA9 := HA9.out
                              rw [show k = 8 from Nat.le_antisymm hk (Nat.le_of_not_lt h9)] at hA9
                              obtain ⟨m1, n1⟩ := shaW hb64 HLN.out
                              go_wp2
                              go_roundw
                              case rel =>
                                refine ⟨b + 1, q + 64, addN h v 8, shaQ HQ.out, hb64, by first | rfl | go_num, ⟨?_⟩, ⟨hA9⟩, HB9⟩
                                rw [shaN, ← HQ.out, ← HH.out, ← hV8.out]
                              case measure => first | exact shaM hlt | exact shaM' hlt
                · skip
                  have l1 : ((q : Int) < (u.length : Int)) = False := ltF hlt
                  have l2 : decide ((q : Int) < (u.length : Int)) = false := ltG hlt
                  have eq1 : q = u.length := Nat.le_antisymm hb (Nat.le_of_not_lt hlt)
                  have eb : b = u.length / 64 := shaB (hq.symm.trans eq1)
                  have HH2 : Aside0 (h = shaN (shaPad l0) ((shaPad l0).length / 64)) := ⟨by rw [HH.out, eb, HP.out]⟩
                  clear eq1 eb
                  have HL8 := Aside0.mk (show h.length = 8 by rw [HH.out]; exact shaN_len u b)
                  go_upto_region 44 with (first | ((with_reducible refine gate_dst (N := 248) rfl ?_); refine wpList_buildTo rfl 23 _ rfl shaZ8 ?hb ?_; rotate_left) | ((with_reducible refine gate_storeT (ty := 23) rfl ?_); refine wpList_store_row rfl 23 (.tmp 23) (.tmp 248) rfl wr.heap.size shaZ8 ?e1 ?e2 23 ?e3o ?e4 ?h1 ?h2 ?h3 ?_; rotate_left 7; have hA2 := setRow_heap (wr.alloc (Obj.cells (List.replicate 32 (Value.int .u8 0)).toArray 23)) wr.heap.size _ shaZ8 _ _ (blk_new wr _); have hB2 := xbelow_setRow (below_alloc (Below.refl wr.heap.size wr) (Obj.cells (List.replicate 32 (Value.int .u8 0)).toArray 23)) (Nat.le_refl _) shaZ8; change wpList _ _ _ _ _ ((wr.alloc (Obj.cells (List.replicate 32 (Value.int .u8 0)).toArray 23)).setRow wr.heap.size shaZ8); generalize World.setRow _ _ _ = w3 at hA2 hB2 ⊢))
                  case e1 => rfl
                  case e2 => rfl
                  case e4 => exact blk_new wr _
                  case h1 => kernel_rfl
                  case h2 => rfl
                  case h3 => kernel_rfl
                  case hb => exact (congrArg (Program.built _ _) (by rfl)).trans shaZ8Built
                  have hX : ArrI .u8 w3 wr.heap.size 23 (outN h 0) := by unfold ArrI; rw [outN, List.map_replicate]; exact hA2
                  clear hA2
                  generalize wr = wo at *
                  go_wp2
                  go_loopw [24] (fun i wz => ∃ k : Nat, k ≤ 32 ∧ i = .int .i64 (k : Int) ∧ Aside0 (ArrI .u8 wz wo.heap.size 23 (outN h k)) ∧ Aside0 (Below wo.heap.size wo wz)) (fun i _ => 32 - (intOf i).toNat)
                  case atStart => exact ⟨0, Nat.zero_le _, rfl, ⟨hX⟩, ⟨hB2⟩⟩
                  case round =>
                    clear hX hB2
                    obtain ⟨k, hk, rfl, HX, HXB⟩ := hrel
                    by_cases h64 : k < 32
                    · skip
                      have l3 : ((k : Int) < 32) = True := ltT h64
                      have l4 : decide ((k : Int) < 32) = true := ltD h64
                      have l5 : (k < 32) = True := eq_true h64
                      obtain ⟨j4, r4, s4, HJ, m1, m2, m3, m4, m5, m6, m7, m8, m9, m10, b4, d4⟩ := shaOut k h64
                      have x1 : wr.cell? ⟨wt.heap.size, j4, none⟩ = some (.int .u32 (rdN h j4)) := (HXB.out.cell HA.out.lt).trans (ArrI.cell HA.out j4 (by rw [HL8.out]; exact b4))
                      have hx := ArrI.cell HX.out k (by rw [outN_len]; exact h64)
                      have hf := ArrI.frozen HX.out k
                      replace b4 := eq_true b4
                      go_wp2
                      go_roundw
                      case rel =>
                        refine ⟨k + 1, Nat.succ_le_of_lt h64, by go_num, ⟨?_⟩, ⟨HXB.out.setCell (p := ⟨wo.heap.size, k, none⟩) (Nat.le_refl _) _⟩⟩
                        obtain ⟨e0, e1⟩ := HJ.out
                        show ArrI .u8 _ _ _ ((outN h k).set k (outV h k))
                        rw [outV, ← e0, ← e1]
                        exact ArrI.set HX.out k _
                      case measure => exact shaM1 h64
                    · skip
                      have l3 : ((k : Int) < 32) = False := ltF h64
                      have l4 : decide ((k : Int) < 32) = false := ltG h64
                      have hX := HX.out
                      rw [show k = 32 from Nat.le_antisymm hk (Nat.le_of_not_lt h64)] at hX
                      obtain ⟨sv, hsv⟩ : ∃ sv, sv = sha l0 := ⟨_, rfl⟩
                      rw [sha_eq HH2.out, ← hsv] at hX
                      have hl32 : sv.length = 32 := by rw [hsv]; exact sha_len l0
                      replace hsv := Aside0.mk hsv
                      have hZr := ArrI.below (ArrI.below HZ.out HW.out) HXB.out
                      have hBr := Aside0.mk (below_step (below_step HB.out HW.out) HXB.out)
                      have hsz : (Tryd.prog.info? 23).map (·.size) = some (sv.map (Value.int .u8)).toArray.size := by rw [List.size_toArray, List.length_map, hl32]; kernel_rfl
                      have hold : ((List.replicate 32 (0 : Int)).map (Value.int .u8)).toArray.size = (sv.map (Value.int .u8)).toArray.size := by rw [List.size_toArray, List.length_map, List.size_toArray, List.length_map, hl32, List.length_replicate]
                      have hone : (sv.map (Value.int .u8)).toArray.all (·.oneCell') = true := oneInts .u8 sv
                      clear hl32
                      go_wp2_with (first | ((with_reducible refine gate_dst (N := 266) rfl ?_); refine wpList_load_row rfl 23 (.tmp 23) rfl wo.heap.size rfl 23 (sv.map (Value.int .u8)).toArray (0, 0) _ hX Tryd.underlying23 rfl hsz ?_) | ((with_reducible refine gate_storeT (ty := 23) rfl ?_); refine wpList_store_row rfl 23 (.tmp 2) (.tmp 266) rfl w.heap.size (sv.map (Value.int .u8)).toArray rfl rfl 23 _ hZr hsz hold hone ?_))
                      have hq : (wr.setRow w.heap.size (sv.map (Value.int .u8)).toArray).heap[w.heap.size]? = some (Obj.cells (sv.map (Value.int .u8)).toArray 23 (0, 0)) := setRow_heap wr w.heap.size _ _ _ _ hZr
                      have hB3 := xbelow_setRow hBr.out (Nat.le_refl _) (sv.map (Value.int .u8)).toArray
                      generalize wr.setRow w.heap.size (sv.map (Value.int .u8)).toArray = w5 at *
                      have l1 := run_loadVar_row (P := Tryd.prog) w5 w.heap.size 23 23 _ _ _ hq Tryd.underlying23 rfl hsz
                      exact bodyPost_cell Tryd.results6 rfl l1 rfl ⟨by rw [hsv.out], hB3⟩
        · as_aux_lemma =>
          have l3 : ((t.length : Int) % 64 != 56) = true := bne_iff_ne.mpr (by omega)
          have l4 : Int.tmod (t.length : Int) 64 = (t.length : Int) % 64 := Int.tmod_eq_emod_of_nonneg (by omega)
          have hj2 : j < shaZeros l0.length := by
            by_cases h : j = shaZeros l0.length
            · subst h; omega
            · omega
          have hjz := hz.2
          clear hlen hz hm
          go_wp2_with (first | ((with_reducible refine gate_builtin (b := .append) (xs := #[.tmp 46, .tmp 47]) rfl ?_); at_builtin; refine Kd.R_append (Kd.int .u8) B rfl (.tmp 46) (.tmp 47) 22 5 (.int .u8 0) 1 rfl Tryd.underlying22 (by kernel_rfl) rfl (by decide) (by omega) _ (t) (0) [.int .u8 (0)] (fun _ => True) (fun _ => False) rfl rfl ?aP (fun _ hk => hk.elim) ?aF ?aO (Below.refl _ _) ?aS ?aL ?_; (case aP => exact rfl); (case aF => exact (fun _ _ => trivial)); (case aO => exact (by (with_reducible repeat (first | apply Kd.R_alloc | apply Kd.R_drewN | apply Kd.R_drew)); exact HR.out)); (case aS => exact HBS.out); (case aL => have := HLN.out; omega); intro v9 w9 ho hb hg hat; have HR2 := Aside0.mk ho; have HB2 := Aside0.mk (below_weaken (by repeat (first | (with_reducible first | exact HB.out | apply below_alloc | apply pw_below_drewN | apply below_drew1) | exact HB.out)) (by omega) hb); have HZ2 := Aside0.mk (ArrI.keep (by repeat (first | (with_reducible first | exact HZ.out | apply ArrI.alloc | apply ArrI.drew) | exact HZ.out)) (hb.block _ (by omega))); have HBS2 := Aside0.mk (Nat.le_trans HBS.out hb.size); clear ho hb hg hat))
          go_roundw
          case rel => exact ⟨j + 1, t ++ [0], hj2, ⟨by rw [HT.out, List.replicate_succ', List.append_assoc, List.cons_append]⟩, HR2, HB2, HZ2, HBS2⟩
          case measure =>
            obtain ⟨A2, c2, e2⟩ := Kd.R_slice HR2.out
            subst e2
            have := HLE.out
            simp [sliceN]
            omega

end Go.Proofs.YtblpeegpjjcemaaDoor.F
namespace Go.Proofs.YtblpeegpjjcemaaDoor.F
open Go Go.Shelf Go.RowKit Go.Proofs.YtblpeegpjjcemaaDoorW.PrintWords Go.Proofs.YtblpeegpjjcemaaDoorW.PrintLast Go.Proofs.YtblpeegpjjcemaaDoorW.PrintMore
attribute [local go_sem] max2_int min2_int max_two min_two max_three min_three max_four min_four   -- for this text's walks alone
set_option linter.unusedVariables false
set_option linter.unusedSimpArgs false

/-! ### stands 19 -/
-- stands: the keyed sum, in plain words
theorem outN_rng (h : List Int) : ∀ i, ∀ x ∈ outN h i, 0 ≤ x ∧ x < 256 := by
  intro i
  induction i with
  | zero =>
    intro x hx
    rw [outN] at hx
    obtain ⟨_, rfl⟩ := List.mem_replicate.1 hx
    omega
  | succ i ih =>
    intro x hx
    rw [outN] at hx
    rcases List.mem_or_eq_of_mem_set hx with h1 | h1
    · exact ih x h1
    · rw [h1]; unfold outV; omega
theorem sha_rng (l : List Int) : ∀ x ∈ sha l, 0 ≤ x ∧ x < 256 := outN_rng _ _
def hmKey (key : List Int) : List Int := if 64 < key.length then sha key else key
theorem hk_len (key : List Int) : (hmKey key).length ≤ 64 := by
  unfold hmKey
  split
  · rw [sha_len]; omega
  · omega
theorem hk_rng (key : List Int) (h : ∀ x ∈ key, 0 ≤ x ∧ x < 256) : ∀ x ∈ hmKey key, 0 ≤ x ∧ x < 256 := by
  unfold hmKey
  split
  · exact sha_rng key
  · exact h
def xorB (a x : Int) : Int := Go.bits .xor .u8 a x
def padN (l : List Int) (x : Int) (n : Nat) : List Int := (List.range n).map fun i => xorB (rdN l i) x
theorem padN_succ (l : List Int) (x : Int) (n : Nat) : padN l x (n + 1) = padN l x n ++ [xorB (rdN l n) x] := by simp [padN, List.range_succ]
theorem padN_len (l : List Int) (x : Int) (n : Nat) : (padN l x n).length = n := by simp [padN]
def hmac (key b : List Int) : List Int := sha (padN (hmKey key) 92 64 ++ sha (padN (hmKey key) 54 64 ++ b))
theorem hmac_len (key b : List Int) : (hmac key b).length = 32 := sha_len _
theorem strOf_size (l : List Int) : (strOfNums l).size = l.length := by simp [strOfNums, ByteArray.size]
theorem bt_strOf (l : List Int) (hl : ∀ x ∈ l, 0 ≤ x ∧ x < 256) (i : Nat) (hi : i < l.length) : bt (strOfNums l) (i : Int) = rdN l i := by
  have h1 : ((i : Int)).toNat < (strOfNums l).size := by rw [strOf_size]; simpa using hi
  have h2 := hl l[i] (List.getElem_mem _)
  unfold bt
  rw [dif_pos h1]
  have e : ((strOfNums l)[((i : Int)).toNat]'h1) = UInt8.ofNat l[i].toNat := by
    show (strOfNums l).data[((i : Int)).toNat]'_ = _
    simp [strOfNums]
  rw [e, UInt8.toNat_ofNat']
  have : rdN l i = l[i] := by simp [rdN, List.getD_eq_getElem?_getD, hi]
  rw [this]
  omega
theorem rdN_out (l : List Int) (i : Nat) (hi : ¬ i < l.length) : rdN l i = 0 := by rw [rdN, List.getD_eq_getElem?_getD, List.getElem?_eq_none (by omega)]; rfl
theorem hmT (l : List Int) (k : Nat) (hn : l.length < 140737488355328) : (l.take k).length < 140737488355328 := by rw [List.length_take]; omega
theorem take_rdN (l : List Int) (k : Nat) (hk : k < l.length) : l.take (k + 1) = l.take k ++ [rdN l k] := by
  rw [List.take_succ_eq_append_getElem hk]; simp [rdN, List.getD_eq_getElem?_getD, hk]
theorem R_other {e : Nat} {w w1 : World} {B : Nat} {v u : Value} {xs : List Int} (h : Kd.R (Kd.int .u8) e w B (fun _ => True) u xs) (hg : w.grownBy w1 v.ownBlock) (hs : ∀ k, u.ownBlock = some k → v.ownBlock ≠ some k) : Kd.R (Kd.int .u8) e w1 B (fun _ => True) u xs := by
  have h1 : Kd.R (Kd.int .u8) e w B (fun k => u.ownBlock = some k) u xs := ⟨fun _ h => h, h.2⟩
  have h2 := Kd.R_grown h1 hg (fun k hk e => hs k hk e.symm)
  exact ⟨fun _ _ => trivial, h2.2⟩
theorem sep_after {w : World} {v v1 u : Value} (hs : ∀ k, u.ownBlock = some k → v.ownBlock ≠ some k) (hat : v1.ownBlock = v.ownBlock ∨ ∃ b, v1.ownBlock = some b ∧ w.heap.size ≤ b) (hu : ∀ k, u.ownBlock = some k → k < w.heap.size) : ∀ k, u.ownBlock = some k → v1.ownBlock ≠ some k := by
  intro k hk
  rcases hat with e | ⟨b, e, hb⟩
  · rw [e]; exact hs k hk
  · rw [e]
    intro h
    injection h with h
    have := hu k hk
    omega
theorem sep_symm {v u : Value} (hs : ∀ k, u.ownBlock = some k → v.ownBlock ≠ some k) : ∀ k, v.ownBlock = some k → u.ownBlock ≠ some k := fun k hk h => hs k h hk
theorem gtT {a b : Nat} (h : b < a) : ((a : Int) > (b : Int)) = True := eq_true (by omega)
theorem hmI {n : Nat} (h : n ≤ 1048576) : n ≤ 2097152 := by omega
theorem hmJ {a b n : Nat} (ha : a = 64) (h : n ≤ 1572864) (hb : b = a + n) : b ≤ 2097152 := by omega
theorem hmK {a n : Nat} (h : n ≤ 1572864) (ha : a ≤ 64 + n) : a < 140737488355328 := by omega
theorem sep_new {e : Nat} {w0 w w1 : World} {B : Nat} {v u : Value} {xs ys : List Int} (h : Kd.R (Kd.int .u8) e w B (fun _ => True) v xs) (hu : Kd.R (Kd.int .u8) e w1 w.heap.size (fun _ => True) u ys) : ∀ k, u.ownBlock = some k → v.ownBlock ≠ some k := by
  intro k hk hv
  have h1 := Kd.R_lt h k hv
  have h2 := Kd.R_base hu k hk
  omega
theorem own_ne_after {w : World} {v v1 : Value} {g : Nat} (hs : ∀ k, v.ownBlock = some k → k ≠ g) (hat : v1.ownBlock = v.ownBlock ∨ ∃ b, v1.ownBlock = some b ∧ w.heap.size ≤ b) (hg : g < w.heap.size) : ∀ k, v1.ownBlock = some k → k ≠ g := by
  intro k hk
  rcases hat with e | ⟨b, e, hb⟩
  · rw [e] at hk; exact hs k hk
  · rw [e] at hk
    injection hk with hk
    omega
theorem arr_grown {w w1 : World} {v : Value} {g : Nat} {t : TypeId} {xs : List Int} (h : ArrI .u8 w g t xs) (hg : w.grownBy w1 v.ownBlock) (hs : ∀ k, v.ownBlock = some k → k ≠ g) : ArrI .u8 w1 g t xs :=
  (hg.block g h.lt (fun e => hs g e.symm rfl)).trans h
theorem hmB {n : Nat} (h : n ≤ 64) : n < 140737488355328 := by omega
theorem hmW {j n : Nat} (hj : j < n) (hn : n ≤ 1572864) : wrap64 ((j : Int) + 1) = (j : Int) + 1 := w64w (by omega) (by omega)
def padR (l : List Int) (x : Int) (i : Nat) : List Int := padN l x i ++ List.replicate (64 - i) 0
theorem padR_len (l : List Int) (x : Int) (i : Nat) (h : i ≤ 64) : (padR l x i).length = 64 := by unfold padR; rw [List.length_append, padN_len, List.length_replicate]; omega
theorem padR_set (l : List Int) (x : Int) (i : Nat) (h : i < 64) : (padR l x i).set i (xorB (rdN l i) x) = padR l x (i + 1) := by
  unfold padR
  rw [show 64 - i = (64 - (i + 1)) + 1 by omega, List.replicate_succ, padN_succ, List.set_append_right _ _ (by rw [padN_len]; exact Nat.le_refl _), padN_len, Nat.sub_self, List.set_cons_zero, List.append_assoc]
  rfl
theorem padR_end (l : List Int) (x : Int) : padR l x 64 = padN l x 64 := by unfold padR; simp
theorem arr_C {w : World} {g : Nat} {t : TypeId} {xs : List Int} (h : ArrI .u8 w g t xs) (hn : xs.length ≤ 9223372036854775807) : Kd.C (Kd.int .u8) w (some ⟨g, 0, none⟩) xs.length xs :=
  Kd.C_of_reads (d := (0 : Int)) (enc := Value.int .u8) (h1 := fun _ => rfl) ⟨rfl, hn, fun _ => ⟨_, rfl, fun j hj => by rw [add_plain]; exact ArrI.cell h j hj⟩⟩
theorem hk_copy (K : List Int) (h : K.length ≤ 64) : K.take (min K.length (List.replicate 64 (0 : Int)).length) ++ (List.replicate 64 (0 : Int)).drop (min K.length (List.replicate 64 (0 : Int)).length) = K ++ List.replicate (64 - K.length) 0 := by
  rw [List.length_replicate, Nat.min_eq_left h, List.take_length, List.drop_replicate]
theorem hk_at (K : List Int) (j : Nat) : rdN (K ++ List.replicate (64 - K.length) 0) j = rdN K j := by
  unfold rdN
  rw [List.getD_eq_getElem?_getD, List.getD_eq_getElem?_getD]
  rcases Nat.lt_or_ge j K.length with h | h
  · rw [List.getElem?_append_left h]
  · rw [List.getElem?_append_right h, List.getElem?_eq_none h, List.getElem?_replicate]
    split <;> rfl
theorem goesC_ {P : Program} {ops : Array Oper} {Q : Exit → Act → World → Prop} {oi : Oper} {N : Option Tmp} {a : Act} {w : World} {K : Act → World → Prop} {f : FuncId} {fn : Func} {x : Operand} {xs : Array Operand} {ts : Array TypeId} (p : Value) (hf : P.funcs[f]? = some fn) (hname : (fn.name == "runtime.NumGoroutine") = false) (hb : fn.body.isSome = true) (args all : Array Value)
    (hw : Region.wanted oi (yielded ops a.tmps) = true) (hN : oi.dst = N) (hop : oi.op = .call { callee := .value x, args := xs, argTypes := ts }) (hx : a.eval x = .func (.func f) #[] #[p]) (hargs : xs.map a.eval = args) (hall : args ++ #[p] = all)
    (h : Calls P f all w fun e w' => ∃ v, e = .returned v ∧ K (a.put N v) w') : if Region.wanted oi (yielded ops a.tmps) = true then Oper.wp P oi a w K Q else K (a.put N undef) w := by
  refine call_ f all hw hN ?_ h
  have he := enters_ hf hname hb all w
  unfold execOp
  simp [hop, resolve, Deferred.ofValue, invoke, hx, hargs, hall, he]
theorem storeRow_ {P : Program} {ops : Array Oper} {Q : Exit → Act → World → Prop} {oi : Oper} {N : Option Tmp} {a : Act} {w : World} {K : Act → World → Prop} (hw : Region.wanted oi (yielded ops a.tmps) = true) (ty : TypeId) (x y : Operand) (ho : oi.op = .store ty x y)
    (g : Nat) (cells : Array Value) (hx : a.eval x = .pointer (some ⟨g, 0, none⟩)) (hy : a.eval y = .agg cells) (t : TypeId) (old : Array Value) (hg : w.heap[g]? = some (.cells old t (0, 0))) (hi : (P.info? ty).map (·.size) = some cells.size)
    (hold : old.size = cells.size) (h1 : cells.all (·.oneCell') = true) (h : K (a.put oi.dst undef) (w.setRow g cells)) : if Region.wanted oi (yielded ops a.tmps) = true then Oper.wp P oi a w K Q else K (a.put N undef) w := by
  rw [if_pos hw]
  exact wp_store_row ty x y ho g cells hx hy t old hg hi hold h1 h

end Go.Proofs.YtblpeegpjjcemaaDoor.F
