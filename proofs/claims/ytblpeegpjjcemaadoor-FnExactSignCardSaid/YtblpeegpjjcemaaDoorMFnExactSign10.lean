/- Part 10 of 13 of the proof of FnExactSign: what each Go function on its way computes, that the Go code does just this, and what the law says of it. No condition beyond the statement's own. -/
import Derived.Test.YtblpeegpjjcemaaDoorMFnExactSign9
namespace Go.Proofs.YtblpeegpjjcemaaDoor.F
open Go Go.Shelf Go.RowKit Go.Proofs.YtblpeegpjjcemaaDoorW.PrintWords Go.Proofs.YtblpeegpjjcemaaDoorW.PrintLast Go.Proofs.YtblpeegpjjcemaaDoorW.PrintMore
attribute [local go_sem] max2_int min2_int max_two min_two max_three min_three max_four min_four   -- for this text's walks alone
set_option linter.unusedVariables false
set_option linter.unusedSimpArgs false

/-! ### impl_Hmac: function 12 -/
set_option maxHeartbeats 200000000 in
set_option maxRecDepth 100000 in
theorem impl_Hmac.calls (Ak : Option Addr) (ck : Nat) (key : List Int) (Ab : Option Addr) (cb : Nat) (b : List Int) (w : World) (hrk : Kd.C (Kd.int .u8) w Ak key.length key) (hck : key.length ≤ ck) (hrb : Kd.C (Kd.int .u8) w Ab b.length b) (hcb : b.length ≤ cb) (hnk : key.length ≤ 1048576) (hnb : b.length ≤ 1572864) (hG : GlobK w) :
    Calls Tryd.prog 12 #[.slice Ak key.length ck, .slice Ab b.length cb] w fun e w' => e = .returned (.agg ((hmac key b).map (Value.int .u8)).toArray) ∧ Below w.heap.size w w' := by
  have HRK := Aside0.mk hrk
  have HRB := Aside0.mk hrb
  have HCK := Aside0.mk hck
  have HNK := Aside0.mk hnk
  have HNB := Aside0.mk hnb
  have HKL := Aside0.mk (hk_len key)
  have HG := Aside0.mk hG
  clear hrk hrb hck hnk hnb hG
  go_enter Tryd.func12, Tryd.ntmps12
  go_upto_region 1 with fail
  obtain ⟨wz, hwz⟩ : ∃ wz, wz = w.alloc (Obj.cells (Array.replicate 32 (Value.int IntKind.u8 0)) 23) := ⟨_, rfl⟩
  have hZ : ArrI .u8 wz w.heap.size 23 (List.replicate 32 0) := by rw [hwz]; exact ArrI.new w .u8 23 (List.replicate 32 0)
  have hBz : Below w.heap.size w wz := by rw [hwz]; exact below_alloc (Below.refl _ _) _
  refine (show wz = _ from hwz) ▸ ?_
  clear hwz
  have hZL := hZ.lt
  replace hZ := Aside0.mk hZ
  replace hBz := Aside0.mk hBz
  replace hZL := Aside0.mk hZL
  have HCz := Aside0.mk (Kd.C_below HRK.out hBz.out)
  have HBz := Aside0.mk (Kd.C_below HRB.out hBz.out)
  have HGz := Aside0.mk (GlobK.below HG.out hBz.out)
  go_upto_region 2 with (first | ((with_reducible refine gate_dst (N := 9) rfl ?_); refine Kd.R_make (Kd.int .u8) _ 5 rfl (N := 9) rfl 22 _ _ rfl (64 : Int) rfl rfl Tryd.underlying22 (.int .u8 0) 1 info5 rfl (by decide) (by decide) 0 (ok := fun _ => True) (okp := fun _ => True) rfl (fun _ hk => hk) trivial (by decide) (by decide) (Below.refl _ _) (Nat.le_refl _) ?_; intro v1 w1 ho hb hg_ hnew_; obtain ⟨kb, kc, ev, hkb, hkl, hk9_⟩ := Kd.R_form ho (by decide); clear hk9_; subst ev; have HO := Aside0.mk ho; have HB := Aside0.mk hb; have HKL1 := Aside0.mk hkl; have HKB := Aside0.mk hkb; clear ho hb hg_ hnew_ hkl hkb))
  obtain ⟨B, hBB⟩ : ∃ x, x = wz.heap.size := ⟨_, rfl⟩
  have HKC : Aside0 ((w1.alloc (Obj.cells #[.slice (some ⟨kb, 0, none⟩) 64 kc] 22)).heap[w1.heap.size]? = some (Obj.cells #[.slice (some ⟨kb, 0, none⟩) 64 kc] 22 (0, 0))) := ⟨blk_new w1 _⟩
  have HO2 : Aside0 (Kd.R (Kd.int .u8) 5 (w1.alloc (Obj.cells #[.slice (some ⟨kb, 0, none⟩) 64 kc] 22)) B (fun _ => True) (.slice (some ⟨kb, 0, none⟩) 64 kc) (List.replicate 64 0)) := ⟨by rw [hBB]; exact Kd.R_alloc HO.out _⟩
  have HB2 : Aside0 (Below B wz (w1.alloc (Obj.cells #[.slice (some ⟨kb, 0, none⟩) 64 kc] 22))) := ⟨by rw [hBB]; exact below_alloc HB.out _⟩
  refine (show ∀ W2, W2 = (w1.alloc (Obj.cells #[.slice (some ⟨kb, 0, none⟩) 64 kc] 22)) → Code.wp _ _ _ _ W2 from fun W2 hW2 => ?_) _ rfl
  rw [← hW2] at HKC HO2 HB2
  clear hW2 HO HB
  generalize hgk : w1.heap.size = gk at *
  clear hgk w1
  have HFB : Aside0 (∀ W, Below B wz W → Below wz.heap.size wz W) := ⟨fun W h => by rw [← hBB]; exact h⟩
  have HFS : Aside0 (B = wz.heap.size) := ⟨hBB⟩
  rw [← hBB] at hZL HKB
  clear hBB
  by_cases h64 : 64 < key.length
  case' pos =>
    have l1 : ((key.length : Int) > 64) = True := gtT h64
    have l2 : decide ((64 : Int) < (key.length : Int)) = true := ltD h64
    have l3 : decide ((key.length : Int) > 64) = true := ltD h64
    have l4 : ((64 : Int) < (key.length : Int)) = True := ltT h64
    have HK := Aside0.mk (show hmKey key = sha key by unfold hmKey; rw [if_pos h64])
    have hl32 : (sha key).length = 32 := sha_len key
    obtain ⟨S, hS⟩ : ∃ S, S = ((sha key).map (Value.int .u8)).toArray := ⟨_, rfl⟩
    have hsz : (Tryd.prog.info? 23).map (·.size) = some S.size := by rw [hS, List.size_toArray, List.length_map, hl32]; kernel_rfl
    have hold : (Array.replicate 32 (Value.int IntKind.u8 0)).size = S.size := by rw [hS]; show 32 = _; rw [List.size_toArray, List.length_map, hl32]
    have hone : S.all (·.oneCell') = true := by rw [hS]; exact oneInts .u8 _
    replace hsz := Aside0.mk hsz
    replace hold := Aside0.mk hold
    replace hone := Aside0.mk hone
    replace hS := Aside0.mk hS
    clear hl32
    go_upto_region 4 with (first | ((with_reducible refine gate_callee (f := 8) rfl ?_); refine goesL_ (some 14) rfl rfl Tryd.func8 (by kernel_rfl) rfl #[.slice Ak key.length ck] rfl (by (try simp only [List.map_toArray, List.map_cons, List.map_nil]); first | done | rfl) ?_; (with_reducible refine (impl_Sha256.calls _ _ key _ (Kd.C_below HCz.out (HFB.out _ HB2.out)) HCK.out (hmI HNK.out) (GlobK.below HGz.out (HFB.out _ HB2.out))).mono ?_); rintro e w10 ⟨rfl, hb⟩; refine ⟨_, rfl, ?_⟩; rw [← hS.out]; have HBS := HB2.out.size; rw [← HFS.out] at HBS; have HB3 := Aside0.mk (Below.trans HB2.out (hb.mono HBS)); have HO3 := Aside0.mk (Kd.R_below HO2.out hb); have HKC3 := Aside0.mk (blk_below HKC.out hb); clear HB2 HO2 HKC hb) | ((with_reducible refine gate_storeT (ty := 23) rfl ?_); refine wpList_store_row rfl 23 (.tmp 6) (.tmp 14) rfl w10.heap.size S rfl rfl 23 _ (blk_new w10 _) hsz.out hold.out hone.out ?_))
    have hq1 := setRow_heap (w10.alloc (Obj.cells (Array.replicate 32 (Value.int IntKind.u8 0)) 23)) w10.heap.size _ S _ _ (blk_new w10 _)
    have hd1 : Below w10.heap.size w10 ((w10.alloc (Obj.cells (Array.replicate 32 (Value.int IntKind.u8 0)) 23)).setRow w10.heap.size S) := xbelow_setRow (below_alloc (Below.refl _ _) _) (Nat.le_refl _) S
    refine (show ∀ W2, W2 = (w10.alloc (Obj.cells (Array.replicate 32 (Value.int IntKind.u8 0)) 23)).setRow w10.heap.size S → Code.wp _ _ _ _ W2 from fun wc hW2 => ?_) _ rfl
    rw [← hW2] at hq1 hd1
    clear hW2
    have hA6 : ArrI .u8 wc w10.heap.size 23 (sha key) := by unfold ArrI; rw [← hS.out]; exact hq1
    have HCC : Aside0 (Kd.C (Kd.int .u8) wc (some ⟨w10.heap.size, 0, none⟩) 32 (hmKey key)) := ⟨by rw [HK.out]; have := arr_C hA6 (by rw [sha_len]; decide); rw [sha_len] at this; exact this⟩
    have HB := Aside0.mk (Below.trans HB3.out (hd1.mono (by have := HB3.out.size; rw [← HFS.out] at this; exact this)))
    have HO := Aside0.mk (Kd.R_below HO3.out hd1)
    have HKQ := Aside0.mk (blk_below HKC3.out hd1)
    clear hq1 hd1 hA6 HB3 HO3 HKC3 hsz hold hone hS
    generalize hg6 : w10.heap.size = g6 at *
    clear hg6 w10
    go_upto_region 5 with fail
  case' neg =>
    have l1 : ((key.length : Int) > 64) = False := ltF h64
    have l2 : decide ((64 : Int) < (key.length : Int)) = false := ltG h64
    have l3 : decide ((key.length : Int) > 64) = false := ltG h64
    have l4 : ((64 : Int) < (key.length : Int)) = False := ltF h64
    have HK := Aside0.mk (show hmKey key = key by unfold hmKey; rw [if_neg h64])
    go_upto_region 5 with fail
    have HCC : Aside0 (Kd.C (Kd.int .u8) W2 Ak key.length (hmKey key)) := ⟨by rw [HK.out]; exact Kd.C_below HCz.out (HFB.out _ HB2.out)⟩
    have HB := HB2
    have HO := HO2
    have HKQ := HKC
    clear HB2 HO2 HKC
    generalize W2 = wc at *
  all_goals
    clear l1 l2 l3 l4 HK h64
    have HBSz : Aside0 (B ≤ wc.heap.size) := ⟨by have := HB.out.size; rw [← HFS.out] at this; exact this⟩
    have x0 : wc.cell? ⟨gk, 0, none⟩ = some (.slice (some ⟨kb, 0, none⟩) 64 kc) := (blk_cell HKQ.out 0).trans rfl
    go_upto_region 6 with (first | ((with_reducible refine gate_builtin (b := .copy) (xs := #[.tmp 16, .tmp 17]) rfl ?_); refine Kd.R_copy (enc := Value.int .u8) (h1 := fun _ => rfl) (0 : Int) B rfl (.tmp 16) (.tmp 17) 22 22 5 rfl Tryd.underlying22 (by kernel_rfl) (.slice (some ⟨kb, 0, none⟩) 64 kc) (List.replicate 64 0) (hmKey key) _ _ _ (fun _ => True) rfl rfl HO.out HCC.out (Below.refl _ _) HBSz.out ?_; intro w9 ho hb hg; rw [← HCC.out.1, hk_copy _ HKL.out] at ho; have HO4 := Aside0.mk ho; have HB4 := Aside0.mk (Below.trans HB.out hb); have HG9 := Aside0.mk hg; clear ho hb hg))
    have hO4 : Kd.R (Kd.int .u8) 5 w9 B (fun _ => True) (.slice (some ⟨kb, 0, none⟩) 64 kc) (hmKey key ++ List.replicate (64 - (hmKey key).length) 0) := HO4.out
    have hn4 := (Kd.R_reads' hO4).1
    have hKQ4 : w9.heap[gk]? = some (Obj.cells #[.slice (some ⟨kb, 0, none⟩) 64 kc] 22 (0, 0)) := (HG9.out.block gk (blk_lt HKQ.out) (fun e => by simp only [Value.ownBlock] at e; injection e with e; exact Nat.ne_of_gt HKL1.out e)).trans HKQ.out
    have hC4 : ∀ j, j < 64 → w9.cell? ⟨kb, j, none⟩ = some (.int .u8 (rdN (hmKey key) j)) := fun j hj => by
      obtain ⟨ad, e0, hx⟩ := Kd.at_int (Kd.R_reads' hO4).2.2 (j : Int) (Int.natCast_nonneg _) (by rw [← hn4]; exact Int.ofNat_lt.mpr hj)
      cases e0
      have hrd : rd (hmKey key ++ List.replicate (64 - (hmKey key).length) 0) (j : Int) = rdN (hmKey key ++ List.replicate (64 - (hmKey key).length) 0) j := by simp [rd, rdN]
      rw [hrd, hk_at, Int.toNat_natCast, add_plain] at hx
      exact hx
    have HK4 : Aside0 (∀ W, Below w9.heap.size w9 W → W.cell? ⟨gk, 0, none⟩ = some (.slice (some ⟨kb, 0, none⟩) 64 kc) ∧ ∀ j, j < 64 → W.cell? ⟨kb, j, none⟩ = some (.int .u8 (rdN (hmKey key) j))) := ⟨fun W hb => ⟨(blk_cell (blk_below hKQ4 hb) 0).trans rfl, fun j hj => (hb.cell (World.block_lt_of_cell? w9 _ (hC4 j hj))).trans (hC4 j hj)⟩⟩
    have HS9 : Aside0 (B ≤ w9.heap.size) := ⟨by have := HB4.out.size; rw [← HFS.out] at this; exact this⟩
    have HLP : Aside0 (((padN (hmKey key) 54 64).length + b.length) * 1 ≤ 140737488355328) := ⟨by rw [padN_len]; have := HNB.out; omega⟩
    have HN1 : Aside0 ((padN (hmKey key) 54 64 ++ b).length ≤ 2097152) := ⟨by rw [List.length_append, padN_len]; have := HNB.out; omega⟩
    clear hO4 hn4 hKQ4 hC4 HO4 HG9 HO HB HCC HKQ HBSz x0
    obtain ⟨sv, hsv⟩ : ∃ sv, sv = sha (padN (hmKey key) 54 64 ++ b) := ⟨_, rfl⟩
    have hl32 : sv.length = 32 := by rw [hsv]; exact sha_len _
    have HL := Aside0.mk hl32
    have HSV := Aside0.mk hsv
    obtain ⟨S2, hS⟩ : ∃ S, S = (sv.map (Value.int .u8)).toArray := ⟨_, rfl⟩
    have hsz : (Tryd.prog.info? 23).map (·.size) = some S2.size := by rw [hS, List.size_toArray, List.length_map, hl32]; kernel_rfl
    have hold : (Array.replicate 32 (Value.int IntKind.u8 0)).size = S2.size := by rw [hS]; show 32 = _; rw [List.size_toArray, List.length_map, hl32]
    have hone : S2.all (·.oneCell') = true := by rw [hS]; exact oneInts .u8 sv
    replace hsz := Aside0.mk hsz
    replace hold := Aside0.mk hold
    replace hone := Aside0.mk hone
    replace hS := Aside0.mk hS
    clear hl32 hsv
    go_upto_region 7 with fail
    go_upto_region 8 with (first | (go_at_call 27; refine (xHPad.calls 54 gk kb kc (hmKey key) w9 (HK4.out w9 (Below.refl _ _)).1 (HK4.out w9 (Below.refl _ _)).2).mono ?_; rintro e w11 ⟨v11, rfl, hr, hb⟩; have HR1 := Aside0.mk hr; have HB5 := Aside0.mk hb; clear hr hb) | ((with_reducible refine gate_builtin (b := .append) (xs := #[.tmp 21, .tmp 22]) rfl ?_); at_builtin; refine Kd.R_append_rows (Kd.int .u8) (w0 := w11) w9.heap.size rfl (.tmp 21) (.tmp 22) 22 5 (.int .u8 0) 1 rfl Tryd.underlying22 (by kernel_rfl) rfl (by decide) (by decide) v11 (padN (hmKey key) 54 64) b _ _ _ (fun _ => True) (fun _ => False) rfl rfl ?aO ?aR (fun _ _ h => h) (fun _ h => h.elim) ?aF ?aB ?aS ?aL ?_; (case aO => exact HR1.out); (case aR => exact Kd.C_below (Kd.C_below HBz.out (HFB.out _ HB4.out)) HB5.out); (case aF => exact (fun _ _ => trivial)); (case aB => exact Below.refl _ _); (case aS => exact HB5.out.size); (case aL => exact HLP.out); intro v12 w12 ho hb hg hat; obtain ⟨A12, c12, e12⟩ := Kd.R_slice ho; subst e12; have HR2 := Aside0.mk ho; have HB6 := Aside0.mk (Below.trans HB5.out hb); clear ho hb hg hat HR1 HB5) | ((with_reducible refine gate_callee (f := 8) rfl ?_); refine goesL_ (some 24) rfl rfl Tryd.func8 (by kernel_rfl) rfl #[.slice A12 (padN (hmKey key) 54 64 ++ b).length c12] rfl (by (try simp only [List.map_toArray, List.map_cons, List.map_nil]); first | done | rfl) ?_; (with_reducible refine (impl_Sha256.calls _ _ (padN (hmKey key) 54 64 ++ b) _ (Kd.R_reads' HR2.out).2.2 (Kd.R_reads' HR2.out).2.1 HN1.out (GlobK.below (GlobK.below HGz.out (HFB.out _ HB4.out)) HB6.out)).mono ?_); rintro e w13 ⟨rfl, hb⟩; refine ⟨_, rfl, ?_⟩; rw [← HSV.out, ← hS.out]; have HB7 := Aside0.mk (below_step HB6.out hb); clear HB6 HR2 hb) | ((with_reducible refine gate_storeT (ty := 23) rfl ?_); refine wpList_store_row rfl 23 (.tmp 8) (.tmp 24) rfl w13.heap.size S2 rfl rfl 23 _ (blk_new w13 _) hsz.out hold.out hone.out ?_))
    have hq1 := setRow_heap (w13.alloc (Obj.cells (Array.replicate 32 (Value.int IntKind.u8 0)) 23)) w13.heap.size _ S2 _ _ (blk_new w13 _)
    have hd1 : Below w13.heap.size w13 ((w13.alloc (Obj.cells (Array.replicate 32 (Value.int IntKind.u8 0)) 23)).setRow w13.heap.size S2) := xbelow_setRow (below_alloc (Below.refl _ _) _) (Nat.le_refl _) S2
    refine (show ∀ W2, W2 = (w13.alloc (Obj.cells (Array.replicate 32 (Value.int IntKind.u8 0)) 23)).setRow w13.heap.size S2 → Code.wp _ _ _ _ W2 from fun w14 hW2 => ?_) _ rfl
    rw [← hW2] at hq1 hd1
    clear hW2
    have HA8 : Aside0 (ArrI .u8 w14.drew w13.heap.size 23 sv) := ⟨ArrI.drew (by unfold ArrI; rw [← hS.out]; exact hq1)⟩
    have HB8 : Aside0 (Below w9.heap.size w9 w14.drew) := ⟨below_drew (below_step HB7.out hd1)⟩
    clear hq1 hd1 HB7 hsz hold hone hS
    generalize hg8 : w13.heap.size = g8 at *
    clear hg8 w13
    have HLP2 : Aside0 (((padN (hmKey key) 92 64).length + 32) * 1 ≤ 140737488355328) := ⟨by rw [padN_len]; decide⟩
    have HN2 : Aside0 ((padN (hmKey key) 92 64 ++ sv).length ≤ 2097152) := ⟨by rw [List.length_append, padN_len, HL.out]; decide⟩
    have HE : Aside0 (sha (padN (hmKey key) 92 64 ++ sv) = hmac key b) := ⟨by rw [HSV.out]; rfl⟩
    obtain ⟨R, hR⟩ : ∃ S, S = ((sha (padN (hmKey key) 92 64 ++ sv)).map (Value.int .u8)).toArray := ⟨_, rfl⟩
    have hl7 := sha_len (padN (hmKey key) 92 64 ++ sv)
    have hsz7 : (Tryd.prog.info? 23).map (·.size) = some R.size := by rw [hR, List.size_toArray, List.length_map, hl7]; kernel_rfl
    have hold7 : ((List.replicate 32 (0 : Int)).map (Value.int .u8)).toArray.size = R.size := by rw [hR]; show 32 = _; rw [List.size_toArray, List.length_map, hl7]
    have hone7 : R.all (·.oneCell') = true := by rw [hR]; exact oneInts .u8 _
    replace hsz7 := Aside0.mk hsz7
    replace hold7 := Aside0.mk hold7
    replace hone7 := Aside0.mk hone7
    replace hR := Aside0.mk hR
    clear hl7
    have hcl := HK4.out w14.drew HB8.out
    have hcg := GlobK.below (GlobK.below HGz.out (HFB.out _ HB4.out)) HB8.out
    refine start_ (n := 6) (S := fun w' => True) (ds := []) #[false, false, false, false, false, false] (by kernel_rfl) rfl rfl trivial (fun hHeld => ?_)
    refine pure_ (i := 0) (N := some 25) (v := ?_) (a' := ?_) #[true, false, false, false, false, false] rfl rfl (by kernel_rfl) (fun _ _ _ h => h) (Or.inl ⟨by rfl, ?_⟩) ?_ ?_
    rotate_left
    · intro w'
      go_simp
      with_reducible rfl
    rotate_left
    · simp only [Act.put, List.setIfInBounds_toArray, List.set_cons_zero, List.set_cons_succ, i64_w, i32_w]
      rfl
    refine pure_ (i := 2) (N := some 27) (v := ?_) (a' := ?_) #[true, false, true, false, false, false] rfl rfl (by kernel_rfl) (fun _ _ _ h => h) (Or.inl ⟨by rfl, ?_⟩) ?_ ?_
    rotate_left
    · intro w'
      go_simp
      with_reducible rfl
    rotate_left
    · simp only [Act.put, List.setIfInBounds_toArray, List.set_cons_zero, List.set_cons_succ, i64_w, i32_w]
      rfl
    refine one_ (i := 1) (N := some 26) #[true, true, true, false, false, false] rfl rfl (by kernel_rfl) (by decide) (fun K hK => ?_)
    refine goesC_ (.pointer (some ⟨gk, 0, none⟩)) Tryd.func27 (by kernel_rfl) rfl #[.int .u8 92] #[.int .u8 92, .pointer (some ⟨gk, 0, none⟩)] (by rfl) rfl rfl rfl (by simp only [List.map_toArray, List.map_cons, List.map_nil]; rfl) rfl ?_
    refine (xHPad.calls 92 gk kb kc (hmKey key) w14.drew hcl.1 hcl.2).mono ?_
    rintro e w15 ⟨v15, rfl, hr15, hb15⟩
    refine ⟨_, rfl, ?_⟩
    refine hK.out _ _ trivial (fun hHeld => ?_)
    clear hK K
    refine norm_ (a' := ?_) ?_ ?_
    rotate_left
    · show Act.put _ (some 26) _ = _
      simp only [Act.put, List.setIfInBounds_toArray, List.set_cons_zero, List.set_cons_succ, i64_w, i32_w]
      rfl
    refine one_ (i := 3) (N := some 28) #[true, true, true, true, false, false] rfl rfl (by kernel_rfl) (by decide) (fun K hK => ?_)
    have hA9 := arr_C (ArrI.below HA8.out hb15) (by rw [HL.out]; decide)
    rw [HL.out] at hA9
    refine Kd.R_append_rows_step (Kd.int .u8) (w0 := w15) w14.drew.heap.size (by rfl) (.tmp 26) (.tmp 27) 22 5 (.int .u8 0) 1 rfl Tryd.underlying22 (by kernel_rfl) rfl (by decide) (by decide) v15 (padN (hmKey key) 92 64) sv (some ⟨g8, 0, none⟩) 32 32 (fun _ => True) (fun _ => False) rfl rfl hr15 hA9 (fun _ _ h => h) (fun _ h => h.elim) (fun _ _ => trivial) (Below.refl _ _) hb15.size HLP2.out ?_
    intro v16 w16 ho16 hb16 hg16 hat16
    obtain ⟨A16, c16, e16⟩ := Kd.R_slice ho16
    subst e16
    have hb17 := Below.trans hb15 hb16
    refine hK.out _ _ trivial (fun hHeld => ?_)
    clear hK K
    refine norm_ (a' := ?_) ?_ ?_
    rotate_left
    · show Act.put _ (some 28) _ = _
      simp only [Act.put, List.setIfInBounds_toArray, List.set_cons_zero, List.set_cons_succ, i64_w, i32_w]
      rfl
    refine one_ (i := 4) (N := some 29) #[true, true, true, true, true, false] rfl rfl (by kernel_rfl) (by decide) (fun K hK => ?_)
    refine goes_ Tryd.func8 (by kernel_rfl) rfl #[.slice A16 (padN (hmKey key) 92 64 ++ sv).length c16] (by rfl) rfl rfl (by simp only [List.map_toArray, List.map_cons, List.map_nil]; rfl) ?_
    with_reducible refine (impl_Sha256.calls A16 c16 (padN (hmKey key) 92 64 ++ sv) w16 (Kd.R_reads' ho16).2.2 (Kd.R_reads' ho16).2.1 HN2.out (GlobK.below hcg hb17)).mono ?_
    rintro e w18 ⟨rfl, hb18⟩
    refine ⟨_, rfl, ?_⟩
    rw [← hR.out]
    have HB9 := Aside0.mk (below_step (below_step HB8.out hb17) hb18)
    have HZ9 := Aside0.mk (Below.trans HB4.out (HB9.out.mono HS9.out))
    have hZr : ArrI .u8 w18 w.heap.size 23 (List.replicate 32 0) := (HZ9.out.block _ hZL.out).trans hZ.out
    refine hK.out _ _ trivial (fun hHeld => ?_)
    clear hK K
    refine norm_ (a' := ?_) ?_ ?_
    rotate_left
    · show Act.put _ (some 29) _ = _
      simp only [Act.put, List.setIfInBounds_toArray, List.set_cons_zero, List.set_cons_succ, i64_w, i32_w]
      rfl
    refine one_ (i := 5) (N := none) #[true, true, true, true, true, true] rfl rfl (by kernel_rfl) (by decide) (fun K hK => ?_)
    refine storeRow_ (by rfl) 23 (.tmp 4) (.tmp 29) rfl w.heap.size R rfl rfl 23 _ hZr hsz7.out hold7.out hone7.out ?_
    refine hK.out _ _ trivial (fun hHeld => ?_)
    clear hK K
    refine done_ (by kernel_rfl) ?_

    go_wp2
    have hq : (w18.setRow w.heap.size R).heap[w.heap.size]? = some (Obj.cells R 23 (0, 0)) := setRow_heap w18 w.heap.size _ _ _ _ hZr
    have hB7 := xbelow_setRow (Below.trans hBz.out (HZ9.out.mono (Nat.le_of_lt hZL.out))) (Nat.le_refl _) R
    generalize w18.setRow w.heap.size R = w5 at *
    have l1 := run_loadVar_row (P := Tryd.prog) w5 w.heap.size 23 23 _ _ _ hq Tryd.underlying23 rfl hsz7.out
    exact bodyPost_cell Tryd.results12 rfl l1 rfl ⟨by rw [hR.out, HE.out], hB7⟩

end Go.Proofs.YtblpeegpjjcemaaDoor.F
namespace Go.Proofs.YtblpeegpjjcemaaDoor.F
open Go Go.Shelf Go.RowKit Go.Proofs.YtblpeegpjjcemaaDoorW.PrintWords Go.Proofs.YtblpeegpjjcemaaDoorW.PrintLast Go.Proofs.YtblpeegpjjcemaaDoorW.PrintMore
attribute [local go_sem] max2_int min2_int max_two min_two max_three min_three max_four min_four   -- for this text's walks alone
set_option linter.unusedVariables false
set_option linter.unusedSimpArgs false

/-! ### impl_fold: function 45 -/
def low8 (x : Int) : Int := if 65 ≤ x ∧ x ≤ 90 then x + 32 else x
def impl_fold.f (a0 : ByteArray) : Option (ByteArray) := if a0.size ≤ 140737488355328 then some (strOfNums ((bytesOf a0).map low8)) else none
theorem impl_fold.step (s : ByteArray) (k : Nat) (hk : k < s.size) (v : Int) (hv : v = low8 (bt s (k : Int))) : (((bytesOf s).map low8).take k ++ (bytesOf s).drop k).set k v = ((bytesOf s).map low8).take (k + 1) ++ (bytesOf s).drop (k + 1) := by
  have hl := bytesOf_length s
  have hb : (bytesOf s)[k]'(by omega) = bt s (k : Int) := by
    rw [← rd_bytesOf]
    simp [rd, List.getD_eq_getElem?_getD, hl, hk]
  rw [List.set_append_right _ _ (by simp; omega), List.length_take, List.length_map, hl, Nat.min_eq_left (by omega), Nat.sub_self, List.drop_eq_getElem_cons (by omega), List.set_cons_zero, List.take_succ_eq_append_getElem (by simp; omega), List.append_assoc]
  simp [hb, hv]
theorem impl_fold.same (s : ByteArray) (k : Nat) (hk : k < s.size) (hv : low8 (bt s (k : Int)) = bt s (k : Int)) : ((bytesOf s).map low8).take k ++ (bytesOf s).drop k = ((bytesOf s).map low8).take (k + 1) ++ (bytesOf s).drop (k + 1) := by
  have hl := bytesOf_length s
  have hb : (bytesOf s)[k]'(by omega) = bt s (k : Int) := by
    rw [← rd_bytesOf]
    simp [rd, List.getD_eq_getElem?_getD, hl, hk]
  rw [List.drop_eq_getElem_cons (by omega), List.take_succ_eq_append_getElem (by simp; omega), List.append_assoc]
  simp [hb, hv]
theorem impl_fold.at_ (s : ByteArray) (k : Nat) (hk : k < s.size) : (((bytesOf s).map low8).take k ++ (bytesOf s).drop k).getD k 0 = bt s (k : Int) := by
  have hl := bytesOf_length s
  rw [← rd_bytesOf]
  simp [rd, List.getD_eq_getElem?_getD, List.getElem?_append_right, hl, hk, Nat.min_eq_left (Nat.le_of_lt hk)]
set_option maxHeartbeats 1000000 in
set_option maxRecDepth 100000 in
theorem impl_fold.calls (a0 : ByteArray) (r : ByteArray) (w : World) (h : impl_fold.f a0 = some r) :
    Calls Tryd.prog 45 #[.string a0] w fun e w' => e = .returned (.string r) ∧ Below w.heap.size w w' := by
  unfold impl_fold.f at h
  split at h
  case isFalse => cases h
  case isTrue hs =>
  obtain rfl := Option.some.inj h
  have hcv := fun W => Lib.run_convert_string_bytes (P := Tryd.prog) W 9 22 5 a0 Tryd.underlying9 Tryd.underlying22 Tryd.underlying5
  have hl := bytesOf_length a0
  go_enter Tryd.func45, Tryd.ntmps45
  go_wp2
  go_loopw [10] (fun i wr => ∃ k : Nat, k ≤ a0.size ∧ i = .int .i64 k ∧ Aside0 (Go.Proofs.YtblpeegpjjcemaaDoorW.XConv.Row8 wr w.heap.size 5 (((bytesOf a0).map low8).take k ++ (bytesOf a0).drop k)) ∧ Aside0 (Below w.heap.size w wr)) (fun i _ => a0.size - (intOf i).toNat)
  case atStart => exact ⟨0, Nat.zero_le _, rfl, ⟨by simpa using Go.Proofs.YtblpeegpjjcemaaDoorW.XConv.Row8.conv w 5 a0⟩, ⟨bytes_below (Below.refl _ _) (Nat.le_refl _) _ _⟩⟩
  case round =>
    obtain ⟨k, hk, rfl, HR, HB⟩ := hrel
    by_cases hlt : k < a0.size
    · have hlen : (((bytesOf a0).map low8).take k ++ (bytesOf a0).drop k).length = a0.size := by simp [hl]; omega
      have hcell := HR.out.cell k (by omega)
      rw [impl_fold.at_ a0 k hlt] at hcell
      have hfr := HR.out.frozen k (by omega)
      have Hlen := Aside0.mk hlen
      clear hlen hl
      have hbr := bt_range a0 (k : Int)
      have hlt2 : decide ((k : Int) < (a0.size : Int)) = true := decide_eq_true (by omega)
      have hblt : w.heap.size < (_ : World).heap.size := HR.out.lt
      generalize hc : bt a0 (k : Int) = c at *
      have Hc := Aside0.mk hc
      clear hc
      by_cases h1 : 65 ≤ c
      · by_cases h2 : c ≤ 90
        · go_wp2
          go_roundw
          case rel => exact ⟨k + 1, by omega, by go_num, ⟨by rw [← impl_fold.step a0 k hlt (c + 32) (by rw [Hc.out]; unfold low8; rw [if_pos ⟨h1, h2⟩])]; exact HR.out.set k (c + 32)⟩, ⟨HB.out.setCell (Nat.le_refl _) _⟩⟩
          case measure => simp [intOf]; omega
        · go_wp2
          go_roundw
          case rel => exact ⟨k + 1, by omega, by go_num, ⟨by rw [← impl_fold.same a0 k hlt (by rw [Hc.out]; unfold low8; rw [if_neg (by omega)])]; exact HR.out⟩, HB⟩
          case measure => simp [intOf]; omega
      · go_wp2
        go_roundw
        case rel => exact ⟨k + 1, by omega, by go_num, ⟨by rw [← impl_fold.same a0 k hlt (by rw [Hc.out]; unfold low8; rw [if_neg (by omega)])]; exact HR.out⟩, HB⟩
        case measure => simp [intOf]; omega
    · obtain rfl : k = a0.size := by omega
      have hR := HR.out
      rw [List.take_of_length_le (by simp [hl]), List.drop_of_length_le (by omega), List.append_nil] at hR
      have hcv2 := fun c => string_of_reads (P := Tryd.prog) (c := c) Tryd.underlying22 Tryd.underlying5 Tryd.underlying9 (hR.reads (n := a0.size) (by simp [hl]; omega) (by simp [hl]))
      have hlt2 : decide ((a0.size : Int) < (a0.size : Int)) = false := decide_eq_false (by omega)
      clear hl
      go_wp2
      go_ret
      exact ⟨rfl, HB.out⟩

end Go.Proofs.YtblpeegpjjcemaaDoor.F
namespace Go.Proofs.YtblpeegpjjcemaaDoor.F
open Go Go.Shelf Go.RowKit Go.Proofs.YtblpeegpjjcemaaDoorW.PrintWords Go.Proofs.YtblpeegpjjcemaaDoorW.PrintLast Go.Proofs.YtblpeegpjjcemaaDoorW.PrintMore
attribute [local go_sem] max2_int min2_int max_two min_two max_three min_three max_four min_four   -- for this text's walks alone
set_option linter.unusedVariables false
set_option linter.unusedSimpArgs false

/-! ### impl_sumOf: function 38 -/
def impl_sumOf.f (a0_0 : ByteArray) (a0_1 : ByteArray) (a1 : ByteArray) (a2 : ByteArray) (a3 : ByteArray) (a4 : ByteArray) : Option (ByteArray) := if a2.toList = ([] : List UInt8) then ((impl_fold.f a0_0).bind fun t102 => (if a1.size + t102.size ≤ 9223372036854775807 then (if (a1 ++ t102).size + 2 ≤ 9223372036854775807 then (if ((a1 ++ t102) ++ (⟨#[0, 255]⟩ : ByteArray)).size + 4 ≤ 9223372036854775807 then (if (((a1 ++ t102) ++ (⟨#[0, 255]⟩ : ByteArray)) ++ (⟨#[0, 0, 0, 0]⟩ : ByteArray)).size + 13 ≤ 9223372036854775807 then (if ((((a1 ++ t102) ++ (⟨#[0, 255]⟩ : ByteArray)) ++ (⟨#[0, 0, 0, 0]⟩ : ByteArray)) ++ (⟨#[11, 104, 109, 97, 99, 45, 115, 104, 97, 50, 53, 54, 0]⟩ : ByteArray)).size + a3.size ≤ 9223372036854775807 then (if (((((a1 ++ t102) ++ (⟨#[0, 255]⟩ : ByteArray)) ++ (⟨#[0, 0, 0, 0]⟩ : ByteArray)) ++ (⟨#[11, 104, 109, 97, 99, 45, 115, 104, 97, 50, 53, 54, 0]⟩ : ByteArray)) ++ a3).size + a4.size ≤ 9223372036854775807 then (if ((((((a1 ++ t102) ++ (⟨#[0, 255]⟩ : ByteArray)) ++ (⟨#[0, 0, 0, 0]⟩ : ByteArray)) ++ (⟨#[11, 104, 109, 97, 99, 45, 115, 104, 97, 50, 53, 54, 0]⟩ : ByteArray)) ++ a3) ++ a4).size + 4 ≤ 9223372036854775807 then (if 0 + (((((((a1 ++ t102) ++ (⟨#[0, 255]⟩ : ByteArray)) ++ (⟨#[0, 0, 0, 0]⟩ : ByteArray)) ++ (⟨#[11, 104, 109, 97, 99, 45, 115, 104, 97, 50, 53, 54, 0]⟩ : ByteArray)) ++ a3) ++ a4) ++ (⟨#[0, 0, 0, 0]⟩ : ByteArray)).size ≤ 9223372036854775807 then ((xsum.f a0_1 ((⟨#[]⟩ : ByteArray) ++ (((((((a1 ++ t102) ++ (⟨#[0, 255]⟩ : ByteArray)) ++ (⟨#[0, 0, 0, 0]⟩ : ByteArray)) ++ (⟨#[11, 104, 109, 97, 99, 45, 115, 104, 97, 50, 53, 54, 0]⟩ : ByteArray)) ++ a3) ++ a4) ++ (⟨#[0, 0, 0, 0]⟩ : ByteArray)))).bind fun t103 => (some t103)) else (none)) else (none)) else (none)) else (none)) else (none)) else (none)) else (none)) else (none))) else ((impl_p16.f (a2.size : Int)).bind fun t104 => (if t104.size + a2.size ≤ 9223372036854775807 then ((impl_fold.f a0_0).bind fun t105 => (if a1.size + t105.size ≤ 9223372036854775807 then (if (a1 ++ t105).size + 2 ≤ 9223372036854775807 then (if ((a1 ++ t105) ++ (⟨#[0, 255]⟩ : ByteArray)).size + 4 ≤ 9223372036854775807 then (if (((a1 ++ t105) ++ (⟨#[0, 255]⟩ : ByteArray)) ++ (⟨#[0, 0, 0, 0]⟩ : ByteArray)).size + 13 ≤ 9223372036854775807 then (if ((((a1 ++ t105) ++ (⟨#[0, 255]⟩ : ByteArray)) ++ (⟨#[0, 0, 0, 0]⟩ : ByteArray)) ++ (⟨#[11, 104, 109, 97, 99, 45, 115, 104, 97, 50, 53, 54, 0]⟩ : ByteArray)).size + a3.size ≤ 9223372036854775807 then (if (((((a1 ++ t105) ++ (⟨#[0, 255]⟩ : ByteArray)) ++ (⟨#[0, 0, 0, 0]⟩ : ByteArray)) ++ (⟨#[11, 104, 109, 97, 99, 45, 115, 104, 97, 50, 53, 54, 0]⟩ : ByteArray)) ++ a3).size + a4.size ≤ 9223372036854775807 then (if ((((((a1 ++ t105) ++ (⟨#[0, 255]⟩ : ByteArray)) ++ (⟨#[0, 0, 0, 0]⟩ : ByteArray)) ++ (⟨#[11, 104, 109, 97, 99, 45, 115, 104, 97, 50, 53, 54, 0]⟩ : ByteArray)) ++ a3) ++ a4).size + 4 ≤ 9223372036854775807 then (if (t104 ++ a2).size + (((((((a1 ++ t105) ++ (⟨#[0, 255]⟩ : ByteArray)) ++ (⟨#[0, 0, 0, 0]⟩ : ByteArray)) ++ (⟨#[11, 104, 109, 97, 99, 45, 115, 104, 97, 50, 53, 54, 0]⟩ : ByteArray)) ++ a3) ++ a4) ++ (⟨#[0, 0, 0, 0]⟩ : ByteArray)).size ≤ 9223372036854775807 then ((xsum.f a0_1 ((t104 ++ a2) ++ (((((((a1 ++ t105) ++ (⟨#[0, 255]⟩ : ByteArray)) ++ (⟨#[0, 0, 0, 0]⟩ : ByteArray)) ++ (⟨#[11, 104, 109, 97, 99, 45, 115, 104, 97, 50, 53, 54, 0]⟩ : ByteArray)) ++ a3) ++ a4) ++ (⟨#[0, 0, 0, 0]⟩ : ByteArray)))).bind fun t106 => (some t106)) else (none)) else (none)) else (none)) else (none)) else (none)) else (none)) else (none)) else (none))) else (none)))
set_option maxHeartbeats 8000000 in
set_option maxRecDepth 100000 in
theorem impl_sumOf.calls (a0_0 : ByteArray) (a0_1 : ByteArray) (a1 : ByteArray) (a2 : ByteArray) (a3 : ByteArray) (a4 : ByteArray) (r : ByteArray) (w : World) (h : impl_sumOf.f a0_0 a0_1 a1 a2 a3 a4 = some r) (hGK : GlobK w) :
    Calls Tryd.prog 38 #[.agg #[.string a0_0, .string a0_1], .string a1, .string a2, .string a3, .string a4] w fun e w' => e = .returned (.string r) ∧ Below w.heap.size w w' := by
  have HGK := Aside0.mk hGK
  clear hGK
  have hu35 := Tryd.underlying35
  have HB := Aside0.mk (Below.refl w.heap.size w)
  have H : (if a2.toList = ([] : List UInt8) then ((impl_fold.f a0_0).bind fun t102 => (if a1.size + t102.size ≤ 9223372036854775807 then (if (a1 ++ t102).size + 2 ≤ 9223372036854775807 then (if ((a1 ++ t102) ++ (⟨#[0, 255]⟩ : ByteArray)).size + 4 ≤ 9223372036854775807 then (if (((a1 ++ t102) ++ (⟨#[0, 255]⟩ : ByteArray)) ++ (⟨#[0, 0, 0, 0]⟩ : ByteArray)).size + 13 ≤ 9223372036854775807 then (if ((((a1 ++ t102) ++ (⟨#[0, 255]⟩ : ByteArray)) ++ (⟨#[0, 0, 0, 0]⟩ : ByteArray)) ++ (⟨#[11, 104, 109, 97, 99, 45, 115, 104, 97, 50, 53, 54, 0]⟩ : ByteArray)).size + a3.size ≤ 9223372036854775807 then (if (((((a1 ++ t102) ++ (⟨#[0, 255]⟩ : ByteArray)) ++ (⟨#[0, 0, 0, 0]⟩ : ByteArray)) ++ (⟨#[11, 104, 109, 97, 99, 45, 115, 104, 97, 50, 53, 54, 0]⟩ : ByteArray)) ++ a3).size + a4.size ≤ 9223372036854775807 then (if ((((((a1 ++ t102) ++ (⟨#[0, 255]⟩ : ByteArray)) ++ (⟨#[0, 0, 0, 0]⟩ : ByteArray)) ++ (⟨#[11, 104, 109, 97, 99, 45, 115, 104, 97, 50, 53, 54, 0]⟩ : ByteArray)) ++ a3) ++ a4).size + 4 ≤ 9223372036854775807 then (if 0 + (((((((a1 ++ t102) ++ (⟨#[0, 255]⟩ : ByteArray)) ++ (⟨#[0, 0, 0, 0]⟩ : ByteArray)) ++ (⟨#[11, 104, 109, 97, 99, 45, 115, 104, 97, 50, 53, 54, 0]⟩ : ByteArray)) ++ a3) ++ a4) ++ (⟨#[0, 0, 0, 0]⟩ : ByteArray)).size ≤ 9223372036854775807 then ((xsum.f a0_1 ((⟨#[]⟩ : ByteArray) ++ (((((((a1 ++ t102) ++ (⟨#[0, 255]⟩ : ByteArray)) ++ (⟨#[0, 0, 0, 0]⟩ : ByteArray)) ++ (⟨#[11, 104, 109, 97, 99, 45, 115, 104, 97, 50, 53, 54, 0]⟩ : ByteArray)) ++ a3) ++ a4) ++ (⟨#[0, 0, 0, 0]⟩ : ByteArray)))).bind fun t103 => (some t103)) else (none)) else (none)) else (none)) else (none)) else (none)) else (none)) else (none)) else (none))) else ((impl_p16.f (a2.size : Int)).bind fun t104 => (if t104.size + a2.size ≤ 9223372036854775807 then ((impl_fold.f a0_0).bind fun t105 => (if a1.size + t105.size ≤ 9223372036854775807 then (if (a1 ++ t105).size + 2 ≤ 9223372036854775807 then (if ((a1 ++ t105) ++ (⟨#[0, 255]⟩ : ByteArray)).size + 4 ≤ 9223372036854775807 then (if (((a1 ++ t105) ++ (⟨#[0, 255]⟩ : ByteArray)) ++ (⟨#[0, 0, 0, 0]⟩ : ByteArray)).size + 13 ≤ 9223372036854775807 then (if ((((a1 ++ t105) ++ (⟨#[0, 255]⟩ : ByteArray)) ++ (⟨#[0, 0, 0, 0]⟩ : ByteArray)) ++ (⟨#[11, 104, 109, 97, 99, 45, 115, 104, 97, 50, 53, 54, 0]⟩ : ByteArray)).size + a3.size ≤ 9223372036854775807 then (if (((((a1 ++ t105) ++ (⟨#[0, 255]⟩ : ByteArray)) ++ (⟨#[0, 0, 0, 0]⟩ : ByteArray)) ++ (⟨#[11, 104, 109, 97, 99, 45, 115, 104, 97, 50, 53, 54, 0]⟩ : ByteArray)) ++ a3).size + a4.size ≤ 9223372036854775807 then (if ((((((a1 ++ t105) ++ (⟨#[0, 255]⟩ : ByteArray)) ++ (⟨#[0, 0, 0, 0]⟩ : ByteArray)) ++ (⟨#[11, 104, 109, 97, 99, 45, 115, 104, 97, 50, 53, 54, 0]⟩ : ByteArray)) ++ a3) ++ a4).size + 4 ≤ 9223372036854775807 then (if (t104 ++ a2).size + (((((((a1 ++ t105) ++ (⟨#[0, 255]⟩ : ByteArray)) ++ (⟨#[0, 0, 0, 0]⟩ : ByteArray)) ++ (⟨#[11, 104, 109, 97, 99, 45, 115, 104, 97, 50, 53, 54, 0]⟩ : ByteArray)) ++ a3) ++ a4) ++ (⟨#[0, 0, 0, 0]⟩ : ByteArray)).size ≤ 9223372036854775807 then ((xsum.f a0_1 ((t104 ++ a2) ++ (((((((a1 ++ t105) ++ (⟨#[0, 255]⟩ : ByteArray)) ++ (⟨#[0, 0, 0, 0]⟩ : ByteArray)) ++ (⟨#[11, 104, 109, 97, 99, 45, 115, 104, 97, 50, 53, 54, 0]⟩ : ByteArray)) ++ a3) ++ a4) ++ (⟨#[0, 0, 0, 0]⟩ : ByteArray)))).bind fun t106 => (some t106)) else (none)) else (none)) else (none)) else (none)) else (none)) else (none)) else (none)) else (none))) else (none)))) = some r := h
  clear h
  by_cases c6 : a2.toList = ([] : List UInt8)
  · rw [if_pos c6] at H
    have c6b0 : (a2.toList == ([] : List UInt8)) = true := beq_iff_eq.mpr c6
    have c6b1 : (a2.toList != ([] : List UInt8)) = false := bne_eq_false_iff_eq.mpr c6
    clear c6
    replace H := Option.bind_eq_some_iff.mp H
    obtain ⟨t102, A70, H⟩ := H
    replace H : (if a1.size + t102.size ≤ 9223372036854775807 then (if (a1 ++ t102).size + 2 ≤ 9223372036854775807 then (if ((a1 ++ t102) ++ (⟨#[0, 255]⟩ : ByteArray)).size + 4 ≤ 9223372036854775807 then (if (((a1 ++ t102) ++ (⟨#[0, 255]⟩ : ByteArray)) ++ (⟨#[0, 0, 0, 0]⟩ : ByteArray)).size + 13 ≤ 9223372036854775807 then (if ((((a1 ++ t102) ++ (⟨#[0, 255]⟩ : ByteArray)) ++ (⟨#[0, 0, 0, 0]⟩ : ByteArray)) ++ (⟨#[11, 104, 109, 97, 99, 45, 115, 104, 97, 50, 53, 54, 0]⟩ : ByteArray)).size + a3.size ≤ 9223372036854775807 then (if (((((a1 ++ t102) ++ (⟨#[0, 255]⟩ : ByteArray)) ++ (⟨#[0, 0, 0, 0]⟩ : ByteArray)) ++ (⟨#[11, 104, 109, 97, 99, 45, 115, 104, 97, 50, 53, 54, 0]⟩ : ByteArray)) ++ a3).size + a4.size ≤ 9223372036854775807 then (if ((((((a1 ++ t102) ++ (⟨#[0, 255]⟩ : ByteArray)) ++ (⟨#[0, 0, 0, 0]⟩ : ByteArray)) ++ (⟨#[11, 104, 109, 97, 99, 45, 115, 104, 97, 50, 53, 54, 0]⟩ : ByteArray)) ++ a3) ++ a4).size + 4 ≤ 9223372036854775807 then (if 0 + (((((((a1 ++ t102) ++ (⟨#[0, 255]⟩ : ByteArray)) ++ (⟨#[0, 0, 0, 0]⟩ : ByteArray)) ++ (⟨#[11, 104, 109, 97, 99, 45, 115, 104, 97, 50, 53, 54, 0]⟩ : ByteArray)) ++ a3) ++ a4) ++ (⟨#[0, 0, 0, 0]⟩ : ByteArray)).size ≤ 9223372036854775807 then ((xsum.f a0_1 ((⟨#[]⟩ : ByteArray) ++ (((((((a1 ++ t102) ++ (⟨#[0, 255]⟩ : ByteArray)) ++ (⟨#[0, 0, 0, 0]⟩ : ByteArray)) ++ (⟨#[11, 104, 109, 97, 99, 45, 115, 104, 97, 50, 53, 54, 0]⟩ : ByteArray)) ++ a3) ++ a4) ++ (⟨#[0, 0, 0, 0]⟩ : ByteArray)))).bind fun t103 => (some t103)) else (none)) else (none)) else (none)) else (none)) else (none)) else (none)) else (none)) else (none)) = some r := H
    have A7 := Aside0.mk A70
    clear A70
    by_cases c8 : a1.size + t102.size ≤ 9223372036854775807
    · rw [if_pos c8] at H
      have c8b0 := eq_true c8
      have c8b1 : decide (a1.size + t102.size ≤ 9223372036854775807) = true := decide_eq_true c8
      try have c8b2 : (9223372036854775807 < a1.size + t102.size) = False := eq_false (Nat.not_lt.2 c8)
      try have c8b3 : (9223372036854775807 < a1.size + t102.size) = False := eq_false (Nat.not_lt.2 (by have h := c8; simp only [ByteArray.size_append, ByteArray.size_extract, Nat.min_self, Nat.sub_zero] at h; first | with_reducible exact h | omega))
      by_cases c9 : (a1 ++ t102).size + 2 ≤ 9223372036854775807
      · rw [if_pos c9] at H
        have c9b0 := eq_true c9
        have c9b1 : decide ((a1 ++ t102).size + 2 ≤ 9223372036854775807) = true := decide_eq_true c9
        try have c9b2 : (9223372036854775807 < (a1 ++ t102).size + 2) = False := eq_false (Nat.not_lt.2 c9)
        try have c9b3 : (9223372036854775807 < (a1.size + t102.size) + 2) = False := eq_false (Nat.not_lt.2 (by have h := c9; simp only [ByteArray.size_append, ByteArray.size_extract, Nat.min_self, Nat.sub_zero] at h; first | with_reducible exact h | omega))
        by_cases c10 : ((a1 ++ t102) ++ (⟨#[0, 255]⟩ : ByteArray)).size + 4 ≤ 9223372036854775807
        · rw [if_pos c10] at H
          have c10b0 := eq_true c10
          have c10b1 : decide (((a1 ++ t102) ++ (⟨#[0, 255]⟩ : ByteArray)).size + 4 ≤ 9223372036854775807) = true := decide_eq_true c10
          try have c10b2 : (9223372036854775807 < ((a1 ++ t102) ++ (⟨#[0, 255]⟩ : ByteArray)).size + 4) = False := eq_false (Nat.not_lt.2 c10)
          try have c10b3 : (9223372036854775807 < ((a1.size + t102.size) + 2) + 4) = False := eq_false (Nat.not_lt.2 (by have h := c10; simp only [ByteArray.size_append, ByteArray.size_extract, Nat.min_self, Nat.sub_zero, (show (⟨#[0, 255]⟩ : ByteArray).size = 2 from rfl)] at h; first | with_reducible exact h | omega))
          by_cases c11 : (((a1 ++ t102) ++ (⟨#[0, 255]⟩ : ByteArray)) ++ (⟨#[0, 0, 0, 0]⟩ : ByteArray)).size + 13 ≤ 9223372036854775807
          · rw [if_pos c11] at H
            have c11b0 := eq_true c11
            have c11b1 : decide ((((a1 ++ t102) ++ (⟨#[0, 255]⟩ : ByteArray)) ++ (⟨#[0, 0, 0, 0]⟩ : ByteArray)).size + 13 ≤ 9223372036854775807) = true := decide_eq_true c11
            try have c11b2 : (9223372036854775807 < (((a1 ++ t102) ++ (⟨#[0, 255]⟩ : ByteArray)) ++ (⟨#[0, 0, 0, 0]⟩ : ByteArray)).size + 13) = False := eq_false (Nat.not_lt.2 c11)
            try have c11b3 : (9223372036854775807 < (((a1.size + t102.size) + 2) + 4) + 13) = False := eq_false (Nat.not_lt.2 (by have h := c11; simp only [ByteArray.size_append, ByteArray.size_extract, Nat.min_self, Nat.sub_zero, (show (⟨#[0, 0, 0, 0]⟩ : ByteArray).size = 4 from rfl), (show (⟨#[0, 255]⟩ : ByteArray).size = 2 from rfl)] at h; first | with_reducible exact h | omega))
            by_cases c12 : ((((a1 ++ t102) ++ (⟨#[0, 255]⟩ : ByteArray)) ++ (⟨#[0, 0, 0, 0]⟩ : ByteArray)) ++ (⟨#[11, 104, 109, 97, 99, 45, 115, 104, 97, 50, 53, 54, 0]⟩ : ByteArray)).size + a3.size ≤ 9223372036854775807
            · rw [if_pos c12] at H
              have c12b0 := eq_true c12
              have c12b1 : decide (((((a1 ++ t102) ++ (⟨#[0, 255]⟩ : ByteArray)) ++ (⟨#[0, 0, 0, 0]⟩ : ByteArray)) ++ (⟨#[11, 104, 109, 97, 99, 45, 115, 104, 97, 50, 53, 54, 0]⟩ : ByteArray)).size + a3.size ≤ 9223372036854775807) = true := decide_eq_true c12
              try have c12b2 : (9223372036854775807 < ((((a1 ++ t102) ++ (⟨#[0, 255]⟩ : ByteArray)) ++ (⟨#[0, 0, 0, 0]⟩ : ByteArray)) ++ (⟨#[11, 104, 109, 97, 99, 45, 115, 104, 97, 50, 53, 54, 0]⟩ : ByteArray)).size + a3.size) = False := eq_false (Nat.not_lt.2 c12)
              try have c12b3 : (9223372036854775807 < ((((a1.size + t102.size) + 2) + 4) + 13) + a3.size) = False := eq_false (Nat.not_lt.2 (by have h := c12; simp only [ByteArray.size_append, ByteArray.size_extract, Nat.min_self, Nat.sub_zero, (show (⟨#[0, 0, 0, 0]⟩ : ByteArray).size = 4 from rfl), (show (⟨#[0, 255]⟩ : ByteArray).size = 2 from rfl), (show (⟨#[11, 104, 109, 97, 99, 45, 115, 104, 97, 50, 53, 54, 0]⟩ : ByteArray).size = 13 from rfl)] at h; first | with_reducible exact h | omega))
              by_cases c13 : (((((a1 ++ t102) ++ (⟨#[0, 255]⟩ : ByteArray)) ++ (⟨#[0, 0, 0, 0]⟩ : ByteArray)) ++ (⟨#[11, 104, 109, 97, 99, 45, 115, 104, 97, 50, 53, 54, 0]⟩ : ByteArray)) ++ a3).size + a4.size ≤ 9223372036854775807
              · rw [if_pos c13] at H
                have c13b0 := eq_true c13
                have c13b1 : decide ((((((a1 ++ t102) ++ (⟨#[0, 255]⟩ : ByteArray)) ++ (⟨#[0, 0, 0, 0]⟩ : ByteArray)) ++ (⟨#[11, 104, 109, 97, 99, 45, 115, 104, 97, 50, 53, 54, 0]⟩ : ByteArray)) ++ a3).size + a4.size ≤ 9223372036854775807) = true := decide_eq_true c13
                try have c13b2 : (9223372036854775807 < (((((a1 ++ t102) ++ (⟨#[0, 255]⟩ : ByteArray)) ++ (⟨#[0, 0, 0, 0]⟩ : ByteArray)) ++ (⟨#[11, 104, 109, 97, 99, 45, 115, 104, 97, 50, 53, 54, 0]⟩ : ByteArray)) ++ a3).size + a4.size) = False := eq_false (Nat.not_lt.2 c13)
                try have c13b3 : (9223372036854775807 < (((((a1.size + t102.size) + 2) + 4) + 13) + a3.size) + a4.size) = False := eq_false (Nat.not_lt.2 (by have h := c13; simp only [ByteArray.size_append, ByteArray.size_extract, Nat.min_self, Nat.sub_zero, (show (⟨#[0, 0, 0, 0]⟩ : ByteArray).size = 4 from rfl), (show (⟨#[0, 255]⟩ : ByteArray).size = 2 from rfl), (show (⟨#[11, 104, 109, 97, 99, 45, 115, 104, 97, 50, 53, 54, 0]⟩ : ByteArray).size = 13 from rfl)] at h; first | with_reducible exact h | omega))
                by_cases c14 : ((((((a1 ++ t102) ++ (⟨#[0, 255]⟩ : ByteArray)) ++ (⟨#[0, 0, 0, 0]⟩ : ByteArray)) ++ (⟨#[11, 104, 109, 97, 99, 45, 115, 104, 97, 50, 53, 54, 0]⟩ : ByteArray)) ++ a3) ++ a4).size + 4 ≤ 9223372036854775807
                · rw [if_pos c14] at H
                  have c14b0 := eq_true c14
                  have c14b1 : decide (((((((a1 ++ t102) ++ (⟨#[0, 255]⟩ : ByteArray)) ++ (⟨#[0, 0, 0, 0]⟩ : ByteArray)) ++ (⟨#[11, 104, 109, 97, 99, 45, 115, 104, 97, 50, 53, 54, 0]⟩ : ByteArray)) ++ a3) ++ a4).size + 4 ≤ 9223372036854775807) = true := decide_eq_true c14
                  try have c14b2 : (9223372036854775807 < ((((((a1 ++ t102) ++ (⟨#[0, 255]⟩ : ByteArray)) ++ (⟨#[0, 0, 0, 0]⟩ : ByteArray)) ++ (⟨#[11, 104, 109, 97, 99, 45, 115, 104, 97, 50, 53, 54, 0]⟩ : ByteArray)) ++ a3) ++ a4).size + 4) = False := eq_false (Nat.not_lt.2 c14)
                  try have c14b3 : (9223372036854775807 < ((((((a1.size + t102.size) + 2) + 4) + 13) + a3.size) + a4.size) + 4) = False := eq_false (Nat.not_lt.2 (by have h := c14; simp only [ByteArray.size_append, ByteArray.size_extract, Nat.min_self, Nat.sub_zero, (show (⟨#[0, 0, 0, 0]⟩ : ByteArray).size = 4 from rfl), (show (⟨#[0, 255]⟩ : ByteArray).size = 2 from rfl), (show (⟨#[11, 104, 109, 97, 99, 45, 115, 104, 97, 50, 53, 54, 0]⟩ : ByteArray).size = 13 from rfl)] at h; first | with_reducible exact h | omega))
                  by_cases c15 : 0 + (((((((a1 ++ t102) ++ (⟨#[0, 255]⟩ : ByteArray)) ++ (⟨#[0, 0, 0, 0]⟩ : ByteArray)) ++ (⟨#[11, 104, 109, 97, 99, 45, 115, 104, 97, 50, 53, 54, 0]⟩ : ByteArray)) ++ a3) ++ a4) ++ (⟨#[0, 0, 0, 0]⟩ : ByteArray)).size ≤ 9223372036854775807
                  · rw [if_pos c15] at H
                    have c15b0 := eq_true c15
                    have c15b1 : decide (0 + (((((((a1 ++ t102) ++ (⟨#[0, 255]⟩ : ByteArray)) ++ (⟨#[0, 0, 0, 0]⟩ : ByteArray)) ++ (⟨#[11, 104, 109, 97, 99, 45, 115, 104, 97, 50, 53, 54, 0]⟩ : ByteArray)) ++ a3) ++ a4) ++ (⟨#[0, 0, 0, 0]⟩ : ByteArray)).size ≤ 9223372036854775807) = true := decide_eq_true c15
                    try have c15b2 : (9223372036854775807 < 0 + (((((((a1 ++ t102) ++ (⟨#[0, 255]⟩ : ByteArray)) ++ (⟨#[0, 0, 0, 0]⟩ : ByteArray)) ++ (⟨#[11, 104, 109, 97, 99, 45, 115, 104, 97, 50, 53, 54, 0]⟩ : ByteArray)) ++ a3) ++ a4) ++ (⟨#[0, 0, 0, 0]⟩ : ByteArray)).size) = False := eq_false (Nat.not_lt.2 c15)
                    try have c15b3 : (9223372036854775807 < 0 + (((((((a1.size + t102.size) + 2) + 4) + 13) + a3.size) + a4.size) + 4)) = False := eq_false (Nat.not_lt.2 (by have h := c15; simp only [ByteArray.size_append, ByteArray.size_extract, Nat.min_self, Nat.sub_zero, (show (⟨#[0, 0, 0, 0]⟩ : ByteArray).size = 4 from rfl), (show (⟨#[0, 255]⟩ : ByteArray).size = 2 from rfl), (show (⟨#[11, 104, 109, 97, 99, 45, 115, 104, 97, 50, 53, 54, 0]⟩ : ByteArray).size = 13 from rfl)] at h; first | with_reducible exact h | omega))
                    try have c15b4 : (9223372036854775807 < (((((((a1.size + t102.size) + 2) + 4) + 13) + a3.size) + a4.size) + 4)) = False := eq_false (Nat.not_lt.2 (by have h := c15; simp only [ByteArray.size_append, ByteArray.size_extract, Nat.min_self, Nat.sub_zero, (show (⟨#[0, 0, 0, 0]⟩ : ByteArray).size = 4 from rfl), (show (⟨#[0, 255]⟩ : ByteArray).size = 2 from rfl), (show (⟨#[11, 104, 109, 97, 99, 45, 115, 104, 97, 50, 53, 54, 0]⟩ : ByteArray).size = 13 from rfl)] at h; first | with_reducible exact h | omega))
                    replace H := Option.bind_eq_some_iff.mp H
                    obtain ⟨t103, A160, H⟩ := H
                    replace H : (some t103) = some r := H
                    have A16 := Aside0.mk A160
                    clear A160
                    obtain rfl := Option.some.inj H
                    go_enter Tryd.func38, Tryd.ntmps38
                    go_wp2_with (first | ((with_reducible refine gate_dst (N := 5) rfl ?_); refine box_event ?hg (N := 5) ?hd (cs := #[.string a0_0, .string a0_1]) (t := 35) ?hr ?_; (case hd => rfl); (case hg => rfl); (case hr => first | (go_simp; done) | (go_simp; rfl)); intro gb101 hg w17 hbox hb; have n0_ := Aside0.mk (below_step (by repeat (first | (with_reducible first | exact HB.out | apply below_alloc | apply pw_below_drewN | apply below_drew1) | exact HB.out)) hb); have n1_ := Aside0.mk (hbox); have n2_ := Aside0.mk ((by rw [hg]; exact (below_size (by repeat (first | (with_reducible first | exact HB.out | apply below_alloc | apply pw_below_drewN | apply below_drew1) | exact HB.out))) : w.heap.size ≤ gb101)); have n3_ := Aside0.mk ((by rw [hg]; exact (below_size (by repeat (first | (with_reducible first | exact HB.out | apply below_alloc | apply pw_below_drewN | apply below_drew1) | exact HB.out))) : w.heap.size ≤ gb101)); clear HB; have HB := n0_; have BK101 := n1_; have GW101 := n2_; have GE101 := n3_; clear n0_ n1_ n2_ n3_; clear hb hbox hg; have hcz18_0 : w17.cell? ⟨gb101, 0, none⟩ = some (.string a0_0) := (blk_cell BK101.out 0).trans rfl; have hcz18_1 : w17.cell? ⟨gb101, 1, none⟩ = some (.string a0_1) := (blk_cell BK101.out 1).trans rfl; have hfz18_0 := blk_frozen BK101.out 0; have hfz18_1 := blk_frozen BK101.out 1) | ((with_reducible refine gate_callee (f := 45) rfl ?_); refine goesL_ (some 24) rfl rfl Tryd.func45 (by kernel_rfl) rfl #[.string a0_0] rfl (by (try simp only [List.map_toArray, List.map_cons, List.map_nil]); first | done | rfl | (simp only [List.length_drop, List.length_take]; rfl)) ?_; (with_reducible refine (impl_fold.calls a0_0 t102 _ A7.out).mono ?_); rintro e w19 ⟨rfl, hb⟩; refine ⟨_, rfl, ?_⟩; have n0_ := Aside0.mk (blk_below (g := gb101) (o := .cells #[.string a0_0, .string a0_1] 35 (0, 0)) (by (with_reducible repeat (first | refine blk_drewN ?_ _ | refine blk_drew ?_ | refine blk_alloc ?_ _)); exact BK101.out) hb); have n1_ := Aside0.mk (below_step (by repeat (first | (with_reducible first | exact HB.out | apply below_alloc | apply pw_below_drewN | apply below_drew1 | refine below_set ?_ GE101.out) | exact HB.out)) hb); clear BK101; clear HB; have BK101 := n0_; have HB := n1_; clear n0_ n1_; (try clear hb); (try clear hb2); (try clear hk); (try clear hi); have hcz20_0 : w19.cell? ⟨gb101, 0, none⟩ = some (.string a0_0) := (blk_cell BK101.out 0).trans rfl; have hcz20_1 : w19.cell? ⟨gb101, 1, none⟩ = some (.string a0_1) := (blk_cell BK101.out 1).trans rfl; have hfz20_0 := blk_frozen BK101.out 0; have hfz20_1 := blk_frozen BK101.out 1) | ((with_reducible refine gate_dst (N := 37) rfl ?_); refine conv_event rfl 9 22 5 (.tmp 36) rfl Tryd.underlying9 Tryd.underlying22 Tryd.underlying5 a0_1 rfl (by have := (xsum_some A16.out).1; rw [bytesOf_length] at this; omega) ?_; intro gA_ wA_ cA_ hCa hca hb; have HCA := Aside0.mk hCa; have HCAc := Aside0.mk hca; clear hCa hca; have n0_ := Aside0.mk (blk_below (g := gb101) (o := .cells #[.string a0_0, .string a0_1] 35 (0, 0)) (by (with_reducible repeat (first | refine blk_drewN ?_ _ | refine blk_drew ?_ | refine blk_alloc ?_ _)); exact BK101.out) hb); have n1_ := Aside0.mk (below_step (by repeat (first | (with_reducible first | exact HB.out | apply below_alloc | apply pw_below_drewN | apply below_drew1 | refine below_set ?_ GE101.out) | exact HB.out)) hb); clear BK101; clear HB; have BK101 := n0_; have HB := n1_; clear n0_ n1_; (try clear hb); (try clear hb2); (try clear hk); (try clear hi)) | ((with_reducible refine gate_dst (N := 39) rfl ?_); refine conv_event rfl 9 22 5 (.tmp 38) rfl Tryd.underlying9 Tryd.underlying22 Tryd.underlying5 ((⟨#[]⟩ : ByteArray) ++ (((((((a1 ++ t102) ++ (⟨#[0, 255]⟩ : ByteArray)) ++ (⟨#[0, 0, 0, 0]⟩ : ByteArray)) ++ (⟨#[11, 104, 109, 97, 99, 45, 115, 104, 97, 50, 53, 54, 0]⟩ : ByteArray)) ++ a3) ++ a4) ++ (⟨#[0, 0, 0, 0]⟩ : ByteArray))) rfl (by have := (xsum_some A16.out).2.1; rw [bytesOf_length] at this; omega) ?_; intro gB_ wB_ cB_ hCb hcb hb; have HCA2 := Aside0.mk (Kd.C_below HCA.out hb); clear HCA; have HCA := HCA2; clear HCA2; have HCB := Aside0.mk hCb; have HCBc := Aside0.mk hcb; clear hCb hcb; have n0_ := Aside0.mk (blk_below (g := gb101) (o := .cells #[.string a0_0, .string a0_1] 35 (0, 0)) (by (with_reducible repeat (first | refine blk_drewN ?_ _ | refine blk_drew ?_ | refine blk_alloc ?_ _)); exact BK101.out) hb); have n1_ := Aside0.mk (below_step (by repeat (first | (with_reducible first | exact HB.out | apply below_alloc | apply pw_below_drewN | apply below_drew1 | refine below_set ?_ GE101.out) | exact HB.out)) hb); clear BK101; clear HB; have BK101 := n0_; have HB := n1_; clear n0_ n1_; (try clear hb); (try clear hb2); (try clear hk); (try clear hi)) | ((with_reducible refine gate_callee (f := 12) rfl ?_); refine goesL_ (some 40) rfl rfl Tryd.func12 (by kernel_rfl) rfl #[.slice (some ⟨gA_, 0, none⟩) (bytesOf a0_1).length cA_, .slice (some ⟨gB_, 0, none⟩) (bytesOf ((⟨#[]⟩ : ByteArray) ++ (((((((a1 ++ t102) ++ (⟨#[0, 255]⟩ : ByteArray)) ++ (⟨#[0, 0, 0, 0]⟩ : ByteArray)) ++ (⟨#[11, 104, 109, 97, 99, 45, 115, 104, 97, 50, 53, 54, 0]⟩ : ByteArray)) ++ a3) ++ a4) ++ (⟨#[0, 0, 0, 0]⟩ : ByteArray)))).length cB_] rfl (by (try simp only [List.map_toArray, List.map_cons, List.map_nil]); first | done | rfl) ?_; (with_reducible refine (impl_Hmac.calls _ _ (bytesOf a0_1) _ _ (bytesOf ((⟨#[]⟩ : ByteArray) ++ (((((((a1 ++ t102) ++ (⟨#[0, 255]⟩ : ByteArray)) ++ (⟨#[0, 0, 0, 0]⟩ : ByteArray)) ++ (⟨#[11, 104, 109, 97, 99, 45, 115, 104, 97, 50, 53, 54, 0]⟩ : ByteArray)) ++ a3) ++ a4) ++ (⟨#[0, 0, 0, 0]⟩ : ByteArray)))) _ HCA.out HCAc.out HCB.out HCBc.out (xsum_some A16.out).1 (xsum_some A16.out).2.1 (GlobK.below HGK.out (by repeat (first | (with_reducible first | exact HB.out | apply below_alloc | apply pw_below_drewN | apply below_drew1 | refine below_set ?_ GE101.out) | exact HB.out)))).mono ?_); rintro e wH_ ⟨rfl, hb⟩; refine ⟨_, rfl, ?_⟩; obtain ⟨S_, hS_⟩ : ∃ S, S = ((hmac (bytesOf a0_1) (bytesOf ((⟨#[]⟩ : ByteArray) ++ (((((((a1 ++ t102) ++ (⟨#[0, 255]⟩ : ByteArray)) ++ (⟨#[0, 0, 0, 0]⟩ : ByteArray)) ++ (⟨#[11, 104, 109, 97, 99, 45, 115, 104, 97, 50, 53, 54, 0]⟩ : ByteArray)) ++ a3) ++ a4) ++ (⟨#[0, 0, 0, 0]⟩ : ByteArray))))).map (Value.int .u8)).toArray := ⟨_, rfl⟩; rw [← hS_]; have hsz_ := Aside0.mk (show (Tryd.prog.info? 23).map (·.size) = some S_.size by rw [hS_, List.size_toArray, List.length_map, hmac_len]; kernel_rfl); have hold_ := Aside0.mk (show (Array.replicate 32 (Value.int IntKind.u8 0)).size = S_.size by rw [hS_]; show 32 = _; rw [List.size_toArray, List.length_map, hmac_len]); have hone_ := Aside0.mk (show S_.all (·.oneCell') = true by rw [hS_]; exact oneInts .u8 _); replace hS_ := Aside0.mk hS_; clear HCA HCAc HCB HCBc; have n0_ := Aside0.mk (blk_below (g := gb101) (o := .cells #[.string a0_0, .string a0_1] 35 (0, 0)) (by (with_reducible repeat (first | refine blk_drewN ?_ _ | refine blk_drew ?_ | refine blk_alloc ?_ _)); exact BK101.out) hb); have n1_ := Aside0.mk (below_step (by repeat (first | (with_reducible first | exact HB.out | apply below_alloc | apply pw_below_drewN | apply below_drew1 | refine below_set ?_ GE101.out) | exact HB.out)) hb); clear BK101; clear HB; have BK101 := n0_; have HB := n1_; clear n0_ n1_; (try clear hb); (try clear hb2); (try clear hk); (try clear hi)) | ((with_reducible refine gate_storeT (ty := 23) rfl ?_); refine wpList_store_row rfl 23 (.tmp 12) (.tmp 40) rfl wH_.heap.size S_ rfl rfl 23 _ (blk_new wH_ _) hsz_.out hold_.out hone_.out ?_; generalize hW2_ : World.setRow _ _ _ = w6_; have hq1_ : ArrI .u8 w6_ wH_.heap.size 23 (hmac (bytesOf a0_1) (bytesOf ((⟨#[]⟩ : ByteArray) ++ (((((((a1 ++ t102) ++ (⟨#[0, 255]⟩ : ByteArray)) ++ (⟨#[0, 0, 0, 0]⟩ : ByteArray)) ++ (⟨#[11, 104, 109, 97, 99, 45, 115, 104, 97, 50, 53, 54, 0]⟩ : ByteArray)) ++ a3) ++ a4) ++ (⟨#[0, 0, 0, 0]⟩ : ByteArray))))) := (by unfold ArrI; rw [← hW2_, ← hS_.out]; exact setRow_heap _ _ _ _ _ _ (blk_new wH_ _)); have hb : Below wH_.heap.size wH_ w6_ := (by rw [← hW2_]; exact xbelow_setRow (below_alloc (Below.refl _ _) _) (Nat.le_refl _) _); have hC6_ := arr_C hq1_ (by rw [hmac_len]; decide); rw [hmac_len] at hC6_; have hcv6_ := Kd.C_string (P := Tryd.prog) (c := 32) Tryd.underlying22 Tryd.underlying5 Tryd.underlying9 hC6_; rw [← (xsum_some A16.out).2.2] at hcv6_; clear hW2_ hq1_ hC6_; have n0_ := Aside0.mk (blk_below (g := gb101) (o := .cells #[.string a0_0, .string a0_1] 35 (0, 0)) (by (with_reducible repeat (first | refine blk_drewN ?_ _ | refine blk_drew ?_ | refine blk_alloc ?_ _)); exact BK101.out) hb); have n1_ := Aside0.mk (below_step (by repeat (first | (with_reducible first | exact HB.out | apply below_alloc | apply pw_below_drewN | apply below_drew1 | refine below_set ?_ GE101.out) | exact HB.out)) hb); clear BK101; clear HB; have BK101 := n0_; have HB := n1_; clear n0_ n1_; (try clear hb); (try clear hb2); (try clear hk); (try clear hi)))
                    go_ret
                    exact ⟨by first | rfl | (simp [errW_none, errW_some] <;> rfl) | (simp [*, errW_none, errW_some] <;> rfl), by repeat (first | (with_reducible first | exact HB.out | apply below_alloc | apply pw_below_drewN | apply below_drew1 | refine below_set ?_ GE101.out) | exact HB.out)⟩
                  · rw [if_neg c15] at H
                    exact absurd H (by simp)
                · rw [if_neg c14] at H
                  exact absurd H (by simp)
              · rw [if_neg c13] at H
                exact absurd H (by simp)
            · rw [if_neg c12] at H
              exact absurd H (by simp)
          · rw [if_neg c11] at H
            exact absurd H (by simp)
        · rw [if_neg c10] at H
          exact absurd H (by simp)
      · rw [if_neg c9] at H
        exact absurd H (by simp)
    · rw [if_neg c8] at H
      exact absurd H (by simp)
  · rw [if_neg c6] at H
    have c6b0 : (a2.toList == ([] : List UInt8)) = false := beq_eq_false_iff_ne.mpr c6
    have c6b1 : (a2.toList != ([] : List UInt8)) = true := bne_iff_ne.mpr c6
    replace H := Option.bind_eq_some_iff.mp H
    obtain ⟨t104, A220, H⟩ := H
    replace H : (if t104.size + a2.size ≤ 9223372036854775807 then ((impl_fold.f a0_0).bind fun t105 => (if a1.size + t105.size ≤ 9223372036854775807 then (if (a1 ++ t105).size + 2 ≤ 9223372036854775807 then (if ((a1 ++ t105) ++ (⟨#[0, 255]⟩ : ByteArray)).size + 4 ≤ 9223372036854775807 then (if (((a1 ++ t105) ++ (⟨#[0, 255]⟩ : ByteArray)) ++ (⟨#[0, 0, 0, 0]⟩ : ByteArray)).size + 13 ≤ 9223372036854775807 then (if ((((a1 ++ t105) ++ (⟨#[0, 255]⟩ : ByteArray)) ++ (⟨#[0, 0, 0, 0]⟩ : ByteArray)) ++ (⟨#[11, 104, 109, 97, 99, 45, 115, 104, 97, 50, 53, 54, 0]⟩ : ByteArray)).size + a3.size ≤ 9223372036854775807 then (if (((((a1 ++ t105) ++ (⟨#[0, 255]⟩ : ByteArray)) ++ (⟨#[0, 0, 0, 0]⟩ : ByteArray)) ++ (⟨#[11, 104, 109, 97, 99, 45, 115, 104, 97, 50, 53, 54, 0]⟩ : ByteArray)) ++ a3).size + a4.size ≤ 9223372036854775807 then (if ((((((a1 ++ t105) ++ (⟨#[0, 255]⟩ : ByteArray)) ++ (⟨#[0, 0, 0, 0]⟩ : ByteArray)) ++ (⟨#[11, 104, 109, 97, 99, 45, 115, 104, 97, 50, 53, 54, 0]⟩ : ByteArray)) ++ a3) ++ a4).size + 4 ≤ 9223372036854775807 then (if (t104 ++ a2).size + (((((((a1 ++ t105) ++ (⟨#[0, 255]⟩ : ByteArray)) ++ (⟨#[0, 0, 0, 0]⟩ : ByteArray)) ++ (⟨#[11, 104, 109, 97, 99, 45, 115, 104, 97, 50, 53, 54, 0]⟩ : ByteArray)) ++ a3) ++ a4) ++ (⟨#[0, 0, 0, 0]⟩ : ByteArray)).size ≤ 9223372036854775807 then ((xsum.f a0_1 ((t104 ++ a2) ++ (((((((a1 ++ t105) ++ (⟨#[0, 255]⟩ : ByteArray)) ++ (⟨#[0, 0, 0, 0]⟩ : ByteArray)) ++ (⟨#[11, 104, 109, 97, 99, 45, 115, 104, 97, 50, 53, 54, 0]⟩ : ByteArray)) ++ a3) ++ a4) ++ (⟨#[0, 0, 0, 0]⟩ : ByteArray)))).bind fun t106 => (some t106)) else (none)) else (none)) else (none)) else (none)) else (none)) else (none)) else (none)) else (none))) else (none)) = some r := H
    have A22 := Aside0.mk A220
    clear A220
    by_cases c23 : t104.size + a2.size ≤ 9223372036854775807
    · rw [if_pos c23] at H
      have c23b0 := eq_true c23
      have c23b1 : decide (t104.size + a2.size ≤ 9223372036854775807) = true := decide_eq_true c23
      try have c23b2 : (9223372036854775807 < t104.size + a2.size) = False := eq_false (Nat.not_lt.2 c23)
      try have c23b3 : (9223372036854775807 < t104.size + a2.size) = False := eq_false (Nat.not_lt.2 (by have h := c23; simp only [ByteArray.size_append, ByteArray.size_extract, Nat.min_self, Nat.sub_zero] at h; first | with_reducible exact h | omega))
      replace H := Option.bind_eq_some_iff.mp H
      obtain ⟨t105, A240, H⟩ := H
      replace H : (if a1.size + t105.size ≤ 9223372036854775807 then (if (a1 ++ t105).size + 2 ≤ 9223372036854775807 then (if ((a1 ++ t105) ++ (⟨#[0, 255]⟩ : ByteArray)).size + 4 ≤ 9223372036854775807 then (if (((a1 ++ t105) ++ (⟨#[0, 255]⟩ : ByteArray)) ++ (⟨#[0, 0, 0, 0]⟩ : ByteArray)).size + 13 ≤ 9223372036854775807 then (if ((((a1 ++ t105) ++ (⟨#[0, 255]⟩ : ByteArray)) ++ (⟨#[0, 0, 0, 0]⟩ : ByteArray)) ++ (⟨#[11, 104, 109, 97, 99, 45, 115, 104, 97, 50, 53, 54, 0]⟩ : ByteArray)).size + a3.size ≤ 9223372036854775807 then (if (((((a1 ++ t105) ++ (⟨#[0, 255]⟩ : ByteArray)) ++ (⟨#[0, 0, 0, 0]⟩ : ByteArray)) ++ (⟨#[11, 104, 109, 97, 99, 45, 115, 104, 97, 50, 53, 54, 0]⟩ : ByteArray)) ++ a3).size + a4.size ≤ 9223372036854775807 then (if ((((((a1 ++ t105) ++ (⟨#[0, 255]⟩ : ByteArray)) ++ (⟨#[0, 0, 0, 0]⟩ : ByteArray)) ++ (⟨#[11, 104, 109, 97, 99, 45, 115, 104, 97, 50, 53, 54, 0]⟩ : ByteArray)) ++ a3) ++ a4).size + 4 ≤ 9223372036854775807 then (if (t104 ++ a2).size + (((((((a1 ++ t105) ++ (⟨#[0, 255]⟩ : ByteArray)) ++ (⟨#[0, 0, 0, 0]⟩ : ByteArray)) ++ (⟨#[11, 104, 109, 97, 99, 45, 115, 104, 97, 50, 53, 54, 0]⟩ : ByteArray)) ++ a3) ++ a4) ++ (⟨#[0, 0, 0, 0]⟩ : ByteArray)).size ≤ 9223372036854775807 then ((xsum.f a0_1 ((t104 ++ a2) ++ (((((((a1 ++ t105) ++ (⟨#[0, 255]⟩ : ByteArray)) ++ (⟨#[0, 0, 0, 0]⟩ : ByteArray)) ++ (⟨#[11, 104, 109, 97, 99, 45, 115, 104, 97, 50, 53, 54, 0]⟩ : ByteArray)) ++ a3) ++ a4) ++ (⟨#[0, 0, 0, 0]⟩ : ByteArray)))).bind fun t106 => (some t106)) else (none)) else (none)) else (none)) else (none)) else (none)) else (none)) else (none)) else (none)) = some r := H
      have A24 := Aside0.mk A240
      clear A240
      by_cases c25 : a1.size + t105.size ≤ 9223372036854775807
      · rw [if_pos c25] at H
        have c25b0 := eq_true c25
        have c25b1 : decide (a1.size + t105.size ≤ 9223372036854775807) = true := decide_eq_true c25
        try have c25b2 : (9223372036854775807 < a1.size + t105.size) = False := eq_false (Nat.not_lt.2 c25)
        try have c25b3 : (9223372036854775807 < a1.size + t105.size) = False := eq_false (Nat.not_lt.2 (by have h := c25; simp only [ByteArray.size_append, ByteArray.size_extract, Nat.min_self, Nat.sub_zero] at h; first | with_reducible exact h | omega))
        by_cases c26 : (a1 ++ t105).size + 2 ≤ 9223372036854775807
        · rw [if_pos c26] at H
          have c26b0 := eq_true c26
          have c26b1 : decide ((a1 ++ t105).size + 2 ≤ 9223372036854775807) = true := decide_eq_true c26
          try have c26b2 : (9223372036854775807 < (a1 ++ t105).size + 2) = False := eq_false (Nat.not_lt.2 c26)
          try have c26b3 : (9223372036854775807 < (a1.size + t105.size) + 2) = False := eq_false (Nat.not_lt.2 (by have h := c26; simp only [ByteArray.size_append, ByteArray.size_extract, Nat.min_self, Nat.sub_zero] at h; first | with_reducible exact h | omega))
          by_cases c27 : ((a1 ++ t105) ++ (⟨#[0, 255]⟩ : ByteArray)).size + 4 ≤ 9223372036854775807
          · rw [if_pos c27] at H
            have c27b0 := eq_true c27
            have c27b1 : decide (((a1 ++ t105) ++ (⟨#[0, 255]⟩ : ByteArray)).size + 4 ≤ 9223372036854775807) = true := decide_eq_true c27
            try have c27b2 : (9223372036854775807 < ((a1 ++ t105) ++ (⟨#[0, 255]⟩ : ByteArray)).size + 4) = False := eq_false (Nat.not_lt.2 c27)
            try have c27b3 : (9223372036854775807 < ((a1.size + t105.size) + 2) + 4) = False := eq_false (Nat.not_lt.2 (by have h := c27; simp only [ByteArray.size_append, ByteArray.size_extract, Nat.min_self, Nat.sub_zero, (show (⟨#[0, 255]⟩ : ByteArray).size = 2 from rfl)] at h; first | with_reducible exact h | omega))
            by_cases c28 : (((a1 ++ t105) ++ (⟨#[0, 255]⟩ : ByteArray)) ++ (⟨#[0, 0, 0, 0]⟩ : ByteArray)).size + 13 ≤ 9223372036854775807
            · rw [if_pos c28] at H
              have c28b0 := eq_true c28
              have c28b1 : decide ((((a1 ++ t105) ++ (⟨#[0, 255]⟩ : ByteArray)) ++ (⟨#[0, 0, 0, 0]⟩ : ByteArray)).size + 13 ≤ 9223372036854775807) = true := decide_eq_true c28
              try have c28b2 : (9223372036854775807 < (((a1 ++ t105) ++ (⟨#[0, 255]⟩ : ByteArray)) ++ (⟨#[0, 0, 0, 0]⟩ : ByteArray)).size + 13) = False := eq_false (Nat.not_lt.2 c28)
              try have c28b3 : (9223372036854775807 < (((a1.size + t105.size) + 2) + 4) + 13) = False := eq_false (Nat.not_lt.2 (by have h := c28; simp only [ByteArray.size_append, ByteArray.size_extract, Nat.min_self, Nat.sub_zero, (show (⟨#[0, 0, 0, 0]⟩ : ByteArray).size = 4 from rfl), (show (⟨#[0, 255]⟩ : ByteArray).size = 2 from rfl)] at h; first | with_reducible exact h | omega))
              by_cases c29 : ((((a1 ++ t105) ++ (⟨#[0, 255]⟩ : ByteArray)) ++ (⟨#[0, 0, 0, 0]⟩ : ByteArray)) ++ (⟨#[11, 104, 109, 97, 99, 45, 115, 104, 97, 50, 53, 54, 0]⟩ : ByteArray)).size + a3.size ≤ 9223372036854775807
              · rw [if_pos c29] at H
                have c29b0 := eq_true c29
                have c29b1 : decide (((((a1 ++ t105) ++ (⟨#[0, 255]⟩ : ByteArray)) ++ (⟨#[0, 0, 0, 0]⟩ : ByteArray)) ++ (⟨#[11, 104, 109, 97, 99, 45, 115, 104, 97, 50, 53, 54, 0]⟩ : ByteArray)).size + a3.size ≤ 9223372036854775807) = true := decide_eq_true c29
                try have c29b2 : (9223372036854775807 < ((((a1 ++ t105) ++ (⟨#[0, 255]⟩ : ByteArray)) ++ (⟨#[0, 0, 0, 0]⟩ : ByteArray)) ++ (⟨#[11, 104, 109, 97, 99, 45, 115, 104, 97, 50, 53, 54, 0]⟩ : ByteArray)).size + a3.size) = False := eq_false (Nat.not_lt.2 c29)
                try have c29b3 : (9223372036854775807 < ((((a1.size + t105.size) + 2) + 4) + 13) + a3.size) = False := eq_false (Nat.not_lt.2 (by have h := c29; simp only [ByteArray.size_append, ByteArray.size_extract, Nat.min_self, Nat.sub_zero, (show (⟨#[0, 0, 0, 0]⟩ : ByteArray).size = 4 from rfl), (show (⟨#[0, 255]⟩ : ByteArray).size = 2 from rfl), (show (⟨#[11, 104, 109, 97, 99, 45, 115, 104, 97, 50, 53, 54, 0]⟩ : ByteArray).size = 13 from rfl)] at h; first | with_reducible exact h | omega))
                by_cases c30 : (((((a1 ++ t105) ++ (⟨#[0, 255]⟩ : ByteArray)) ++ (⟨#[0, 0, 0, 0]⟩ : ByteArray)) ++ (⟨#[11, 104, 109, 97, 99, 45, 115, 104, 97, 50, 53, 54, 0]⟩ : ByteArray)) ++ a3).size + a4.size ≤ 9223372036854775807
                · rw [if_pos c30] at H
                  have c30b0 := eq_true c30
                  have c30b1 : decide ((((((a1 ++ t105) ++ (⟨#[0, 255]⟩ : ByteArray)) ++ (⟨#[0, 0, 0, 0]⟩ : ByteArray)) ++ (⟨#[11, 104, 109, 97, 99, 45, 115, 104, 97, 50, 53, 54, 0]⟩ : ByteArray)) ++ a3).size + a4.size ≤ 9223372036854775807) = true := decide_eq_true c30
                  try have c30b2 : (9223372036854775807 < (((((a1 ++ t105) ++ (⟨#[0, 255]⟩ : ByteArray)) ++ (⟨#[0, 0, 0, 0]⟩ : ByteArray)) ++ (⟨#[11, 104, 109, 97, 99, 45, 115, 104, 97, 50, 53, 54, 0]⟩ : ByteArray)) ++ a3).size + a4.size) = False := eq_false (Nat.not_lt.2 c30)
                  try have c30b3 : (9223372036854775807 < (((((a1.size + t105.size) + 2) + 4) + 13) + a3.size) + a4.size) = False := eq_false (Nat.not_lt.2 (by have h := c30; simp only [ByteArray.size_append, ByteArray.size_extract, Nat.min_self, Nat.sub_zero, (show (⟨#[0, 0, 0, 0]⟩ : ByteArray).size = 4 from rfl), (show (⟨#[0, 255]⟩ : ByteArray).size = 2 from rfl), (show (⟨#[11, 104, 109, 97, 99, 45, 115, 104, 97, 50, 53, 54, 0]⟩ : ByteArray).size = 13 from rfl)] at h; first | with_reducible exact h | omega))
                  by_cases c31 : ((((((a1 ++ t105) ++ (⟨#[0, 255]⟩ : ByteArray)) ++ (⟨#[0, 0, 0, 0]⟩ : ByteArray)) ++ (⟨#[11, 104, 109, 97, 99, 45, 115, 104, 97, 50, 53, 54, 0]⟩ : ByteArray)) ++ a3) ++ a4).size + 4 ≤ 9223372036854775807
                  · rw [if_pos c31] at H
                    have c31b0 := eq_true c31
                    have c31b1 : decide (((((((a1 ++ t105) ++ (⟨#[0, 255]⟩ : ByteArray)) ++ (⟨#[0, 0, 0, 0]⟩ : ByteArray)) ++ (⟨#[11, 104, 109, 97, 99, 45, 115, 104, 97, 50, 53, 54, 0]⟩ : ByteArray)) ++ a3) ++ a4).size + 4 ≤ 9223372036854775807) = true := decide_eq_true c31
                    try have c31b2 : (9223372036854775807 < ((((((a1 ++ t105) ++ (⟨#[0, 255]⟩ : ByteArray)) ++ (⟨#[0, 0, 0, 0]⟩ : ByteArray)) ++ (⟨#[11, 104, 109, 97, 99, 45, 115, 104, 97, 50, 53, 54, 0]⟩ : ByteArray)) ++ a3) ++ a4).size + 4) = False := eq_false (Nat.not_lt.2 c31)
                    try have c31b3 : (9223372036854775807 < ((((((a1.size + t105.size) + 2) + 4) + 13) + a3.size) + a4.size) + 4) = False := eq_false (Nat.not_lt.2 (by have h := c31; simp only [ByteArray.size_append, ByteArray.size_extract, Nat.min_self, Nat.sub_zero, (show (⟨#[0, 0, 0, 0]⟩ : ByteArray).size = 4 from rfl), (show (⟨#[0, 255]⟩ : ByteArray).size = 2 from rfl), (show (⟨#[11, 104, 109, 97, 99, 45, 115, 104, 97, 50, 53, 54, 0]⟩ : ByteArray).size = 13 from rfl)] at h; first | with_reducible exact h | omega))
                    by_cases c32 : (t104 ++ a2).size + (((((((a1 ++ t105) ++ (⟨#[0, 255]⟩ : ByteArray)) ++ (⟨#[0, 0, 0, 0]⟩ : ByteArray)) ++ (⟨#[11, 104, 109, 97, 99, 45, 115, 104, 97, 50, 53, 54, 0]⟩ : ByteArray)) ++ a3) ++ a4) ++ (⟨#[0, 0, 0, 0]⟩ : ByteArray)).size ≤ 9223372036854775807
                    · rw [if_pos c32] at H
                      have c32b0 := eq_true c32
                      have c32b1 : decide ((t104 ++ a2).size + (((((((a1 ++ t105) ++ (⟨#[0, 255]⟩ : ByteArray)) ++ (⟨#[0, 0, 0, 0]⟩ : ByteArray)) ++ (⟨#[11, 104, 109, 97, 99, 45, 115, 104, 97, 50, 53, 54, 0]⟩ : ByteArray)) ++ a3) ++ a4) ++ (⟨#[0, 0, 0, 0]⟩ : ByteArray)).size ≤ 9223372036854775807) = true := decide_eq_true c32
                      try have c32b2 : (9223372036854775807 < (t104 ++ a2).size + (((((((a1 ++ t105) ++ (⟨#[0, 255]⟩ : ByteArray)) ++ (⟨#[0, 0, 0, 0]⟩ : ByteArray)) ++ (⟨#[11, 104, 109, 97, 99, 45, 115, 104, 97, 50, 53, 54, 0]⟩ : ByteArray)) ++ a3) ++ a4) ++ (⟨#[0, 0, 0, 0]⟩ : ByteArray)).size) = False := eq_false (Nat.not_lt.2 c32)
                      try have c32b3 : (9223372036854775807 < (t104.size + a2.size) + (((((((a1.size + t105.size) + 2) + 4) + 13) + a3.size) + a4.size) + 4)) = False := eq_false (Nat.not_lt.2 (by have h := c32; simp only [ByteArray.size_append, ByteArray.size_extract, Nat.min_self, Nat.sub_zero, (show (⟨#[0, 0, 0, 0]⟩ : ByteArray).size = 4 from rfl), (show (⟨#[0, 255]⟩ : ByteArray).size = 2 from rfl), (show (⟨#[11, 104, 109, 97, 99, 45, 115, 104, 97, 50, 53, 54, 0]⟩ : ByteArray).size = 13 from rfl)] at h; first | with_reducible exact h | omega))
                      replace H := Option.bind_eq_some_iff.mp H
                      obtain ⟨t106, A330, H⟩ := H
                      replace H : (some t106) = some r := H
                      have A33 := Aside0.mk A330
                      clear A330
                      obtain rfl := Option.some.inj H
                      go_enter Tryd.func38, Tryd.ntmps38
                      go_wp2_with (first | ((with_reducible refine gate_dst (N := 5) rfl ?_); refine box_event ?hg (N := 5) ?hd (cs := #[.string a0_0, .string a0_1]) (t := 35) ?hr ?_; (case hd => rfl); (case hg => rfl); (case hr => first | (go_simp; done) | (go_simp; rfl)); intro gb101 hg w34 hbox hb; have n0_ := Aside0.mk (below_step (by repeat (first | (with_reducible first | exact HB.out | apply below_alloc | apply pw_below_drewN | apply below_drew1) | exact HB.out)) hb); have n1_ := Aside0.mk (hbox); have n2_ := Aside0.mk ((by rw [hg]; exact (below_size (by repeat (first | (with_reducible first | exact HB.out | apply below_alloc | apply pw_below_drewN | apply below_drew1) | exact HB.out))) : w.heap.size ≤ gb101)); have n3_ := Aside0.mk ((by rw [hg]; exact (below_size (by repeat (first | (with_reducible first | exact HB.out | apply below_alloc | apply pw_below_drewN | apply below_drew1) | exact HB.out))) : w.heap.size ≤ gb101)); clear HB; have HB := n0_; have BK101 := n1_; have GW101 := n2_; have GE101 := n3_; clear n0_ n1_ n2_ n3_; clear hb hbox hg) | ((with_reducible refine gate_callee (f := 39) rfl ?_); refine goesL_ (some 17) rfl rfl Tryd.func39 (by kernel_rfl) rfl #[.int .i64 (a2.size : Int)] rfl (by (try simp only [List.map_toArray, List.map_cons, List.map_nil]); first | done | rfl | (simp only [List.length_drop, List.length_take]; rfl)) ?_; (with_reducible refine (impl_p16.calls (a2.size : Int) t104 _ A22.out).mono ?_); rintro e w35 ⟨rfl, hb⟩; refine ⟨_, rfl, ?_⟩; have n0_ := Aside0.mk (blk_below (g := gb101) (o := .cells #[.string a0_0, .string a0_1] 35 (0, 0)) (by (with_reducible repeat (first | refine blk_drewN ?_ _ | refine blk_drew ?_ | refine blk_alloc ?_ _)); exact BK101.out) hb); have n1_ := Aside0.mk (below_step (by repeat (first | (with_reducible first | exact HB.out | apply below_alloc | apply pw_below_drewN | apply below_drew1 | refine below_set ?_ GE101.out) | exact HB.out)) hb); clear BK101; clear HB; have BK101 := n0_; have HB := n1_; clear n0_ n1_; (try clear hb); (try clear hb2); (try clear hk); (try clear hi); have hcz36_0 : w35.cell? ⟨gb101, 0, none⟩ = some (.string a0_0) := (blk_cell BK101.out 0).trans rfl; have hcz36_1 : w35.cell? ⟨gb101, 1, none⟩ = some (.string a0_1) := (blk_cell BK101.out 1).trans rfl; have hfz36_0 := blk_frozen BK101.out 0; have hfz36_1 := blk_frozen BK101.out 1) | ((with_reducible refine gate_callee (f := 45) rfl ?_); refine goesL_ (some 24) rfl rfl Tryd.func45 (by kernel_rfl) rfl #[.string a0_0] rfl (by (try simp only [List.map_toArray, List.map_cons, List.map_nil]); first | done | rfl | (simp only [List.length_drop, List.length_take]; rfl)) ?_; (with_reducible refine (impl_fold.calls a0_0 t105 _ A24.out).mono ?_); rintro e w37 ⟨rfl, hb⟩; refine ⟨_, rfl, ?_⟩; have n0_ := Aside0.mk (blk_below (g := gb101) (o := .cells #[.string a0_0, .string a0_1] 35 (0, 0)) (by (with_reducible repeat (first | refine blk_drewN ?_ _ | refine blk_drew ?_ | refine blk_alloc ?_ _)); exact BK101.out) hb); have n1_ := Aside0.mk (below_step (by repeat (first | (with_reducible first | exact HB.out | apply below_alloc | apply pw_below_drewN | apply below_drew1 | refine below_set ?_ GE101.out) | exact HB.out)) hb); clear BK101; clear HB; have BK101 := n0_; have HB := n1_; clear n0_ n1_; (try clear hb); (try clear hb2); (try clear hk); (try clear hi); have hcz38_0 : w37.cell? ⟨gb101, 0, none⟩ = some (.string a0_0) := (blk_cell BK101.out 0).trans rfl; have hcz38_1 : w37.cell? ⟨gb101, 1, none⟩ = some (.string a0_1) := (blk_cell BK101.out 1).trans rfl; have hfz38_0 := blk_frozen BK101.out 0; have hfz38_1 := blk_frozen BK101.out 1) | ((with_reducible refine gate_dst (N := 37) rfl ?_); refine conv_event rfl 9 22 5 (.tmp 36) rfl Tryd.underlying9 Tryd.underlying22 Tryd.underlying5 a0_1 rfl (by have := (xsum_some A33.out).1; rw [bytesOf_length] at this; omega) ?_; intro gA_ wA_ cA_ hCa hca hb; have HCA := Aside0.mk hCa; have HCAc := Aside0.mk hca; clear hCa hca; have n0_ := Aside0.mk (blk_below (g := gb101) (o := .cells #[.string a0_0, .string a0_1] 35 (0, 0)) (by (with_reducible repeat (first | refine blk_drewN ?_ _ | refine blk_drew ?_ | refine blk_alloc ?_ _)); exact BK101.out) hb); have n1_ := Aside0.mk (below_step (by repeat (first | (with_reducible first | exact HB.out | apply below_alloc | apply pw_below_drewN | apply below_drew1 | refine below_set ?_ GE101.out) | exact HB.out)) hb); clear BK101; clear HB; have BK101 := n0_; have HB := n1_; clear n0_ n1_; (try clear hb); (try clear hb2); (try clear hk); (try clear hi)) | ((with_reducible refine gate_dst (N := 39) rfl ?_); refine conv_event rfl 9 22 5 (.tmp 38) rfl Tryd.underlying9 Tryd.underlying22 Tryd.underlying5 ((t104 ++ a2) ++ (((((((a1 ++ t105) ++ (⟨#[0, 255]⟩ : ByteArray)) ++ (⟨#[0, 0, 0, 0]⟩ : ByteArray)) ++ (⟨#[11, 104, 109, 97, 99, 45, 115, 104, 97, 50, 53, 54, 0]⟩ : ByteArray)) ++ a3) ++ a4) ++ (⟨#[0, 0, 0, 0]⟩ : ByteArray))) rfl (by have := (xsum_some A33.out).2.1; rw [bytesOf_length] at this; omega) ?_; intro gB_ wB_ cB_ hCb hcb hb; have HCA2 := Aside0.mk (Kd.C_below HCA.out hb); clear HCA; have HCA := HCA2; clear HCA2; have HCB := Aside0.mk hCb; have HCBc := Aside0.mk hcb; clear hCb hcb; have n0_ := Aside0.mk (blk_below (g := gb101) (o := .cells #[.string a0_0, .string a0_1] 35 (0, 0)) (by (with_reducible repeat (first | refine blk_drewN ?_ _ | refine blk_drew ?_ | refine blk_alloc ?_ _)); exact BK101.out) hb); have n1_ := Aside0.mk (below_step (by repeat (first | (with_reducible first | exact HB.out | apply below_alloc | apply pw_below_drewN | apply below_drew1 | refine below_set ?_ GE101.out) | exact HB.out)) hb); clear BK101; clear HB; have BK101 := n0_; have HB := n1_; clear n0_ n1_; (try clear hb); (try clear hb2); (try clear hk); (try clear hi)) | ((with_reducible refine gate_callee (f := 12) rfl ?_); refine goesL_ (some 40) rfl rfl Tryd.func12 (by kernel_rfl) rfl #[.slice (some ⟨gA_, 0, none⟩) (bytesOf a0_1).length cA_, .slice (some ⟨gB_, 0, none⟩) (bytesOf ((t104 ++ a2) ++ (((((((a1 ++ t105) ++ (⟨#[0, 255]⟩ : ByteArray)) ++ (⟨#[0, 0, 0, 0]⟩ : ByteArray)) ++ (⟨#[11, 104, 109, 97, 99, 45, 115, 104, 97, 50, 53, 54, 0]⟩ : ByteArray)) ++ a3) ++ a4) ++ (⟨#[0, 0, 0, 0]⟩ : ByteArray)))).length cB_] rfl (by (try simp only [List.map_toArray, List.map_cons, List.map_nil]); first | done | rfl) ?_; (with_reducible refine (impl_Hmac.calls _ _ (bytesOf a0_1) _ _ (bytesOf ((t104 ++ a2) ++ (((((((a1 ++ t105) ++ (⟨#[0, 255]⟩ : ByteArray)) ++ (⟨#[0, 0, 0, 0]⟩ : ByteArray)) ++ (⟨#[11, 104, 109, 97, 99, 45, 115, 104, 97, 50, 53, 54, 0]⟩ : ByteArray)) ++ a3) ++ a4) ++ (⟨#[0, 0, 0, 0]⟩ : ByteArray)))) _ HCA.out HCAc.out HCB.out HCBc.out (xsum_some A33.out).1 (xsum_some A33.out).2.1 (GlobK.below HGK.out (by repeat (first | (with_reducible first | exact HB.out | apply below_alloc | apply pw_below_drewN | apply below_drew1 | refine below_set ?_ GE101.out) | exact HB.out)))).mono ?_); rintro e wH_ ⟨rfl, hb⟩; refine ⟨_, rfl, ?_⟩; obtain ⟨S_, hS_⟩ : ∃ S, S = ((hmac (bytesOf a0_1) (bytesOf ((t104 ++ a2) ++ (((((((a1 ++ t105) ++ (⟨#[0, 255]⟩ : ByteArray)) ++ (⟨#[0, 0, 0, 0]⟩ : ByteArray)) ++ (⟨#[11, 104, 109, 97, 99, 45, 115, 104, 97, 50, 53, 54, 0]⟩ : ByteArray)) ++ a3) ++ a4) ++ (⟨#[0, 0, 0, 0]⟩ : ByteArray))))).map (Value.int .u8)).toArray := ⟨_, rfl⟩; rw [← hS_]; have hsz_ := Aside0.mk (show (Tryd.prog.info? 23).map (·.size) = some S_.size by rw [hS_, List.size_toArray, List.length_map, hmac_len]; kernel_rfl); have hold_ := Aside0.mk (show (Array.replicate 32 (Value.int IntKind.u8 0)).size = S_.size by rw [hS_]; show 32 = _; rw [List.size_toArray, List.length_map, hmac_len]); have hone_ := Aside0.mk (show S_.all (·.oneCell') = true by rw [hS_]; exact oneInts .u8 _); replace hS_ := Aside0.mk hS_; clear HCA HCAc HCB HCBc; have n0_ := Aside0.mk (blk_below (g := gb101) (o := .cells #[.string a0_0, .string a0_1] 35 (0, 0)) (by (with_reducible repeat (first | refine blk_drewN ?_ _ | refine blk_drew ?_ | refine blk_alloc ?_ _)); exact BK101.out) hb); have n1_ := Aside0.mk (below_step (by repeat (first | (with_reducible first | exact HB.out | apply below_alloc | apply pw_below_drewN | apply below_drew1 | refine below_set ?_ GE101.out) | exact HB.out)) hb); clear BK101; clear HB; have BK101 := n0_; have HB := n1_; clear n0_ n1_; (try clear hb); (try clear hb2); (try clear hk); (try clear hi)) | ((with_reducible refine gate_storeT (ty := 23) rfl ?_); refine wpList_store_row rfl 23 (.tmp 12) (.tmp 40) rfl wH_.heap.size S_ rfl rfl 23 _ (blk_new wH_ _) hsz_.out hold_.out hone_.out ?_; generalize hW2_ : World.setRow _ _ _ = w6_; have hq1_ : ArrI .u8 w6_ wH_.heap.size 23 (hmac (bytesOf a0_1) (bytesOf ((t104 ++ a2) ++ (((((((a1 ++ t105) ++ (⟨#[0, 255]⟩ : ByteArray)) ++ (⟨#[0, 0, 0, 0]⟩ : ByteArray)) ++ (⟨#[11, 104, 109, 97, 99, 45, 115, 104, 97, 50, 53, 54, 0]⟩ : ByteArray)) ++ a3) ++ a4) ++ (⟨#[0, 0, 0, 0]⟩ : ByteArray))))) := (by unfold ArrI; rw [← hW2_, ← hS_.out]; exact setRow_heap _ _ _ _ _ _ (blk_new wH_ _)); have hb : Below wH_.heap.size wH_ w6_ := (by rw [← hW2_]; exact xbelow_setRow (below_alloc (Below.refl _ _) _) (Nat.le_refl _) _); have hC6_ := arr_C hq1_ (by rw [hmac_len]; decide); rw [hmac_len] at hC6_; have hcv6_ := Kd.C_string (P := Tryd.prog) (c := 32) Tryd.underlying22 Tryd.underlying5 Tryd.underlying9 hC6_; rw [← (xsum_some A33.out).2.2] at hcv6_; clear hW2_ hq1_ hC6_; have n0_ := Aside0.mk (blk_below (g := gb101) (o := .cells #[.string a0_0, .string a0_1] 35 (0, 0)) (by (with_reducible repeat (first | refine blk_drewN ?_ _ | refine blk_drew ?_ | refine blk_alloc ?_ _)); exact BK101.out) hb); have n1_ := Aside0.mk (below_step (by repeat (first | (with_reducible first | exact HB.out | apply below_alloc | apply pw_below_drewN | apply below_drew1 | refine below_set ?_ GE101.out) | exact HB.out)) hb); clear BK101; clear HB; have BK101 := n0_; have HB := n1_; clear n0_ n1_; (try clear hb); (try clear hb2); (try clear hk); (try clear hi)))
                      go_ret
                      exact ⟨by first | rfl | (simp [errW_none, errW_some] <;> rfl) | (simp [*, errW_none, errW_some] <;> rfl), by repeat (first | (with_reducible first | exact HB.out | apply below_alloc | apply pw_below_drewN | apply below_drew1 | refine below_set ?_ GE101.out) | exact HB.out)⟩
                    · rw [if_neg c32] at H
                      exact absurd H (by simp)
                  · rw [if_neg c31] at H
                    exact absurd H (by simp)
                · rw [if_neg c30] at H
                  exact absurd H (by simp)
              · rw [if_neg c29] at H
                exact absurd H (by simp)
            · rw [if_neg c28] at H
              exact absurd H (by simp)
          · rw [if_neg c27] at H
            exact absurd H (by simp)
        · rw [if_neg c26] at H
          exact absurd H (by simp)
      · rw [if_neg c25] at H
        exact absurd H (by simp)
    · rw [if_neg c23] at H
      exact absurd H (by simp)

end Go.Proofs.YtblpeegpjjcemaaDoor.F
