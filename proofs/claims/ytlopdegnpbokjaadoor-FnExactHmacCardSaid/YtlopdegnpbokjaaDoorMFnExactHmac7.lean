/- Part 7 of 7 of the proof of FnExactHmac: what each Go function on its way computes, that the Go code does just this, and what the law says of it. No condition beyond the statement's own. -/
import Derived.Lib.Bytes
import Derived.Test.YtlopdegnpbokjaaDoorRows
import Derived.Test.YtlopdegnpbokjaaDoorTie
import Derived.Test.YtlopdegnpbokjaaDoorCards
import Derived.WalkKit
import Derived.ProofKit
import Derived.OpenShut
import Derived.OpenVars
import Derived.ShutString
import Derived.ChangeOld
import Derived.Below
import Derived.SizedLaws
import Derived.Deep.Slices
import Derived.ChangeArms
import Derived.Test.YtlopdegnpbokjaaDoorMFnExactHmac6
namespace Go.Proofs.YtlopdegnpbokjaaDoor.F
open Go Go.Shelf Go.RowKit Go.Proofs.YtlopdegnpbokjaaDoorW.PrintWords Go.Proofs.YtlopdegnpbokjaaDoorW.PrintLast Go.Proofs.YtlopdegnpbokjaaDoorW.PrintMore
attribute [local go_sem] max2_int min2_int max_two min_two max_three min_three max_four min_four   -- for this text's walks alone
set_option linter.unusedVariables false
set_option linter.unusedSimpArgs false

/-! ### impl_Hmac: function 13 -/
set_option maxHeartbeats 200000000 in
set_option maxRecDepth 100000 in
theorem impl_Hmac.calls (Ak : Option Addr) (ck : Nat) (key : List Int) (Ab : Option Addr) (cb : Nat) (b : List Int) (w : World) (hrk : Kd.C (Kd.int .u8) w Ak key.length key) (hck : key.length ≤ ck) (hrb : Kd.C (Kd.int .u8) w Ab b.length b) (hcb : b.length ≤ cb) (hnk : key.length ≤ 1048576) (hnb : b.length ≤ 1048576) (hG : GlobK w) :
    Calls Tryd.prog 13 #[.slice Ak key.length ck, .slice Ab b.length cb] w fun e w' => e = .returned (.agg ((hmac key b).map (Value.int .u8)).toArray) ∧ Below w.heap.size w w' := by
  have HRK := Aside0.mk hrk
  have HRB := Aside0.mk hrb
  have HCK := Aside0.mk hck
  have HNK := Aside0.mk hnk
  have HNB := Aside0.mk hnb
  have HKL := Aside0.mk (hk_len key)
  have HG := Aside0.mk hG
  clear hrk hrb hck hnk hnb hG
  go_enter Tryd.func13, Tryd.ntmps13
  go_upto_region 1 with fail
  obtain ⟨wz, hwz⟩ : ∃ wz, wz = w.alloc (Obj.cells (Array.replicate 32 (Value.int IntKind.u8 0)) 23) := ⟨_, rfl⟩
  have hZ : ArrI .u8 wz w.heap.size 23 (List.replicate 32 0) := by rw [hwz]; exact ArrI.new w .u8 23 (List.replicate 32 0)
  have hBz : Below w.heap.size w wz := by rw [hwz]; exact below_alloc (Below.refl _ _) _
  refine (show wz = _ from hwz) ▸ ?_
  clear hwz
  have hZL := hZ.lt
  replace hZ := Aside0.mk hZ
  replace hBz := Aside0.mk hBz
  replace hZL := Aside0.mk hZL
  have HCz := Aside0.mk (Kd.C_below HRK.out hBz.out)
  have HBz := Aside0.mk (Kd.C_below HRB.out hBz.out)
  have HGz := Aside0.mk (GlobK.below HG.out hBz.out)
  go_upto_region 2 with (first | ((with_reducible refine gate_dst (N := 9) rfl ?_); refine Kd.R_make (Kd.int .u8) _ 5 rfl (N := 9) rfl 22 _ _ rfl (64 : Int) rfl rfl Tryd.underlying22 (.int .u8 0) 1 info5 rfl (by decide) (by decide) 0 (ok := fun _ => True) (okp := fun _ => True) rfl (fun _ hk => hk) trivial (by decide) (by decide) (Below.refl _ _) (Nat.le_refl _) ?_; intro v1 w1 ho hb hg_ hnew_; obtain ⟨kb, kc, ev, hkb, hkl, hk9_⟩ := Kd.R_form ho (by decide); clear hk9_; subst ev; have HO := Aside0.mk ho; have HB := Aside0.mk hb; have HKL1 := Aside0.mk hkl; have HKB := Aside0.mk hkb; clear ho hb hg_ hnew_ hkl hkb))
  obtain ⟨B, hBB⟩ : ∃ x, x = wz.heap.size := ⟨_, rfl⟩
  have HKC : Aside0 ((w1.alloc (Obj.cells #[.slice (some ⟨kb, 0, none⟩) 64 kc] 22)).heap[w1.heap.size]? = some (Obj.cells #[.slice (some ⟨kb, 0, none⟩) 64 kc] 22 (0, 0))) := ⟨blk_new w1 _⟩
  have HO2 : Aside0 (Kd.R (Kd.int .u8) 5 (w1.alloc (Obj.cells #[.slice (some ⟨kb, 0, none⟩) 64 kc] 22)) B (fun _ => True) (.slice (some ⟨kb, 0, none⟩) 64 kc) (List.replicate 64 0)) := ⟨by rw [hBB]; exact Kd.R_alloc HO.out _⟩
  have HB2 : Aside0 (Below B wz (w1.alloc (Obj.cells #[.slice (some ⟨kb, 0, none⟩) 64 kc] 22))) := ⟨by rw [hBB]; exact below_alloc HB.out _⟩
  refine (show ∀ W2, W2 = (w1.alloc (Obj.cells #[.slice (some ⟨kb, 0, none⟩) 64 kc] 22)) → Code.wp _ _ _ _ W2 from fun W2 hW2 => ?_) _ rfl
  rw [← hW2] at HKC HO2 HB2
  clear hW2 HO HB
  generalize hgk : w1.heap.size = gk at *
  clear hgk w1
  have HFB : Aside0 (∀ W, Below B wz W → Below wz.heap.size wz W) := ⟨fun W h => by rw [← hBB]; exact h⟩
  have HFS : Aside0 (B = wz.heap.size) := ⟨hBB⟩
  rw [← hBB] at hZL HKB
  clear hBB
  by_cases h64 : 64 < key.length
  case' pos =>
    have l1 : ((key.length : Int) > 64) = True := gtT h64
    have l2 : decide ((64 : Int) < (key.length : Int)) = true := ltD h64
    have l3 : decide ((key.length : Int) > 64) = true := ltD h64
    have l4 : ((64 : Int) < (key.length : Int)) = True := ltT h64
    have HK := Aside0.mk (show hmKey key = sha key by unfold hmKey; rw [if_pos h64])
    have hl32 : (sha key).length = 32 := sha_len key
    obtain ⟨S, hS⟩ : ∃ S, S = ((sha key).map (Value.int .u8)).toArray := ⟨_, rfl⟩
    have hsz : (Tryd.prog.info? 23).map (·.size) = some S.size := by rw [hS, List.size_toArray, List.length_map, hl32]; kernel_rfl
    have hold : (Array.replicate 32 (Value.int IntKind.u8 0)).size = S.size := by rw [hS]; show 32 = _; rw [List.size_toArray, List.length_map, hl32]
    have hone : S.all (·.oneCell') = true := by rw [hS]; exact oneInts .u8 _
    replace hsz := Aside0.mk hsz
    replace hold := Aside0.mk hold
    replace hone := Aside0.mk hone
    replace hS := Aside0.mk hS
    clear hl32
    go_upto_region 4 with (first | ((with_reducible refine gate_callee (f := 9) rfl ?_); refine goesL_ (some 14) rfl rfl Tryd.func9 (by kernel_rfl) rfl #[.slice Ak key.length ck] rfl (by (try simp only [List.map_toArray, List.map_cons, List.map_nil]); first | done | rfl) ?_; (with_reducible refine (impl_Sha256.calls _ _ key _ (Kd.C_below HCz.out (HFB.out _ HB2.out)) HCK.out (hmI HNK.out) (GlobK.below HGz.out (HFB.out _ HB2.out))).mono ?_); rintro e w10 ⟨rfl, hb⟩; refine ⟨_, rfl, ?_⟩; rw [← hS.out]; have HBS := HB2.out.size; rw [← HFS.out] at HBS; have HB3 := Aside0.mk (Below.trans HB2.out (hb.mono HBS)); have HO3 := Aside0.mk (Kd.R_below HO2.out hb); have HKC3 := Aside0.mk (blk_below HKC.out hb); clear HB2 HO2 HKC hb) | ((with_reducible refine gate_storeT (ty := 23) rfl ?_); refine wpList_store_row rfl 23 (.tmp 6) (.tmp 14) rfl w10.heap.size S rfl rfl 23 _ (blk_new w10 _) hsz.out hold.out hone.out ?_))
    have hq1 := setRow_heap (w10.alloc (Obj.cells (Array.replicate 32 (Value.int IntKind.u8 0)) 23)) w10.heap.size _ S _ _ (blk_new w10 _)
    have hd1 : Below w10.heap.size w10 ((w10.alloc (Obj.cells (Array.replicate 32 (Value.int IntKind.u8 0)) 23)).setRow w10.heap.size S) := xbelow_setRow (below_alloc (Below.refl _ _) _) (Nat.le_refl _) S
    refine (show ∀ W2, W2 = (w10.alloc (Obj.cells (Array.replicate 32 (Value.int IntKind.u8 0)) 23)).setRow w10.heap.size S → Code.wp _ _ _ _ W2 from fun wc hW2 => ?_) _ rfl
    rw [← hW2] at hq1 hd1
    clear hW2
    have hA6 : ArrI .u8 wc w10.heap.size 23 (sha key) := by unfold ArrI; rw [← hS.out]; exact hq1
    have HCC : Aside0 (Kd.C (Kd.int .u8) wc (some ⟨w10.heap.size, 0, none⟩) 32 (hmKey key)) := ⟨by rw [HK.out]; have := arr_C hA6 (by rw [sha_len]; decide); rw [sha_len] at this; exact this⟩
    have HB := Aside0.mk (Below.trans HB3.out (hd1.mono (by have := HB3.out.size; rw [← HFS.out] at this; exact this)))
    have HO := Aside0.mk (Kd.R_below HO3.out hd1)
    have HKQ := Aside0.mk (blk_below HKC3.out hd1)
    clear hq1 hd1 hA6 HB3 HO3 HKC3 hsz hold hone hS
    generalize hg6 : w10.heap.size = g6 at *
    clear hg6 w10
    go_upto_region 5 with fail
  case' neg =>
    have l1 : ((key.length : Int) > 64) = False := ltF h64
    have l2 : decide ((64 : Int) < (key.length : Int)) = false := ltG h64
    have l3 : decide ((key.length : Int) > 64) = false := ltG h64
    have l4 : ((64 : Int) < (key.length : Int)) = False := ltF h64
    have HK := Aside0.mk (show hmKey key = key by unfold hmKey; rw [if_neg h64])
    go_upto_region 5 with fail
    have HCC : Aside0 (Kd.C (Kd.int .u8) W2 Ak key.length (hmKey key)) := ⟨by rw [HK.out]; exact Kd.C_below HCz.out (HFB.out _ HB2.out)⟩
    have HB := HB2
    have HO := HO2
    have HKQ := HKC
    clear HB2 HO2 HKC
    generalize W2 = wc at *
  all_goals
    clear l1 l2 l3 l4 HK h64
    have HBSz : Aside0 (B ≤ wc.heap.size) := ⟨by have := HB.out.size; rw [← HFS.out] at this; exact this⟩
    have x0 : wc.cell? ⟨gk, 0, none⟩ = some (.slice (some ⟨kb, 0, none⟩) 64 kc) := (blk_cell HKQ.out 0).trans rfl
    go_upto_region 6 with (first | ((with_reducible refine gate_builtin (b := .copy) (xs := #[.tmp 16, .tmp 17]) rfl ?_); refine Kd.R_copy (enc := Value.int .u8) (h1 := fun _ => rfl) (0 : Int) B rfl (.tmp 16) (.tmp 17) 22 22 5 rfl Tryd.underlying22 (by kernel_rfl) (.slice (some ⟨kb, 0, none⟩) 64 kc) (List.replicate 64 0) (hmKey key) _ _ _ (fun _ => True) rfl rfl HO.out HCC.out (Below.refl _ _) HBSz.out ?_; intro w9 ho hb hg; rw [← HCC.out.1, hk_copy _ HKL.out] at ho; have HO4 := Aside0.mk ho; have HB4 := Aside0.mk (Below.trans HB.out hb); have HG9 := Aside0.mk hg; clear ho hb hg))
    have hO4 : Kd.R (Kd.int .u8) 5 w9 B (fun _ => True) (.slice (some ⟨kb, 0, none⟩) 64 kc) (hmKey key ++ List.replicate (64 - (hmKey key).length) 0) := HO4.out
    have hn4 := (Kd.R_reads' hO4).1
    have hKQ4 : w9.heap[gk]? = some (Obj.cells #[.slice (some ⟨kb, 0, none⟩) 64 kc] 22 (0, 0)) := (HG9.out.block gk (blk_lt HKQ.out) (fun e => by simp only [Value.ownBlock] at e; injection e with e; exact Nat.ne_of_gt HKL1.out e)).trans HKQ.out
    have hC4 : ∀ j, j < 64 → w9.cell? ⟨kb, j, none⟩ = some (.int .u8 (rdN (hmKey key) j)) := fun j hj => by
      obtain ⟨ad, e0, hx⟩ := Kd.at_int (Kd.R_reads' hO4).2.2 (j : Int) (Int.natCast_nonneg _) (by rw [← hn4]; exact Int.ofNat_lt.mpr hj)
      cases e0
      have hrd : rd (hmKey key ++ List.replicate (64 - (hmKey key).length) 0) (j : Int) = rdN (hmKey key ++ List.replicate (64 - (hmKey key).length) 0) j := by simp [rd, rdN]
      rw [hrd, hk_at, Int.toNat_natCast, add_plain] at hx
      exact hx
    have HK4 : Aside0 (∀ W, Below w9.heap.size w9 W → W.cell? ⟨gk, 0, none⟩ = some (.slice (some ⟨kb, 0, none⟩) 64 kc) ∧ ∀ j, j < 64 → W.cell? ⟨kb, j, none⟩ = some (.int .u8 (rdN (hmKey key) j))) := ⟨fun W hb => ⟨(blk_cell (blk_below hKQ4 hb) 0).trans rfl, fun j hj => (hb.cell (World.block_lt_of_cell? w9 _ (hC4 j hj))).trans (hC4 j hj)⟩⟩
    have HS9 : Aside0 (B ≤ w9.heap.size) := ⟨by have := HB4.out.size; rw [← HFS.out] at this; exact this⟩
    have HLP : Aside0 (((padN (hmKey key) 54 64).length + b.length) * 1 ≤ 140737488355328) := ⟨by rw [padN_len]; have := HNB.out; omega⟩
    have HN1 : Aside0 ((padN (hmKey key) 54 64 ++ b).length ≤ 2097152) := ⟨by rw [List.length_append, padN_len]; have := HNB.out; omega⟩
    clear hO4 hn4 hKQ4 hC4 HO4 HG9 HO HB HCC HKQ HBSz x0
    obtain ⟨sv, hsv⟩ : ∃ sv, sv = sha (padN (hmKey key) 54 64 ++ b) := ⟨_, rfl⟩
    have hl32 : sv.length = 32 := by rw [hsv]; exact sha_len _
    have HL := Aside0.mk hl32
    have HSV := Aside0.mk hsv
    obtain ⟨S2, hS⟩ : ∃ S, S = (sv.map (Value.int .u8)).toArray := ⟨_, rfl⟩
    have hsz : (Tryd.prog.info? 23).map (·.size) = some S2.size := by rw [hS, List.size_toArray, List.length_map, hl32]; kernel_rfl
    have hold : (Array.replicate 32 (Value.int IntKind.u8 0)).size = S2.size := by rw [hS]; show 32 = _; rw [List.size_toArray, List.length_map, hl32]
    have hone : S2.all (·.oneCell') = true := by rw [hS]; exact oneInts .u8 sv
    replace hsz := Aside0.mk hsz
    replace hold := Aside0.mk hold
    replace hone := Aside0.mk hone
    replace hS := Aside0.mk hS
    clear hl32 hsv
    go_upto_region 7 with fail
    go_upto_region 8 with (first | (go_at_call 37; refine (xHPad.calls 54 gk kb kc (hmKey key) w9 (HK4.out w9 (Below.refl _ _)).1 (HK4.out w9 (Below.refl _ _)).2).mono ?_; rintro e w11 ⟨v11, rfl, hr, hb⟩; have HR1 := Aside0.mk hr; have HB5 := Aside0.mk hb; clear hr hb) | ((with_reducible refine gate_builtin (b := .append) (xs := #[.tmp 21, .tmp 22]) rfl ?_); at_builtin; refine Kd.R_append_rows (Kd.int .u8) (w0 := w11) w9.heap.size rfl (.tmp 21) (.tmp 22) 22 5 (.int .u8 0) 1 rfl Tryd.underlying22 (by kernel_rfl) rfl (by decide) (by decide) v11 (padN (hmKey key) 54 64) b _ _ _ (fun _ => True) (fun _ => False) rfl rfl ?aO ?aR (fun _ _ h => h) (fun _ h => h.elim) ?aF ?aB ?aS ?aL ?_; (case aO => exact HR1.out); (case aR => exact Kd.C_below (Kd.C_below HBz.out (HFB.out _ HB4.out)) HB5.out); (case aF => exact (fun _ _ => trivial)); (case aB => exact Below.refl _ _); (case aS => exact HB5.out.size); (case aL => exact HLP.out); intro v12 w12 ho hb hg hat; obtain ⟨A12, c12, e12⟩ := Kd.R_slice ho; subst e12; have HR2 := Aside0.mk ho; have HB6 := Aside0.mk (Below.trans HB5.out hb); clear ho hb hg hat HR1 HB5) | ((with_reducible refine gate_callee (f := 9) rfl ?_); refine goesL_ (some 24) rfl rfl Tryd.func9 (by kernel_rfl) rfl #[.slice A12 (padN (hmKey key) 54 64 ++ b).length c12] rfl (by (try simp only [List.map_toArray, List.map_cons, List.map_nil]); first | done | rfl) ?_; (with_reducible refine (impl_Sha256.calls _ _ (padN (hmKey key) 54 64 ++ b) _ (Kd.R_reads' HR2.out).2.2 (Kd.R_reads' HR2.out).2.1 HN1.out (GlobK.below (GlobK.below HGz.out (HFB.out _ HB4.out)) HB6.out)).mono ?_); rintro e w13 ⟨rfl, hb⟩; refine ⟨_, rfl, ?_⟩; rw [← HSV.out, ← hS.out]; have HB7 := Aside0.mk (below_step HB6.out hb); clear HB6 HR2 hb) | ((with_reducible refine gate_storeT (ty := 23) rfl ?_); refine wpList_store_row rfl 23 (.tmp 8) (.tmp 24) rfl w13.heap.size S2 rfl rfl 23 _ (blk_new w13 _) hsz.out hold.out hone.out ?_))
    have hq1 := setRow_heap (w13.alloc (Obj.cells (Array.replicate 32 (Value.int IntKind.u8 0)) 23)) w13.heap.size _ S2 _ _ (blk_new w13 _)
    have hd1 : Below w13.heap.size w13 ((w13.alloc (Obj.cells (Array.replicate 32 (Value.int IntKind.u8 0)) 23)).setRow w13.heap.size S2) := xbelow_setRow (below_alloc (Below.refl _ _) _) (Nat.le_refl _) S2
    refine (show ∀ W2, W2 = (w13.alloc (Obj.cells (Array.replicate 32 (Value.int IntKind.u8 0)) 23)).setRow w13.heap.size S2 → Code.wp _ _ _ _ W2 from fun w14 hW2 => ?_) _ rfl
    rw [← hW2] at hq1 hd1
    clear hW2
    have HA8 : Aside0 (ArrI .u8 w14.drew w13.heap.size 23 sv) := ⟨ArrI.drew (by unfold ArrI; rw [← hS.out]; exact hq1)⟩
    have HB8 : Aside0 (Below w9.heap.size w9 w14.drew) := ⟨below_drew (below_step HB7.out hd1)⟩
    clear hq1 hd1 HB7 hsz hold hone hS
    generalize hg8 : w13.heap.size = g8 at *
    clear hg8 w13
    have HLP2 : Aside0 (((padN (hmKey key) 92 64).length + 32) * 1 ≤ 140737488355328) := ⟨by rw [padN_len]; decide⟩
    have HN2 : Aside0 ((padN (hmKey key) 92 64 ++ sv).length ≤ 2097152) := ⟨by rw [List.length_append, padN_len, HL.out]; decide⟩
    have HE : Aside0 (sha (padN (hmKey key) 92 64 ++ sv) = hmac key b) := ⟨by rw [HSV.out]; rfl⟩
    obtain ⟨R, hR⟩ : ∃ S, S = ((sha (padN (hmKey key) 92 64 ++ sv)).map (Value.int .u8)).toArray := ⟨_, rfl⟩
    have hl7 := sha_len (padN (hmKey key) 92 64 ++ sv)
    have hsz7 : (Tryd.prog.info? 23).map (·.size) = some R.size := by rw [hR, List.size_toArray, List.length_map, hl7]; kernel_rfl
    have hold7 : ((List.replicate 32 (0 : Int)).map (Value.int .u8)).toArray.size = R.size := by rw [hR]; show 32 = _; rw [List.size_toArray, List.length_map, hl7]
    have hone7 : R.all (·.oneCell') = true := by rw [hR]; exact oneInts .u8 _
    replace hsz7 := Aside0.mk hsz7
    replace hold7 := Aside0.mk hold7
    replace hone7 := Aside0.mk hone7
    replace hR := Aside0.mk hR
    clear hl7
    have hcl := HK4.out w14.drew HB8.out
    have hcg := GlobK.below (GlobK.below HGz.out (HFB.out _ HB4.out)) HB8.out
    refine start_ (n := 6) (S := fun w' => True) (ds := []) #[false, false, false, false, false, false] (by kernel_rfl) rfl rfl trivial (fun hHeld => ?_)
    refine pure_ (i := 0) (N := some 25) (v := ?_) (a' := ?_) #[true, false, false, false, false, false] rfl rfl (by kernel_rfl) (fun _ _ _ h => h) (Or.inl ⟨by rfl, ?_⟩) ?_ ?_
    rotate_left
    · intro w'
      go_simp
      with_reducible rfl
    rotate_left
    · simp only [Act.put, List.setIfInBounds_toArray, List.set_cons_zero, List.set_cons_succ, i64_w, i32_w]
      rfl
    refine pure_ (i := 2) (N := some 27) (v := ?_) (a' := ?_) #[true, false, true, false, false, false] rfl rfl (by kernel_rfl) (fun _ _ _ h => h) (Or.inl ⟨by rfl, ?_⟩) ?_ ?_
    rotate_left
    · intro w'
      go_simp
      with_reducible rfl
    rotate_left
    · simp only [Act.put, List.setIfInBounds_toArray, List.set_cons_zero, List.set_cons_succ, i64_w, i32_w]
      rfl
    refine one_ (i := 1) (N := some 26) #[true, true, true, false, false, false] rfl rfl (by kernel_rfl) (by decide) (fun K hK => ?_)
    refine goesC_ (.pointer (some ⟨gk, 0, none⟩)) Tryd.func37 (by kernel_rfl) rfl #[.int .u8 92] #[.int .u8 92, .pointer (some ⟨gk, 0, none⟩)] (by rfl) rfl rfl rfl (by simp only [List.map_toArray, List.map_cons, List.map_nil]; rfl) rfl ?_
    refine (xHPad.calls 92 gk kb kc (hmKey key) w14.drew hcl.1 hcl.2).mono ?_
    rintro e w15 ⟨v15, rfl, hr15, hb15⟩
    refine ⟨_, rfl, ?_⟩
    refine hK.out _ _ trivial (fun hHeld => ?_)
    clear hK K
    refine norm_ (a' := ?_) ?_ ?_
    rotate_left
    · show Act.put _ (some 26) _ = _
      simp only [Act.put, List.setIfInBounds_toArray, List.set_cons_zero, List.set_cons_succ, i64_w, i32_w]
      rfl
    refine one_ (i := 3) (N := some 28) #[true, true, true, true, false, false] rfl rfl (by kernel_rfl) (by decide) (fun K hK => ?_)
    have hA9 := arr_C (ArrI.below HA8.out hb15) (by rw [HL.out]; decide)
    rw [HL.out] at hA9
    refine Kd.R_append_rows_step (Kd.int .u8) (w0 := w15) w14.drew.heap.size (by rfl) (.tmp 26) (.tmp 27) 22 5 (.int .u8 0) 1 rfl Tryd.underlying22 (by kernel_rfl) rfl (by decide) (by decide) v15 (padN (hmKey key) 92 64) sv (some ⟨g8, 0, none⟩) 32 32 (fun _ => True) (fun _ => False) rfl rfl hr15 hA9 (fun _ _ h => h) (fun _ h => h.elim) (fun _ _ => trivial) (Below.refl _ _) hb15.size HLP2.out ?_
    intro v16 w16 ho16 hb16 hg16 hat16
    obtain ⟨A16, c16, e16⟩ := Kd.R_slice ho16
    subst e16
    have hb17 := Below.trans hb15 hb16
    refine hK.out _ _ trivial (fun hHeld => ?_)
    clear hK K
    refine norm_ (a' := ?_) ?_ ?_
    rotate_left
    · show Act.put _ (some 28) _ = _
      simp only [Act.put, List.setIfInBounds_toArray, List.set_cons_zero, List.set_cons_succ, i64_w, i32_w]
      rfl
    refine one_ (i := 4) (N := some 29) #[true, true, true, true, true, false] rfl rfl (by kernel_rfl) (by decide) (fun K hK => ?_)
    refine goes_ Tryd.func9 (by kernel_rfl) rfl #[.slice A16 (padN (hmKey key) 92 64 ++ sv).length c16] (by rfl) rfl rfl (by simp only [List.map_toArray, List.map_cons, List.map_nil]; rfl) ?_
    with_reducible refine (impl_Sha256.calls A16 c16 (padN (hmKey key) 92 64 ++ sv) w16 (Kd.R_reads' ho16).2.2 (Kd.R_reads' ho16).2.1 HN2.out (GlobK.below hcg hb17)).mono ?_
    rintro e w18 ⟨rfl, hb18⟩
    refine ⟨_, rfl, ?_⟩
    rw [← hR.out]
    have HB9 := Aside0.mk (below_step (below_step HB8.out hb17) hb18)
    have HZ9 := Aside0.mk (Below.trans HB4.out (HB9.out.mono HS9.out))
    have hZr : ArrI .u8 w18 w.heap.size 23 (List.replicate 32 0) := (HZ9.out.block _ hZL.out).trans hZ.out
    refine hK.out _ _ trivial (fun hHeld => ?_)
    clear hK K
    refine norm_ (a' := ?_) ?_ ?_
    rotate_left
    · show Act.put _ (some 29) _ = _
      simp only [Act.put, List.setIfInBounds_toArray, List.set_cons_zero, List.set_cons_succ, i64_w, i32_w]
      rfl
    refine one_ (i := 5) (N := none) #[true, true, true, true, true, true] rfl rfl (by kernel_rfl) (by decide) (fun K hK => ?_)
    refine storeRow_ (by rfl) 23 (.tmp 4) (.tmp 29) rfl w.heap.size R rfl rfl 23 _ hZr hsz7.out hold7.out hone7.out ?_
    refine hK.out _ _ trivial (fun hHeld => ?_)
    clear hK K
    refine done_ (by kernel_rfl) ?_

    go_wp2
    have hq : (w18.setRow w.heap.size R).heap[w.heap.size]? = some (Obj.cells R 23 (0, 0)) := setRow_heap w18 w.heap.size _ _ _ _ hZr
    have hB7 := xbelow_setRow (Below.trans hBz.out (HZ9.out.mono (Nat.le_of_lt hZL.out))) (Nat.le_refl _) R
    generalize w18.setRow w.heap.size R = w5 at *
    have l1 := run_loadVar_row (P := Tryd.prog) w5 w.heap.size 23 23 _ _ _ hq Tryd.underlying23 rfl hsz7.out
    exact bodyPost_cell Tryd.results13 rfl l1 rfl ⟨by rw [hR.out, HE.out], hB7⟩

end Go.Proofs.YtlopdegnpbokjaaDoor.F
namespace Go.Proofs.YtlopdegnpbokjaaDoor.F
open Go Go.Shelf Go.RowKit Go.Proofs.YtlopdegnpbokjaaDoorW.PrintWords Go.Proofs.YtlopdegnpbokjaaDoorW.PrintLast Go.Proofs.YtlopdegnpbokjaaDoorW.PrintMore
attribute [local go_sem] max2_int min2_int max_two min_two max_three min_three max_four min_four   -- for this text's walks alone
set_option linter.unusedVariables false
set_option linter.unusedSimpArgs false

/-! ### laws_FnExactHmac: function 4 -/
set_option maxHeartbeats 8000000 in
set_option maxRecDepth 100000 in
theorem laws_FnExactHmac.calls (k : Nat) (Ak : Option Addr) (ck : Nat) (key : List Int) (Ab : Option Addr) (cb : Nat) (b : List Int) (w : World) (hrk : Kd.C (Kd.int .u8) w Ak key.length key) (hck : key.length ≤ ck) (hrb : Kd.C (Kd.int .u8) w Ab b.length b) (hcb : b.length ≤ cb) (hrg : ∀ x ∈ key, 0 ≤ x ∧ x < 256) (hG : GlobK w)
    (ht : ∀ l : List Int, l.length ≤ 1048576 → laws_toByteS.f k l = some l) (he : ∀ l : List Int, l.length ≤ 1048576 → laws_eqByteS.f k l l = some true) :
    Calls Tryd.prog 4 #[.slice Ak key.length ck, .slice Ab b.length cb] w fun e w' => e = .returned (.bool true) ∧ Below w.heap.size w w' := by
  have HRK := Aside0.mk hrk
  have HCK := Aside0.mk hck
  have HRB := Aside0.mk hrb
  have HCB := Aside0.mk hcb
  have HG0 := Aside0.mk hG
  have HRG := Aside0.mk hrg
  clear hrk hck hrb hcb hG hrg
  by_cases hn : 1048576 < key.length
  · have l11 : ((key.length : Int) > 1048576) = True := eq_true (by omega)
    have l12 : decide ((1048576 : Int) < (key.length : Int)) = true := decide_eq_true (by omega)
    have l13 : decide ((key.length : Int) > 1048576) = true := decide_eq_true (by omega)
    go_enter Tryd.func4, Tryd.ntmps4
    go_wp2
    go_ret
    exact ⟨rfl, Below.refl _ _⟩
  by_cases hm : 1048576 < b.length
  · have l11 : ((key.length : Int) > 1048576) = False := eq_false (by omega)
    have l12 : decide ((1048576 : Int) < (key.length : Int)) = false := decide_eq_false (by omega)
    have l13 : decide ((key.length : Int) > 1048576) = false := decide_eq_false (by omega)
    have l21 : ((b.length : Int) > 1048576) = True := eq_true (by omega)
    have l22 : decide ((1048576 : Int) < (b.length : Int)) = true := decide_eq_true (by omega)
    have l23 : decide ((b.length : Int) > 1048576) = true := decide_eq_true (by omega)
    go_enter Tryd.func4, Tryd.ntmps4
    go_wp2
    go_ret
    exact ⟨rfl, Below.refl _ _⟩
  · have HNK := Aside0.mk (show key.length ≤ 1048576 by omega)
    have HNB := Aside0.mk (show b.length ≤ 1048576 by omega)
    have HTK := Aside0.mk (ht key HNK.out)
    have HTB := Aside0.mk (ht b HNB.out)
    have HEK := Aside0.mk (he key HNK.out)
    have HEB := Aside0.mk (he b HNB.out)
    have l11 : ((key.length : Int) > 1048576) = False := eq_false (by omega)
    have l12 : decide ((1048576 : Int) < (key.length : Int)) = false := decide_eq_false (by omega)
    have l13 : decide ((key.length : Int) > 1048576) = false := decide_eq_false (by omega)
    have l21 : ((b.length : Int) > 1048576) = False := eq_false (by omega)
    have l22 : decide ((1048576 : Int) < (b.length : Int)) = false := decide_eq_false (by omega)
    have l23 : decide ((b.length : Int) > 1048576) = false := decide_eq_false (by omega)
    clear ht he hn hm
    obtain ⟨sv, hsv⟩ : ∃ sv, sv = hmac key b := ⟨_, rfl⟩
    have hl32 : sv.length = 32 := by rw [hsv]; exact hmac_len key b
    have HL := Aside0.mk hl32
    have HSV := Aside0.mk hsv
    obtain ⟨S, hS⟩ : ∃ S, S = (sv.map (Value.int .u8)).toArray := ⟨_, rfl⟩
    have hsz : (Tryd.prog.info? 23).map (·.size) = some S.size := by rw [hS, List.size_toArray, List.length_map, hl32]; kernel_rfl
    have hold : (Array.replicate 32 (Value.int IntKind.u8 0)).size = S.size := by rw [hS]; show 32 = _; rw [List.size_toArray, List.length_map, hl32]
    have hone : S.all (·.oneCell') = true := by rw [hS]; exact oneInts .u8 sv
    replace hsz := Aside0.mk hsz
    replace hold := Aside0.mk hold
    replace hone := Aside0.mk hone
    replace hS := Aside0.mk hS
    clear hl32 hsv
    have HB0 := Aside0.mk (Below.refl w.heap.size w)
    go_enter Tryd.func4, Tryd.ntmps4
    go_upto_region 6 with (first | ((with_reducible refine gate_callee (f := 8) rfl ?_); refine goesL_ (some 16) rfl rfl Tryd.func8 (by kernel_rfl) rfl #[.slice Ak key.length ck] rfl (by (try simp only [List.map_toArray, List.map_cons, List.map_nil]); first | done | rfl) ?_; (with_reducible refine (laws_toByteS.calls k _ _ key key _ (Kd.C_below HRK.out HB0.out) HCK.out HTK.out).mono ?_); rintro e w8 ⟨v1, rfl, ho, hb⟩; refine ⟨_, rfl, ?_⟩; obtain ⟨A1, c1, e1⟩ := Kd.R_slice ho; subst e1; have HK1 := Aside0.mk ho; have HB1 := Aside0.mk (below_step HB0.out hb); clear ho hb HB0) | ((with_reducible refine gate_callee (f := 8) rfl ?_); refine goesL_ (some 18) rfl rfl Tryd.func8 (by kernel_rfl) rfl #[.slice Ab b.length cb] rfl (by (try simp only [List.map_toArray, List.map_cons, List.map_nil]); first | done | rfl) ?_; (with_reducible refine (laws_toByteS.calls k _ _ b b _ (Kd.C_below HRB.out HB1.out) HCB.out HTB.out).mono ?_); rintro e w9 ⟨v1, rfl, ho, hb⟩; refine ⟨_, rfl, ?_⟩; obtain ⟨A2, c2, e1⟩ := Kd.R_slice ho; subst e1; have HV2 := Aside0.mk ho; have HB2 := Aside0.mk (below_step HB1.out hb); have HK2 := Aside0.mk (Kd.R_below HK1.out hb); clear ho hb HB1 HK1) | ((with_reducible refine gate_callee (f := 12) rfl ?_); refine goesL_ (some 19) rfl rfl Tryd.func12 (by kernel_rfl) rfl #[.slice A1 key.length c1, .slice A2 b.length c2] rfl (by (try simp only [List.map_toArray, List.map_cons, List.map_nil]); first | done | rfl) ?_; (with_reducible refine (spec_Hmac.calls _ _ key _ _ b _ (Kd.R_reads' HK2.out).2.2 (Kd.R_reads' HK2.out).2.1 (Kd.R_reads' HV2.out).2.2 (Kd.R_reads' HV2.out).2.1 HRG.out HNK.out HNB.out).mono ?_); rintro e w10 ⟨rfl, hb⟩; refine ⟨_, rfl, ?_⟩; rw [← HSV.out, ← hS.out]; have HB3 := Aside0.mk (below_step HB2.out hb); clear HB2 HK2 HV2 hb) | ((with_reducible refine gate_storeT (ty := 23) rfl ?_); refine wpList_store_row rfl 23 (.tmp 5) (.tmp 19) rfl w10.heap.size S rfl rfl 23 _ (blk_new w10 _) hsz.out hold.out hone.out ?_))
    have hq1 := setRow_heap (w10.alloc (Obj.cells (Array.replicate 32 (Value.int IntKind.u8 0)) 23)) w10.heap.size _ S _ _ (blk_new w10 _)
    have hb1 : Below w.heap.size w ((w10.alloc (Obj.cells (Array.replicate 32 (Value.int IntKind.u8 0)) 23)).setRow w10.heap.size S) := xbelow_setRow (below_alloc HB3.out _) (below_size HB3.out) S
    have hd1 : Below w10.heap.size w10 ((w10.alloc (Obj.cells (Array.replicate 32 (Value.int IntKind.u8 0)) 23)).setRow w10.heap.size S) := xbelow_setRow (below_alloc (Below.refl _ _) _) (Nat.le_refl _) S
    refine (show ∀ W2, W2 = (w10.alloc (Obj.cells (Array.replicate 32 (Value.int IntKind.u8 0)) 23)).setRow w10.heap.size S → Code.wp _ _ _ _ W2 from fun W2 hW2 => ?_) _ rfl
    rw [← hW2] at hq1 hb1 hd1
    clear hW2
    have BK1 : Aside0 (ArrI .u8 W2 w10.heap.size 23 sv) := ⟨by unfold ArrI; rw [← hS.out]; exact hq1⟩
    have HB4 := Aside0.mk hb1
    clear hq1 hb1 hd1 HB3
    generalize hg1 : w10.heap.size = g1 at *
    clear hg1 w10
    go_upto_region 7 with (first | ((with_reducible refine gate_callee (f := 8) rfl ?_); refine goesL_ (some 21) rfl rfl Tryd.func8 (by kernel_rfl) rfl #[.slice Ak key.length ck] rfl (by (try simp only [List.map_toArray, List.map_cons, List.map_nil]); first | done | rfl) ?_; (with_reducible refine (laws_toByteS.calls k _ _ key key _ (Kd.C_below HRK.out HB4.out) HCK.out HTK.out).mono ?_); rintro e w11 ⟨v1, rfl, ho, hb⟩; refine ⟨_, rfl, ?_⟩; obtain ⟨A3, c3, e1⟩ := Kd.R_slice ho; subst e1; have HX1 := Aside0.mk ho; have HB5 := Aside0.mk (below_step HB4.out hb); have BK2 := Aside0.mk (ArrI.below BK1.out hb); clear ho hb HB4 BK1))
    go_upto_region 8 with (first | ((with_reducible refine gate_callee (f := 8) rfl ?_); refine goesL_ (some 23) rfl rfl Tryd.func8 (by kernel_rfl) rfl #[.slice Ab b.length cb] rfl (by (try simp only [List.map_toArray, List.map_cons, List.map_nil]); first | done | rfl) ?_; (with_reducible refine (laws_toByteS.calls k _ _ b b _ (Kd.C_below HRB.out HB5.out) HCB.out HTB.out).mono ?_); rintro e w12 ⟨v1, rfl, ho, hb⟩; refine ⟨_, rfl, ?_⟩; obtain ⟨A4, c4, e1⟩ := Kd.R_slice ho; subst e1; have HY2 := Aside0.mk ho; have HB6 := Aside0.mk (below_step HB5.out hb); have BK3 := Aside0.mk (ArrI.below BK2.out hb); have HX2 := Aside0.mk (Kd.R_below HX1.out hb); clear ho hb HB5 BK2 HX1))
    go_upto_region 9 with (first | ((with_reducible refine gate_callee (f := 13) rfl ?_); refine goesL_ (some 26) rfl rfl Tryd.func13 (by kernel_rfl) rfl #[.slice A3 key.length c3, .slice A4 b.length c4] rfl (by (try simp only [List.map_toArray, List.map_cons, List.map_nil]); first | done | rfl) ?_; (with_reducible refine (impl_Hmac.calls _ _ key _ _ b _ (Kd.R_reads' HX2.out).2.2 (Kd.R_reads' HX2.out).2.1 (Kd.R_reads' HY2.out).2.2 (Kd.R_reads' HY2.out).2.1 HNK.out HNB.out (GlobK.below HG0.out HB6.out)).mono ?_); rintro e w14 ⟨rfl, hb⟩; refine ⟨_, rfl, ?_⟩; rw [← HSV.out, ← hS.out]; have HB7 := Aside0.mk (below_step HB6.out hb); have HX4 := Aside0.mk (Kd.R_below HX2.out hb); have HY4 := Aside0.mk (Kd.R_below HY2.out hb); have BK4 := Aside0.mk (ArrI.below BK3.out hb); clear HB6 HX2 HY2 BK3 hb) | ((with_reducible refine gate_storeT (ty := 23) rfl ?_); refine wpList_store_row rfl 23 (.tmp 8) (.tmp 26) rfl w14.heap.size S rfl rfl 23 _ (blk_new w14 _) hsz.out hold.out hone.out ?_))
    have hq2 := setRow_heap (w14.alloc (Obj.cells (Array.replicate 32 (Value.int IntKind.u8 0)) 23)) w14.heap.size _ S _ _ (blk_new w14 _)
    have hb2 : Below w.heap.size w ((w14.alloc (Obj.cells (Array.replicate 32 (Value.int IntKind.u8 0)) 23)).setRow w14.heap.size S) := xbelow_setRow (below_alloc HB7.out _) (below_size HB7.out) S
    have hd2 : Below w14.heap.size w14 ((w14.alloc (Obj.cells (Array.replicate 32 (Value.int IntKind.u8 0)) 23)).setRow w14.heap.size S) := xbelow_setRow (below_alloc (Below.refl _ _) _) (Nat.le_refl _) S
    refine (show ∀ W2, W2 = (w14.alloc (Obj.cells (Array.replicate 32 (Value.int IntKind.u8 0)) 23)).setRow w14.heap.size S → Code.wp _ _ _ _ W2 from fun W3 hW2 => ?_) _ rfl
    rw [← hW2] at hq2 hb2 hd2
    clear hW2
    have BK5 : Aside0 (ArrI .u8 W3 w14.heap.size 23 sv) := ⟨by unfold ArrI; rw [← hS.out]; exact hq2⟩
    have BK6 := Aside0.mk (ArrI.below BK4.out hd2)
    have HX6 := Aside0.mk (Kd.R_below HX4.out hd2)
    have HY6 := Aside0.mk (Kd.R_below HY4.out hd2)
    have HB8 := Aside0.mk hb2
    clear hq2 hb2 hd2 HB7 HX4 HY4 BK4
    generalize hg2 : w14.heap.size = g2 at *
    clear hg2 w14
    have hq5 : W3.heap[g2]? = some (Obj.cells S 23 (0, 0)) := by have := BK5.out; unfold ArrI at this; rw [hS.out]; exact this
    have hq6 : W3.heap[g1]? = some (Obj.cells S 23 (0, 0)) := by have := BK6.out; unfold ArrI at this; rw [hS.out]; exact this
    go_upto_region 11 with (first | ((with_reducible refine gate_dst (N := 27) rfl ?_); refine wpList_load_row rfl 23 (.tmp 8) rfl g2 rfl 23 S (0, 0) _ hq5 Tryd.underlying23 rfl hsz.out ?_) | ((with_reducible refine gate_dst (N := 28) rfl ?_); refine wpList_load_row rfl 23 (.tmp 5) rfl g1 rfl 23 S (0, 0) _ hq6 Tryd.underlying23 rfl hsz.out ?_) | ((with_reducible refine gate_callee (f := 10) rfl ?_); refine goesL_ (some 29) rfl rfl Tryd.func10 (by kernel_rfl) rfl #[.agg S, .agg S] rfl (by (try simp only [List.map_toArray, List.map_cons, List.map_nil]); first | done | rfl) ?_; rw [hS.out]; (with_reducible refine (laws_eqByteA32.calls sv HL.out _).mono ?_); rintro e w16 ⟨rfl, hb⟩; refine ⟨_, rfl, ?_⟩; rw [← hS.out]; have HB9 := Aside0.mk (below_step HB8.out hb); have HX7 := Aside0.mk (Kd.R_below HX6.out hb); have HY7 := Aside0.mk (Kd.R_below HY6.out hb); clear HB8 HX6 HY6 hb hq5 hq6))
    go_upto_region 13 with (first | ((with_reducible refine gate_callee (f := 8) rfl ?_); refine goesL_ (some 33) rfl rfl Tryd.func8 (by kernel_rfl) rfl #[.slice Ak key.length ck] rfl (by (try simp only [List.map_toArray, List.map_cons, List.map_nil]); first | done | rfl) ?_; (with_reducible refine (laws_toByteS.calls k _ _ key key _ (Kd.C_below HRK.out HB9.out) HCK.out HTK.out).mono ?_); rintro e w18 ⟨v1, rfl, ho, hb⟩; refine ⟨_, rfl, ?_⟩; obtain ⟨A5, c5, e1⟩ := Kd.R_slice ho; subst e1; have HZ8 := Aside0.mk ho; have HB10 := Aside0.mk (below_step HB9.out hb); have HX8 := Aside0.mk (Kd.R_below HX7.out hb); have HY8 := Aside0.mk (Kd.R_below HY7.out hb); clear ho hb HB9 HX7 HY7) | ((with_reducible refine gate_callee (f := 11) rfl ?_); refine goesL_ (some 34) rfl rfl Tryd.func11 (by kernel_rfl) rfl #[.slice A3 key.length c3, .slice A5 key.length c5] rfl (by (try simp only [List.map_toArray, List.map_cons, List.map_nil]); first | done | rfl) ?_; (with_reducible refine (laws_eqByteS.calls k _ _ key _ _ key true _ (Kd.R_reads' HX8.out).2.2 (Kd.R_reads' HX8.out).2.1 (Kd.R_reads' HZ8.out).2.2 (Kd.R_reads' HZ8.out).2.1 HEK.out).mono ?_); rintro e w20 ⟨rfl, ⟨⟨n_, rfl⟩⟩⟩; refine ⟨_, rfl, ?_⟩; have HB11 := Aside0.mk (pw_below_drewN HB10.out n_); have HY9 := Aside0.mk (Kd.R_drewN HY8.out n_); clear HB10 HX8 HZ8 HY8))
    go_wp2_with (first | ((with_reducible refine gate_callee (f := 8) rfl ?_); refine goesL_ (some 38) rfl rfl Tryd.func8 (by kernel_rfl) rfl #[.slice Ab b.length cb] rfl (by (try simp only [List.map_toArray, List.map_cons, List.map_nil]); first | done | rfl) ?_; (with_reducible refine (laws_toByteS.calls k _ _ b b _ (Kd.C_below HRB.out HB11.out) HCB.out HTB.out).mono ?_); rintro e w22 ⟨v1, rfl, ho, hb⟩; refine ⟨_, rfl, ?_⟩; obtain ⟨A6, c6, e1⟩ := Kd.R_slice ho; subst e1; have HZ9 := Aside0.mk ho; have HB12 := Aside0.mk (below_step HB11.out hb); have HY10 := Aside0.mk (Kd.R_below HY9.out hb); clear ho hb HB11 HY9) | ((with_reducible refine gate_callee (f := 11) rfl ?_); refine goesL_ (some 39) rfl rfl Tryd.func11 (by kernel_rfl) rfl #[.slice A4 b.length c4, .slice A6 b.length c6] rfl (by (try simp only [List.map_toArray, List.map_cons, List.map_nil]); first | done | rfl) ?_; (with_reducible refine (laws_eqByteS.calls k _ _ b _ _ b true _ (Kd.R_reads' HY10.out).2.2 (Kd.R_reads' HY10.out).2.1 (Kd.R_reads' HZ9.out).2.2 (Kd.R_reads' HZ9.out).2.1 HEB.out).mono ?_); rintro e w24 ⟨rfl, ⟨⟨m_, rfl⟩⟩⟩; refine ⟨_, rfl, ?_⟩; have HB13 := Aside0.mk (pw_below_drewN HB12.out m_); clear HB12 HY10 HZ9))
    go_ret
    exact ⟨rfl, HB13.out⟩

end Go.Proofs.YtlopdegnpbokjaaDoor.F
namespace Go.Proofs.YtlopdegnpbokjaaDoor.Base
open Go.RowKit Go.Proofs.YtlopdegnpbokjaaDoorW.PrintWords Go.Proofs.YtlopdegnpbokjaaDoorW.PrintMore

theorem w64 {x : Int} (h0 : -9223372036854775808 ≤ x) (h1 : x ≤ 9223372036854775807) : wrap64 x = x := by
  unfold wrap64
  omega

def L (s : ByteArray) : List UInt8 := s.data.toList
def B (l : List UInt8) : ByteArray := ⟨l.toArray⟩
theorem L_B (l : List UInt8) : L (B l) = l := by simp [L, B]
theorem B_L (s : ByteArray) : B (L s) = s := by simp [L, B]
theorem L_inj {a b : ByteArray} (h : L a = L b) : a = b := by rw [← B_L a, ← B_L b, h]
theorem L_iff {a b : ByteArray} : L a = L b ↔ a = b := ⟨L_inj, fun h => by rw [h]⟩
theorem size_L (s : ByteArray) : s.size = (L s).length := by simp [L]
theorem toL (s : ByteArray) : s.toList = L s := Lib.toList_data s
theorem L_extract (s : ByteArray) (i j : Nat) : L (s.extract i j) = ((L s).drop i).take (j - i) := by
  simp [L, ByteArray.data_extract]
theorem L_append (a b : ByteArray) : L (a ++ b) = L a ++ L b := by
  simp [L, ByteArray.data_append]
theorem bt_L (s : ByteArray) (i : Int) : bt s i = (((L s).getD i.toNat 0).toNat : Int) := by
  unfold bt
  split
  · rename_i h
    have h' : i.toNat < (L s).length := by rw [← size_L]; exact h
    rw [List.getD_eq_getElem?_getD, List.getElem?_eq_getElem h']
    rfl
  · rename_i h
    have h' : (L s).length ≤ i.toNat := by rw [← size_L]; omega
    rw [List.getD_eq_getElem?_getD, List.getElem?_eq_none h']
    rfl
theorem bt_mid {x : ByteArray} {p : List UInt8} {c : UInt8} {r : List UInt8} (h : L x = p ++ c :: r) {i : Int} (hi : i = (p.length : Int)) : bt x i = (c.toNat : Int) := by
  rw [bt_L, h, hi]
  simp [List.getD_eq_getElem?_getD]
theorem bt_cons {x : ByteArray} {c : UInt8} {r : List UInt8} (h : L x = c :: r) : bt x 0 = (c.toNat : Int) := bt_mid (p := []) h rfl
theorem L_strOfNums (xs : List Int) : L (strOfNums xs) = xs.map fun n => UInt8.ofNat n.toNat := by simp [L, strOfNums]
theorem byte_le (c : UInt8) : (c.toNat : Int) ≤ 255 := by have := c.toNat_lt; omega
theorem byte_id (c : UInt8) : UInt8.ofNat ((c.toNat : Int)).toNat = c := by simp

theorem drop_len {α : Type} (p t : List α) (k : Nat) : (p ++ t).drop (p.length + k) = t.drop k := by
  rw [List.drop_append, List.drop_eq_nil_of_le (by omega), List.nil_append, Nat.add_sub_cancel_left]
theorem getD_len {α : Type} (p t : List α) (k : Nat) (d : α) : (p ++ t).getD (p.length + k) d = t.getD k d := by
  simp [List.getD_eq_getElem?_getD, List.getElem?_append_right]

/-- The labels of a name's bytes; none: they are no name (but for the limit on the whole). -/
def labs : List UInt8 → Option (List ByteArray)
  | [] => none
  | c :: r => if c.toNat = 0 then (if r = [] then some [] else none) else if 63 < c.toNat then none else if r.length < c.toNat then none else (labs (r.drop c.toNat)).map (B (r.take c.toNat) :: ·)
  termination_by l => l.length
  decreasing_by simp; omega

/-- The labels of a name. -/
def names (l : List UInt8) : Option (List ByteArray) := if l.length < 1 ∨ 255 < l.length then none else labs l

/-- What a cut in labels answers that had come to some. -/
def res (acc : List ByteArray) : Option (List ByteArray) → List ByteArray × Bool
  | none => ([], false)
  | some ls => (acc ++ ls, true)
theorem res_map (acc : List ByteArray) (b : ByteArray) (o : Option (List ByteArray)) : res acc (o.map (b :: ·)) = res (acc ++ [b]) o := by
  cases o <;> simp [res]

/-- What the other cut in labels leaves where it fails. -/
def jk (acc : List ByteArray) : List UInt8 → List ByteArray
  | [] => []
  | c :: r => if c.toNat = 0 then acc else if 63 < c.toNat then [] else if r.length < c.toNat then [] else jk (acc ++ [B (r.take c.toNat)]) (r.drop c.toNat)
  termination_by l => l.length
  decreasing_by simp; omega
def res2 (acc : List ByteArray) (l : List UInt8) : List ByteArray × Bool := match labs l with
  | none => (jk acc l, false)
  | some ls => (acc ++ ls, true)
theorem labs_count : ∀ (n : Nat) (l : List UInt8), l.length ≤ n → ∀ ls, labs l = some ls → ls.length + 1 ≤ l.length := by
  intro n
  induction n with
  | zero =>
    intro l hl ls h
    obtain rfl : l = [] := List.length_eq_zero_iff.1 (by omega)
    simp [labs] at h
  | succ n ih =>
    intro l hl ls h
    cases l with
    | nil => simp [labs] at h
    | cons c r =>
      simp only [List.length_cons] at hl ⊢
      rw [labs] at h
      by_cases h0 : c.toNat = 0
      · rw [if_pos h0] at h
        by_cases hr : r = []
        · rw [if_pos hr] at h
          obtain rfl := Option.some.inj h
          simp
        · rw [if_neg hr] at h
          cases h
      · rw [if_neg h0] at h
        by_cases h63 : 63 < c.toNat
        · rw [if_pos h63] at h
          cases h
        · rw [if_neg h63] at h
          by_cases hl2 : r.length < c.toNat
          · rw [if_pos hl2] at h
            cases h
          · rw [if_neg hl2] at h
            obtain ⟨t, ht, rfl⟩ := Option.map_eq_some_iff.1 h
            have := ih (r.drop c.toNat) (by simp; omega) t ht
            simp at this ⊢
            omega
theorem names_count {l : List UInt8} {ls : List ByteArray} (h : names l = some ls) : ls.length ≤ 254 := by
  unfold names at h
  split at h
  · cases h
  · have := labs_count _ l (Nat.le_refl _) ls h
    omega
end Go.Proofs.YtlopdegnpbokjaaDoor.Base
namespace Go.Proofs.YtlopdegnpbokjaaDoor.Pure
open Go.RowKit Go.Proofs.YtlopdegnpbokjaaDoor.F Go.Proofs.YtlopdegnpbokjaaDoor.Base Go.Proofs.YtlopdegnpbokjaaDoorW.PrintWords Go.Proofs.YtlopdegnpbokjaaDoorW.PrintLast Go.Proofs.YtlopdegnpbokjaaDoorW.PrintMore
set_option linter.unusedVariables false
set_option linter.unusedSimpArgs false
theorem laws_eqByteS_l0 (l : List Int) (hl : l.length ≤ 4611686018427387904) : ∀ (d k : Nat) (i : Int), 0 ≤ i → i + d = l.length → d < k → laws_eqByteS.l0 k l l i = some true := by
  intro d
  induction d with
  | zero =>
    intro k i h0 h1 hk
    obtain ⟨k, rfl⟩ : ∃ m, k = m + 1 := ⟨k - 1, by omega⟩
    simp only [laws_eqByteS.l0]
    rw [if_neg (by omega)]
  | succ d ih =>
    intro k i h0 h1 hk
    obtain ⟨k, rfl⟩ : ∃ m, k = m + 1 := ⟨k - 1, by omega⟩
    simp only [laws_eqByteS.l0]
    rw [if_pos (by omega), if_pos h0, if_pos (by omega), if_pos trivial, w64 (by omega) (by omega)]
    exact ih k (i + 1) (by omega) (by omega) (by omega)
theorem laws_eqByteS_refl (l : List Int) (hl : l.length ≤ 4611686018427387904) (k : Nat) (hk : l.length < k) : laws_eqByteS.f k l l = some true := by
  unfold laws_eqByteS.f
  rw [if_pos rfl]
  exact laws_eqByteS_l0 l hl l.length k 0 (by omega) (by omega) hk

end Go.Proofs.YtlopdegnpbokjaaDoor.Pure
namespace Go.Proofs.YtlopdegnpbokjaaDoor.Pure
open Go.RowKit Go.Proofs.YtlopdegnpbokjaaDoor.F Go.Proofs.YtlopdegnpbokjaaDoor.Base Go.Proofs.YtlopdegnpbokjaaDoorW.PrintWords Go.Proofs.YtlopdegnpbokjaaDoorW.PrintLast Go.Proofs.YtlopdegnpbokjaaDoorW.PrintMore
set_option linter.unusedVariables false
set_option linter.unusedSimpArgs false
theorem laws_toByteS_l0 (l : List Int) (hl : l.length ≤ 1000000000) : ∀ (d k i : Nat), i + d = l.length → d < k → laws_toByteS.l0 k l (l.take i ++ List.replicate d 0) (i : Int) = some l := by
  intro d
  induction d with
  | zero =>
    intro k i hi hk
    obtain ⟨k, rfl⟩ : ∃ m, k = m + 1 := ⟨k - 1, by omega⟩
    rw [laws_toByteS.l0, if_neg (by omega)]
    simp only [List.replicate_zero, List.append_nil]
    rw [List.take_of_length_le (by omega)]
  | succ d ih =>
    intro k i hi hk
    obtain ⟨k, rfl⟩ : ∃ m, k = m + 1 := ⟨k - 1, by omega⟩
    have hi' : i < l.length := by omega
    have hel : rd l (i : Int) = l[i] := by simp [rd, List.getD_eq_getElem?_getD, hi']
    rw [laws_toByteS.l0, if_pos (by omega), if_pos (by omega), if_pos (by simp; omega), w64 (by omega) (by omega), hel]
    have e : (l.take i ++ List.replicate (d + 1) (0 : Int)).set (i : Int).toNat l[i] = l.take (i + 1) ++ List.replicate d 0 := by
      rw [Int.toNat_natCast, List.set_append_right _ _ (by simp; omega), List.length_take, Nat.min_eq_left (by omega), Nat.sub_self, List.replicate_succ, List.set_cons_zero, List.take_succ_eq_append_getElem hi', List.append_assoc]
      rfl
    rw [e]
    exact ih k (i + 1) (by omega) (by omega)
theorem laws_toByteS_eq (l : List Int) (hl : l.length ≤ 1000000000) (k : Nat) (hk : l.length < k) : laws_toByteS.f k l = some l := by
  unfold laws_toByteS.f
  rw [if_pos (by omega), if_pos (by omega), Int.toNat_natCast]
  have := laws_toByteS_l0 l hl l.length k 0 (by omega) hk
  simpa using this

end Go.Proofs.YtlopdegnpbokjaaDoor.Pure
namespace Go.Proofs.YtlopdegnpbokjaaDoor.Pure
open Go.RowKit Go.Proofs.YtlopdegnpbokjaaDoor.F Go.Proofs.YtlopdegnpbokjaaDoor.Base Go.Proofs.YtlopdegnpbokjaaDoorW.PrintWords Go.Proofs.YtlopdegnpbokjaaDoorW.PrintLast Go.Proofs.YtlopdegnpbokjaaDoorW.PrintMore
set_option linter.unusedVariables false
set_option linter.unusedSimpArgs false
theorem FnExactHmac (l : List Int) (h : l.length ≤ 1048576) : laws_toByteS.f 1048600 l = some l ∧ laws_eqByteS.f 1048600 l l = some true :=
  ⟨laws_toByteS_eq l (by omega) _ (by omega), laws_eqByteS_refl l (by omega) _ (by omega)⟩

end Go.Proofs.YtlopdegnpbokjaaDoor.Pure
namespace Go.Proofs.YtlopdegnpbokjaaDoor.fnExactHmac
open Go.ChangeShapes Go.WideShapes Go.ChangeAt Go.RowKit Go.Proofs.YtlopdegnpbokjaaDoorW.PrintWords Go.Proofs.YtlopdegnpbokjaaDoor.F
open Go.ChangeMaps (open_string shut_string)
set_option linter.unusedVariables false
theorem laidOut : laidOutB Tryd.prog = true := by kernel_rfl
theorem own : ownKnob Tryd.prog.godebug = none := by kernel_rfl
theorem bytes_of_trod {H : Type} {enc : TypeId × Value → H} {W : World} {sp : Nat → Bool} {hd : Bool} {fuel : Nat} {cs : List Value} {x : DataW H × List MemPlace}
    (h : DataW.trod enc Tryd.prog W 0 sp hd fuel 22 cs = some x) :
    ∃ (A : Option Addr) (cap : Nat) (l : List Int), cs = [.slice A l.length cap] ∧ l.length ≤ cap ∧ l.length ≤ maxLen ∧ Kd.C (Kd.int .u8) W A l.length l ∧ ∀ n ∈ l, (Lit.int .u8 n).wf = true := by
  rcases open_ints Tryd.underlying22 Tryd.underlying5 (by kernel_rfl) h with ⟨hcs, _⟩ | ⟨x, len, c, zs, hcs, _, hl, hm, hz, _, hc, hs⟩
  · exact ⟨none, 0, [], hcs, Nat.le_refl _, Nat.zero_le _, Kd.C_of_reads (d := (0 : Int)) (enc := Value.int .u8) (h1 := fun _ => rfl) ⟨rfl, by simp, (fun h => absurd h (by simp))⟩, fun s hs => by cases hs⟩
  · have hzl : len ≤ zs.length := by rw [hz]; split <;> omega
    have hlen : (zs.take len).length = len := by rw [List.length_take]; omega
    refine ⟨some x, c, zs.take len, by rw [hlen]; exact hcs, by omega, by omega, Kd.C_of_reads (d := (0 : Int)) (enc := Value.int .u8) (h1 := fun _ => rfl) ⟨rfl, by unfold maxLen at hm; omega, fun _ => ⟨x, rfl, fun j hj => ?_⟩⟩, fun s h => hs s (List.mem_of_mem_take h)⟩
    rw [hc j (by omega)]
    have hj2 : j < len := by omega
    simp [List.getD_eq_getElem?_getD, hj2]

set_option maxHeartbeats 4000000 in
set_option maxRecDepth 100000 in
theorem lifted (os : Os) (started : os.Started) (H : Type) (enc : TypeId × Value → H) :
    ReturnsInHanded {} Tryd.checked os 4 .any (fun w args => (Rows.fnExactHmacSpec.pre enc Tryd.prog Tryd.f4 [] false w args ∧ laidMetH Tryd.prog (XGlob.laidF (H := Unit)) w) ∧ sizedMet enc Tryd.prog Tryd.f4 (OpenSpec.ofChange Rows.fnExactHmacSpec) false w args) (Rows.fnExactHmacSpec.post enc Tryd.prog Tryd.f4 false true false false) := by
  refine returnsInHanded_of_change_and (C := Tryd.checked) (X := fun w _ => laidMetH Tryd.prog (XGlob.laidF (H := Unit)) w) (fun _ _ _ hh h => h.of_heap hh) own started (by kernel_rfl) Tryd.func4
    (ChangeSpec.witness_shaped (enc := enc) (C := Tryd.checked) (os := os) (X := fun w _ => laidMetH Tryd.prog (XGlob.laidF (H := Unit)) w) false (World.doorLaid Tryd.prog 84 os) #[.slice none 0 0, .slice none 0 0] 8 rfl (World.shaped_of_RefB (by kernel_rfl) (by kernel_rfl)) (by kernel_rfl) (by kernel_rfl) (by kernel_rfl) (XGlob.door_met os _)) ?_
  intro W base args ds gs before hval0 hW hcnd hsz0 hL _
  have hval : ∀ (j : Nat) t v, Tryd.f4.params[j]? = some t → args[j]? = some v → Value.okWide Tryd.prog W .any base t v := hval0
  have hW' := hW
  obtain ⟨p, q, hA0, hV, rfl, hfz, hnd⟩ := hW
  have hA : DataW.TrodAll enc Tryd.prog W 0 (fun _ => true) true Tryd.f4.params.toList args.toList ds p := hA0
  rw [Tryd.params4] at hA hval
  obtain ⟨v0, vs0, d0, ds0, p0, q0, hargs, rfl, rfl, h0, r0⟩ := trodAll_cons hA
  obtain ⟨v1, vs1, d1, ds1, p1, q1, rfl, rfl, rfl, h1, r1⟩ := trodAll_cons r0
  obtain ⟨rfl, rfl, rfl⟩ := trodAll_nil r1
  obtain rfl : args = #[v0, v1] := by cases args; simp_all
  have hV2 := hV
  obtain ⟨gg, tt, cs, fuel, dg, pg, rfl, hg1, hg2, hg3, hg4, rfl⟩ := trodVars_one hV
  obtain ⟨A0, len0, cap0, rfl⟩ := okWide_slice Tryd.underlying22 (hval 0 22 v0 rfl rfl)
  obtain ⟨A1, len1, cap1, rfl⟩ := okWide_slice Tryd.underlying22 (hval 1 22 v1 rfl rfl)
  have k0 := h0
  have k1 := h1
  have lt1 : ∀ x ∈ p1, x.block < W.heap.size := by obtain ⟨m, hm⟩ := k1; exact DataW.trod_lt m _ _ _ hm
  have lt0 : ∀ x ∈ p0, x.block < W.heap.size := by obtain ⟨m, hm⟩ := k0; exact DataW.trod_lt m _ _ _ hm
  obtain ⟨l, hl1, hl2, hl3, hl4, hl5⟩ : ∃ l : List Int, l.length = len0 ∧ len0 ≤ cap0 ∧ l.length ≤ maxLen ∧ Kd.C (Kd.int .u8) W A0 l.length l ∧ ∀ n ∈ l, 0 ≤ n ∧ n < 256 := by
    obtain ⟨fuel, hf⟩ := h0
    obtain ⟨A, c, l, e, g1, g2, g3, g4⟩ := bytes_of_trod hf
    simp [Value.cells] at e
    obtain ⟨rfl, rfl, rfl⟩ := e
    exact ⟨l, rfl, g1, g2, g3, fun n hn => by have := g4 n hn; simp only [Lit.wf, Bool.and_eq_true, decide_eq_true_eq, show IntKind.u8.min = 0 from rfl, show IntKind.u8.max = 255 from rfl] at this; omega⟩
  obtain ⟨b, hb1, hb2, hb3, hb4⟩ : ∃ l : List Int, l.length = len1 ∧ len1 ≤ cap1 ∧ l.length ≤ maxLen ∧ Kd.C (Kd.int .u8) W A1 l.length l := by
    obtain ⟨fuel, hf⟩ := h1
    obtain ⟨A, c, l, e, g1, g2, g3, _⟩ := bytes_of_trod hf
    simp [Value.cells] at e
    obtain ⟨rfl, rfl, rfl⟩ := e
    exact ⟨l, rfl, g1, g2, g3⟩
  clear hA0 hval0 hsz0
  subst hl1 hb1
  refine (F.laws_FnExactHmac.calls 1048600 A0 cap0 l A1 cap1 b W hl4 hl2 hb4 hb2 hl5 (XGlob.glob_of_laid hL) (fun l h => (Pure.FnExactHmac l h).1) (fun l h => (Pure.FnExactHmac l h).2)).mono fun e W' ⟨he, bel⟩ => ?_
  subst he
  exact ⟨_, rfl, _, _, _, [], _, _, hW', trodAll_mk1 (shut_bool Tryd.underlying4 _), (trodAll_cons_mk (Below.trod laidOut (by kernel_rfl) (of_decide_eq_true (by kernel_rfl)) k0 bel lt0) (trodAll_cons_mk (Below.trod laidOut (by kernel_rfl) (of_decide_eq_true (by kernel_rfl)) k1 bel lt1) trodAll_mk0)), bel.trodVars laidOut (by kernel_rfl) hV2, bel.frame _, fun h => by cases h⟩
theorem over : Rows.fnExactHmacRow.holds Tryd.pinned (OpenSpec.ofChange Rows.fnExactHmacSpec) :=
  OpenClaim.holds_of_wide 4 Tryd.f4 rfl rfl rfl rfl rfl rfl rfl ⟨rfl, rfl, rfl, rfl, rfl⟩ rfl rfl rfl rfl rfl (by kernel_rfl) Tryd.func4 (by kernel_rfl)
    (of_decide_eq_true (by kernel_rfl)) (by unfold Func.isWrapper; first | (rw [if_pos (by decide +kernel)]; kernel_rfl) | (rw [if_neg (by decide +kernel)]; exact ⟨rfl, rfl⟩))
    (fun os started H enc _ => lifted os started H enc)
end Go.Proofs.YtlopdegnpbokjaaDoor.fnExactHmac
namespace Go.Proofs.YtlopdegnpbokjaaDoor
open Go
/-- The tied card. -/
theorem fnExactHmac_holds : Rows.FnExactHmacCardSaid :=
  Claim7.holds_tied_plain_at .later [] [.data] true (true, "535d5252aa46a48e2724c013d8b923874e6ab50824057fdea8731cb3f073d611") false
    fnExactHmac.over (fun _ h => by cases h) (by kernel_rfl) (fun _ h => by cases h) fnExactHmac_row_tie rfl ⟨rfl, rfl⟩ (by kernel_rfl) rfl
    (fun f fn hf hfn => by
      obtain rfl : f = 4 := Option.some.inj ((show Tryd.prog.funcNamed "loop.example/s01858/laws.FnExactHmac" = some 4 by kernel_rfl).symm.trans hf) |>.symm
      obtain rfl : fn = Tryd.f4 := (Option.some.inj (Tryd.func4.symm.trans hfn)).symm
      exact ⟨by kernel_rfl, fun j t ht => by
        have hall : (Tryd.f4.params.all fun u => !Tryd.prog.wantsStandIn u) = true := by kernel_rfl
        have hm := Array.all_eq_true'.1 hall t (Array.mem_of_getElem? ht)
        exact (show Tryd.prog.wantsStandIn t = false by simpa using hm)⟩)
    (by kernel_rfl)
#print axioms fnExactHmac_holds
end Go.Proofs.YtlopdegnpbokjaaDoor
