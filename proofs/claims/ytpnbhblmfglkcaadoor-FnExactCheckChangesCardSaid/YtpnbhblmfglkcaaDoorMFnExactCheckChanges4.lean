/- Part 4 of 6 of the proof of FnExactCheckChanges: what each Go function on its way computes, that the Go code does just this, and what the law says of it. No condition beyond the statement's own. -/
import Derived.Test.YtpnbhblmfglkcaaDoorMFnExactCheckChanges3
namespace Go.Proofs.YtpnbhblmfglkcaaDoor.F
open Go Go.Shelf Go.RowKit Go.Proofs.YtpnbhblmfglkcaaDoorW.PrintWords Go.Proofs.YtpnbhblmfglkcaaDoorW.PrintLast Go.Proofs.YtpnbhblmfglkcaaDoorW.PrintMore
attribute [local go_sem] max2_int min2_int max_two min_two max_three min_three max_four min_four   -- for this text's walks alone
set_option linter.unusedVariables false
set_option linter.unusedSimpArgs false

/-! ### impl_parsed: function 70 -/
theorem impl_parsed.rest (w : World) (b0 b1 : Nat) (s : ByteArray) (at_ : Nat) (h0 : w.heap[b0]? = some (.cells #[.string s] 9 (0, 0))) (h1 : w.heap[b1]? = some (.cells #[.int .i64 (at_ : Int)] 3 (0, 0))) (hat : at_ ≤ s.size) :
    Calls Tryd.prog 99 #[.pointer (some ⟨b0, 0, none⟩), .pointer (some ⟨b1, 0, none⟩)] w fun e w' => e = .returned (.string (s.extract at_ s.size)) ∧ w' = w := by
  have q0 := cell_of_row w b0 0 _ _ _ h0
  have q1 := cell_of_row w b1 0 _ _ _ h1
  have hle : ((at_ : Int) ≤ (s.size : Int)) = True := eq_true (by omega)
  go_enter Tryd.func99, Tryd.ntmps99
  go_wp2
  go_ret
  exact ⟨rfl, rfl⟩
def impl_parsed.tEnd (s : ByteArray) : Nat → Nat → Nat
  | 0, k => k
  | d + 1, k => if k < s.size then impl_parsed.tEnd s d (k + 1 + (bt s (k : Int)).toNat) else k
def impl_parsed.alnum (c : Int) : Bool := (decide (48 ≤ c) && decide (c ≤ 57)) || ((decide (97 ≤ c) && decide (c ≤ 122)) || (decide (65 ≤ c) && decide (c ≤ 90)))
def impl_parsed.n (K : Nat) (c : Int) (s : ByteArray) (p : Nat) : Option (Option Int) :=
  if c = 49 then some (some 1) else if c = 50 then some (some 2) else if c = 52 ∨ c = 103 ∨ c = 113 then some (some 4)
  else if c = 110 then (impl_nameAt.f K (s.extract p s.size)).bind fun n => some (if n = 0 then none else some n)
  else if c = 116 then some (if s.size ≤ p then none else some (1 + bt s (p : Int)))
  else if c = 99 then some (if s.size ≤ p then none else if 1 + bt s (p : Int) < 2 then none else if 16 < 1 + bt s (p : Int) then none else if (s.size : Int) < (p : Int) + (1 + bt s (p : Int)) then none else if (bytesOf (s.extract (p + 1) (p + (1 + bt s (p : Int)).toNat))).all impl_parsed.alnum then some (1 + bt s (p : Int)) else none)
  else if c = 84 then some (if impl_parsed.tEnd s (s.size - p) p = p then none else some ((impl_parsed.tEnd s (s.size - p) p : Int) - p))
  else if c = 109 then (impl_MapTypes.f K (s.extract p s.size)).bind fun r => some (if r.2 = 0 then some ((s.size : Int) - p) else none)
  else if c = 42 then some (some ((s.size : Int) - p)) else none
def impl_parsed.go (K : Nat) (s : ByteArray) : List UInt8 → Nat → List S141 → Option (List S141 × Bool)
  | [], p, sp => some (sp, (p : Int) == (s.size : Int))
  | c :: r, p, sp => (impl_parsed.n K (c.toNat : Int) s p).bind fun o => match o with
    | none => some ([], false)
    | some n => if n < 0 ∨ 4611686018427387904 < n then none else if (s.size : Int) < (p : Int) + n then some ([], false) else impl_parsed.go K s r (p + n.toNat) (if (c.toNat : Int) = 110 then sp ++ [⟨p, (p : Int) + n⟩] else sp)
def impl_parsed.f (k : Nat) (a0 : Int) (a1 : ByteArray) : Option (List S141 × Bool) :=
  if 140737488355328 < a1.size then none else if (Lit.int .i64 a0).wf = true then (match formOf a0 with | none => some ([], true) | some form => impl_parsed.go k a1 form.data.toList 0 []) else none
set_option maxHeartbeats 8000000 in
set_option maxRecDepth 100000 in
theorem impl_parsed.some_ (K : Nat) (rt : Int) (s : ByteArray) (form : ByteArray) (hf : formOf rt = some form) (hwf : (Lit.int .i64 rt).wf = true) (hasc : ∀ c ∈ form.data.toList, c.toNat < 128) (hfs : form.size ≤ 100) (hs : s.size ≤ 140737488355328)
    (r1 : List S141) (r2 : Bool) (w : World) (hG : Glob w) (h : impl_parsed.go K s form.data.toList 0 [] = some (r1, r2)) :
    Calls Tryd.prog 70 #[.int .i64 rt, .string s] w fun e w' => ∃ v0_ : Value, e = .returned (.tuple #[v0_, .bool r2]) ∧ Kd.R k141 141 w' w.heap.size (fun _ => True) v0_ r1 ∧ Below w.heap.size w w' := by
  have hG1 := hG.alloc (.cells #[.string s] 9)
  obtain ⟨bm, og, om, g1, g2, g3, g4⟩ := hG1
  have hc0 := g3 _ g1
  have hlk := g4 _ rt g2 hwf
  rw [hf] at hlk
  simp only [Option.getD_some, Option.isSome_some] at hlk
  clear g1 g2 g3 g4 hf hwf
  have HH := Aside0.mk h
  have HA := Aside0.mk hasc
  have HS := Aside0.mk hs
  have HF := Aside0.mk hfs
  clear h hasc hs hfs
  have hz : ∀ (W : World) o, (W.alloc o).heap.size = W.heap.size + 1 := fun _ _ => Array.size_push _
  go_enter Tryd.func70, Tryd.ntmps70
  go_wp2
  clear hc0 hlk hG
  go_loopg [8] (form.size + 1) (fun kq v8 wr => ∃ (pos p : Nat) (sp : List S141), Aside0 (kq + pos = form.size + 1) ∧ Aside0 (pos ≤ form.size) ∧ Aside0 (sp.length ≤ pos) ∧ Aside0 (p ≤ s.size) ∧ Aside0 (PInv w form s wr pos p v8 sp) ∧ Aside0 (impl_parsed.go K s (form.data.toList.drop pos) p sp = some (r1, r2)))
  case atStart =>
    refine ⟨0, 0, [], ⟨rfl⟩, ⟨Nat.zero_le _⟩, ⟨Nat.le_refl _⟩, ⟨Nat.zero_le _⟩, ⟨?_, ?_, ?_, ?_, ?_⟩, ⟨HH.out⟩⟩
    · exact blk_alloc (blk_alloc (blk_new w _) _) _
    · have e := blk_new (w.alloc (.cells #[.string s] 9)) (.cells #[.int .i64 0] 3)
      rw [hz] at e
      exact blk_alloc e _
    · have e := World.iter_heap ((w.alloc (.cells #[.string s] 9)).alloc (.cells #[.int .i64 0] 3)) form 0
      rw [hz, hz] at e
      exact e
    · exact Kd.R_nil _ _ _ _ _
    · exact below_alloc (below_alloc (below_alloc (Below.refl _ _) _) _) _
  case round =>
    clear hz
    obtain ⟨pos, p, sp, HK, HP, HL, HQ, HI, HO⟩ := hrel
    have hb0 := cell_of_one HI.out.1
    have hb1 := cell_of_one HI.out.2.1
    by_cases hpf : pos < form.size
    · have hlen : pos < form.data.toList.length := by simpa using hpf
      have hdrop : form.data.toList.drop pos = form[pos] :: form.data.toList.drop (pos + 1) := by
        rw [List.drop_eq_getElem_cons hlen]
        rfl
      have hO := HO.out
      rw [hdrop, impl_parsed.go] at hO
      have hasc : (form[pos]'hpf).toNat < 128 := HA.out _ (by
        have : form[pos] ∈ form.data.toList.drop pos := by rw [hdrop]; simp
        exact List.mem_of_mem_drop this)
      obtain ⟨W, hnx, hI⟩ := PInv.next_ (P := Tryd.prog) HI.out hpf hasc
      have HO2 := Aside0.mk hO
      clear hO HO
      have HI2 := Aside0.mk hI
      clear hI
      generalize hcc : ((form[pos]'hpf).toNat : Int) = c at hnx HO2
      have hcn : (((form[pos]'hpf).toNat : Nat) : Int) = c := hcc
      have HCC := Aside0.mk hcc
      clear hdrop hlen hcc hcn hasc
      go_upto_block 2 with fail
      clear hb0 hb1 hnx
      go_cut [8, 13] (fun v8' v13 wc => ∃ (n : Int) (sp' : List S141), v13 = .int .i64 n ∧ Aside0 (0 ≤ n ∧ n ≤ 4611686018427387904) ∧ Aside0 (sp'.length ≤ pos + 1) ∧ Aside0 (PInv w form s wc (pos + 1) p v8' sp') ∧ Aside0 ((if (s.size : Int) < (p : Int) + n then some ([], false) else impl_parsed.go K s (form.data.toList.drop (pos + 1)) (p + n.toNat) sp') = some (r1, r2)))
      case first =>
        have hb0 := cell_of_one HI2.out.1
        have hb1 := cell_of_one HI2.out.2.1
        have hO := HO2.out
        clear HO2
        by_cases h49 : c = 49
        · subst h49
          have e1 : impl_parsed.n K 49 s p = some (some 1) := by unfold impl_parsed.n; simp
          rw [e1, Option.bind_some] at hO
          have HO3 := Aside0.mk hO
          clear hO
          go_wp2
          go_meet
          case rel => exact ⟨1, sp, by rfl, ⟨by omega⟩, ⟨by have := HL.out; omega⟩, HI2, ⟨by have := HO3.out; simpa using this⟩⟩
        by_cases h50 : c = 50
        · subst h50
          have e1 : impl_parsed.n K 50 s p = some (some 2) := by unfold impl_parsed.n; simp
          rw [e1, Option.bind_some] at hO
          have HO3 := Aside0.mk hO
          clear hO
          go_wp2
          go_meet
          case rel => exact ⟨2, sp, by rfl, ⟨by omega⟩, ⟨by have := HL.out; omega⟩, HI2, ⟨by have := HO3.out; simpa using this⟩⟩
        by_cases h52 : c = 52
        · subst h52
          have e1 : impl_parsed.n K 52 s p = some (some 4) := by unfold impl_parsed.n; simp
          rw [e1, Option.bind_some] at hO
          have HO3 := Aside0.mk hO
          clear hO
          go_wp2
          go_meet
          case rel => exact ⟨4, sp, by rfl, ⟨by omega⟩, ⟨by have := HL.out; omega⟩, HI2, ⟨by have := HO3.out; simpa using this⟩⟩
        by_cases h103 : c = 103
        · subst h103
          have e1 : impl_parsed.n K 103 s p = some (some 4) := by unfold impl_parsed.n; simp
          rw [e1, Option.bind_some] at hO
          have HO3 := Aside0.mk hO
          clear hO
          go_wp2
          go_meet
          case rel => exact ⟨4, sp, by rfl, ⟨by omega⟩, ⟨by have := HL.out; omega⟩, HI2, ⟨by have := HO3.out; simpa using this⟩⟩
        by_cases h113 : c = 113
        · subst h113
          have e1 : impl_parsed.n K 113 s p = some (some 4) := by unfold impl_parsed.n; simp
          rw [e1, Option.bind_some] at hO
          have HO3 := Aside0.mk hO
          clear hO
          go_wp2
          go_meet
          case rel => exact ⟨4, sp, by rfl, ⟨by omega⟩, ⟨by have := HL.out; omega⟩, HI2, ⟨by have := HO3.out; simpa using this⟩⟩
        by_cases h110 : c = 110
        · subst h110
          have e1 : impl_parsed.n K 110 s p = (impl_nameAt.f K (s.extract p s.size)).bind fun n => some (if n = 0 then none else some n) := by unfold impl_parsed.n; simp
          rw [e1, Option.bind_assoc] at hO
          obtain ⟨n, hn, hO⟩ := Option.bind_eq_some_iff.mp hO
          rw [Option.bind_some] at hO
          have HN := Aside0.mk hn
          clear hn e1
          by_cases hn0 : n = 0
          · rw [if_pos hn0] at hO
            simp only [Option.some.injEq, Prod.mk.injEq] at hO
            obtain ⟨rfl, rfl⟩ := hO
            subst hn0
            go_wp2_with (first | (go_at_call 99; refine (impl_parsed.rest _ _ _ s p HI2.out.1 HI2.out.2.1 HQ.out).mono ?_; rintro e w1 ⟨rfl, rfl⟩) | (go_at_call 79; refine (impl_nameAt.calls K _ 0 _ HN.out).mono ?_; rintro e w2 ⟨rfl, m, rfl⟩))
            go_ret2
            exact ⟨_, rfl, Kd.R_nil _ _ _ _ _, (HI2.out.drewN m).2.2.2.2⟩
          · rw [if_neg hn0] at hO
            simp only at hO
            by_cases hnb : n < 0 ∨ 4611686018427387904 < n
            · rw [if_pos hnb] at hO
              cases hO
            · rw [if_neg hnb] at hO
              have hov : wrap64 ((p : Int) + n) = (p : Int) + n := by
                have := HQ.out
                have := HS.out
                unfold wrap64
                omega
              have hn1 : (n == 0) = false := beq_eq_false_iff_ne.mpr hn0
              have HNB : Aside0 (0 ≤ n ∧ n ≤ 4611686018427387904) := ⟨by omega⟩
              have HO3 := Aside0.mk hO
              clear hO hnb hn0
              go_wp2_with (first | (go_at_call 99; refine (impl_parsed.rest _ _ _ s p HI2.out.1 HI2.out.2.1 HQ.out).mono ?_; rintro e w1 ⟨rfl, rfl⟩) | (go_at_call 79; refine (impl_nameAt.calls K _ n _ HN.out).mono ?_; rintro e w2 ⟨rfl, m, rfl⟩; have hd0 := cell_of_one (HI2.out.drewN m).1; have hd1 := cell_of_one (HI2.out.drewN m).2.1) | ((with_reducible refine gate_builtin (b := .append) (xs := #[.tmp 49, .tmp 55]) rfl ?_); at_builtin; refine Kd.R_append k141 (w0 := w) w.heap.size rfl (.tmp 49) (.tmp 55) 111 141 (.agg #[(.int .i64 0), (.int .i64 0)]) 16 rfl Tryd.underlying111 (by kernel_rfl) rfl (by decide) (by omega) u8 sp (⟨(p : Int), (p : Int) + n⟩ : S141) [.int .i64 (p : Int), .int .i64 ((p : Int) + n)] (fun k => k ≠ w.heap.size ∧ k ≠ w.heap.size + 1 ∧ k ≠ w.heap.size + 1 + 1) (fun _ => False) rfl rfl ?aP (fun _ hk => hk.elim) ?aF ?aO ?aB ?aS ?aL ?_; (case aP => exact k141_mkM _ _ _ (⟨(p : Int), (p : Int) + n⟩ : S141)); (case aB => exact (HI2.out.drewN m).2.2.2.2); (case aF => exact (fun k hk => by have := lt_of_block (HI2.out.drewN m).2.2.1; omega)); (case aO => exact (HI2.out.drewN m).2.2.2.1); (case aS => exact (HI2.out.drewN m).2.2.2.2.size); (case aL => have := HL.out; have := HF.out; have := HP.out; omega); intro v1 w3 ho hb hg hat; have HI3 := Aside0.mk ((HI2.out.drewN m).spans ho hb hg); clear ho hb hg hat))
              go_meet
              case rel => exact ⟨n, sp ++ [⟨(p : Int), (p : Int) + n⟩], by rfl, HNB, ⟨by have := HL.out; simp; omega⟩, HI3, ⟨by have := HO3.out; simp only [if_true] at this; exact this⟩⟩
        by_cases h116 : c = 116
        · subst h116
          have e1 : impl_parsed.n K 116 s p = some (if s.size ≤ p then none else some (1 + bt s (p : Int))) := by unfold impl_parsed.n; simp
          rw [e1, Option.bind_some] at hO
          clear e1
          by_cases hsp : s.size ≤ p
          · rw [if_pos hsp] at hO
            simp only [Option.some.injEq, Prod.mk.injEq] at hO
            obtain ⟨rfl, rfl⟩ := hO
            have hd : decide ((s.size : Int) ≤ (p : Int)) = true := decide_eq_true (by omega)
            go_wp2
            go_ret2
            exact ⟨_, rfl, Kd.R_nil _ _ _ _ _, HI2.out.2.2.2.2⟩
          · rw [if_neg hsp] at hO
            have hbr := bt_range s (p : Int)
            have hd : decide ((s.size : Int) ≤ (p : Int)) = false := decide_eq_false (by omega)
            have q3 : ((p : Int) < (s.size : Int)) = True := eq_true (by omega)
            have q4 : (p < s.size) = True := eq_true (by omega)
            have hx4 : ∀ h : p < s.size, ((s[p]'h).toNat : Int) = bt s (p : Int) := fun h => bt_at s (p : Int) h
            have hov0 : wrap64 (bt s (p : Int)) = bt s (p : Int) := by unfold wrap64; omega
            have hov : wrap64 (1 + bt s (p : Int)) = 1 + bt s (p : Int) := by unfold wrap64; omega
            simp only at hO
            rw [if_neg (by omega)] at hO
            have HO3 := Aside0.mk hO
            have HBR := Aside0.mk hbr
            have hsp2 : ¬ ((s.size : Int) ≤ (p : Int)) := by omega
            clear hO hsp
            go_wp2
            go_meet
            case rel => exact ⟨1 + bt s (p : Int), sp, by rfl, ⟨by have := HBR.out; omega⟩, ⟨by have := HL.out; omega⟩, HI2, ⟨by have := HO3.out; rw [if_neg (show ¬ ((116 : Int) = 110) by decide)] at this; exact this⟩⟩
        by_cases h42 : c = 42
        · subst h42
          have e1 : impl_parsed.n K 42 s p = some (some ((s.size : Int) - p)) := by unfold impl_parsed.n; simp
          rw [e1, Option.bind_some] at hO
          simp only at hO
          have hsz : ((s.extract p s.size).size : Int) = (s.size : Int) - (p : Int) := by
            have := HQ.out
            rw [ByteArray.size_extract]
            omega
          rw [if_neg (by have := HQ.out; have := HS.out; omega)] at hO
          have HO3 := Aside0.mk hO
          clear hO e1
          go_wp2_with (first | (go_at_call 99; refine (impl_parsed.rest _ _ _ s p HI2.out.1 HI2.out.2.1 HQ.out).mono ?_; rintro e w1 ⟨rfl, rfl⟩))
          go_meet
          case rel => exact ⟨((s.size - p : Nat) : Int), sp, by rfl, ⟨by have := HQ.out; have := HS.out; omega⟩, ⟨by have := HL.out; omega⟩, HI2, ⟨by rw [show ((s.size - p : Nat) : Int) = (s.size : Int) - (p : Int) from by have := HQ.out; omega]; have := HO3.out; rw [if_neg (show ¬ ((42 : Int) = 110) by decide)] at this; exact this⟩⟩
        by_cases h109 : c = 109
        · subst h109
          have e1 : impl_parsed.n K 109 s p = (impl_MapTypes.f K (s.extract p s.size)).bind fun r => some (if r.2 = 0 then some ((s.size : Int) - p) else none) := by unfold impl_parsed.n; simp
          rw [e1, Option.bind_assoc] at hO
          obtain ⟨⟨ml, mc⟩, hm, hO⟩ := Option.bind_eq_some_iff.mp hO
          rw [Option.bind_some] at hO
          have HM := Aside0.mk hm
          clear hm e1
          by_cases hm0 : mc = 0
          · subst hm0
            rw [if_pos (by rfl)] at hO
            simp only at hO
            have hsz : ((s.extract p s.size).size : Int) = (s.size : Int) - (p : Int) := by
              have := HQ.out
              rw [ByteArray.size_extract]
              omega
            rw [if_neg (by have := HQ.out; have := HS.out; omega)] at hO
            have HO3 := Aside0.mk hO
            clear hO
            go_wp2_with (first | (go_at_call 99; refine (impl_parsed.rest _ _ _ s p HI2.out.1 HI2.out.2.1 HQ.out).mono ?_; rintro e w1 ⟨rfl, rfl⟩) | (go_at_call 99; refine (impl_parsed.rest _ _ _ s p HI3.out.1 HI3.out.2.1 HQ.out).mono ?_; rintro e w1 ⟨rfl, rfl⟩) | (go_at_call 80; refine (impl_MapTypes.calls K _ ml 0 _ HM.out).mono ?_; rintro e w2 ⟨vm, rfl, hR, hb⟩; have HI3 := Aside0.mk (HI2.out.below hb); clear hR hb))
            go_meet
            case rel => exact ⟨((s.size - p : Nat) : Int), sp, by rfl, ⟨by have := HQ.out; have := HS.out; omega⟩, ⟨by have := HL.out; omega⟩, HI3, ⟨by rw [show ((s.size - p : Nat) : Int) = (s.size : Int) - (p : Int) from by have := HQ.out; omega]; have := HO3.out; rw [if_neg (show ¬ ((109 : Int) = 110) by decide)] at this; exact this⟩⟩
          · rw [if_neg hm0] at hO
            simp only [Option.some.injEq, Prod.mk.injEq] at hO
            obtain ⟨rfl, rfl⟩ := hO
            have hmb : (mc != 0) = true := bne_iff_ne.mpr hm0
            clear hm0
            go_wp2_with (first | (go_at_call 99; refine (impl_parsed.rest _ _ _ s p HI2.out.1 HI2.out.2.1 HQ.out).mono ?_; rintro e w1 ⟨rfl, rfl⟩) | (go_at_call 80; refine (impl_MapTypes.calls K _ ml mc _ HM.out).mono ?_; rintro e w2 ⟨vm, rfl, hR, hb⟩; have HI3 := Aside0.mk (HI2.out.below hb); clear hR hb))
            go_ret2
            exact ⟨_, rfl, Kd.R_nil _ _ _ _ _, HI3.out.2.2.2.2⟩
        by_cases h84 : c = 84
        · subst h84
          have e1 : impl_parsed.n K 84 s p = some (if impl_parsed.tEnd s (s.size - p) p = p then none else some ((impl_parsed.tEnd s (s.size - p) p : Int) - p)) := by unfold impl_parsed.n; simp
          rw [e1, Option.bind_some] at hO
          clear e1
          have HO3 := Aside0.mk hO
          clear hO
          go_wp2
          go_loopg [16] (s.size - p) (fun kq v16 w' => ∃ k : Nat, v16 = .int .i64 (k : Int) ∧ Aside0 (impl_parsed.tEnd s kq k = impl_parsed.tEnd s (s.size - p) p) ∧ Aside0 (p ≤ k) ∧ Aside0 (k ≤ s.size + 256) ∧ Aside0 (s.size - k ≤ kq) ∧ Aside0 (PInv w form s w' (pos + 1) p u8 sp))
          case atStart => exact ⟨p, rfl, ⟨rfl⟩, ⟨Nat.le_refl _⟩, ⟨by have := HQ.out; omega⟩, ⟨Nat.le_refl _⟩, HI2⟩
          case round =>
            clear hb0 hb1
            obtain ⟨k, rfl, HT, HPK, HKS, HKQ, HI3⟩ := hrel
            have hb0 := cell_of_one HI3.out.1
            have hb1 := cell_of_one HI3.out.2.1
            by_cases hks : k < s.size
            · cases gk with
              | zero => exact absurd HKQ.out (by omega)
              | succ k1 =>
                have hbr := bt_range s (k : Int)
                have hd : decide ((k : Int) < (s.size : Int)) = true := decide_eq_true (by omega)
                have q3 : ((k : Int) < (s.size : Int)) = True := eq_true (by omega)
                have q4 : (k < s.size) = True := eq_true (by omega)
                have hx4 : ∀ h : k < s.size, ((s[k]'h).toNat : Int) = bt s (k : Int) := fun h => bt_at s (k : Int) h
                have hov0 : wrap64 (bt s (k : Int)) = bt s (k : Int) := by unfold wrap64; omega
                have hS := HS.out
                have hov : wrap64 ((k : Int) + (1 + bt s (k : Int))) = (k : Int) + (1 + bt s (k : Int)) := by unfold wrap64; omega
                have hov1 : wrap64 (1 + bt s (k : Int)) = 1 + bt s (k : Int) := by unfold wrap64; omega
                have HBR := Aside0.mk hbr
                have HT2 : Aside0 (impl_parsed.tEnd s k1 (k + 1 + (bt s (k : Int)).toNat) = impl_parsed.tEnd s (s.size - p) p) := ⟨by have := HT.out; rw [impl_parsed.tEnd, if_pos hks] at this; exact this⟩
                have HLT := Aside0.mk hks
                clear hks hS HT
                go_wp2
                go_roundg k1
                case measure => omega
                case rel =>
                  have := HBR.out
                  have := HLT.out
                  exact ⟨k + 1 + (bt s (k : Int)).toNat, by rw [show ((k + 1 + (bt s (k : Int)).toNat : Nat) : Int) = (k : Int) + (1 + bt s (k : Int)) from by omega, hov], HT2, ⟨by have := HPK.out; omega⟩, ⟨by omega⟩, ⟨by have := HKQ.out; omega⟩, HI3⟩
            · have hte : impl_parsed.tEnd s gk k = k := by
                cases gk with
                | zero => rfl
                | succ k1 => rw [impl_parsed.tEnd, if_neg hks]
              have hd : decide ((k : Int) < (s.size : Int)) = false := decide_eq_false (by omega)
              have hO := HO3.out
              rw [← HT.out, hte] at hO
              clear HO3
              by_cases hkp : k = p
              · subst hkp
                rw [if_pos rfl] at hO
                simp only [Option.some.injEq, Prod.mk.injEq] at hO
                obtain ⟨rfl, rfl⟩ := hO
                have hov : wrap64 ((k : Int) - (k : Int)) = 0 := by unfold wrap64; omega
                go_wp2
                go_ret2
                exact ⟨_, rfl, Kd.R_nil _ _ _ _ _, HI3.out.2.2.2.2⟩
              · have hpk := HPK.out
                have hkS := HKS.out
                have hS := HS.out
                rw [if_neg hkp] at hO
                simp only at hO
                rw [if_neg (by omega)] at hO
                have hov : wrap64 ((k : Int) - (p : Int)) = (k : Int) - (p : Int) := by unfold wrap64; omega
                have hne : ((k : Int) - (p : Int) == 0) = false := beq_eq_false_iff_ne.mpr (by omega)
                have HB3 : Aside0 (0 ≤ (k : Int) - (p : Int) ∧ (k : Int) - (p : Int) ≤ 4611686018427387904) := ⟨by omega⟩
                have HO4 := Aside0.mk hO
                have hks2 : ¬ ((k : Int) < (s.size : Int)) := by omega
                clear hO hkp hpk hkS hS hks
                go_wp2
                go_meet
                case rel => exact ⟨(k : Int) - p, sp, by rfl, HB3, ⟨by have := HL.out; omega⟩, HI3, ⟨by have := HO4.out; rw [if_neg (show ¬ ((84 : Int) = 110) by decide)] at this; exact this⟩⟩
        by_cases h99 : c = 99
        · subst h99
          have e1 : impl_parsed.n K 99 s p = some (if s.size ≤ p then none else if 1 + bt s (p : Int) < 2 then none else if 16 < 1 + bt s (p : Int) then none else if (s.size : Int) < (p : Int) + (1 + bt s (p : Int)) then none else if (bytesOf (s.extract (p + 1) (p + (1 + bt s (p : Int)).toNat))).all impl_parsed.alnum then some (1 + bt s (p : Int)) else none) := by unfold impl_parsed.n; simp
          rw [e1, Option.bind_some] at hO
          clear e1
          by_cases hsp : s.size ≤ p
          · rw [if_pos hsp] at hO
            simp only [Option.some.injEq, Prod.mk.injEq] at hO
            obtain ⟨rfl, rfl⟩ := hO
            have hd : decide ((s.size : Int) ≤ (p : Int)) = true := decide_eq_true (by omega)
            go_wp2
            go_ret2
            exact ⟨_, rfl, Kd.R_nil _ _ _ _ _, HI2.out.2.2.2.2⟩
          · rw [if_neg hsp] at hO
            have hbr := bt_range s (p : Int)
            have hsp2 : ¬ ((s.size : Int) ≤ (p : Int)) := by omega
            have q3 : ((p : Int) < (s.size : Int)) = True := eq_true (by omega)
            have q4 : (p < s.size) = True := eq_true (by omega)
            have hx4 : ∀ h : p < s.size, ((s[p]'h).toNat : Int) = bt s (p : Int) := fun h => bt_at s (p : Int) h
            generalize hbb : bt s (p : Int) = b at *
            have HBB := Aside0.mk hbb
            clear hbb
            have hov0 : wrap64 b = b := by unfold wrap64; omega
            have hov : wrap64 (1 + b) = 1 + b := by unfold wrap64; omega
            have hov2 : wrap64 ((p : Int) + (1 + b)) = (p : Int) + (1 + b) := by have := HQ.out; have := HS.out; unfold wrap64; omega
            have hov3 : wrap64 ((p : Int) + 1) = (p : Int) + 1 := by have := HQ.out; have := HS.out; unfold wrap64; omega
            by_cases hn2 : 1 + b < 2
            · rw [if_pos hn2] at hO
              simp only [Option.some.injEq, Prod.mk.injEq] at hO
              obtain ⟨rfl, rfl⟩ := hO
              clear hsp
              go_wp2
              go_ret2
              exact ⟨_, rfl, Kd.R_nil _ _ _ _ _, HI2.out.2.2.2.2⟩
            · rw [if_neg hn2] at hO
              by_cases hn16 : 16 < 1 + b
              · rw [if_pos hn16] at hO
                simp only [Option.some.injEq, Prod.mk.injEq] at hO
                obtain ⟨rfl, rfl⟩ := hO
                clear hsp
                go_wp2
                go_ret2
                exact ⟨_, rfl, Kd.R_nil _ _ _ _ _, HI2.out.2.2.2.2⟩
              · rw [if_neg hn16] at hO
                by_cases hlen : (s.size : Int) < (p : Int) + (1 + b)
                · rw [if_pos hlen] at hO
                  simp only [Option.some.injEq, Prod.mk.injEq] at hO
                  obtain ⟨rfl, rfl⟩ := hO
                  clear hsp
                  go_wp2
                  go_ret2
                  exact ⟨_, rfl, Kd.R_nil _ _ _ _ _, HI2.out.2.2.2.2⟩
                · rw [if_neg hlen] at hO
                  have HX := Aside0.mk hO
                  clear hO
                  have hcv := fun W x => Lib.run_convert_string_bytes (P := Tryd.prog) W 9 88 5 x Tryd.underlying9 Tryd.underlying88 Tryd.underlying5
                  have hsl1 : ((p : Int) + 1 ≤ (p : Int) + (1 + b)) = True := eq_true (by omega)
                  have hsl2 : ((p : Int) + (1 + b) ≤ (s.size : Int)) = True := eq_true (by omega)
                  have hsl3 : (0 ≤ (p : Int) + 1) = True := eq_true (by omega)
                  have hE : ((p : Int) + (1 + b)).toNat = p + (1 + b).toNat := by omega
                  have HIP := HI2.out.below (bytes_below (Below.refl W.heap.size W) (Nat.le_refl _) 5 (s.extract (p + 1) (p + (1 + b).toNat)))
                  have HRW := Go.Proofs.YtpnbhblmfglkcaaDoorW.XConv.Row8.conv W 5 (s.extract (p + 1) (p + (1 + b).toNat))
                  have HXS : Aside0 ((s.extract (p + 1) (p + (1 + b).toNat)).size ≤ 16) := ⟨by rw [ByteArray.size_extract]; omega⟩
                  have HIP2 := Aside0.mk HIP
                  have HRW2 := Aside0.mk HRW
                  clear hsp HIP HRW
                  generalize hxx : s.extract (p + 1) (p + (1 + b).toNat) = x at *
                  go_wp2
                  clear hcv hsl1 hsl2 hsl3 hE hb0 hb1 hov0 hov hov2 hov3 hx4 hxx
                  go_loopg [94] x.size (fun kq v94 w' => ∃ j : Nat, v94 = .int .i64 (j : Int) ∧ Aside0 (kq + j = x.size) ∧ Aside0 (j ≤ x.size) ∧ Aside0 (((bytesOf x).take j).all impl_parsed.alnum = true) ∧ Aside0 (Go.Proofs.YtpnbhblmfglkcaaDoorW.XConv.Row8 w' W.heap.size 5 (bytesOf x)) ∧ Aside0 (PInv w form s w' (pos + 1) p u8 sp))
                  case atStart => exact ⟨0, rfl, ⟨by omega⟩, ⟨by omega⟩, ⟨by simp⟩, HRW2, HIP2⟩
                  case round =>
                    clear HIP2 HRW2
                    obtain ⟨j, rfl, HKJ, HJX, HAL, HR, HI3⟩ := hrel
                    have hlb := bytesOf_length x
                    by_cases hjx : j < x.size
                    · cases gk with
                      | zero => exact absurd HKJ.out (by omega)
                      | succ k1 =>
                      have hcell := HR.out.cell j (by omega)
                      have hg : (bytesOf x).getD j 0 = bt x (j : Int) := by rw [← rd_bytesOf]; simp [rd]
                      rw [hg] at hcell
                      have hmem : bt x (j : Int) ∈ bytesOf x := by
                        rw [← hg, List.getD_eq_getElem?_getD, List.getElem?_eq_getElem (by omega)]
                        exact List.getElem_mem _
                      have HBAD : impl_parsed.alnum (bt x (j : Int)) = false → (bytesOf x).all impl_parsed.alnum = false := fun e => List.all_eq_false.2 ⟨_, hmem, by rw [e]; decide⟩
                      have HAL2 : impl_parsed.alnum (bt x (j : Int)) = true → ((bytesOf x).take (j + 1)).all impl_parsed.alnum = true := fun e => by
                        rw [List.take_succ_eq_append_getElem (by omega), List.all_append, HAL.out]
                        have : (bytesOf x)[j]'(by omega) = bt x (j : Int) := by rw [← hg, List.getD_eq_getElem?_getD, List.getElem?_eq_getElem (by omega)]; rfl
                        simp [this, e]
                      have hbr8 := bt_range x (j : Int)
                      have hd : decide ((j : Int) < (x.size : Int)) = true := decide_eq_true (by omega)
                      have hov : wrap64 ((j : Int) + 1) = (j : Int) + 1 := by have := HJX.out; have := HXS.out; unfold wrap64; omega
                      clear hg hmem hlb
                      generalize bt x (j : Int) = c8 at *
                      rcases (by omega : (c8 < 48) ∨ (48 ≤ c8 ∧ c8 ≤ 57) ∨ (57 < c8 ∧ c8 < 65) ∨ (65 ≤ c8 ∧ c8 ≤ 90) ∨ (90 < c8 ∧ c8 < 97) ∨ (97 ≤ c8 ∧ c8 ≤ 122) ∨ (122 < c8)) with hr | ⟨hr, hr2⟩ | ⟨hr, hr2⟩ | ⟨hr, hr2⟩ | ⟨hr, hr2⟩ | ⟨hr, hr2⟩ | hr
                      · have hbad := HBAD (by unfold impl_parsed.alnum; simp; omega)
                        have hO := HX.out
                        rw [hbad] at hO
                        simp only [Bool.false_eq_true, if_false, Option.some.injEq, Prod.mk.injEq] at hO
                        obtain ⟨rfl, rfl⟩ := hO
                        have t0 : (48 ≤ c8) = False := eq_false (by omega)
                        have t1 : (c8 ≤ 57) = True := eq_true (by omega)
                        have t2 : (97 ≤ c8) = False := eq_false (by omega)
                        have t3 : (c8 ≤ 122) = True := eq_true (by omega)
                        have t4 : (65 ≤ c8) = False := eq_false (by omega)
                        have t5 : (c8 ≤ 90) = True := eq_true (by omega)
                        have q3 : ((j : Int) < (x.size : Int)) = True := eq_true (by omega)
                        have q4 : (j < x.size) = True := eq_true (by omega)
                        have HJ1 := Aside0.mk hjx
                        clear hr hbr8 HBAD HAL2 hd hjx hbad
                        go_wp2
                        go_ret2
                        exact ⟨_, rfl, Kd.R_nil _ _ _ _ _, HI3.out.2.2.2.2⟩
                      · have hok := HAL2 (by unfold impl_parsed.alnum; simp; omega)
                        have HOK := Aside0.mk hok
                        have t0 : (48 ≤ c8) = True := eq_true (by omega)
                        have t1 : (c8 ≤ 57) = True := eq_true (by omega)
                        have t2 : (97 ≤ c8) = False := eq_false (by omega)
                        have t3 : (c8 ≤ 122) = True := eq_true (by omega)
                        have t4 : (65 ≤ c8) = False := eq_false (by omega)
                        have t5 : (c8 ≤ 90) = True := eq_true (by omega)
                        have q3 : ((j : Int) < (x.size : Int)) = True := eq_true (by omega)
                        have q4 : (j < x.size) = True := eq_true (by omega)
                        have HJ1 := Aside0.mk hjx
                        clear hr hr2 hbr8 HBAD HAL2 hd hjx hok
                        go_wp2
                        go_roundg k1
                        case measure => omega
                        case rel => exact ⟨j + 1, by go_num, ⟨by have := HKJ.out; omega⟩, ⟨by have := HJ1.out; omega⟩, HOK, HR, HI3⟩
                      · have hbad := HBAD (by unfold impl_parsed.alnum; simp; omega)
                        have hO := HX.out
                        rw [hbad] at hO
                        simp only [Bool.false_eq_true, if_false, Option.some.injEq, Prod.mk.injEq] at hO
                        obtain ⟨rfl, rfl⟩ := hO
                        have t0 : (48 ≤ c8) = True := eq_true (by omega)
                        have t1 : (c8 ≤ 57) = False := eq_false (by omega)
                        have t2 : (97 ≤ c8) = False := eq_false (by omega)
                        have t3 : (c8 ≤ 122) = True := eq_true (by omega)
                        have t4 : (65 ≤ c8) = False := eq_false (by omega)
                        have t5 : (c8 ≤ 90) = True := eq_true (by omega)
                        have q3 : ((j : Int) < (x.size : Int)) = True := eq_true (by omega)
                        have q4 : (j < x.size) = True := eq_true (by omega)
                        have HJ1 := Aside0.mk hjx
                        clear hr hr2 hbr8 HBAD HAL2 hd hjx hbad
                        go_wp2
                        go_ret2
                        exact ⟨_, rfl, Kd.R_nil _ _ _ _ _, HI3.out.2.2.2.2⟩
                      · have hok := HAL2 (by unfold impl_parsed.alnum; simp; omega)
                        have HOK := Aside0.mk hok
                        have t0 : (48 ≤ c8) = True := eq_true (by omega)
                        have t1 : (c8 ≤ 57) = False := eq_false (by omega)
                        have t2 : (97 ≤ c8) = False := eq_false (by omega)
                        have t3 : (c8 ≤ 122) = True := eq_true (by omega)
                        have t4 : (65 ≤ c8) = True := eq_true (by omega)
                        have t5 : (c8 ≤ 90) = True := eq_true (by omega)
                        have q3 : ((j : Int) < (x.size : Int)) = True := eq_true (by omega)
                        have q4 : (j < x.size) = True := eq_true (by omega)
                        have HJ1 := Aside0.mk hjx
                        clear hr hr2 hbr8 HBAD HAL2 hd hjx hok
                        go_wp2
                        go_roundg k1
                        case measure => omega
                        case rel => exact ⟨j + 1, by go_num, ⟨by have := HKJ.out; omega⟩, ⟨by have := HJ1.out; omega⟩, HOK, HR, HI3⟩
                      · have hbad := HBAD (by unfold impl_parsed.alnum; simp; omega)
                        have hO := HX.out
                        rw [hbad] at hO
                        simp only [Bool.false_eq_true, if_false, Option.some.injEq, Prod.mk.injEq] at hO
                        obtain ⟨rfl, rfl⟩ := hO
                        have t0 : (48 ≤ c8) = True := eq_true (by omega)
                        have t1 : (c8 ≤ 57) = False := eq_false (by omega)
                        have t2 : (97 ≤ c8) = False := eq_false (by omega)
                        have t3 : (c8 ≤ 122) = True := eq_true (by omega)
                        have t4 : (65 ≤ c8) = True := eq_true (by omega)
                        have t5 : (c8 ≤ 90) = False := eq_false (by omega)
                        have q3 : ((j : Int) < (x.size : Int)) = True := eq_true (by omega)
                        have q4 : (j < x.size) = True := eq_true (by omega)
                        have HJ1 := Aside0.mk hjx
                        clear hr hr2 hbr8 HBAD HAL2 hd hjx hbad
                        go_wp2
                        go_ret2
                        exact ⟨_, rfl, Kd.R_nil _ _ _ _ _, HI3.out.2.2.2.2⟩
                      · have hok := HAL2 (by unfold impl_parsed.alnum; simp; omega)
                        have HOK := Aside0.mk hok
                        have t0 : (48 ≤ c8) = True := eq_true (by omega)
                        have t1 : (c8 ≤ 57) = False := eq_false (by omega)
                        have t2 : (97 ≤ c8) = True := eq_true (by omega)
                        have t3 : (c8 ≤ 122) = True := eq_true (by omega)
                        have t4 : (65 ≤ c8) = True := eq_true (by omega)
                        have t5 : (c8 ≤ 90) = False := eq_false (by omega)
                        have q3 : ((j : Int) < (x.size : Int)) = True := eq_true (by omega)
                        have q4 : (j < x.size) = True := eq_true (by omega)
                        have HJ1 := Aside0.mk hjx
                        clear hr hr2 hbr8 HBAD HAL2 hd hjx hok
                        go_wp2
                        go_roundg k1
                        case measure => omega
                        case rel => exact ⟨j + 1, by go_num, ⟨by have := HKJ.out; omega⟩, ⟨by have := HJ1.out; omega⟩, HOK, HR, HI3⟩
                      · have hbad := HBAD (by unfold impl_parsed.alnum; simp; omega)
                        have hO := HX.out
                        rw [hbad] at hO
                        simp only [Bool.false_eq_true, if_false, Option.some.injEq, Prod.mk.injEq] at hO
                        obtain ⟨rfl, rfl⟩ := hO
                        have t0 : (48 ≤ c8) = True := eq_true (by omega)
                        have t1 : (c8 ≤ 57) = False := eq_false (by omega)
                        have t2 : (97 ≤ c8) = True := eq_true (by omega)
                        have t3 : (c8 ≤ 122) = False := eq_false (by omega)
                        have t4 : (65 ≤ c8) = True := eq_true (by omega)
                        have t5 : (c8 ≤ 90) = False := eq_false (by omega)
                        have q3 : ((j : Int) < (x.size : Int)) = True := eq_true (by omega)
                        have q4 : (j < x.size) = True := eq_true (by omega)
                        have HJ1 := Aside0.mk hjx
                        clear hr hbr8 HBAD HAL2 hd hjx hbad
                        go_wp2
                        go_ret2
                        exact ⟨_, rfl, Kd.R_nil _ _ _ _ _, HI3.out.2.2.2.2⟩
                    · obtain rfl : j = x.size := by have := HJX.out; omega
                      have hO := HX.out
                      have hal := HAL.out
                      rw [List.take_of_length_le (by omega)] at hal
                      rw [hal] at hO
                      simp only [if_true] at hO
                      rw [if_neg (by omega)] at hO
                      have HO3 := Aside0.mk hO
                      have HNB : Aside0 (0 ≤ 1 + b ∧ 1 + b ≤ 4611686018427387904) := ⟨by omega⟩
                      clear hO hal hlb hn2 hn16 hlen
                      go_wp2
                      go_meet
                      case rel => exact ⟨1 + b, sp, by rfl, HNB, ⟨by have := HL.out; omega⟩, HI3, ⟨by have := HO3.out; rw [if_neg (show ¬ ((99 : Int) = 110) by decide)] at this; exact this⟩⟩
        exfalso
        have e1 : impl_parsed.n K c s p = none := by unfold impl_parsed.n; simp [h49, h50, h52, h103, h113, h110, h116, h42, h109, h84, h99]
        rw [e1] at hO
        cases hO
      case rest =>
        obtain ⟨n, sp', rfl, HN, HL', HIc, HOc⟩ := hcut
        have hb0 := cell_of_one HIc.out.1
        have hb1 := cell_of_one HIc.out.2.1
        have hfr := free_of_one HIc.out.2.1
        have hov : wrap64 ((p : Int) + n) = (p : Int) + n := by
          have := HN.out
          have := HQ.out
          have := HS.out
          unfold wrap64
          omega
        have hO := HOc.out
        by_cases hbig : (s.size : Int) < (p : Int) + n
        · rw [if_pos hbig] at hO
          simp only [Option.some.injEq, Prod.mk.injEq] at hO
          obtain ⟨rfl, rfl⟩ := hO
          have hd : decide ((s.size : Int) < (p : Int) + n) = true := decide_eq_true hbig
          go_wp2
          go_ret2
          exact ⟨_, rfl, Kd.R_nil _ _ _ _ _, HIc.out.2.2.2.2⟩
        · rw [if_neg hbig] at hO
          have hd : decide ((s.size : Int) < (p : Int) + n) = false := decide_eq_false hbig
          have HO3 := Aside0.mk hO
          clear hO HOc
          go_wp2
          go_roundg (form.size - pos)
          case measure => have := HK.out; omega
          case rel =>
            have hpn : ((p + n.toNat : Nat) : Int) = (p : Int) + n := by have := HN.out; omega
            refine ⟨pos + 1, p + n.toNat, sp', ⟨by omega⟩, ⟨by omega⟩, HL', ⟨by omega⟩, ⟨?_⟩, HO3⟩
            have := HIc.out.put (p + n.toNat)
            rw [hpn] at this
            exact this
    · have hend := PInv.end_ (P := Tryd.prog) HI.out hpf
      obtain rfl : pos = form.size := by have := HP.out; omega
      have hO := HO.out
      rw [List.drop_of_length_le (by simp), impl_parsed.go] at hO
      simp only [Option.some.injEq, Prod.mk.injEq] at hO
      obtain ⟨rfl, rfl⟩ := hO
      clear HO
      go_wp2
      go_region
      go_wp2
      go_ret2
      have hI := HI.out.drew
      exact ⟨_, rfl, Kd.R_mono hI.2.2.2.1 (fun _ _ => trivial), hI.2.2.2.2⟩
set_option maxHeartbeats 8000000 in
set_option maxRecDepth 100000 in
theorem impl_parsed.none_ (rt : Int) (s : ByteArray) (hf : formOf rt = none) (hwf : (Lit.int .i64 rt).wf = true) (w : World) (hG : Glob w) :
    Calls Tryd.prog 70 #[.int .i64 rt, .string s] w fun e w' => e = .returned (.tuple #[.slice none 0 0, .bool true]) ∧ Below w.heap.size w w' := by
  have hG1 := hG.alloc (.cells #[.string s] 9)
  obtain ⟨bm, og, om, g1, g2, g3, g4⟩ := hG1
  have hc0 := g3 _ g1
  have hlk := g4 _ rt g2 hwf
  rw [hf] at hlk
  simp only [Option.getD_none, Option.isSome_none] at hlk
  clear g1 g2 g3 g4 hf hwf
  go_enter Tryd.func70, Tryd.ntmps70
  go_wp2
  go_ret2
  exact ⟨rfl, below_alloc (Below.refl _ _) _⟩
theorem formOf_small {t : Int} {form : ByteArray} (h : formOf t = some form) : (∀ c ∈ form.data.toList, c.toNat < 128) ∧ form.size ≤ 100 := by
  unfold formOf at h
  by_cases c1 : t = 1
  · rw [if_pos c1] at h
    obtain rfl := Option.some.inj h
    decide
  rw [if_neg c1] at h
  by_cases c2 : t = 2
  · rw [if_pos c2] at h
    obtain rfl := Option.some.inj h
    decide
  rw [if_neg c2] at h
  by_cases c5 : t = 5
  · rw [if_pos c5] at h
    obtain rfl := Option.some.inj h
    decide
  rw [if_neg c5] at h
  by_cases c6 : t = 6
  · rw [if_pos c6] at h
    obtain rfl := Option.some.inj h
    decide
  rw [if_neg c6] at h
  by_cases c12 : t = 12
  · rw [if_pos c12] at h
    obtain rfl := Option.some.inj h
    decide
  rw [if_neg c12] at h
  by_cases c13 : t = 13
  · rw [if_pos c13] at h
    obtain rfl := Option.some.inj h
    decide
  rw [if_neg c13] at h
  by_cases c15 : t = 15
  · rw [if_pos c15] at h
    obtain rfl := Option.some.inj h
    decide
  rw [if_neg c15] at h
  by_cases c16 : t = 16
  · rw [if_pos c16] at h
    obtain rfl := Option.some.inj h
    decide
  rw [if_neg c16] at h
  by_cases c28 : t = 28
  · rw [if_pos c28] at h
    obtain rfl := Option.some.inj h
    decide
  rw [if_neg c28] at h
  by_cases c33 : t = 33
  · rw [if_pos c33] at h
    obtain rfl := Option.some.inj h
    decide
  rw [if_neg c33] at h
  by_cases c35 : t = 35
  · rw [if_pos c35] at h
    obtain rfl := Option.some.inj h
    decide
  rw [if_neg c35] at h
  by_cases c39 : t = 39
  · rw [if_pos c39] at h
    obtain rfl := Option.some.inj h
    decide
  rw [if_neg c39] at h
  by_cases c47 : t = 47
  · rw [if_pos c47] at h
    obtain rfl := Option.some.inj h
    decide
  rw [if_neg c47] at h
  by_cases c257 : t = 257
  · rw [if_pos c257] at h
    obtain rfl := Option.some.inj h
    decide
  rw [if_neg c257] at h
  cases h
theorem impl_parsed.calls (k : Nat) (a0 : Int) (a1 : ByteArray) (r1 : List S141) (r2 : Bool) (w : World) (h : impl_parsed.f k a0 a1 = some (r1, r2)) (hG : Glob w) :
    Calls Tryd.prog 70 #[.int .i64 a0, .string a1] w fun e w' => ∃ v0_ : Value, e = .returned (.tuple #[v0_, .bool r2]) ∧ Kd.R k141 141 w' w.heap.size (fun _ => True) v0_ r1 ∧ Below w.heap.size w w' := by
  unfold impl_parsed.f at h
  split at h
  case isTrue => cases h
  case isFalse hs =>
  split at h
  case isFalse => cases h
  case isTrue hwf =>
  split at h
  case h_1 hf =>
    cases h
    refine (impl_parsed.none_ a0 a1 hf hwf w hG).mono ?_
    rintro e w' ⟨rfl, hb⟩
    exact ⟨_, rfl, Kd.R_nil _ _ _ _ _, hb⟩
  case h_2 form hf => exact impl_parsed.some_ k a0 a1 form hf hwf (formOf_small hf).1 (formOf_small hf).2 (by omega) r1 r2 w hG h
theorem impl_parsed.n_mono (K : Nat) (c : Int) (s : ByteArray) (p : Nat) : LeO (impl_parsed.n K c s p) (impl_parsed.n (K + 1) c s p) := by
  unfold impl_parsed.n
  repeat' first
      | (with_reducible exact impl_nameAt.mono _ _)
      | (with_reducible exact impl_MapTypes.mono _ _)
      | (with_reducible exact LeO.refl _)
      | (with_reducible refine LeO.ite ?_ ?_)
      | (with_reducible refine LeO.bind ?_ (fun _ => ?_))
theorem impl_parsed.go_mono (K : Nat) (s : ByteArray) : ∀ (l : List UInt8) (p : Nat) (sp : List S141), LeO (impl_parsed.go K s l p sp) (impl_parsed.go (K + 1) s l p sp) := by
  intro l
  induction l with
  | nil => intro p sp; exact LeO.refl _
  | cons c r ih =>
    intro p sp
    rw [impl_parsed.go, impl_parsed.go]
    refine LeO.bind (impl_parsed.n_mono _ _ _ _) (fun o => ?_)
    cases o with
    | none => exact LeO.refl _
    | some n =>
      refine LeO.ite (LeO.refl _) (LeO.ite (LeO.refl _) (ih _ _))
theorem impl_parsed.mono : ∀ a0 a1 k, LeO (impl_parsed.f k a0 a1) (impl_parsed.f (k + 1) a0 a1) := by
  intro a0 a1 k
  unfold impl_parsed.f
  refine LeO.ite (LeO.refl _) (LeO.ite ?_ (LeO.refl _))
  cases formOf a0 with
  | none => exact LeO.refl _
  | some form => exact impl_parsed.go_mono _ _ _ _ _

end Go.Proofs.YtpnbhblmfglkcaaDoor.F
namespace Go.Proofs.YtpnbhblmfglkcaaDoor.F
open Go Go.Shelf Go.RowKit Go.Proofs.YtpnbhblmfglkcaaDoorW.PrintWords Go.Proofs.YtpnbhblmfglkcaaDoorW.PrintLast Go.Proofs.YtpnbhblmfglkcaaDoorW.PrintMore
attribute [local go_sem] max2_int min2_int max_two min_two max_three min_three max_four min_four   -- for this text's walks alone
set_option linter.unusedVariables false
set_option linter.unusedSimpArgs false

/-! ### impl_CheckData: function 29 -/
def impl_CheckData.j0 : Nat → Int → ByteArray → Bool → Option (Int)
  | 0, _, _, _ => none
  | k + 1, x0, x1, x12 => if x12 = true then (some 6) else (if (x1.size : Int) > 65535 then (some 7) else ((impl_parsed.f k x0 x1).bind fun bt101 => (if bt101.2 = true then (some 0) else (some 7))))
def impl_CheckData.f (k : Nat) (a0 : Int) (a1 : ByteArray) : Option (Int) := if a0 < 0 then (impl_CheckData.j0 k a0 a1 true) else (impl_CheckData.j0 k a0 a1 (decide (a0 > 65535)))
theorem impl_CheckData.mono_l : ∀ k, (∀ y0 y1 y2, LeO (impl_CheckData.j0 k y0 y1 y2) (impl_CheckData.j0 (k + 1) y0 y1 y2))
  | 0 => fun _ _ _ r h => by simp [impl_CheckData.j0] at h
  | k + 1 => by
    have ih0 := impl_CheckData.mono_l k
    · intro y0 y1 y2
      unfold impl_CheckData.j0
      repeat' first
      | (with_reducible exact ih0 _ _ _)
      | (with_reducible exact impl_parsed.mono _ _ _)
      | (with_reducible exact LeO.refl _)
      | (with_reducible exact LeO.none _)
      | (with_reducible refine LeO.ite ?_ ?_)
      | (with_reducible refine LeO.bind ?_ (fun _ => ?_))
      | exact ih0 _ _ _
      | exact impl_parsed.mono _ _ _
      | exact LeO.none _
      | refine LeO.ite ?_ ?_
      | refine LeO.bind ?_ (fun _ => ?_)
theorem impl_CheckData.mono : ∀ a0 a1 k, LeO (impl_CheckData.f k a0 a1) (impl_CheckData.f (k + 1) a0 a1) := by
  intro a0 a1 k
  have ih0 := impl_CheckData.mono_l k
  unfold impl_CheckData.f
  repeat' first
      | (with_reducible exact ih0 _ _ _)
      | (with_reducible exact impl_parsed.mono _ _ _)
      | (with_reducible exact LeO.refl _)
      | (with_reducible exact LeO.none _)
      | (with_reducible refine LeO.ite ?_ ?_)
      | (with_reducible refine LeO.bind ?_ (fun _ => ?_))
      | exact ih0 _ _ _
      | exact impl_parsed.mono _ _ _
      | exact LeO.none _
      | refine LeO.ite ?_ ?_
      | refine LeO.bind ?_ (fun _ => ?_)
set_option maxHeartbeats 8000000 in
set_option maxRecDepth 100000 in
theorem impl_CheckData.calls (k : Nat) (a0 : Int) (a1 : ByteArray) (r : Int) (w : World) (h : impl_CheckData.f k a0 a1 = some r) (hG : Glob w) :
    Calls Tryd.prog 29 #[.int .i64 a0, .string a1] w fun e w' => e = .returned (.int .i64 r) ∧ Below w.heap.size w w' := by
  have HG := Aside0.mk hG
  clear hG
  have HB := Aside0.mk (Below.refl w.heap.size w)
  have H : (if a0 < 0 then (impl_CheckData.j0 k a0 a1 true) else (impl_CheckData.j0 k a0 a1 (decide (a0 > 65535)))) = some r := h
  clear h
  have HC3 := Aside0.mk H
  clear H
  go_enter Tryd.func29, Tryd.ntmps29
  go_upto_region 1 with (fail)
  go_cut [12] (fun v12 wc => ∃ (kq : Nat) (x12_2 : Bool), v12 = .bool x12_2 ∧ Aside0 (impl_CheckData.j0 kq a0 a1 x12_2 = some r) ∧ Aside0 (kq ≤ k) ∧ Aside0 (Below w.heap.size w wc))
  case first =>
    have H := HC3.out
    clear HC3
    by_cases c4 : a0 < 0
    · rw [if_pos c4] at H
      have c4b0 : decide (a0 < 0) = true := decide_eq_true c4
      clear c4
      (first | rw [c4b0] | (simp only [i64_w, i32_w]; rw [c4b0]) | skip)
      have H' := Aside0.mk H
      clear H
      go_wp2
      go_meet
      case rel => exact ⟨_, (true), (by first | rfl | (simp; done) | (simp [*]; done)), H', ⟨by first | omega | exact Nat.le_refl _⟩, ⟨by repeat (first | (with_reducible first | exact HB.out | apply below_alloc | apply pw_below_drewN | apply below_drew1) | exact HB.out)⟩⟩
    · rw [if_neg c4] at H
      have c4b0 : decide (a0 < 0) = false := decide_eq_false c4
      clear c4
      (first | rw [c4b0] | (simp only [i64_w, i32_w]; rw [c4b0]) | skip)
      have H' := Aside0.mk H
      clear H
      go_wp2
      go_meet
      case rel => exact ⟨_, (decide (a0 > 65535)), (by first | rfl | (simp; done) | (simp [*]; done)), H', ⟨by first | omega | exact Nat.le_refl _⟩, ⟨by repeat (first | (with_reducible first | exact HB.out | apply below_alloc | apply pw_below_drewN | apply below_drew1) | exact HB.out)⟩⟩
  case rest =>
    clear HC3
    try clear c2
    try clear p2
    try clear c4
    try clear c4b0
    obtain ⟨kq, x12_2, rfl, HA, HJ2, HB⟩ := hcut
    cases kq with
    | zero => exact absurd HA.out (by simp [impl_CheckData.j0])
    | succ kj2 =>
      have H := HA.out
      clear HA
      simp only [impl_CheckData.j0] at H
      by_cases c5 : x12_2 = true
      · subst c5
        have H1 : (some 6) = some r := by rw [if_pos rfl] at H; exact H
        clear H
        have H := H1
        clear H1
        obtain rfl := Option.some.inj H
        go_wp2
        go_ret
        exact ⟨by first | rfl | (simp [errW_none, errW_some] <;> rfl) | (simp [*, errW_none, errW_some] <;> rfl), by repeat (first | (with_reducible first | exact HB.out | apply below_alloc | apply pw_below_drewN | apply below_drew1) | exact HB.out)⟩
      · replace c5 := Bool.eq_false_iff.mpr c5
        subst c5
        have H1 : (if (a1.size : Int) > 65535 then (some 7) else ((impl_parsed.f kj2 a0 a1).bind fun bt101 => (if bt101.2 = true then (some 0) else (some 7)))) = some r := by rw [if_neg (show ¬ (false = true) by decide)] at H; exact H
        clear H
        have H := H1
        clear H1
        by_cases c6 : (a1.size : Int) > 65535
        · rw [if_pos c6] at H
          have c6b0 : decide (65535 < (a1.size : Int)) = true := decide_eq_true c6
          have c6b1 : decide (65535 < a1.size) = true := decide_eq_true (by omega)
          clear c6
          obtain rfl := Option.some.inj H
          go_wp2
          go_ret
          exact ⟨by first | rfl | (simp [errW_none, errW_some] <;> rfl) | (simp [*, errW_none, errW_some] <;> rfl), by repeat (first | (with_reducible first | exact HB.out | apply below_alloc | apply pw_below_drewN | apply below_drew1) | exact HB.out)⟩
        · rw [if_neg c6] at H
          have c6b0 : decide (65535 < (a1.size : Int)) = false := decide_eq_false c6
          have c6b1 : decide (65535 < a1.size) = false := decide_eq_false (by omega)
          clear c6
          replace H := Option.bind_eq_some_iff.mp H
          obtain ⟨⟨t101, t102⟩, A70, H⟩ := H
          replace H : (if t102 = true then (some 0) else (some 7)) = some r := H
          have A7 := Aside0.mk A70
          clear A70
          by_cases c8 : t102 = true
          · subst c8
            have H1 : (some 0) = some r := by rw [if_pos rfl] at H; exact H
            clear H
            have H := H1
            clear H1
            obtain rfl := Option.some.inj H
            go_wp2_with (first | ((with_reducible refine gate_callee (f := 70) rfl ?_); refine goesL_ (some 19) rfl rfl Tryd.func70 (by kernel_rfl) rfl #[.int .i64 a0, .string a1] rfl (by (try simp only [List.map_toArray, List.map_cons, List.map_nil]); first | done | rfl | (simp only [List.length_drop, List.length_take]; rfl)) ?_; (with_reducible refine (impl_parsed.calls kj2 a0 a1 t101 true _ A7.out (HG.out.below (by repeat (first | (with_reducible first | exact HB.out | apply below_alloc | apply pw_below_drewN | apply below_drew1) | exact HB.out)))).mono ?_); rintro e w9 ⟨v103, rfl, ho0, hb⟩; refine ⟨_, rfl, ?_⟩; have n0_ := Aside0.mk (Kd.R_lower ho0 (below_size (by repeat (first | (with_reducible first | exact HB.out | apply below_alloc | apply pw_below_drewN | apply below_drew1) | exact HB.out)))); have n1_ := Aside0.mk (below_step (by repeat (first | (with_reducible first | exact HB.out | apply below_alloc | apply pw_below_drewN | apply below_drew1) | exact HB.out)) hb); clear HB; have HO104 := n0_; have HB := n1_; clear n0_ n1_; (try clear hb); (try clear hb2); (try clear hk); (try clear hi); (try clear ho0)))
            go_ret
            exact ⟨by first | rfl | (simp [errW_none, errW_some] <;> rfl) | (simp [*, errW_none, errW_some] <;> rfl), by repeat (first | (with_reducible first | exact HB.out | apply below_alloc | apply pw_below_drewN | apply below_drew1) | exact HB.out)⟩
          · replace c8 := Bool.eq_false_iff.mpr c8
            subst c8
            have H1 : (some 7) = some r := by rw [if_neg (show ¬ (false = true) by decide)] at H; exact H
            clear H
            have H := H1
            clear H1
            obtain rfl := Option.some.inj H
            go_wp2_with (first | ((with_reducible refine gate_callee (f := 70) rfl ?_); refine goesL_ (some 19) rfl rfl Tryd.func70 (by kernel_rfl) rfl #[.int .i64 a0, .string a1] rfl (by (try simp only [List.map_toArray, List.map_cons, List.map_nil]); first | done | rfl | (simp only [List.length_drop, List.length_take]; rfl)) ?_; (with_reducible refine (impl_parsed.calls kj2 a0 a1 t101 false _ A7.out (HG.out.below (by repeat (first | (with_reducible first | exact HB.out | apply below_alloc | apply pw_below_drewN | apply below_drew1) | exact HB.out)))).mono ?_); rintro e w10 ⟨v103, rfl, ho0, hb⟩; refine ⟨_, rfl, ?_⟩; have n0_ := Aside0.mk (Kd.R_lower ho0 (below_size (by repeat (first | (with_reducible first | exact HB.out | apply below_alloc | apply pw_below_drewN | apply below_drew1) | exact HB.out)))); have n1_ := Aside0.mk (below_step (by repeat (first | (with_reducible first | exact HB.out | apply below_alloc | apply pw_below_drewN | apply below_drew1) | exact HB.out)) hb); clear HB; have HO104 := n0_; have HB := n1_; clear n0_ n1_; (try clear hb); (try clear hb2); (try clear hk); (try clear hi); (try clear ho0)))
            go_ret
            exact ⟨by first | rfl | (simp [errW_none, errW_some] <;> rfl) | (simp [*, errW_none, errW_some] <;> rfl), by repeat (first | (with_reducible first | exact HB.out | apply below_alloc | apply pw_below_drewN | apply below_drew1) | exact HB.out)⟩

end Go.Proofs.YtpnbhblmfglkcaaDoor.F
namespace Go.Proofs.YtpnbhblmfglkcaaDoor.F
open Go Go.Shelf Go.RowKit Go.Proofs.YtpnbhblmfglkcaaDoorW.PrintWords Go.Proofs.YtpnbhblmfglkcaaDoorW.PrintLast Go.Proofs.YtpnbhblmfglkcaaDoorW.PrintMore
attribute [local go_sem] max2_int min2_int max_two min_two max_three min_three max_four min_four   -- for this text's walks alone
set_option linter.unusedVariables false
set_option linter.unusedSimpArgs false

/-! ### impl_within: function 40 -/
def impl_within.f (a0 : Int) (a1 : Int) (a2 : Int) : Option (Bool) := if a0 ≥ a1 then (some (decide (a0 ≤ a2))) else (some false)
set_option maxHeartbeats 8000000 in
set_option maxRecDepth 100000 in
theorem impl_within.calls (a0 : Int) (a1 : Int) (a2 : Int) (r : Bool) (w : World) (h : impl_within.f a0 a1 a2 = some r) :
    Calls Tryd.prog 40 #[.int .i64 a0, .int .i64 a1, .int .i64 a2] w fun e w' => e = .returned (.bool r) ∧ Drawn0 w w' := by
  have H : (if a0 ≥ a1 then (some (decide (a0 ≤ a2))) else (some false)) = some r := h
  clear h
  by_cases c4 : a0 ≥ a1
  · rw [if_pos c4] at H
    have c4b0 : decide (a1 ≤ a0) = true := decide_eq_true c4
    clear c4
    obtain rfl := Option.some.inj H
    go_enter Tryd.func40, Tryd.ntmps40
    go_wp2
    go_ret
    exact ⟨by first | rfl | (simp; done) | (simp [*]; done), by repeat (first | exact Drawn0.refl _ | apply Drawn0.step)⟩
  · rw [if_neg c4] at H
    have c4b0 : decide (a1 ≤ a0) = false := decide_eq_false c4
    clear c4
    obtain rfl := Option.some.inj H
    go_enter Tryd.func40, Tryd.ntmps40
    go_wp2
    go_ret
    exact ⟨by first | rfl | (simp; done) | (simp [*]; done), by repeat (first | exact Drawn0.refl _ | apply Drawn0.step)⟩

end Go.Proofs.YtpnbhblmfglkcaaDoor.F
namespace Go.Proofs.YtpnbhblmfglkcaaDoor.F
open Go Go.Shelf Go.RowKit Go.Proofs.YtpnbhblmfglkcaaDoorW.PrintWords Go.Proofs.YtpnbhblmfglkcaaDoorW.PrintLast Go.Proofs.YtpnbhblmfglkcaaDoorW.PrintMore
attribute [local go_sem] max2_int min2_int max_two min_two max_three min_three max_four min_four   -- for this text's walks alone
set_option linter.unusedVariables false
set_option linter.unusedSimpArgs false

/-! ### impl_recordOk: function 57 -/
def impl_recordOk.f (k : Nat) (a0_0 : ByteArray) (a0_1 : Int) (a0_2 : Int) (a0_3 : Int) (a0_4 : ByteArray) : Option (Bool) := (impl_NameOK.f k a0_0).bind fun t102 => (if t102 = true then ((impl_within.f a0_1 0 65535).bind fun t103 => (if t103 = true then ((impl_within.f a0_2 0 65535).bind fun t104 => (if t104 = true then ((impl_within.f a0_3 0 4294967295).bind fun t105 => (if t105 = true then (if a0_4.toList = ([] : List UInt8) then (some true) else ((impl_CheckData.f k a0_1 a0_4).bind fun t106 => (some (t106 == 0)))) else (some false))) else (some false))) else (some false))) else (some false))
theorem impl_recordOk.mono : ∀ a0 a1 a2 a3 a4 k, LeO (impl_recordOk.f k a0 a1 a2 a3 a4) (impl_recordOk.f (k + 1) a0 a1 a2 a3 a4) := by
  intro a0 a1 a2 a3 a4 k
  unfold impl_recordOk.f
  repeat' first
      | (with_reducible exact impl_CheckData.mono _ _ _)
      | (with_reducible exact impl_NameOK.mono _ _)
      | (with_reducible exact LeO.refl _)
      | (with_reducible exact LeO.none _)
      | (with_reducible refine LeO.ite ?_ ?_)
      | (with_reducible refine LeO.bind ?_ (fun _ => ?_))
      | exact impl_CheckData.mono _ _ _
      | exact impl_NameOK.mono _ _
      | exact LeO.none _
      | refine LeO.ite ?_ ?_
      | refine LeO.bind ?_ (fun _ => ?_)
set_option maxHeartbeats 8000000 in
set_option maxRecDepth 100000 in
theorem impl_recordOk.calls (k : Nat) (a0_0 : ByteArray) (a0_1 : Int) (a0_2 : Int) (a0_3 : Int) (a0_4 : ByteArray) (r : Bool) (w : World) (h : impl_recordOk.f k a0_0 a0_1 a0_2 a0_3 a0_4 = some r) (hG : Glob w) :
    Calls Tryd.prog 57 #[.agg #[.string a0_0, .int .i64 a0_1, .int .i64 a0_2, .int .i64 a0_3, .string a0_4]] w fun e w' => e = .returned (.bool r) ∧ Below w.heap.size w w' := by
  have HG := Aside0.mk hG
  clear hG
  have hu50 := Tryd.underlying50
  have HB := Aside0.mk (Below.refl w.heap.size w)
  have H : ((impl_NameOK.f k a0_0).bind fun t102 => (if t102 = true then ((impl_within.f a0_1 0 65535).bind fun t103 => (if t103 = true then ((impl_within.f a0_2 0 65535).bind fun t104 => (if t104 = true then ((impl_within.f a0_3 0 4294967295).bind fun t105 => (if t105 = true then (if a0_4.toList = ([] : List UInt8) then (some true) else ((impl_CheckData.f k a0_1 a0_4).bind fun t106 => (some (t106 == 0)))) else (some false))) else (some false))) else (some false))) else (some false))) = some r := h
  clear h
  replace H := Option.bind_eq_some_iff.mp H
  obtain ⟨t102, A20, H⟩ := H
  replace H : (if t102 = true then ((impl_within.f a0_1 0 65535).bind fun t103 => (if t103 = true then ((impl_within.f a0_2 0 65535).bind fun t104 => (if t104 = true then ((impl_within.f a0_3 0 4294967295).bind fun t105 => (if t105 = true then (if a0_4.toList = ([] : List UInt8) then (some true) else ((impl_CheckData.f k a0_1 a0_4).bind fun t106 => (some (t106 == 0)))) else (some false))) else (some false))) else (some false))) else (some false)) = some r := H
  have A2 := Aside0.mk A20
  clear A20
  by_cases c3 : t102 = true
  · subst c3
    have H1 : ((impl_within.f a0_1 0 65535).bind fun t103 => (if t103 = true then ((impl_within.f a0_2 0 65535).bind fun t104 => (if t104 = true then ((impl_within.f a0_3 0 4294967295).bind fun t105 => (if t105 = true then (if a0_4.toList = ([] : List UInt8) then (some true) else ((impl_CheckData.f k a0_1 a0_4).bind fun t106 => (some (t106 == 0)))) else (some false))) else (some false))) else (some false))) = some r := by rw [if_pos rfl] at H; exact H
    clear H
    have H := H1
    clear H1
    replace H := Option.bind_eq_some_iff.mp H
    obtain ⟨t103, A40, H⟩ := H
    replace H : (if t103 = true then ((impl_within.f a0_2 0 65535).bind fun t104 => (if t104 = true then ((impl_within.f a0_3 0 4294967295).bind fun t105 => (if t105 = true then (if a0_4.toList = ([] : List UInt8) then (some true) else ((impl_CheckData.f k a0_1 a0_4).bind fun t106 => (some (t106 == 0)))) else (some false))) else (some false))) else (some false)) = some r := H
    have A4 := Aside0.mk A40
    clear A40
    by_cases c5 : t103 = true
    · subst c5
      have H1 : ((impl_within.f a0_2 0 65535).bind fun t104 => (if t104 = true then ((impl_within.f a0_3 0 4294967295).bind fun t105 => (if t105 = true then (if a0_4.toList = ([] : List UInt8) then (some true) else ((impl_CheckData.f k a0_1 a0_4).bind fun t106 => (some (t106 == 0)))) else (some false))) else (some false))) = some r := by rw [if_pos rfl] at H; exact H
      clear H
      have H := H1
      clear H1
      replace H := Option.bind_eq_some_iff.mp H
      obtain ⟨t104, A60, H⟩ := H
      replace H : (if t104 = true then ((impl_within.f a0_3 0 4294967295).bind fun t105 => (if t105 = true then (if a0_4.toList = ([] : List UInt8) then (some true) else ((impl_CheckData.f k a0_1 a0_4).bind fun t106 => (some (t106 == 0)))) else (some false))) else (some false)) = some r := H
      have A6 := Aside0.mk A60
      clear A60
      by_cases c7 : t104 = true
      · subst c7
        have H1 : ((impl_within.f a0_3 0 4294967295).bind fun t105 => (if t105 = true then (if a0_4.toList = ([] : List UInt8) then (some true) else ((impl_CheckData.f k a0_1 a0_4).bind fun t106 => (some (t106 == 0)))) else (some false))) = some r := by rw [if_pos rfl] at H; exact H
        clear H
        have H := H1
        clear H1
        replace H := Option.bind_eq_some_iff.mp H
        obtain ⟨t105, A80, H⟩ := H
        replace H : (if t105 = true then (if a0_4.toList = ([] : List UInt8) then (some true) else ((impl_CheckData.f k a0_1 a0_4).bind fun t106 => (some (t106 == 0)))) else (some false)) = some r := H
        have A8 := Aside0.mk A80
        clear A80
        by_cases c9 : t105 = true
        · subst c9
          have H1 : (if a0_4.toList = ([] : List UInt8) then (some true) else ((impl_CheckData.f k a0_1 a0_4).bind fun t106 => (some (t106 == 0)))) = some r := by rw [if_pos rfl] at H; exact H
          clear H
          have H := H1
          clear H1
          by_cases c10 : a0_4.toList = ([] : List UInt8)
          · rw [if_pos c10] at H
            have c10b0 : (a0_4.toList == ([] : List UInt8)) = true := beq_iff_eq.mpr c10
            have c10b1 : (a0_4.toList != ([] : List UInt8)) = false := bne_eq_false_iff_eq.mpr c10
            clear c10
            obtain rfl := Option.some.inj H
            go_enter Tryd.func57, Tryd.ntmps57
            go_wp2_with (first | ((with_reducible refine gate_dst (N := 1) rfl ?_); refine box_event ?hg (N := 1) ?hd (cs := #[.string a0_0, .int .i64 a0_1, .int .i64 a0_2, .int .i64 a0_3, .string a0_4]) (t := 50) ?hr ?_; (case hd => rfl); (case hg => rfl); (case hr => first | (go_simp; done) | (go_simp; rfl)); intro gb101 hg w11 hbox hb; have n0_ := Aside0.mk (below_step (by repeat (first | (with_reducible first | exact HB.out | apply below_alloc | apply pw_below_drewN | apply below_drew1) | exact HB.out)) hb); have n1_ := Aside0.mk (hbox); have n2_ := Aside0.mk ((by rw [hg]; exact (below_size (by repeat (first | (with_reducible first | exact HB.out | apply below_alloc | apply pw_below_drewN | apply below_drew1) | exact HB.out))) : w.heap.size ≤ gb101)); have n3_ := Aside0.mk ((by rw [hg]; exact (below_size (by repeat (first | (with_reducible first | exact HB.out | apply below_alloc | apply pw_below_drewN | apply below_drew1) | exact HB.out))) : w.heap.size ≤ gb101)); clear HB; have HB := n0_; have BK101 := n1_; have GW101 := n2_; have GE101 := n3_; clear n0_ n1_ n2_ n3_; clear hb hbox hg; have hcz12_0 : w11.cell? ⟨gb101, 0, none⟩ = some (.string a0_0) := (blk_cell BK101.out 0).trans rfl; have hcz12_1 : w11.cell? ⟨gb101, 1, none⟩ = some (.int .i64 a0_1) := (blk_cell BK101.out 1).trans rfl; have hcz12_2 : w11.cell? ⟨gb101, 2, none⟩ = some (.int .i64 a0_2) := (blk_cell BK101.out 2).trans rfl; have hcz12_3 : w11.cell? ⟨gb101, 3, none⟩ = some (.int .i64 a0_3) := (blk_cell BK101.out 3).trans rfl; have hcz12_4 : w11.cell? ⟨gb101, 4, none⟩ = some (.string a0_4) := (blk_cell BK101.out 4).trans rfl; have hfz12_0 := blk_frozen BK101.out 0; have hfz12_1 := blk_frozen BK101.out 1; have hfz12_2 := blk_frozen BK101.out 2; have hfz12_3 := blk_frozen BK101.out 3; have hfz12_4 := blk_frozen BK101.out 4) | ((with_reducible refine gate_callee (f := 26) rfl ?_); refine goesL_ (some 5) rfl rfl Tryd.func26 (by kernel_rfl) rfl #[.string a0_0] rfl (by (try simp only [List.map_toArray, List.map_cons, List.map_nil]); first | done | rfl | (simp only [List.length_drop, List.length_take]; rfl)) ?_; (with_reducible refine (impl_NameOK.calls k a0_0 true _ A2.out).mono ?_); rintro e w13 ⟨rfl, hb⟩; refine ⟨_, rfl, ?_⟩; have n0_ := Aside0.mk (blk_below (g := gb101) (o := .cells #[.string a0_0, .int .i64 a0_1, .int .i64 a0_2, .int .i64 a0_3, .string a0_4] 50 (0, 0)) (by (with_reducible repeat (first | refine blk_drewN ?_ _ | refine blk_drew ?_ | refine blk_alloc ?_ _)); exact BK101.out) hb); have n1_ := Aside0.mk (below_step (by repeat (first | (with_reducible first | exact HB.out | apply below_alloc | apply pw_below_drewN | apply below_drew1 | refine below_set ?_ GE101.out) | exact HB.out)) hb); clear BK101; clear HB; have BK101 := n0_; have HB := n1_; clear n0_ n1_; (try clear hb); (try clear hb2); (try clear hk); (try clear hi); have hcz14_0 : w13.cell? ⟨gb101, 0, none⟩ = some (.string a0_0) := (blk_cell BK101.out 0).trans rfl; have hcz14_1 : w13.cell? ⟨gb101, 1, none⟩ = some (.int .i64 a0_1) := (blk_cell BK101.out 1).trans rfl; have hcz14_2 : w13.cell? ⟨gb101, 2, none⟩ = some (.int .i64 a0_2) := (blk_cell BK101.out 2).trans rfl; have hcz14_3 : w13.cell? ⟨gb101, 3, none⟩ = some (.int .i64 a0_3) := (blk_cell BK101.out 3).trans rfl; have hcz14_4 : w13.cell? ⟨gb101, 4, none⟩ = some (.string a0_4) := (blk_cell BK101.out 4).trans rfl; have hfz14_0 := blk_frozen BK101.out 0; have hfz14_1 := blk_frozen BK101.out 1; have hfz14_2 := blk_frozen BK101.out 2; have hfz14_3 := blk_frozen BK101.out 3; have hfz14_4 := blk_frozen BK101.out 4) | (go_at_call 40; (with_reducible refine (impl_within.calls a0_1 0 65535 true _ A4.out).mono ?_); rintro e w' ⟨rfl, ⟨nd, rfl⟩⟩) | (go_at_call 40; (with_reducible refine (impl_within.calls a0_2 0 65535 true _ A6.out).mono ?_); rintro e w' ⟨rfl, ⟨nd, rfl⟩⟩) | (go_at_call 40; (with_reducible refine (impl_within.calls a0_3 0 4294967295 true _ A8.out).mono ?_); rintro e w' ⟨rfl, ⟨nd, rfl⟩⟩))
            go_ret
            exact ⟨by first | rfl | (simp [errW_none, errW_some] <;> rfl) | (simp [*, errW_none, errW_some] <;> rfl), by repeat (first | (with_reducible first | exact HB.out | apply below_alloc | apply pw_below_drewN | apply below_drew1 | refine below_set ?_ GE101.out) | exact HB.out)⟩
          · rw [if_neg c10] at H
            have c10b0 : (a0_4.toList == ([] : List UInt8)) = false := beq_eq_false_iff_ne.mpr c10
            have c10b1 : (a0_4.toList != ([] : List UInt8)) = true := bne_iff_ne.mpr c10
            replace H := Option.bind_eq_some_iff.mp H
            obtain ⟨t106, A150, H⟩ := H
            replace H : (some (t106 == 0)) = some r := H
            have A15 := Aside0.mk A150
            clear A150
            obtain rfl := Option.some.inj H
            go_enter Tryd.func57, Tryd.ntmps57
            go_wp2_with (first | ((with_reducible refine gate_dst (N := 1) rfl ?_); refine box_event ?hg (N := 1) ?hd (cs := #[.string a0_0, .int .i64 a0_1, .int .i64 a0_2, .int .i64 a0_3, .string a0_4]) (t := 50) ?hr ?_; (case hd => rfl); (case hg => rfl); (case hr => first | (go_simp; done) | (go_simp; rfl)); intro gb101 hg w16 hbox hb; have n0_ := Aside0.mk (below_step (by repeat (first | (with_reducible first | exact HB.out | apply below_alloc | apply pw_below_drewN | apply below_drew1) | exact HB.out)) hb); have n1_ := Aside0.mk (hbox); have n2_ := Aside0.mk ((by rw [hg]; exact (below_size (by repeat (first | (with_reducible first | exact HB.out | apply below_alloc | apply pw_below_drewN | apply below_drew1) | exact HB.out))) : w.heap.size ≤ gb101)); have n3_ := Aside0.mk ((by rw [hg]; exact (below_size (by repeat (first | (with_reducible first | exact HB.out | apply below_alloc | apply pw_below_drewN | apply below_drew1) | exact HB.out))) : w.heap.size ≤ gb101)); clear HB; have HB := n0_; have BK101 := n1_; have GW101 := n2_; have GE101 := n3_; clear n0_ n1_ n2_ n3_; clear hb hbox hg; have hcz17_0 : w16.cell? ⟨gb101, 0, none⟩ = some (.string a0_0) := (blk_cell BK101.out 0).trans rfl; have hcz17_1 : w16.cell? ⟨gb101, 1, none⟩ = some (.int .i64 a0_1) := (blk_cell BK101.out 1).trans rfl; have hcz17_2 : w16.cell? ⟨gb101, 2, none⟩ = some (.int .i64 a0_2) := (blk_cell BK101.out 2).trans rfl; have hcz17_3 : w16.cell? ⟨gb101, 3, none⟩ = some (.int .i64 a0_3) := (blk_cell BK101.out 3).trans rfl; have hcz17_4 : w16.cell? ⟨gb101, 4, none⟩ = some (.string a0_4) := (blk_cell BK101.out 4).trans rfl; have hfz17_0 := blk_frozen BK101.out 0; have hfz17_1 := blk_frozen BK101.out 1; have hfz17_2 := blk_frozen BK101.out 2; have hfz17_3 := blk_frozen BK101.out 3; have hfz17_4 := blk_frozen BK101.out 4) | ((with_reducible refine gate_callee (f := 26) rfl ?_); refine goesL_ (some 5) rfl rfl Tryd.func26 (by kernel_rfl) rfl #[.string a0_0] rfl (by (try simp only [List.map_toArray, List.map_cons, List.map_nil]); first | done | rfl | (simp only [List.length_drop, List.length_take]; rfl)) ?_; (with_reducible refine (impl_NameOK.calls k a0_0 true _ A2.out).mono ?_); rintro e w18 ⟨rfl, hb⟩; refine ⟨_, rfl, ?_⟩; have n0_ := Aside0.mk (blk_below (g := gb101) (o := .cells #[.string a0_0, .int .i64 a0_1, .int .i64 a0_2, .int .i64 a0_3, .string a0_4] 50 (0, 0)) (by (with_reducible repeat (first | refine blk_drewN ?_ _ | refine blk_drew ?_ | refine blk_alloc ?_ _)); exact BK101.out) hb); have n1_ := Aside0.mk (below_step (by repeat (first | (with_reducible first | exact HB.out | apply below_alloc | apply pw_below_drewN | apply below_drew1 | refine below_set ?_ GE101.out) | exact HB.out)) hb); clear BK101; clear HB; have BK101 := n0_; have HB := n1_; clear n0_ n1_; (try clear hb); (try clear hb2); (try clear hk); (try clear hi); have hcz19_0 : w18.cell? ⟨gb101, 0, none⟩ = some (.string a0_0) := (blk_cell BK101.out 0).trans rfl; have hcz19_1 : w18.cell? ⟨gb101, 1, none⟩ = some (.int .i64 a0_1) := (blk_cell BK101.out 1).trans rfl; have hcz19_2 : w18.cell? ⟨gb101, 2, none⟩ = some (.int .i64 a0_2) := (blk_cell BK101.out 2).trans rfl; have hcz19_3 : w18.cell? ⟨gb101, 3, none⟩ = some (.int .i64 a0_3) := (blk_cell BK101.out 3).trans rfl; have hcz19_4 : w18.cell? ⟨gb101, 4, none⟩ = some (.string a0_4) := (blk_cell BK101.out 4).trans rfl; have hfz19_0 := blk_frozen BK101.out 0; have hfz19_1 := blk_frozen BK101.out 1; have hfz19_2 := blk_frozen BK101.out 2; have hfz19_3 := blk_frozen BK101.out 3; have hfz19_4 := blk_frozen BK101.out 4) | (go_at_call 40; (with_reducible refine (impl_within.calls a0_1 0 65535 true _ A4.out).mono ?_); rintro e w' ⟨rfl, ⟨nd, rfl⟩⟩) | (go_at_call 40; (with_reducible refine (impl_within.calls a0_2 0 65535 true _ A6.out).mono ?_); rintro e w' ⟨rfl, ⟨nd, rfl⟩⟩) | (go_at_call 40; (with_reducible refine (impl_within.calls a0_3 0 4294967295 true _ A8.out).mono ?_); rintro e w' ⟨rfl, ⟨nd, rfl⟩⟩) | (go_at_call 29; (with_reducible refine (impl_CheckData.calls k a0_1 a0_4 t106 _ A15.out (HG.out.below (by repeat (first | (with_reducible first | exact HB.out | apply below_alloc | apply pw_below_drewN | apply below_drew1 | refine below_set ?_ GE101.out) | exact HB.out)))).mono ?_); rintro e w20 ⟨rfl, hb⟩; have n0_ := Aside0.mk (blk_below (g := gb101) (o := .cells #[.string a0_0, .int .i64 a0_1, .int .i64 a0_2, .int .i64 a0_3, .string a0_4] 50 (0, 0)) (by (with_reducible repeat (first | refine blk_drewN ?_ _ | refine blk_drew ?_ | refine blk_alloc ?_ _)); exact BK101.out) hb); have n1_ := Aside0.mk (below_step (by repeat (first | (with_reducible first | exact HB.out | apply below_alloc | apply pw_below_drewN | apply below_drew1 | refine below_set ?_ GE101.out) | exact HB.out)) hb); clear BK101; clear HB; have BK101 := n0_; have HB := n1_; clear n0_ n1_; (try clear hb); (try clear hb2); (try clear hk); (try clear hi)))
            go_ret
            exact ⟨by first | rfl | (simp [errW_none, errW_some] <;> rfl) | (simp [*, errW_none, errW_some] <;> rfl), by repeat (first | (with_reducible first | exact HB.out | apply below_alloc | apply pw_below_drewN | apply below_drew1 | refine below_set ?_ GE101.out) | exact HB.out)⟩
        · replace c9 := Bool.eq_false_iff.mpr c9
          subst c9
          have H1 : (some false) = some r := by rw [if_neg (show ¬ (false = true) by decide)] at H; exact H
          clear H
          have H := H1
          clear H1
          obtain rfl := Option.some.inj H
          go_enter Tryd.func57, Tryd.ntmps57
          go_wp2_with (first | ((with_reducible refine gate_dst (N := 1) rfl ?_); refine box_event ?hg (N := 1) ?hd (cs := #[.string a0_0, .int .i64 a0_1, .int .i64 a0_2, .int .i64 a0_3, .string a0_4]) (t := 50) ?hr ?_; (case hd => rfl); (case hg => rfl); (case hr => first | (go_simp; done) | (go_simp; rfl)); intro gb101 hg w21 hbox hb; have n0_ := Aside0.mk (below_step (by repeat (first | (with_reducible first | exact HB.out | apply below_alloc | apply pw_below_drewN | apply below_drew1) | exact HB.out)) hb); have n1_ := Aside0.mk (hbox); have n2_ := Aside0.mk ((by rw [hg]; exact (below_size (by repeat (first | (with_reducible first | exact HB.out | apply below_alloc | apply pw_below_drewN | apply below_drew1) | exact HB.out))) : w.heap.size ≤ gb101)); have n3_ := Aside0.mk ((by rw [hg]; exact (below_size (by repeat (first | (with_reducible first | exact HB.out | apply below_alloc | apply pw_below_drewN | apply below_drew1) | exact HB.out))) : w.heap.size ≤ gb101)); clear HB; have HB := n0_; have BK101 := n1_; have GW101 := n2_; have GE101 := n3_; clear n0_ n1_ n2_ n3_; clear hb hbox hg; have hcz22_0 : w21.cell? ⟨gb101, 0, none⟩ = some (.string a0_0) := (blk_cell BK101.out 0).trans rfl; have hcz22_1 : w21.cell? ⟨gb101, 1, none⟩ = some (.int .i64 a0_1) := (blk_cell BK101.out 1).trans rfl; have hcz22_2 : w21.cell? ⟨gb101, 2, none⟩ = some (.int .i64 a0_2) := (blk_cell BK101.out 2).trans rfl; have hcz22_3 : w21.cell? ⟨gb101, 3, none⟩ = some (.int .i64 a0_3) := (blk_cell BK101.out 3).trans rfl; have hcz22_4 : w21.cell? ⟨gb101, 4, none⟩ = some (.string a0_4) := (blk_cell BK101.out 4).trans rfl; have hfz22_0 := blk_frozen BK101.out 0; have hfz22_1 := blk_frozen BK101.out 1; have hfz22_2 := blk_frozen BK101.out 2; have hfz22_3 := blk_frozen BK101.out 3; have hfz22_4 := blk_frozen BK101.out 4) | ((with_reducible refine gate_callee (f := 26) rfl ?_); refine goesL_ (some 5) rfl rfl Tryd.func26 (by kernel_rfl) rfl #[.string a0_0] rfl (by (try simp only [List.map_toArray, List.map_cons, List.map_nil]); first | done | rfl | (simp only [List.length_drop, List.length_take]; rfl)) ?_; (with_reducible refine (impl_NameOK.calls k a0_0 true _ A2.out).mono ?_); rintro e w23 ⟨rfl, hb⟩; refine ⟨_, rfl, ?_⟩; have n0_ := Aside0.mk (blk_below (g := gb101) (o := .cells #[.string a0_0, .int .i64 a0_1, .int .i64 a0_2, .int .i64 a0_3, .string a0_4] 50 (0, 0)) (by (with_reducible repeat (first | refine blk_drewN ?_ _ | refine blk_drew ?_ | refine blk_alloc ?_ _)); exact BK101.out) hb); have n1_ := Aside0.mk (below_step (by repeat (first | (with_reducible first | exact HB.out | apply below_alloc | apply pw_below_drewN | apply below_drew1 | refine below_set ?_ GE101.out) | exact HB.out)) hb); clear BK101; clear HB; have BK101 := n0_; have HB := n1_; clear n0_ n1_; (try clear hb); (try clear hb2); (try clear hk); (try clear hi); have hcz24_0 : w23.cell? ⟨gb101, 0, none⟩ = some (.string a0_0) := (blk_cell BK101.out 0).trans rfl; have hcz24_1 : w23.cell? ⟨gb101, 1, none⟩ = some (.int .i64 a0_1) := (blk_cell BK101.out 1).trans rfl; have hcz24_2 : w23.cell? ⟨gb101, 2, none⟩ = some (.int .i64 a0_2) := (blk_cell BK101.out 2).trans rfl; have hcz24_3 : w23.cell? ⟨gb101, 3, none⟩ = some (.int .i64 a0_3) := (blk_cell BK101.out 3).trans rfl; have hcz24_4 : w23.cell? ⟨gb101, 4, none⟩ = some (.string a0_4) := (blk_cell BK101.out 4).trans rfl; have hfz24_0 := blk_frozen BK101.out 0; have hfz24_1 := blk_frozen BK101.out 1; have hfz24_2 := blk_frozen BK101.out 2; have hfz24_3 := blk_frozen BK101.out 3; have hfz24_4 := blk_frozen BK101.out 4) | (go_at_call 40; (with_reducible refine (impl_within.calls a0_1 0 65535 true _ A4.out).mono ?_); rintro e w' ⟨rfl, ⟨nd, rfl⟩⟩) | (go_at_call 40; (with_reducible refine (impl_within.calls a0_2 0 65535 true _ A6.out).mono ?_); rintro e w' ⟨rfl, ⟨nd, rfl⟩⟩) | (go_at_call 40; (with_reducible refine (impl_within.calls a0_3 0 4294967295 false _ A8.out).mono ?_); rintro e w' ⟨rfl, ⟨nd, rfl⟩⟩))
          go_ret
          exact ⟨by first | rfl | (simp [errW_none, errW_some] <;> rfl) | (simp [*, errW_none, errW_some] <;> rfl), by repeat (first | (with_reducible first | exact HB.out | apply below_alloc | apply pw_below_drewN | apply below_drew1 | refine below_set ?_ GE101.out) | exact HB.out)⟩
      · replace c7 := Bool.eq_false_iff.mpr c7
        subst c7
        have H1 : (some false) = some r := by rw [if_neg (show ¬ (false = true) by decide)] at H; exact H
        clear H
        have H := H1
        clear H1
        obtain rfl := Option.some.inj H
        go_enter Tryd.func57, Tryd.ntmps57
        go_wp2_with (first | ((with_reducible refine gate_dst (N := 1) rfl ?_); refine box_event ?hg (N := 1) ?hd (cs := #[.string a0_0, .int .i64 a0_1, .int .i64 a0_2, .int .i64 a0_3, .string a0_4]) (t := 50) ?hr ?_; (case hd => rfl); (case hg => rfl); (case hr => first | (go_simp; done) | (go_simp; rfl)); intro gb101 hg w25 hbox hb; have n0_ := Aside0.mk (below_step (by repeat (first | (with_reducible first | exact HB.out | apply below_alloc | apply pw_below_drewN | apply below_drew1) | exact HB.out)) hb); have n1_ := Aside0.mk (hbox); have n2_ := Aside0.mk ((by rw [hg]; exact (below_size (by repeat (first | (with_reducible first | exact HB.out | apply below_alloc | apply pw_below_drewN | apply below_drew1) | exact HB.out))) : w.heap.size ≤ gb101)); have n3_ := Aside0.mk ((by rw [hg]; exact (below_size (by repeat (first | (with_reducible first | exact HB.out | apply below_alloc | apply pw_below_drewN | apply below_drew1) | exact HB.out))) : w.heap.size ≤ gb101)); clear HB; have HB := n0_; have BK101 := n1_; have GW101 := n2_; have GE101 := n3_; clear n0_ n1_ n2_ n3_; clear hb hbox hg; have hcz26_0 : w25.cell? ⟨gb101, 0, none⟩ = some (.string a0_0) := (blk_cell BK101.out 0).trans rfl; have hcz26_1 : w25.cell? ⟨gb101, 1, none⟩ = some (.int .i64 a0_1) := (blk_cell BK101.out 1).trans rfl; have hcz26_2 : w25.cell? ⟨gb101, 2, none⟩ = some (.int .i64 a0_2) := (blk_cell BK101.out 2).trans rfl; have hcz26_3 : w25.cell? ⟨gb101, 3, none⟩ = some (.int .i64 a0_3) := (blk_cell BK101.out 3).trans rfl; have hcz26_4 : w25.cell? ⟨gb101, 4, none⟩ = some (.string a0_4) := (blk_cell BK101.out 4).trans rfl; have hfz26_0 := blk_frozen BK101.out 0; have hfz26_1 := blk_frozen BK101.out 1; have hfz26_2 := blk_frozen BK101.out 2; have hfz26_3 := blk_frozen BK101.out 3; have hfz26_4 := blk_frozen BK101.out 4) | ((with_reducible refine gate_callee (f := 26) rfl ?_); refine goesL_ (some 5) rfl rfl Tryd.func26 (by kernel_rfl) rfl #[.string a0_0] rfl (by (try simp only [List.map_toArray, List.map_cons, List.map_nil]); first | done | rfl | (simp only [List.length_drop, List.length_take]; rfl)) ?_; (with_reducible refine (impl_NameOK.calls k a0_0 true _ A2.out).mono ?_); rintro e w27 ⟨rfl, hb⟩; refine ⟨_, rfl, ?_⟩; have n0_ := Aside0.mk (blk_below (g := gb101) (o := .cells #[.string a0_0, .int .i64 a0_1, .int .i64 a0_2, .int .i64 a0_3, .string a0_4] 50 (0, 0)) (by (with_reducible repeat (first | refine blk_drewN ?_ _ | refine blk_drew ?_ | refine blk_alloc ?_ _)); exact BK101.out) hb); have n1_ := Aside0.mk (below_step (by repeat (first | (with_reducible first | exact HB.out | apply below_alloc | apply pw_below_drewN | apply below_drew1 | refine below_set ?_ GE101.out) | exact HB.out)) hb); clear BK101; clear HB; have BK101 := n0_; have HB := n1_; clear n0_ n1_; (try clear hb); (try clear hb2); (try clear hk); (try clear hi); have hcz28_0 : w27.cell? ⟨gb101, 0, none⟩ = some (.string a0_0) := (blk_cell BK101.out 0).trans rfl; have hcz28_1 : w27.cell? ⟨gb101, 1, none⟩ = some (.int .i64 a0_1) := (blk_cell BK101.out 1).trans rfl; have hcz28_2 : w27.cell? ⟨gb101, 2, none⟩ = some (.int .i64 a0_2) := (blk_cell BK101.out 2).trans rfl; have hcz28_3 : w27.cell? ⟨gb101, 3, none⟩ = some (.int .i64 a0_3) := (blk_cell BK101.out 3).trans rfl; have hcz28_4 : w27.cell? ⟨gb101, 4, none⟩ = some (.string a0_4) := (blk_cell BK101.out 4).trans rfl; have hfz28_0 := blk_frozen BK101.out 0; have hfz28_1 := blk_frozen BK101.out 1; have hfz28_2 := blk_frozen BK101.out 2; have hfz28_3 := blk_frozen BK101.out 3; have hfz28_4 := blk_frozen BK101.out 4) | (go_at_call 40; (with_reducible refine (impl_within.calls a0_1 0 65535 true _ A4.out).mono ?_); rintro e w' ⟨rfl, ⟨nd, rfl⟩⟩) | (go_at_call 40; (with_reducible refine (impl_within.calls a0_2 0 65535 false _ A6.out).mono ?_); rintro e w' ⟨rfl, ⟨nd, rfl⟩⟩))
        go_ret
        exact ⟨by first | rfl | (simp [errW_none, errW_some] <;> rfl) | (simp [*, errW_none, errW_some] <;> rfl), by repeat (first | (with_reducible first | exact HB.out | apply below_alloc | apply pw_below_drewN | apply below_drew1 | refine below_set ?_ GE101.out) | exact HB.out)⟩
    · replace c5 := Bool.eq_false_iff.mpr c5
      subst c5
      have H1 : (some false) = some r := by rw [if_neg (show ¬ (false = true) by decide)] at H; exact H
      clear H
      have H := H1
      clear H1
      obtain rfl := Option.some.inj H
      go_enter Tryd.func57, Tryd.ntmps57
      go_wp2_with (first | ((with_reducible refine gate_dst (N := 1) rfl ?_); refine box_event ?hg (N := 1) ?hd (cs := #[.string a0_0, .int .i64 a0_1, .int .i64 a0_2, .int .i64 a0_3, .string a0_4]) (t := 50) ?hr ?_; (case hd => rfl); (case hg => rfl); (case hr => first | (go_simp; done) | (go_simp; rfl)); intro gb101 hg w29 hbox hb; have n0_ := Aside0.mk (below_step (by repeat (first | (with_reducible first | exact HB.out | apply below_alloc | apply pw_below_drewN | apply below_drew1) | exact HB.out)) hb); have n1_ := Aside0.mk (hbox); have n2_ := Aside0.mk ((by rw [hg]; exact (below_size (by repeat (first | (with_reducible first | exact HB.out | apply below_alloc | apply pw_below_drewN | apply below_drew1) | exact HB.out))) : w.heap.size ≤ gb101)); have n3_ := Aside0.mk ((by rw [hg]; exact (below_size (by repeat (first | (with_reducible first | exact HB.out | apply below_alloc | apply pw_below_drewN | apply below_drew1) | exact HB.out))) : w.heap.size ≤ gb101)); clear HB; have HB := n0_; have BK101 := n1_; have GW101 := n2_; have GE101 := n3_; clear n0_ n1_ n2_ n3_; clear hb hbox hg; have hcz30_0 : w29.cell? ⟨gb101, 0, none⟩ = some (.string a0_0) := (blk_cell BK101.out 0).trans rfl; have hcz30_1 : w29.cell? ⟨gb101, 1, none⟩ = some (.int .i64 a0_1) := (blk_cell BK101.out 1).trans rfl; have hcz30_2 : w29.cell? ⟨gb101, 2, none⟩ = some (.int .i64 a0_2) := (blk_cell BK101.out 2).trans rfl; have hcz30_3 : w29.cell? ⟨gb101, 3, none⟩ = some (.int .i64 a0_3) := (blk_cell BK101.out 3).trans rfl; have hcz30_4 : w29.cell? ⟨gb101, 4, none⟩ = some (.string a0_4) := (blk_cell BK101.out 4).trans rfl; have hfz30_0 := blk_frozen BK101.out 0; have hfz30_1 := blk_frozen BK101.out 1; have hfz30_2 := blk_frozen BK101.out 2; have hfz30_3 := blk_frozen BK101.out 3; have hfz30_4 := blk_frozen BK101.out 4) | ((with_reducible refine gate_callee (f := 26) rfl ?_); refine goesL_ (some 5) rfl rfl Tryd.func26 (by kernel_rfl) rfl #[.string a0_0] rfl (by (try simp only [List.map_toArray, List.map_cons, List.map_nil]); first | done | rfl | (simp only [List.length_drop, List.length_take]; rfl)) ?_; (with_reducible refine (impl_NameOK.calls k a0_0 true _ A2.out).mono ?_); rintro e w31 ⟨rfl, hb⟩; refine ⟨_, rfl, ?_⟩; have n0_ := Aside0.mk (blk_below (g := gb101) (o := .cells #[.string a0_0, .int .i64 a0_1, .int .i64 a0_2, .int .i64 a0_3, .string a0_4] 50 (0, 0)) (by (with_reducible repeat (first | refine blk_drewN ?_ _ | refine blk_drew ?_ | refine blk_alloc ?_ _)); exact BK101.out) hb); have n1_ := Aside0.mk (below_step (by repeat (first | (with_reducible first | exact HB.out | apply below_alloc | apply pw_below_drewN | apply below_drew1 | refine below_set ?_ GE101.out) | exact HB.out)) hb); clear BK101; clear HB; have BK101 := n0_; have HB := n1_; clear n0_ n1_; (try clear hb); (try clear hb2); (try clear hk); (try clear hi); have hcz32_0 : w31.cell? ⟨gb101, 0, none⟩ = some (.string a0_0) := (blk_cell BK101.out 0).trans rfl; have hcz32_1 : w31.cell? ⟨gb101, 1, none⟩ = some (.int .i64 a0_1) := (blk_cell BK101.out 1).trans rfl; have hcz32_2 : w31.cell? ⟨gb101, 2, none⟩ = some (.int .i64 a0_2) := (blk_cell BK101.out 2).trans rfl; have hcz32_3 : w31.cell? ⟨gb101, 3, none⟩ = some (.int .i64 a0_3) := (blk_cell BK101.out 3).trans rfl; have hcz32_4 : w31.cell? ⟨gb101, 4, none⟩ = some (.string a0_4) := (blk_cell BK101.out 4).trans rfl; have hfz32_0 := blk_frozen BK101.out 0; have hfz32_1 := blk_frozen BK101.out 1; have hfz32_2 := blk_frozen BK101.out 2; have hfz32_3 := blk_frozen BK101.out 3; have hfz32_4 := blk_frozen BK101.out 4) | (go_at_call 40; (with_reducible refine (impl_within.calls a0_1 0 65535 false _ A4.out).mono ?_); rintro e w' ⟨rfl, ⟨nd, rfl⟩⟩))
      go_ret
      exact ⟨by first | rfl | (simp [errW_none, errW_some] <;> rfl) | (simp [*, errW_none, errW_some] <;> rfl), by repeat (first | (with_reducible first | exact HB.out | apply below_alloc | apply pw_below_drewN | apply below_drew1 | refine below_set ?_ GE101.out) | exact HB.out)⟩
  · replace c3 := Bool.eq_false_iff.mpr c3
    subst c3
    have H1 : (some false) = some r := by rw [if_neg (show ¬ (false = true) by decide)] at H; exact H
    clear H
    have H := H1
    clear H1
    obtain rfl := Option.some.inj H
    go_enter Tryd.func57, Tryd.ntmps57
    go_wp2_with (first | ((with_reducible refine gate_dst (N := 1) rfl ?_); refine box_event ?hg (N := 1) ?hd (cs := #[.string a0_0, .int .i64 a0_1, .int .i64 a0_2, .int .i64 a0_3, .string a0_4]) (t := 50) ?hr ?_; (case hd => rfl); (case hg => rfl); (case hr => first | (go_simp; done) | (go_simp; rfl)); intro gb101 hg w33 hbox hb; have n0_ := Aside0.mk (below_step (by repeat (first | (with_reducible first | exact HB.out | apply below_alloc | apply pw_below_drewN | apply below_drew1) | exact HB.out)) hb); have n1_ := Aside0.mk (hbox); have n2_ := Aside0.mk ((by rw [hg]; exact (below_size (by repeat (first | (with_reducible first | exact HB.out | apply below_alloc | apply pw_below_drewN | apply below_drew1) | exact HB.out))) : w.heap.size ≤ gb101)); have n3_ := Aside0.mk ((by rw [hg]; exact (below_size (by repeat (first | (with_reducible first | exact HB.out | apply below_alloc | apply pw_below_drewN | apply below_drew1) | exact HB.out))) : w.heap.size ≤ gb101)); clear HB; have HB := n0_; have BK101 := n1_; have GW101 := n2_; have GE101 := n3_; clear n0_ n1_ n2_ n3_; clear hb hbox hg; have hcz34_0 : w33.cell? ⟨gb101, 0, none⟩ = some (.string a0_0) := (blk_cell BK101.out 0).trans rfl; have hcz34_1 : w33.cell? ⟨gb101, 1, none⟩ = some (.int .i64 a0_1) := (blk_cell BK101.out 1).trans rfl; have hcz34_2 : w33.cell? ⟨gb101, 2, none⟩ = some (.int .i64 a0_2) := (blk_cell BK101.out 2).trans rfl; have hcz34_3 : w33.cell? ⟨gb101, 3, none⟩ = some (.int .i64 a0_3) := (blk_cell BK101.out 3).trans rfl; have hcz34_4 : w33.cell? ⟨gb101, 4, none⟩ = some (.string a0_4) := (blk_cell BK101.out 4).trans rfl; have hfz34_0 := blk_frozen BK101.out 0; have hfz34_1 := blk_frozen BK101.out 1; have hfz34_2 := blk_frozen BK101.out 2; have hfz34_3 := blk_frozen BK101.out 3; have hfz34_4 := blk_frozen BK101.out 4) | ((with_reducible refine gate_callee (f := 26) rfl ?_); refine goesL_ (some 5) rfl rfl Tryd.func26 (by kernel_rfl) rfl #[.string a0_0] rfl (by (try simp only [List.map_toArray, List.map_cons, List.map_nil]); first | done | rfl | (simp only [List.length_drop, List.length_take]; rfl)) ?_; (with_reducible refine (impl_NameOK.calls k a0_0 false _ A2.out).mono ?_); rintro e w35 ⟨rfl, hb⟩; refine ⟨_, rfl, ?_⟩; have n0_ := Aside0.mk (blk_below (g := gb101) (o := .cells #[.string a0_0, .int .i64 a0_1, .int .i64 a0_2, .int .i64 a0_3, .string a0_4] 50 (0, 0)) (by (with_reducible repeat (first | refine blk_drewN ?_ _ | refine blk_drew ?_ | refine blk_alloc ?_ _)); exact BK101.out) hb); have n1_ := Aside0.mk (below_step (by repeat (first | (with_reducible first | exact HB.out | apply below_alloc | apply pw_below_drewN | apply below_drew1 | refine below_set ?_ GE101.out) | exact HB.out)) hb); clear BK101; clear HB; have BK101 := n0_; have HB := n1_; clear n0_ n1_; (try clear hb); (try clear hb2); (try clear hk); (try clear hi)))
    go_ret
    exact ⟨by first | rfl | (simp [errW_none, errW_some] <;> rfl) | (simp [*, errW_none, errW_some] <;> rfl), by repeat (first | (with_reducible first | exact HB.out | apply below_alloc | apply pw_below_drewN | apply below_drew1 | refine below_set ?_ GE101.out) | exact HB.out)⟩

end Go.Proofs.YtpnbhblmfglkcaaDoor.F
namespace Go.Proofs.YtpnbhblmfglkcaaDoor.F
open Go Go.Shelf Go.RowKit Go.Proofs.YtpnbhblmfglkcaaDoorW.PrintWords Go.Proofs.YtpnbhblmfglkcaaDoorW.PrintLast Go.Proofs.YtpnbhblmfglkcaaDoorW.PrintMore
attribute [local go_sem] max2_int min2_int max_two min_two max_three min_three max_four min_four   -- for this text's walks alone
set_option linter.unusedVariables false
set_option linter.unusedSimpArgs false

/-! ### impl_soundList: function 27 -/
def impl_soundList.l0 : Nat → List (S50) → Int → Int → Option (Bool)
  | 0, _, _, _ => none
  | k + 1, x8, x9, x10 => if x10 < x9 then (if 0 ≤ x10 then (if x10 < (x8.length : Int) then ((impl_recordOk.f k ((rd_T50 x8 x10).f0) ((rd_T50 x8 x10).f1) ((rd_T50 x8 x10).f2) ((rd_T50 x8 x10).f3) ((rd_T50 x8 x10).f4)).bind fun t103 => (if t103 = true then (impl_soundList.l0 k x8 x9 (wrap64 (x10 + 1))) else (some false))) else (none)) else (none)) else (some true)
def impl_soundList.f (k : Nat) (l0 : List (S50)) : Option (Bool) := if (l0.length : Int) > 400 then (some false) else (impl_soundList.l0 k l0 (l0.length : Int) 0)
theorem impl_soundList.mono_l : ∀ k, (∀ y0 y1 y2, LeO (impl_soundList.l0 k y0 y1 y2) (impl_soundList.l0 (k + 1) y0 y1 y2))
  | 0 => fun _ _ _ r h => by simp [impl_soundList.l0] at h
  | k + 1 => by
    have ih0 := impl_soundList.mono_l k
    · intro y0 y1 y2
      unfold impl_soundList.l0
      repeat' first
      | (with_reducible exact ih0 _ _ _)
      | (with_reducible exact impl_recordOk.mono _ _ _ _ _ _)
      | (with_reducible exact LeO.refl _)
      | (with_reducible exact LeO.none _)
      | (with_reducible refine LeO.ite ?_ ?_)
      | (with_reducible refine LeO.bind ?_ (fun _ => ?_))
      | exact ih0 _ _ _
      | exact impl_recordOk.mono _ _ _ _ _ _
      | exact LeO.none _
      | refine LeO.ite ?_ ?_
      | refine LeO.bind ?_ (fun _ => ?_)
theorem impl_soundList.mono : ∀ a0 k, LeO (impl_soundList.f k a0) (impl_soundList.f (k + 1) a0) := by
  intro a0 k
  have ih0 := impl_soundList.mono_l k
  unfold impl_soundList.f
  repeat' first
      | (with_reducible exact ih0 _ _ _)
      | (with_reducible exact impl_recordOk.mono _ _ _ _ _ _)
      | (with_reducible exact LeO.refl _)
      | (with_reducible exact LeO.none _)
      | (with_reducible refine LeO.ite ?_ ?_)
      | (with_reducible refine LeO.bind ?_ (fun _ => ?_))
      | exact ih0 _ _ _
      | exact impl_recordOk.mono _ _ _ _ _ _
      | exact LeO.none _
      | refine LeO.ite ?_ ?_
      | refine LeO.bind ?_ (fun _ => ?_)
set_option maxHeartbeats 8000000 in
set_option maxRecDepth 100000 in
theorem impl_soundList.calls (k : Nat) (A0 : Option Addr) (c0 : Nat) (l0 : List (S50)) (r : Bool) (w : World) (hr0 : Kd.C k50 w A0 l0.length l0) (hc0 : l0.length ≤ c0) (h : impl_soundList.f k l0 = some r) (hG : Glob w) :
    Calls Tryd.prog 27 #[.slice A0 l0.length c0] w fun e w' => e = .returned (.bool r) ∧ Below w.heap.size w w' := by
  have HG := Aside0.mk hG
  clear hG
  have hu50 := Tryd.underlying50
  have HR0 := Aside0.mk hr0
  have HC0 := Aside0.mk hc0
  clear hr0 hc0
  have HB := Aside0.mk (Below.refl w.heap.size w)
  have H : (if (l0.length : Int) > 400 then (some false) else (impl_soundList.l0 k l0 (l0.length : Int) 0)) = some r := h
  clear h
  by_cases c2 : (l0.length : Int) > 400
  · rw [if_pos c2] at H
    have c2b0 : decide (400 < (l0.length : Int)) = true := decide_eq_true c2
    have c2b1 : decide (400 < l0.length) = true := decide_eq_true (by omega)
    clear c2
    obtain rfl := Option.some.inj H
    go_enter Tryd.func27, Tryd.ntmps27
    go_wp2
    go_ret
    exact ⟨by first | rfl | (simp [errW_none, errW_some] <;> rfl) | (simp [*, errW_none, errW_some] <;> rfl), by repeat (first | (with_reducible first | exact HB.out | apply below_alloc | apply pw_below_drewN | apply below_drew1) | exact HB.out)⟩
  · rw [if_neg c2] at H
    have c2b0 : decide (400 < (l0.length : Int)) = false := decide_eq_false c2
    have c2b1 : decide (400 < l0.length) = false := decide_eq_false (by omega)
    clear c2
    have H' := Aside0.mk H
    clear H
    go_enter Tryd.func27, Tryd.ntmps27
    go_wp2
    go_loopg [10] k (fun kq v10 w' => ∃ (x10_1 : Int), v10 = .int .i64 x10_1 ∧ Aside0 (impl_soundList.l0 kq l0 (l0.length : Int) x10_1 = some r) ∧ Aside0 (kq ≤ k) ∧ Aside0 (Below w.heap.size w w'))
    case atStart => exact ⟨(0), (by first | rfl | (simp; done) | (simp [*]; done)), H', ⟨Nat.le_refl _⟩, ⟨by repeat (first | (with_reducible first | exact HB.out | apply below_alloc | apply pw_below_drewN | apply below_drew1) | exact HB.out)⟩⟩
    case round =>
      clear H'
      try clear c2
      try clear c2b0
      try clear c2b1
      try clear p2
      obtain ⟨x10_1, rfl, HA, HK1, HB⟩ := hrel
      cases gk with
      | zero => exact absurd HA.out (by simp [impl_soundList.l0])
      | succ k1 =>
        have H := HA.out
        clear HA
        simp only [impl_soundList.l0] at H
        by_cases c3 : x10_1 < (l0.length : Int)
        · rw [if_pos c3] at H
          have c3b0 : decide (x10_1 < (l0.length : Int)) = true := decide_eq_true c3
          clear c3
          by_cases c4 : 0 ≤ x10_1
          · rw [if_pos c4] at H
            have c4b0 : decide (0 ≤ x10_1) = true := decide_eq_true c4
            clear c4
            by_cases c5 : x10_1 < (l0.length : Int)
            · rw [if_pos c5] at H
              have c5b0 : decide (x10_1 < (l0.length : Int)) = true := decide_eq_true c5
              clear c5
              replace H := Option.bind_eq_some_iff.mp H
              obtain ⟨t103, A60, H⟩ := H
              replace H : (if t103 = true then (impl_soundList.l0 k1 l0 (l0.length : Int) (wrap64 (x10_1 + 1))) else (some false)) = some r := H
              have A6 := Aside0.mk A60
              clear A60
              by_cases c7 : t103 = true
              · subst c7
                have H1 : (impl_soundList.l0 k1 l0 (l0.length : Int) (wrap64 (x10_1 + 1))) = some r := by rw [if_pos rfl] at H; exact H
                clear H
                have H := H1
                clear H1
                have H' := Aside0.mk H
                clear H
                have p101 : 0 ≤ (x10_1 : Int) := of_decide_eq_true (by first | (with_reducible assumption) | assumption)
                have q101 : x10_1 < (l0.length : Int) := of_decide_eq_true (by first | (with_reducible assumption) | assumption)
                obtain ⟨ad101, e101, hx101_0, hx101_1, hx101_2, hx101_3, hx101_4⟩ := at_T50 HR0.out x10_1 p101 q101
                cases e101
                replace hx101_0 := (HB.out.cell (World.block_lt_of_cell? w _ hx101_0)).trans hx101_0
                replace hx101_1 := (HB.out.cell (World.block_lt_of_cell? w _ hx101_1)).trans hx101_1
                replace hx101_2 := (HB.out.cell (World.block_lt_of_cell? w _ hx101_2)).trans hx101_2
                replace hx101_3 := (HB.out.cell (World.block_lt_of_cell? w _ hx101_3)).trans hx101_3
                replace hx101_4 := (HB.out.cell (World.block_lt_of_cell? w _ hx101_4)).trans hx101_4
                replace p101 := eq_true p101
                replace q101 := eq_true q101
                go_wp2_with (first | ((with_reducible refine gate_dst (N := 4) rfl ?_); refine box_event ?hg (N := 4) ?hd (cs := #[.string (⟨#[]⟩ : ByteArray), .int .i64 0, .int .i64 0, .int .i64 0, .string (⟨#[]⟩ : ByteArray)]) (t := 50) ?hr ?_; (case hd => rfl); (case hg => rfl); (case hr => first | (go_simp; done) | (go_simp; rfl)); intro gb102 hg w8 hbox hb; have n0_ := Aside0.mk (below_step (by repeat (first | (with_reducible first | exact HB.out | apply below_alloc | apply pw_below_drewN | apply below_drew1) | exact HB.out)) hb); have n1_ := Aside0.mk (hbox); have n2_ := Aside0.mk ((by rw [hg]; exact (below_size (by repeat (first | (with_reducible first | exact HB.out | apply below_alloc | apply pw_below_drewN | apply below_drew1) | exact HB.out))) : w.heap.size ≤ gb102)); have n3_ := Aside0.mk ((by rw [hg]; exact (below_size (by repeat (first | (with_reducible first | exact HB.out | apply below_alloc | apply pw_below_drewN | apply below_drew1) | exact HB.out))) : w.heap.size ≤ gb102)); clear HB; have HB := n0_; have BK102 := n1_; have GW102 := n2_; have GE102 := n3_; clear n0_ n1_ n2_ n3_; clear hb hbox hg; have hcz9_0 : w8.cell? ⟨gb102, 0, none⟩ = some (.string (⟨#[]⟩ : ByteArray)) := (blk_cell BK102.out 0).trans rfl; have hcz9_1 : w8.cell? ⟨gb102, 1, none⟩ = some (.int .i64 0) := (blk_cell BK102.out 1).trans rfl; have hcz9_2 : w8.cell? ⟨gb102, 2, none⟩ = some (.int .i64 0) := (blk_cell BK102.out 2).trans rfl; have hcz9_3 : w8.cell? ⟨gb102, 3, none⟩ = some (.int .i64 0) := (blk_cell BK102.out 3).trans rfl; have hcz9_4 : w8.cell? ⟨gb102, 4, none⟩ = some (.string (⟨#[]⟩ : ByteArray)) := (blk_cell BK102.out 4).trans rfl; have hfz9_0 := blk_frozen BK102.out 0; have hfz9_1 := blk_frozen BK102.out 1; have hfz9_2 := blk_frozen BK102.out 2; have hfz9_3 := blk_frozen BK102.out 3; have hfz9_4 := blk_frozen BK102.out 4) | ((with_reducible refine gate_callee (f := 57) rfl ?_); refine goesL_ (some 15) rfl rfl Tryd.func57 (by kernel_rfl) rfl #[.agg #[.string ((rd_T50 l0 x10_1).f0), .int .i64 ((rd_T50 l0 x10_1).f1), .int .i64 ((rd_T50 l0 x10_1).f2), .int .i64 ((rd_T50 l0 x10_1).f3), .string ((rd_T50 l0 x10_1).f4)]] rfl (by (try simp only [List.map_toArray, List.map_cons, List.map_nil]); first | done | rfl | (simp only [List.length_drop, List.length_take]; rfl)) ?_; (with_reducible refine (impl_recordOk.calls k1 ((rd_T50 l0 x10_1).f0) ((rd_T50 l0 x10_1).f1) ((rd_T50 l0 x10_1).f2) ((rd_T50 l0 x10_1).f3) ((rd_T50 l0 x10_1).f4) true _ A6.out (HG.out.below (by repeat (first | (with_reducible first | exact HB.out | apply below_alloc | apply pw_below_drewN | apply below_drew1 | refine below_set ?_ GE102.out) | exact HB.out)))).mono ?_); rintro e w10 ⟨rfl, hb⟩; refine ⟨_, rfl, ?_⟩; have n0_ := Aside0.mk (blk_below (g := gb102) (o := .cells #[.string ((rd_T50 l0 x10_1).f0), .int .i64 ((rd_T50 l0 x10_1).f1), .int .i64 ((rd_T50 l0 x10_1).f2), .int .i64 ((rd_T50 l0 x10_1).f3), .string ((rd_T50 l0 x10_1).f4)] 50 (0, 0)) (by (with_reducible repeat (first | refine blk_drewN ?_ _ | refine blk_drew ?_ | refine blk_alloc ?_ _)); refine blk_put (cs := #[.string ((rd_T50 l0 x10_1).f0), .int .i64 ((rd_T50 l0 x10_1).f1), .int .i64 ((rd_T50 l0 x10_1).f2), .int .i64 ((rd_T50 l0 x10_1).f3), .string (⟨#[]⟩ : ByteArray)]) ?_ 4 _ rfl; (with_reducible repeat (first | refine blk_drewN ?_ _ | refine blk_drew ?_ | refine blk_alloc ?_ _)); refine blk_put (cs := #[.string ((rd_T50 l0 x10_1).f0), .int .i64 ((rd_T50 l0 x10_1).f1), .int .i64 ((rd_T50 l0 x10_1).f2), .int .i64 0, .string (⟨#[]⟩ : ByteArray)]) ?_ 3 _ rfl; (with_reducible repeat (first | refine blk_drewN ?_ _ | refine blk_drew ?_ | refine blk_alloc ?_ _)); refine blk_put (cs := #[.string ((rd_T50 l0 x10_1).f0), .int .i64 ((rd_T50 l0 x10_1).f1), .int .i64 0, .int .i64 0, .string (⟨#[]⟩ : ByteArray)]) ?_ 2 _ rfl; (with_reducible repeat (first | refine blk_drewN ?_ _ | refine blk_drew ?_ | refine blk_alloc ?_ _)); refine blk_put (cs := #[.string ((rd_T50 l0 x10_1).f0), .int .i64 0, .int .i64 0, .int .i64 0, .string (⟨#[]⟩ : ByteArray)]) ?_ 1 _ rfl; (with_reducible repeat (first | refine blk_drewN ?_ _ | refine blk_drew ?_ | refine blk_alloc ?_ _)); refine blk_put (cs := #[.string (⟨#[]⟩ : ByteArray), .int .i64 0, .int .i64 0, .int .i64 0, .string (⟨#[]⟩ : ByteArray)]) ?_ 0 _ rfl; (with_reducible repeat (first | refine blk_drewN ?_ _ | refine blk_drew ?_ | refine blk_alloc ?_ _)); exact BK102.out) hb); have n1_ := Aside0.mk (below_step (by repeat (first | (with_reducible first | exact HB.out | apply below_alloc | apply pw_below_drewN | apply below_drew1 | refine below_set ?_ GE102.out) | exact HB.out)) hb); clear BK102; clear HB; have BK102 := n0_; have HB := n1_; clear n0_ n1_; (try clear hb); (try clear hb2); (try clear hk); (try clear hi)))
                go_roundg k1
                case measure => have := HK1.out; omega
                case rel => exact ⟨(wrap64 (x10_1 + 1)), (by first | rfl | (simp; done) | (simp [*]; done)), H', ⟨by have := HK1.out; omega⟩, ⟨by repeat (first | (with_reducible first | exact HB.out | apply below_alloc | apply pw_below_drewN | apply below_drew1 | refine below_set ?_ GE102.out) | exact HB.out)⟩⟩
              · replace c7 := Bool.eq_false_iff.mpr c7
                subst c7
                have H1 : (some false) = some r := by rw [if_neg (show ¬ (false = true) by decide)] at H; exact H
                clear H
                have H := H1
                clear H1
                obtain rfl := Option.some.inj H
                have p101 : 0 ≤ (x10_1 : Int) := of_decide_eq_true (by first | (with_reducible assumption) | assumption)
                have q101 : x10_1 < (l0.length : Int) := of_decide_eq_true (by first | (with_reducible assumption) | assumption)
                obtain ⟨ad101, e101, hx101_0, hx101_1, hx101_2, hx101_3, hx101_4⟩ := at_T50 HR0.out x10_1 p101 q101
                cases e101
                replace hx101_0 := (HB.out.cell (World.block_lt_of_cell? w _ hx101_0)).trans hx101_0
                replace hx101_1 := (HB.out.cell (World.block_lt_of_cell? w _ hx101_1)).trans hx101_1
                replace hx101_2 := (HB.out.cell (World.block_lt_of_cell? w _ hx101_2)).trans hx101_2
                replace hx101_3 := (HB.out.cell (World.block_lt_of_cell? w _ hx101_3)).trans hx101_3
                replace hx101_4 := (HB.out.cell (World.block_lt_of_cell? w _ hx101_4)).trans hx101_4
                replace p101 := eq_true p101
                replace q101 := eq_true q101
                go_wp2_with (first | ((with_reducible refine gate_dst (N := 4) rfl ?_); refine box_event ?hg (N := 4) ?hd (cs := #[.string (⟨#[]⟩ : ByteArray), .int .i64 0, .int .i64 0, .int .i64 0, .string (⟨#[]⟩ : ByteArray)]) (t := 50) ?hr ?_; (case hd => rfl); (case hg => rfl); (case hr => first | (go_simp; done) | (go_simp; rfl)); intro gb102 hg w11 hbox hb; have n0_ := Aside0.mk (below_step (by repeat (first | (with_reducible first | exact HB.out | apply below_alloc | apply pw_below_drewN | apply below_drew1) | exact HB.out)) hb); have n1_ := Aside0.mk (hbox); have n2_ := Aside0.mk ((by rw [hg]; exact (below_size (by repeat (first | (with_reducible first | exact HB.out | apply below_alloc | apply pw_below_drewN | apply below_drew1) | exact HB.out))) : w.heap.size ≤ gb102)); have n3_ := Aside0.mk ((by rw [hg]; exact (below_size (by repeat (first | (with_reducible first | exact HB.out | apply below_alloc | apply pw_below_drewN | apply below_drew1) | exact HB.out))) : w.heap.size ≤ gb102)); clear HB; have HB := n0_; have BK102 := n1_; have GW102 := n2_; have GE102 := n3_; clear n0_ n1_ n2_ n3_; clear hb hbox hg; have hcz12_0 : w11.cell? ⟨gb102, 0, none⟩ = some (.string (⟨#[]⟩ : ByteArray)) := (blk_cell BK102.out 0).trans rfl; have hcz12_1 : w11.cell? ⟨gb102, 1, none⟩ = some (.int .i64 0) := (blk_cell BK102.out 1).trans rfl; have hcz12_2 : w11.cell? ⟨gb102, 2, none⟩ = some (.int .i64 0) := (blk_cell BK102.out 2).trans rfl; have hcz12_3 : w11.cell? ⟨gb102, 3, none⟩ = some (.int .i64 0) := (blk_cell BK102.out 3).trans rfl; have hcz12_4 : w11.cell? ⟨gb102, 4, none⟩ = some (.string (⟨#[]⟩ : ByteArray)) := (blk_cell BK102.out 4).trans rfl; have hfz12_0 := blk_frozen BK102.out 0; have hfz12_1 := blk_frozen BK102.out 1; have hfz12_2 := blk_frozen BK102.out 2; have hfz12_3 := blk_frozen BK102.out 3; have hfz12_4 := blk_frozen BK102.out 4) | ((with_reducible refine gate_callee (f := 57) rfl ?_); refine goesL_ (some 15) rfl rfl Tryd.func57 (by kernel_rfl) rfl #[.agg #[.string ((rd_T50 l0 x10_1).f0), .int .i64 ((rd_T50 l0 x10_1).f1), .int .i64 ((rd_T50 l0 x10_1).f2), .int .i64 ((rd_T50 l0 x10_1).f3), .string ((rd_T50 l0 x10_1).f4)]] rfl (by (try simp only [List.map_toArray, List.map_cons, List.map_nil]); first | done | rfl | (simp only [List.length_drop, List.length_take]; rfl)) ?_; (with_reducible refine (impl_recordOk.calls k1 ((rd_T50 l0 x10_1).f0) ((rd_T50 l0 x10_1).f1) ((rd_T50 l0 x10_1).f2) ((rd_T50 l0 x10_1).f3) ((rd_T50 l0 x10_1).f4) false _ A6.out (HG.out.below (by repeat (first | (with_reducible first | exact HB.out | apply below_alloc | apply pw_below_drewN | apply below_drew1 | refine below_set ?_ GE102.out) | exact HB.out)))).mono ?_); rintro e w13 ⟨rfl, hb⟩; refine ⟨_, rfl, ?_⟩; have n0_ := Aside0.mk (blk_below (g := gb102) (o := .cells #[.string ((rd_T50 l0 x10_1).f0), .int .i64 ((rd_T50 l0 x10_1).f1), .int .i64 ((rd_T50 l0 x10_1).f2), .int .i64 ((rd_T50 l0 x10_1).f3), .string ((rd_T50 l0 x10_1).f4)] 50 (0, 0)) (by (with_reducible repeat (first | refine blk_drewN ?_ _ | refine blk_drew ?_ | refine blk_alloc ?_ _)); refine blk_put (cs := #[.string ((rd_T50 l0 x10_1).f0), .int .i64 ((rd_T50 l0 x10_1).f1), .int .i64 ((rd_T50 l0 x10_1).f2), .int .i64 ((rd_T50 l0 x10_1).f3), .string (⟨#[]⟩ : ByteArray)]) ?_ 4 _ rfl; (with_reducible repeat (first | refine blk_drewN ?_ _ | refine blk_drew ?_ | refine blk_alloc ?_ _)); refine blk_put (cs := #[.string ((rd_T50 l0 x10_1).f0), .int .i64 ((rd_T50 l0 x10_1).f1), .int .i64 ((rd_T50 l0 x10_1).f2), .int .i64 0, .string (⟨#[]⟩ : ByteArray)]) ?_ 3 _ rfl; (with_reducible repeat (first | refine blk_drewN ?_ _ | refine blk_drew ?_ | refine blk_alloc ?_ _)); refine blk_put (cs := #[.string ((rd_T50 l0 x10_1).f0), .int .i64 ((rd_T50 l0 x10_1).f1), .int .i64 0, .int .i64 0, .string (⟨#[]⟩ : ByteArray)]) ?_ 2 _ rfl; (with_reducible repeat (first | refine blk_drewN ?_ _ | refine blk_drew ?_ | refine blk_alloc ?_ _)); refine blk_put (cs := #[.string ((rd_T50 l0 x10_1).f0), .int .i64 0, .int .i64 0, .int .i64 0, .string (⟨#[]⟩ : ByteArray)]) ?_ 1 _ rfl; (with_reducible repeat (first | refine blk_drewN ?_ _ | refine blk_drew ?_ | refine blk_alloc ?_ _)); refine blk_put (cs := #[.string (⟨#[]⟩ : ByteArray), .int .i64 0, .int .i64 0, .int .i64 0, .string (⟨#[]⟩ : ByteArray)]) ?_ 0 _ rfl; (with_reducible repeat (first | refine blk_drewN ?_ _ | refine blk_drew ?_ | refine blk_alloc ?_ _)); exact BK102.out) hb); have n1_ := Aside0.mk (below_step (by repeat (first | (with_reducible first | exact HB.out | apply below_alloc | apply pw_below_drewN | apply below_drew1 | refine below_set ?_ GE102.out) | exact HB.out)) hb); clear BK102; clear HB; have BK102 := n0_; have HB := n1_; clear n0_ n1_; (try clear hb); (try clear hb2); (try clear hk); (try clear hi)))
                go_ret
                exact ⟨by first | rfl | (simp [errW_none, errW_some] <;> rfl) | (simp [*, errW_none, errW_some] <;> rfl), by repeat (first | (with_reducible first | exact HB.out | apply below_alloc | apply pw_below_drewN | apply below_drew1 | refine below_set ?_ GE102.out) | exact HB.out)⟩
            · rw [if_neg c5] at H
              exact absurd H (by simp)
          · rw [if_neg c4] at H
            exact absurd H (by simp)
        · rw [if_neg c3] at H
          have c3b0 : decide (x10_1 < (l0.length : Int)) = false := decide_eq_false c3
          clear c3
          obtain rfl := Option.some.inj H
          go_wp2
          go_ret
          exact ⟨by first | rfl | (simp [errW_none, errW_some] <;> rfl) | (simp [*, errW_none, errW_some] <;> rfl), by repeat (first | (with_reducible first | exact HB.out | apply below_alloc | apply pw_below_drewN | apply below_drew1) | exact HB.out)⟩

end Go.Proofs.YtpnbhblmfglkcaaDoor.F
namespace Go.Proofs.YtpnbhblmfglkcaaDoor.F
open Go Go.Shelf Go.RowKit Go.Proofs.YtpnbhblmfglkcaaDoorW.PrintWords Go.Proofs.YtpnbhblmfglkcaaDoorW.PrintLast Go.Proofs.YtpnbhblmfglkcaaDoorW.PrintMore
attribute [local go_sem] max2_int min2_int max_two min_two max_three min_three max_four min_four   -- for this text's walks alone
set_option linter.unusedVariables false
set_option linter.unusedSimpArgs false

/-! ### stands 0 -/
section
open Go.Lib (BuilderAt IsBuilder)
theorem bld_cellsB : (Tryd.prog.info? 124).map (fun i => i.size) = some 2 := by kernel_rfl
theorem bld_infoByte : (Tryd.prog.info? 5).map (fun i => (i.zero, i.size, i.bytes)) = some (some (.int .u8 0), 1, 1) := by kernel_rfl
theorem bld_ne : (124 : Nat) ≠ 5 := by decide
set_option maxHeartbeats 1000000 in
set_option maxRecDepth 100000 in
theorem bld_copyCheck_used (b : Nat) (w : World) (h0 : w.cell? ⟨b, 0, none⟩ = some (.pointer (some ⟨b, 0, none⟩))) :
    Calls Tryd.prog 107 #[.pointer (some ⟨b, 0, none⟩)] w fun e w' => e = .returned (.tuple #[]) ∧ w' = w := by
  obtain ⟨j, hj, _⟩ := Option.map_eq_some_iff.1 bld_cellsB
  go_enter Tryd.func107, Tryd.ntmps107
  go_wp2
  rw [Lib.run_neq_ptr_same w _ Tryd.underlying122 hj]
  go_wp2
  go_end0
  exact ⟨rfl, rfl⟩
set_option maxHeartbeats 1000000 in
set_option maxRecDepth 100000 in
theorem bld_copyCheck_fresh (b : Nat) (w : World) (h0 : w.cell? ⟨b, 0, none⟩ = some (.pointer none)) (hsh : w.shape? b = some (124, 2)) (hfz : w.frozen? ⟨b, 0, none⟩ = false) :
    Calls Tryd.prog 107 #[.pointer (some ⟨b, 0, none⟩)] w fun e w' => e = .returned (.tuple #[]) ∧ w' = w.setCell ⟨b, 0, none⟩ (.pointer (some ⟨b, 0, none⟩)) := by
  obtain ⟨j, hj, hjs⟩ := Option.map_eq_some_iff.1 bld_cellsB
  go_enter Tryd.func107, Tryd.ntmps107
  go_wp2
  rw [Lib.run_to_unsafe w ⟨b, 0, none⟩ Tryd.underlying122 Tryd.underlying157 hj (by rw [hjs]; decide) hsh (Nat.zero_lt_succ 1)]
  simp only [Result.andThen]
  rw [Oper.upon_value]
  go_wp2
  rw [run_callFunc_extern Tryd.func115 (by kernel_rfl) (by kernel_rfl) (by kernel_rfl) (e := Extern.AbiNoEscape.same) (by kernel_rfl)]
  rw [Lib.run_noEscape]
  simp only [Result.andThen]
  rw [Oper.upon_value]
  go_wp2
  rw [Lib.run_from_unsafe w ⟨b, 0, none⟩ Tryd.underlying157 Tryd.underlying122 hj hsh (by kernel_rfl)]
  simp only [Result.andThen]
  rw [Oper.upon_value]
  go_wp2
  go_end0
  exact ⟨rfl, rfl⟩
theorem bld_copyCheck (B b : Nat) (bs : List Value) (w : World) (h : IsBuilder 124 5 B b bs w) :
    Calls Tryd.prog 107 #[.pointer (some ⟨b, 0, none⟩)] w fun e w' => e = .returned (.tuple #[]) ∧ (BuilderAt 124 5 B b (.pointer (some ⟨b, 0, none⟩)) bs w' ∧ Below B w w') := by
  rcases h with h | h
  · refine (bld_copyCheck_fresh b w h.cell0 h.shape h.frozen0).mono ?_
    rintro e w' ⟨rfl, rfl⟩
    exact ⟨rfl, h.used _, (Below.refl B w).setCell (p := ⟨b, 0, none⟩) h.1 _⟩
  · refine (bld_copyCheck_used b w h.cell0).mono ?_
    rintro e w' ⟨rfl, rfl⟩
    exact ⟨rfl, h, Below.refl B _⟩
set_option maxHeartbeats 2000000 in
set_option maxRecDepth 100000 in
theorem bld_WriteByte (B b : Nat) (bs : List Value) (c : Int) (w : World) (h : IsBuilder 124 5 B b bs w) (hlen : bs.length + 1 ≤ 140737488355328) (hBw : B ≤ w.heap.size) :
    Calls Tryd.prog 82 #[.pointer (some ⟨b, 0, none⟩), .int .u8 c] w fun e w' => e = .returned .nilIface ∧ (BuilderAt 124 5 B b (.pointer (some ⟨b, 0, none⟩)) (bs ++ [.int .u8 c]) w' ∧ Below B w w') := by
  obtain ⟨i0, hi, hz0, hz1, hz2⟩ := info_parts bld_infoByte
  go_enter Tryd.func82, Tryd.ntmps82
  go_wp2_with (go_at_call 107; refine (bld_copyCheck B b bs _ h).mono ?_)
  rintro e w1 ⟨rfl, h1, hb1⟩
  obtain ⟨hB, v, hbk, hown, hne⟩ := h1
  have c0 : w1.cell? ⟨b, 0, none⟩ = some (.pointer (some ⟨b, 0, none⟩)) := by rw [Lib.cell_of_heap hbk]; rfl
  have c1 : w1.cell? ⟨b, 1, none⟩ = some v := by rw [Lib.cell_of_heap hbk]; rfl
  go_wp2_with (at_builtin; refine wpList_append_own _ rfl _ _ 88 rfl B 5 i0 (.int .u8 0) 1 1 Tryd.underlying88 hi hz0 hz1 hz2 rfl (by decide) _ _ _ rfl (hown.alloc _) ⟨w1.heap.size, 0, none⟩ 1 1 [.int .u8 c] rfl rfl ?c1 ?c2 ?c3 ?c4 ?c5 ?_)
  case c1 =>
    intro j u hj
    match j, hj with
    | 0, hj => simp at hj; subst hj; simp [Addr.add]
  case c2 => intro u hu; simp at hu; subst hu; rfl
  case c3 => unfold maxLen; omega
  case c4 => omega
  case c5 => have := hb1.size; simp; omega
  intro v' w2 hown' hgrow _
  have hlt : b < w1.heap.size := by
    rcases Nat.lt_or_ge b w1.heap.size with h' | h'
    · exact h'
    · simp [Array.getElem?_eq_none h'] at hbk
  have hb2 : w2.heap[b]? = some (.cells #[.pointer (some ⟨b, 0, none⟩), v] 124 (0, 0)) := by
    rw [hgrow.block b (by simp; omega) (fun e => hne e.symm), Lib.alloc_old w1 _ b hlt]
    exact hbk
  have d0 : w2.cell? ⟨b, 0, none⟩ = some (.pointer (some ⟨b, 0, none⟩)) := by rw [Lib.cell_of_heap hb2]; rfl
  have d1 : w2.cell? ⟨b, 1, none⟩ = some v := by rw [Lib.cell_of_heap hb2]; rfl
  have f1 : w2.frozen? ⟨b, 1, none⟩ = false := Lib.frozen_of_heap hb2 1
  obtain ⟨g, cap, rfl⟩ : ∃ g cap, v' = .slice (some ⟨g, 0, none⟩) (bs.length + 1) cap := by
    rcases hown'.2 with ⟨_, h0⟩ | ⟨g, cap, cur, hv, _⟩
    · omega
    · exact ⟨g, cap, hv⟩
  go_wp2
  go_ret
  refine ⟨rfl, ?_, ?_⟩
  · exact Lib.BuilderAt.put (T := 124) (e := 5) hB hb2 (bs' := bs ++ [.int .u8 c]) (by simpa using hown') bld_ne
  · exact ((hb1.alloc (by have := hb1.size; omega) _).grown hgrow (by have := hb1.size; simp; omega) (fun k hk => (hown.lt k hk).1)).setCell (p := ⟨b, 1, none⟩) hB _
set_option maxHeartbeats 2000000 in
set_option maxRecDepth 100000 in
theorem bld_WriteString (B b : Nat) (bs : List Value) (s : ByteArray) (w : World) (h : IsBuilder 124 5 B b bs w) (hlen : bs.length + s.size ≤ 140737488355328) (hBw : B ≤ w.heap.size) :
    Calls Tryd.prog 83 #[.pointer (some ⟨b, 0, none⟩), .string s] w fun e w' => e = .returned (.tuple #[.int .i64 s.size, .nilIface]) ∧ (BuilderAt 124 5 B b (.pointer (some ⟨b, 0, none⟩)) (bs ++ Lib.strCells s) w' ∧ Below B w w') := by
  obtain ⟨i0, hi, hz0, hz1, hz2⟩ := info_parts bld_infoByte
  go_enter Tryd.func83, Tryd.ntmps83
  go_wp2_with (go_at_call 107; refine (bld_copyCheck B b bs _ h).mono ?_)
  rintro e w1 ⟨rfl, h1, hb1⟩
  obtain ⟨hB, v, hbk, hown, hne⟩ := h1
  have c0 : w1.cell? ⟨b, 0, none⟩ = some (.pointer (some ⟨b, 0, none⟩)) := by rw [Lib.cell_of_heap hbk]; rfl
  have c1 : w1.cell? ⟨b, 1, none⟩ = some v := by rw [Lib.cell_of_heap hbk]; rfl
  go_wp2_with (at_builtin; refine Lib.wpList_append_own_string _ rfl _ _ 88 9 rfl B 5 i0 Tryd.underlying88 Tryd.underlying9 hi hz0 hz1 hz2 _ _ _ rfl hown s rfl ?c3 ?c4 ?c5 ?_)
  case c3 => unfold maxLen; omega
  case c4 => omega
  case c5 => have := hb1.size; omega
  intro v' w2 hown' hgrow _
  have hlt : b < w1.heap.size := by
    rcases Nat.lt_or_ge b w1.heap.size with h' | h'
    · exact h'
    · simp [Array.getElem?_eq_none h'] at hbk
  have hb2 : w2.heap[b]? = some (.cells #[.pointer (some ⟨b, 0, none⟩), v] 124 (0, 0)) := by
    rw [hgrow.block b hlt (fun e => hne e.symm)]
    exact hbk
  have d0 : w2.cell? ⟨b, 0, none⟩ = some (.pointer (some ⟨b, 0, none⟩)) := by rw [Lib.cell_of_heap hb2]; rfl
  have d1 : w2.cell? ⟨b, 1, none⟩ = some v := by rw [Lib.cell_of_heap hb2]; rfl
  have f1 : w2.frozen? ⟨b, 1, none⟩ = false := Lib.frozen_of_heap hb2 1
  obtain ⟨ao, n', cap, rfl⟩ : ∃ ao n' cap, v' = .slice ao n' cap := by
    rcases hown'.2 with ⟨hv, _⟩ | ⟨g, cap, cur, hv, _⟩
    · exact ⟨_, _, _, hv⟩
    · exact ⟨_, _, _, hv⟩
  go_wp2
  go_ret2
  refine ⟨rfl, ?_, ?_⟩
  · exact Lib.BuilderAt.put (T := 124) (e := 5) hB hb2 (bs' := bs ++ Lib.strCells s) (by simpa [Lib.strCells_length] using hown') bld_ne
  · exact (hb1.grown hgrow (by have := hb1.size; omega) (fun k hk => (hown.lt k hk).1)).setCell (p := ⟨b, 1, none⟩) hB _
end
def bld_ren : Go.Shelf.Ren := ⟨fun | 169 => 84 | n => n, fun | 70 => 122 | 9 => 9 | 0 => 0 | 72 => 124 | 37 => 88 | 127 => 146 | 3 => 3 | 5 => 5 | n => n, fun | n => n⟩
theorem bld_lays : Go.Proofs.Lays.n169 Tryd.prog bld_ren := {
  mixed := by kernel_rfl
  f169 := Tryd.func84.trans (congrArg some (by kernel_rfl))
  t0 := Tryd.underlying0
  a0 := Tryd.isAgg0
  z0 := Tryd.sizeOf0
  v0 := Tryd.zeroValue0
  t3 := Tryd.underlying3
  a3 := Tryd.isAgg3
  z3 := Tryd.sizeOf3
  v3 := Tryd.zeroValue3
  t9 := Tryd.underlying9
  a9 := Tryd.isAgg9
  z9 := Tryd.sizeOf9
  v9 := Tryd.zeroValue9
  t37 := Tryd.underlying88
  a37 := Tryd.isAgg88
  z37 := Tryd.sizeOf88
  v37 := Tryd.zeroValue88
  t70 := Tryd.underlying122
  a70 := Tryd.isAgg122
  z70 := Tryd.sizeOf122
  v70 := Tryd.zeroValue122
  t72 := Tryd.underlying124
  a72 := Tryd.isAgg124
  z72 := Tryd.sizeOf124
  v72 := Tryd.zeroValue124
  t127 := Tryd.underlying146
  a127 := Tryd.isAgg146
  z127 := Tryd.sizeOf146
  v127 := Tryd.zeroValue146 }
theorem bld_extra : Builder.Extra Tryd.prog bld_ren := {
  sizeBuilder := by kernel_rfl
  liesBuilder := by kernel_rfl
  t5 := Tryd.underlying5
  a5 := Tryd.isAgg5
  z5 := Tryd.sizeOf5
  v5 := Tryd.zeroValue5
  infoByte := by kernel_rfl
  cellsByte := by kernel_rfl
  sizeByte := by kernel_rfl
  neB5 := by decide }
theorem bld_String (B b : Nat) (l : List UInt8) (w : World) (h : Lib.IsBuilder 124 5 B b (Lib.byteCells l) w) (hBw : B ≤ w.heap.size) :
    Calls Tryd.prog 84 #[.pointer (some ⟨b, 0, none⟩)] w fun e w' => e = .returned (.string ⟨l.toArray⟩) ∧ Below B w w' := Any.Builder_String_any bld_lays bld_extra B b l w h hBw

end Go.Proofs.YtpnbhblmfglkcaaDoor.F
namespace Go.Proofs.YtpnbhblmfglkcaaDoor.F
open Go Go.Shelf Go.RowKit Go.Proofs.YtpnbhblmfglkcaaDoorW.PrintWords Go.Proofs.YtpnbhblmfglkcaaDoorW.PrintLast Go.Proofs.YtpnbhblmfglkcaaDoorW.PrintMore
attribute [local go_sem] max2_int min2_int max_two min_two max_three min_three max_four min_four   -- for this text's walks alone
set_option linter.unusedVariables false
set_option linter.unusedSimpArgs false

/-! ### impl_joined: function 50 -/
def joinB (l : List ByteArray) : List UInt8 := l.flatMap fun s => UInt8.ofNat s.size :: s.data.toList
def impl_joined.f (l0 : List ByteArray) : Option (ByteArray) := if (joinB l0).length + 1 ≤ 140737488355328 ∧ l0.length ≤ 140737488355328 then some ⟨(joinB l0 ++ [0]).toArray⟩ else none
theorem joinB_succ (l : List ByteArray) (k : Nat) (hk : k < l.length) : joinB (l.take (k + 1)) = joinB (l.take k) ++ (UInt8.ofNat (l[k]).size :: (l[k]).data.toList) := by
  simp only [joinB]
  rw [List.take_succ_eq_append_getElem hk, List.flatMap_append, List.flatMap_cons, List.flatMap_nil, List.append_nil]
theorem joinB_le (l : List ByteArray) (k : Nat) : (joinB (l.take k)).length ≤ (joinB l).length := by
  have h : joinB l = joinB (l.take k) ++ joinB (l.drop k) := by
    simp only [joinB]
    rw [← List.flatMap_append, List.take_append_drop]
  rw [h, List.length_append]
  omega
theorem byteCells_len (l : List UInt8) : (Lib.byteCells l).length = l.length := by simp [Lib.byteCells]
theorem byteCells_app (a b : List UInt8) : Lib.byteCells (a ++ b) = Lib.byteCells a ++ Lib.byteCells b := by simp [Lib.byteCells]
theorem byteCells_one (n : Nat) : Lib.byteCells [UInt8.ofNat n] = [Value.int .u8 ((n : Int) % 256)] := by simp [Lib.byteCells]
theorem byteCells_str (s : ByteArray) : Lib.byteCells s.data.toList = Lib.strCells s := by simp [Lib.byteCells, Lib.strCells]
set_option maxHeartbeats 1000000 in
set_option maxRecDepth 100000 in
theorem impl_joined.calls (A0 : Option Addr) (c0 : Nat) (l0 : List ByteArray) (r : ByteArray) (w : World) (hr0 : Kd.C Kd.string w A0 l0.length l0) (hc0 : l0.length ≤ c0) (h : impl_joined.f l0 = some r) :
    Calls Tryd.prog 50 #[.slice A0 l0.length c0] w fun e w' => e = .returned (.string r) ∧ Below w.heap.size w w' := by
  unfold impl_joined.f at h
  split at h
  case isFalse => cases h
  case isTrue hs =>
  obtain ⟨hs, hs2⟩ := hs
  obtain rfl := Option.some.inj h
  have HR := Aside0.mk hr0
  clear hr0
  go_enter Tryd.func50, Tryd.ntmps50
  go_wp2
  go_loopw [8] (fun i wr => ∃ k : Nat, k ≤ l0.length ∧ i = .int .i64 k ∧ Aside0 (Lib.IsBuilder 124 5 w.heap.size w.heap.size (Lib.byteCells (joinB (l0.take k))) wr) ∧ Aside0 (Below w.heap.size w wr)) (fun i _ => l0.length - (intOf i).toNat)
  case atStart => exact ⟨0, Nat.zero_le _, rfl, ⟨Lib.fresh_isBuilder _ _ w⟩, ⟨(Below.refl _ _).alloc (Nat.le_refl _) _⟩⟩
  case round =>
    obtain ⟨k, hk, rfl, HI, HB⟩ := hrel
    by_cases hlt : k < l0.length
    · obtain ⟨ad, e0, hx⟩ := Kd.at_string HR.out (k : Int) (by omega) (by omega)
      cases e0
      replace hx := (HB.out.cell (World.block_lt_of_cell? w _ hx)).trans hx
      have hlt2 : decide ((k : Int) < (l0.length : Int)) = true := decide_eq_true (by omega)
      have hel : rdOf ByteArray.empty l0 (k : Int) = l0[k] := by simp [rdOf, List.getD_eq_getElem?_getD, hlt]
      rw [hel] at hx
      simp only [Int.toNat_natCast] at hx
      have HS := Aside0.mk (joinB_succ l0 k hlt)
      have hle1 := joinB_le l0 (k + 1)
      rw [HS.out] at hle1
      simp only [List.length_append, List.length_cons, Array.length_toList] at hle1
      have hsz : (l0[k]).data.size = (l0[k]).size := rfl
      rw [hsz] at hle1
      clear hel hsz
      have hsw := HB.out.size
      generalize l0[k] = s at *
      go_wp2_with fail
      refine (bld_WriteByte _ _ _ _ _ HI.out (by rw [byteCells_len]; omega) hsw).mono ?_
      rintro e w1 ⟨rfl, h1, hb1⟩
      have HI1 := Aside0.mk h1
      have HB1 := Aside0.mk hb1
      clear h1 hb1
      have hsw1 := HB1.out.size
      go_wp2_with fail
      refine (bld_WriteString _ _ _ s _ (.inr HI1.out) (by simp only [List.length_append, byteCells_len, List.length_cons, List.length_nil]; omega) (by omega)).mono ?_
      rintro e w2 ⟨rfl, h2, hb2⟩
      have HI2 := Aside0.mk h2
      have HB2 := Aside0.mk hb2
      clear h2 hb2
      go_wp2
      go_roundw
      case rel => exact ⟨k + 1, by omega, by go_num, ⟨by rw [HS.out, byteCells_app, show (UInt8.ofNat s.size :: s.data.toList) = [UInt8.ofNat s.size] ++ s.data.toList from rfl, byteCells_app, byteCells_one, byteCells_str, ← List.append_assoc]; exact .inr HI2.out⟩, ⟨(HB.out.trans HB1.out).trans HB2.out⟩⟩
      case measure => simp [intOf]; omega
    · obtain rfl : k = l0.length := by omega
      have HI2 := HI.out
      rw [List.take_length] at HI2
      have HI3 := Aside0.mk HI2
      clear HI2
      have hlt2 : decide ((l0.length : Int) < (l0.length : Int)) = false := decide_eq_false (by omega)
      have hsw := HB.out.size
      go_wp2_with fail
      refine (bld_WriteByte _ _ _ _ _ HI3.out (by rw [byteCells_len]; omega) hsw).mono ?_
      rintro e w1 ⟨rfl, h1, hb1⟩
      have HI1 := Aside0.mk h1
      have HB1 := Aside0.mk hb1
      clear h1 hb1
      have hsw1 := HB1.out.size
      go_wp2_with fail
      refine (bld_String w.heap.size _ (joinB l0 ++ [0]) _ (.inr (by rw [byteCells_app]; exact HI1.out)) (by omega)).mono ?_
      rintro e w2 ⟨rfl, hb2⟩
      have HB2 := Aside0.mk hb2
      clear hb2
      go_wp2
      go_ret
      exact ⟨rfl, (HB.out.trans HB1.out).trans HB2.out⟩

end Go.Proofs.YtpnbhblmfglkcaaDoor.F
namespace Go.Proofs.YtpnbhblmfglkcaaDoor.F
open Go Go.Shelf Go.RowKit Go.Proofs.YtpnbhblmfglkcaaDoorW.PrintWords Go.Proofs.YtpnbhblmfglkcaaDoorW.PrintLast Go.Proofs.YtpnbhblmfglkcaaDoorW.PrintMore
attribute [local go_sem] max2_int min2_int max_two min_two max_three min_three max_four min_four   -- for this text's walks alone
set_option linter.unusedVariables false
set_option linter.unusedSimpArgs false

/-! ### impl_fold: function 69 -/
def low8 (x : Int) : Int := if 65 ≤ x ∧ x ≤ 90 then x + 32 else x
def impl_fold.f (a0 : ByteArray) : Option (ByteArray) := if a0.size ≤ 140737488355328 then some (strOfNums ((bytesOf a0).map low8)) else none
theorem impl_fold.step (s : ByteArray) (k : Nat) (hk : k < s.size) (v : Int) (hv : v = low8 (bt s (k : Int))) : (((bytesOf s).map low8).take k ++ (bytesOf s).drop k).set k v = ((bytesOf s).map low8).take (k + 1) ++ (bytesOf s).drop (k + 1) := by
  have hl := bytesOf_length s
  have hb : (bytesOf s)[k]'(by omega) = bt s (k : Int) := by
    rw [← rd_bytesOf]
    simp [rd, List.getD_eq_getElem?_getD, hl, hk]
  rw [List.set_append_right _ _ (by simp; omega), List.length_take, List.length_map, hl, Nat.min_eq_left (by omega), Nat.sub_self, List.drop_eq_getElem_cons (by omega), List.set_cons_zero, List.take_succ_eq_append_getElem (by simp; omega), List.append_assoc]
  simp [hb, hv]
theorem impl_fold.same (s : ByteArray) (k : Nat) (hk : k < s.size) (hv : low8 (bt s (k : Int)) = bt s (k : Int)) : ((bytesOf s).map low8).take k ++ (bytesOf s).drop k = ((bytesOf s).map low8).take (k + 1) ++ (bytesOf s).drop (k + 1) := by
  have hl := bytesOf_length s
  have hb : (bytesOf s)[k]'(by omega) = bt s (k : Int) := by
    rw [← rd_bytesOf]
    simp [rd, List.getD_eq_getElem?_getD, hl, hk]
  rw [List.drop_eq_getElem_cons (by omega), List.take_succ_eq_append_getElem (by simp; omega), List.append_assoc]
  simp [hb, hv]
theorem impl_fold.at_ (s : ByteArray) (k : Nat) (hk : k < s.size) : (((bytesOf s).map low8).take k ++ (bytesOf s).drop k).getD k 0 = bt s (k : Int) := by
  have hl := bytesOf_length s
  rw [← rd_bytesOf]
  simp [rd, List.getD_eq_getElem?_getD, List.getElem?_append_right, hl, hk, Nat.min_eq_left (Nat.le_of_lt hk)]
set_option maxHeartbeats 1000000 in
set_option maxRecDepth 100000 in
theorem impl_fold.calls (a0 : ByteArray) (r : ByteArray) (w : World) (h : impl_fold.f a0 = some r) :
    Calls Tryd.prog 69 #[.string a0] w fun e w' => e = .returned (.string r) ∧ Below w.heap.size w w' := by
  unfold impl_fold.f at h
  split at h
  case isFalse => cases h
  case isTrue hs =>
  obtain rfl := Option.some.inj h
  have hcv := fun W => Lib.run_convert_string_bytes (P := Tryd.prog) W 9 88 5 a0 Tryd.underlying9 Tryd.underlying88 Tryd.underlying5
  have hl := bytesOf_length a0
  go_enter Tryd.func69, Tryd.ntmps69
  go_wp2
  go_loopw [10] (fun i wr => ∃ k : Nat, k ≤ a0.size ∧ i = .int .i64 k ∧ Aside0 (Go.Proofs.YtpnbhblmfglkcaaDoorW.XConv.Row8 wr w.heap.size 5 (((bytesOf a0).map low8).take k ++ (bytesOf a0).drop k)) ∧ Aside0 (Below w.heap.size w wr)) (fun i _ => a0.size - (intOf i).toNat)
  case atStart => exact ⟨0, Nat.zero_le _, rfl, ⟨by simpa using Go.Proofs.YtpnbhblmfglkcaaDoorW.XConv.Row8.conv w 5 a0⟩, ⟨bytes_below (Below.refl _ _) (Nat.le_refl _) _ _⟩⟩
  case round =>
    obtain ⟨k, hk, rfl, HR, HB⟩ := hrel
    by_cases hlt : k < a0.size
    · have hlen : (((bytesOf a0).map low8).take k ++ (bytesOf a0).drop k).length = a0.size := by simp [hl]; omega
      have hcell := HR.out.cell k (by omega)
      rw [impl_fold.at_ a0 k hlt] at hcell
      have hfr := HR.out.frozen k (by omega)
      have Hlen := Aside0.mk hlen
      clear hlen hl
      have hbr := bt_range a0 (k : Int)
      have hlt2 : decide ((k : Int) < (a0.size : Int)) = true := decide_eq_true (by omega)
      have hblt : w.heap.size < (_ : World).heap.size := HR.out.lt
      generalize hc : bt a0 (k : Int) = c at *
      have Hc := Aside0.mk hc
      clear hc
      by_cases h1 : 65 ≤ c
      · by_cases h2 : c ≤ 90
        · go_wp2
          go_roundw
          case rel => exact ⟨k + 1, by omega, by go_num, ⟨by rw [← impl_fold.step a0 k hlt (c + 32) (by rw [Hc.out]; unfold low8; rw [if_pos ⟨h1, h2⟩])]; exact HR.out.set k (c + 32)⟩, ⟨HB.out.setCell (Nat.le_refl _) _⟩⟩
          case measure => simp [intOf]; omega
        · go_wp2
          go_roundw
          case rel => exact ⟨k + 1, by omega, by go_num, ⟨by rw [← impl_fold.same a0 k hlt (by rw [Hc.out]; unfold low8; rw [if_neg (by omega)])]; exact HR.out⟩, HB⟩
          case measure => simp [intOf]; omega
      · go_wp2
        go_roundw
        case rel => exact ⟨k + 1, by omega, by go_num, ⟨by rw [← impl_fold.same a0 k hlt (by rw [Hc.out]; unfold low8; rw [if_neg (by omega)])]; exact HR.out⟩, HB⟩
        case measure => simp [intOf]; omega
    · obtain rfl : k = a0.size := by omega
      have hR := HR.out
      rw [List.take_of_length_le (by simp [hl]), List.drop_of_length_le (by omega), List.append_nil] at hR
      have hcv2 := fun c => string_of_reads (P := Tryd.prog) (c := c) Tryd.underlying88 Tryd.underlying5 Tryd.underlying9 (hR.reads (n := a0.size) (by simp [hl]; omega) (by simp [hl]))
      have hlt2 : decide ((a0.size : Int) < (a0.size : Int)) = false := decide_eq_false (by omega)
      clear hl
      go_wp2
      go_ret
      exact ⟨rfl, HB.out⟩

end Go.Proofs.YtpnbhblmfglkcaaDoor.F
namespace Go.Proofs.YtpnbhblmfglkcaaDoor.F
open Go Go.Shelf Go.RowKit Go.Proofs.YtpnbhblmfglkcaaDoorW.PrintWords Go.Proofs.YtpnbhblmfglkcaaDoorW.PrintLast Go.Proofs.YtpnbhblmfglkcaaDoorW.PrintMore
attribute [local go_sem] max2_int min2_int max_two min_two max_three min_three max_four min_four   -- for this text's walks alone
set_option linter.unusedVariables false
set_option linter.unusedSimpArgs false

/-! ### impl_IsUnder: function 28 -/
def impl_IsUnder.j0 : Nat → ByteArray → List ByteArray → List ByteArray → Bool → Option (Bool)
  | 0, _, _, _, _ => none
  | k + 1, x1, x5, x7, x31 => if x31 = true then (some false) else (if 0 ≤ (wrap64 ((x5.length : Int) - (x7.length : Int))) then (if (wrap64 ((x5.length : Int) - (x7.length : Int))) ≤ (x5.length : Int) then ((impl_joined.f (x5.drop ((wrap64 ((x5.length : Int) - (x7.length : Int))) : Int).toNat)).bind fun t113 => ((impl_fold.f t113).bind fun t114 => ((impl_fold.f x1).bind fun t115 => (some (t114.toList == t115.toList))))) else (none)) else (none))
def impl_IsUnder.f (k : Nat) (a0 : ByteArray) (a1 : ByteArray) : Option (Bool) := (impl_labelsOf.f k a0).bind fun bt101 => ((impl_labelsOf.f k a1).bind fun bt105 => (if bt101.2 = true then (if bt105.2 = true then (impl_IsUnder.j0 k a1 bt101.1 bt105.1 (decide ((bt101.1.length : Int) < (bt105.1.length : Int)))) else (impl_IsUnder.j0 k a1 bt101.1 bt105.1 true)) else (impl_IsUnder.j0 k a1 bt101.1 bt105.1 true)))
theorem impl_IsUnder.mono_l : ∀ k, (∀ y0 y1 y2 y3, LeO (impl_IsUnder.j0 k y0 y1 y2 y3) (impl_IsUnder.j0 (k + 1) y0 y1 y2 y3))
  | 0 => fun _ _ _ _ r h => by simp [impl_IsUnder.j0] at h
  | k + 1 => by
    have ih0 := impl_IsUnder.mono_l k
    · intro y0 y1 y2 y3
      unfold impl_IsUnder.j0
      repeat' first
      | (with_reducible exact ih0 _ _ _ _)
      | (with_reducible exact impl_labelsOf.mono _ _)
      | (with_reducible exact LeO.refl _)
      | (with_reducible exact LeO.none _)
      | (with_reducible refine LeO.ite ?_ ?_)
      | (with_reducible refine LeO.bind ?_ (fun _ => ?_))
      | exact ih0 _ _ _ _
      | exact impl_labelsOf.mono _ _
      | exact LeO.none _
      | refine LeO.ite ?_ ?_
      | refine LeO.bind ?_ (fun _ => ?_)
theorem impl_IsUnder.mono : ∀ a0 a1 k, LeO (impl_IsUnder.f k a0 a1) (impl_IsUnder.f (k + 1) a0 a1) := by
  intro a0 a1 k
  have ih0 := impl_IsUnder.mono_l k
  unfold impl_IsUnder.f
  repeat' first
      | (with_reducible exact ih0 _ _ _ _)
      | (with_reducible exact impl_labelsOf.mono _ _)
      | (with_reducible exact LeO.refl _)
      | (with_reducible exact LeO.none _)
      | (with_reducible refine LeO.ite ?_ ?_)
      | (with_reducible refine LeO.bind ?_ (fun _ => ?_))
      | exact ih0 _ _ _ _
      | exact impl_labelsOf.mono _ _
      | exact LeO.none _
      | refine LeO.ite ?_ ?_
      | refine LeO.bind ?_ (fun _ => ?_)
set_option maxHeartbeats 8000000 in
set_option maxRecDepth 100000 in
theorem impl_IsUnder.calls (k : Nat) (a0 : ByteArray) (a1 : ByteArray) (r : Bool) (w : World) (h : impl_IsUnder.f k a0 a1 = some r) :
    Calls Tryd.prog 28 #[.string a0, .string a1] w fun e w' => e = .returned (.bool r) ∧ Below w.heap.size w w' := by
  have HB := Aside0.mk (Below.refl w.heap.size w)
  have H : ((impl_labelsOf.f k a0).bind fun bt101 => ((impl_labelsOf.f k a1).bind fun bt105 => (if bt101.2 = true then (if bt105.2 = true then (impl_IsUnder.j0 k a1 bt101.1 bt105.1 (decide ((bt101.1.length : Int) < (bt105.1.length : Int)))) else (impl_IsUnder.j0 k a1 bt101.1 bt105.1 true)) else (impl_IsUnder.j0 k a1 bt101.1 bt105.1 true)))) = some r := h
  clear h
  replace H := Option.bind_eq_some_iff.mp H
  obtain ⟨⟨t101, t102⟩, A30, H⟩ := H
  replace H : ((impl_labelsOf.f k a1).bind fun bt105 => (if t102 = true then (if bt105.2 = true then (impl_IsUnder.j0 k a1 t101 bt105.1 (decide ((t101.length : Int) < (bt105.1.length : Int)))) else (impl_IsUnder.j0 k a1 t101 bt105.1 true)) else (impl_IsUnder.j0 k a1 t101 bt105.1 true))) = some r := H
  have A3 := Aside0.mk A30
  clear A30
  replace H := Option.bind_eq_some_iff.mp H
  obtain ⟨⟨t105, t106⟩, A40, H⟩ := H
  replace H : (if t102 = true then (if t106 = true then (impl_IsUnder.j0 k a1 t101 t105 (decide ((t101.length : Int) < (t105.length : Int)))) else (impl_IsUnder.j0 k a1 t101 t105 true)) else (impl_IsUnder.j0 k a1 t101 t105 true)) = some r := H
  have A4 := Aside0.mk A40
  clear A40
  have HC5 := Aside0.mk H
  clear H
  go_enter Tryd.func28, Tryd.ntmps28
  go_upto_region 3 with (first | ((with_reducible refine gate_callee (f := 68) rfl ?_); refine goesL_ (some 11) rfl rfl Tryd.func68 (by kernel_rfl) rfl #[.string a0] rfl (by (try simp only [List.map_toArray, List.map_cons, List.map_nil]); first | done | rfl | (simp only [List.length_drop, List.length_take]; rfl)) ?_; (with_reducible refine (impl_labelsOf.calls k a0 t101 t102 _ A3.out).mono ?_); rintro e w6 ⟨v103, rfl, ho0, hb⟩; refine ⟨_, rfl, ?_⟩; have n0_ := Aside0.mk (Kd.R_lower ho0 (below_size (by repeat (first | (with_reducible first | exact HB.out | apply below_alloc | apply pw_below_drewN | apply below_drew1) | exact HB.out)))); have n1_ := Aside0.mk (below_step (by repeat (first | (with_reducible first | exact HB.out | apply below_alloc | apply pw_below_drewN | apply below_drew1) | exact HB.out)) hb); clear HB; have HO104 := n0_; have HB := n1_; clear n0_ n1_; (try clear hb); (try clear hb2); (try clear hk); (try clear hi); (try clear ho0)) | ((with_reducible refine gate_callee (f := 68) rfl ?_); refine goesL_ (some 16) rfl rfl Tryd.func68 (by kernel_rfl) rfl #[.string a1] rfl (by (try simp only [List.map_toArray, List.map_cons, List.map_nil]); first | done | rfl | (simp only [List.length_drop, List.length_take]; rfl)) ?_; (with_reducible refine (impl_labelsOf.calls k a1 t105 t106 _ A4.out).mono ?_); rintro e w7 ⟨v107, rfl, ho0, hb⟩; refine ⟨_, rfl, ?_⟩; have n0_ := Aside0.mk (Kd.R_elder' (by (with_reducible repeat (first | apply Kd.R_alloc | apply Kd.R_drewN | apply Kd.R_drew)); exact HO104.out) (Kd.R_base ho0) hb); have n1_ := Aside0.mk (Kd.R_lower (Kd.R_new' ho0 (Kd.R_lt (by (with_reducible repeat (first | apply Kd.R_alloc | apply Kd.R_drewN | apply Kd.R_drew)); exact HO104.out))) (below_size (by repeat (first | (with_reducible first | exact HB.out | apply below_alloc | apply pw_below_drewN | apply below_drew1) | exact HB.out)))); have n2_ := Aside0.mk (below_step (by repeat (first | (with_reducible first | exact HB.out | apply below_alloc | apply pw_below_drewN | apply below_drew1) | exact HB.out)) hb); clear HO104; clear HB; have HO104 := n0_; have HO108 := n1_; have HB := n2_; clear n0_ n1_ n2_; (try clear hb); (try clear hb2); (try clear hk); (try clear hi); (try clear ho0)))
  (try simp only [Act.put, List.setIfInBounds_toArray, List.set_cons_zero, List.set_cons_succ])
  go_cut [31] (fun v31 wc => ∃ (kq : Nat) (x31_4 : Bool), v31 = .bool x31_4 ∧ Aside0 (impl_IsUnder.j0 kq a1 t101 t105 x31_4 = some r) ∧ Aside0 (kq ≤ k) ∧ Aside0 (Kd.R Kd.string 9 wc w.heap.size (fun k_ => some k_ ≠ (v107 : Value).ownBlock) v103 t101) ∧ Aside0 (Kd.R Kd.string 9 wc w.heap.size (fun k_ => some k_ ≠ (v103 : Value).ownBlock) v107 t105) ∧ Aside0 (Below w.heap.size w wc))
  case first =>
    have H := HC5.out
    clear HC5
    by_cases c8 : t102 = true
    · subst c8
      have H1 : (if t106 = true then (impl_IsUnder.j0 k a1 t101 t105 (decide ((t101.length : Int) < (t105.length : Int)))) else (impl_IsUnder.j0 k a1 t101 t105 true)) = some r := by rw [if_pos rfl] at H; exact H
      clear H
      have H := H1
      clear H1
      by_cases c9 : t106 = true
      · subst c9
        have H1 : (impl_IsUnder.j0 k a1 t101 t105 (decide ((t101.length : Int) < (t105.length : Int)))) = some r := by rw [if_pos rfl] at H; exact H
        clear H
        have H := H1
        clear H1
        have H' := Aside0.mk H
        clear H
        obtain ⟨Ao10, co10, eo10⟩ := Kd.R_slice HO104.out
        subst eo10
        obtain ⟨Ao11, co11, eo11⟩ := Kd.R_slice HO108.out
        subst eo11
        go_wp2
        go_meet
        case rel => exact ⟨_, (decide ((t101.length : Int) < (t105.length : Int))), (by first | rfl | (simp; done) | (simp [*]; done)), H', ⟨by first | omega | exact Nat.le_refl _⟩, ⟨by (with_reducible repeat (first | apply Kd.R_alloc | apply Kd.R_drewN | apply Kd.R_drew)); exact Kd.R_mono HO104.out (fun _ hk => hk.2)⟩, ⟨by (with_reducible repeat (first | apply Kd.R_alloc | apply Kd.R_drewN | apply Kd.R_drew)); exact Kd.R_mono HO108.out (fun _ hk => hk.2)⟩, ⟨by repeat (first | (with_reducible first | exact HB.out | apply below_alloc | apply pw_below_drewN | apply below_drew1) | exact HB.out)⟩⟩
      · replace c9 := Bool.eq_false_iff.mpr c9
        subst c9
        have H1 : (impl_IsUnder.j0 k a1 t101 t105 true) = some r := by rw [if_neg (show ¬ (false = true) by decide)] at H; exact H
        clear H
        have H := H1
        clear H1
        have H' := Aside0.mk H
        clear H
        go_wp2
        go_meet
        case rel => exact ⟨_, (true), (by first | rfl | (simp; done) | (simp [*]; done)), H', ⟨by first | omega | exact Nat.le_refl _⟩, ⟨by (with_reducible repeat (first | apply Kd.R_alloc | apply Kd.R_drewN | apply Kd.R_drew)); exact Kd.R_mono HO104.out (fun _ hk => hk.2)⟩, ⟨by (with_reducible repeat (first | apply Kd.R_alloc | apply Kd.R_drewN | apply Kd.R_drew)); exact Kd.R_mono HO108.out (fun _ hk => hk.2)⟩, ⟨by repeat (first | (with_reducible first | exact HB.out | apply below_alloc | apply pw_below_drewN | apply below_drew1) | exact HB.out)⟩⟩
    · replace c8 := Bool.eq_false_iff.mpr c8
      subst c8
      have H1 : (impl_IsUnder.j0 k a1 t101 t105 true) = some r := by rw [if_neg (show ¬ (false = true) by decide)] at H; exact H
      clear H
      have H := H1
      clear H1
      have H' := Aside0.mk H
      clear H
      go_wp2
      go_meet
      case rel => exact ⟨_, (true), (by first | rfl | (simp; done) | (simp [*]; done)), H', ⟨by first | omega | exact Nat.le_refl _⟩, ⟨by (with_reducible repeat (first | apply Kd.R_alloc | apply Kd.R_drewN | apply Kd.R_drew)); exact Kd.R_mono HO104.out (fun _ hk => hk.2)⟩, ⟨by (with_reducible repeat (first | apply Kd.R_alloc | apply Kd.R_drewN | apply Kd.R_drew)); exact Kd.R_mono HO108.out (fun _ hk => hk.2)⟩, ⟨by repeat (first | (with_reducible first | exact HB.out | apply below_alloc | apply pw_below_drewN | apply below_drew1) | exact HB.out)⟩⟩
  case rest =>
    clear HC5
    try clear c2
    try clear p2
    try clear c6
    try clear c8
    try clear c9
    obtain ⟨kq, x31_4, rfl, HA, HJ4, HO_5, HO_7, HB⟩ := hcut
    cases kq with
    | zero => exact absurd HA.out (by simp [impl_IsUnder.j0])
    | succ kj4 =>
      have H := HA.out
      clear HA
      simp only [impl_IsUnder.j0] at H
      by_cases c12 : x31_4 = true
      · subst c12
        have H1 : (some false) = some r := by rw [if_pos rfl] at H; exact H
        clear H
        have H := H1
        clear H1
        obtain rfl := Option.some.inj H
        go_wp2
        go_ret
        exact ⟨by first | rfl | (simp [errW_none, errW_some] <;> rfl) | (simp [*, errW_none, errW_some] <;> rfl), by repeat (first | (with_reducible first | exact HB.out | apply below_alloc | apply pw_below_drewN | apply below_drew1) | exact HB.out)⟩
      · replace c12 := Bool.eq_false_iff.mpr c12
        subst c12
        have H1 : (if 0 ≤ (wrap64 ((t101.length : Int) - (t105.length : Int))) then (if (wrap64 ((t101.length : Int) - (t105.length : Int))) ≤ (t101.length : Int) then ((impl_joined.f (t101.drop ((wrap64 ((t101.length : Int) - (t105.length : Int))) : Int).toNat)).bind fun t113 => ((impl_fold.f t113).bind fun t114 => ((impl_fold.f a1).bind fun t115 => (some (t114.toList == t115.toList))))) else (none)) else (none)) = some r := by rw [if_neg (show ¬ (false = true) by decide)] at H; exact H
        clear H
        have H := H1
        clear H1
        obtain ⟨ji13, hji13⟩ : ∃ j_ : Int, (wrap64 ((t101.length : Int) - (t105.length : Int))) = j_ := ⟨_, rfl⟩
        replace H : (if 0 ≤ (ji13) then (if (ji13) ≤ (t101.length : Int) then ((impl_joined.f (t101.drop ((ji13) : Int).toNat)).bind fun t113 => ((impl_fold.f t113).bind fun t114 => ((impl_fold.f a1).bind fun t115 => (some (t114.toList == t115.toList))))) else (none)) else (none)) = some r := by first | (rw [hji13] at H; exact H) | (simp only [hji13] at H ⊢; exact H)
        have hji13w : (IntKind.i64.wrap ((t101.length : Int) - (t105.length : Int))) = ji13 := (i64_w _).trans hji13
        by_cases c14 : 0 ≤ (ji13)
        · rw [if_pos c14] at H
          have c14b0 := eq_true c14
          have c14b1 : decide (0 ≤ (ji13)) = true := decide_eq_true c14
          clear c14
          by_cases c15 : (ji13) ≤ (t101.length : Int)
          · rw [if_pos c15] at H
            have c15b0 := eq_true c15
            have c15b1 : decide ((ji13) ≤ (t101.length : Int)) = true := decide_eq_true c15
            clear c15
            obtain ⟨y109, hy109⟩ : ∃ y_ : List ByteArray, y_ = (t101.drop ((ji13) : Int).toNat) := ⟨_, rfl⟩
            replace H : ((impl_joined.f y109).bind fun t113 => ((impl_fold.f t113).bind fun t114 => ((impl_fold.f a1).bind fun t115 => (some (t114.toList == t115.toList))))) = some r := by first | (rw [hy109]; with_reducible exact H) | (have H2_ := (Option.bind_some _ _).symm.trans H; rw [hy109]; with_reducible exact H2_) | (have H2_ := (Option.bind_some _ _).symm.trans H; with_reducible exact H2_) | with_reducible exact H | (rw [hy109]; exact H) | exact H
            have Ny109 := Aside0.mk hy109
            clear hy109
            replace H := Option.bind_eq_some_iff.mp H
            obtain ⟨t113, A160, H⟩ := H
            replace H : ((impl_fold.f t113).bind fun t114 => ((impl_fold.f a1).bind fun t115 => (some (t114.toList == t115.toList)))) = some r := H
            have A16 := Aside0.mk A160
            clear A160
            replace H := Option.bind_eq_some_iff.mp H
            obtain ⟨t114, A170, H⟩ := H
            replace H : ((impl_fold.f a1).bind fun t115 => (some (t114.toList == t115.toList))) = some r := H
            have A17 := Aside0.mk A170
            clear A170
            replace H := Option.bind_eq_some_iff.mp H
            obtain ⟨t115, A180, H⟩ := H
            replace H : (some (t114.toList == t115.toList)) = some r := H
            have A18 := Aside0.mk A180
            clear A180
            obtain rfl := Option.some.inj H
            obtain ⟨Ao19, co19, eo19⟩ := Kd.R_slice HO_5.out
            subst eo19
            obtain ⟨Ao20, co20, eo20⟩ := Kd.R_slice HO_7.out
            subst eo20
            have q21 : ((ji13) : Int) ≤ ((t101.length : Int) : Int) := of_decide_eq_true (by first | (with_reducible assumption) | assumption)
            obtain ⟨i021, hi021, _, hsz21, _⟩ := info_parts info9
            have hroom21 : t101.length ≤ co19 := (Kd.R_reads' HO_5.out).2.1
            have hC21 : Kd.C Kd.string _ Ao19 t101.length t101 := (Kd.R_reads' HO_5.out).2.2
            have q021 : (0 : Int) ≤ ((ji13) : Int) := of_decide_eq_true (by first | (with_reducible assumption) | assumption)
            have hcut21 := cut_from (P := Tryd.prog) 77 9 .i64 Tryd.underlying77 hi021 1 hsz21 Ao19 t101.length co19 (ji13) q021 q21
            have hr21 := Kd.C_drop (m := ((ji13) : Int).toNat) (c := co19) hC21 (by omega) hroom21
            obtain ⟨A21, hA21⟩ : ∃ A1, A1 = (if co19 = ((ji13) : Int).toNat then Ao19 else (Ao19 : Option Addr).map (·.add (((ji13) : Int).toNat * 1))) := ⟨_, rfl⟩
            obtain ⟨c21, hc21⟩ : ∃ c1, c1 = co19 - ((ji13) : Int).toNat := ⟨_, rfl⟩
            have hy21 : y109.length = t101.length - ((ji13) : Int).toNat := (by rw [Ny109.out, List.length_drop] <;> omega)
            rw [show (t101).drop ((ji13) : Int).toNat = y109 from Ny109.out.symm] at hr21
            replace hr21 : Kd.C Kd.string _ A21 y109.length y109 := (by rw [hA21]; exact hr21)
            rw [← hy21, ← hA21, ← hc21] at hcut21
            have HR112 := Aside0.mk hr21
            have HC112 := Aside0.mk (show y109.length ≤ c21 from by rw [hy21, hc21]; exact Nat.sub_le_sub_right hroom21 _)
            clear hr21 hC21 hroom21 hi021 hsz21 hc21
            have KY21 := Aside0.mk hy21
            have KA21 := Aside0.mk hA21
            clear hy21 hA21
            have KL21 := Aside0.mk (show ((ji13) : Int).toNat ≤ t101.length from by omega)
            replace q21 := eq_true q21
            go_wp2_with (first | ((with_reducible refine gate_callee (f := 50) rfl ?_); refine goesL_ (some 39) rfl rfl Tryd.func50 (by kernel_rfl) rfl #[.slice A21 y109.length c21] rfl (by (try simp only [List.map_toArray, List.map_cons, List.map_nil]); first | done | rfl | (simp only [List.length_drop, List.length_take]; rfl)) ?_; (with_reducible refine (impl_joined.calls _ _ y109 t113 _ ?side1 ?side2 A16.out).mono ?_); (case side1 => repeat (first | exact (by repeat (first | (with_reducible exact HR112.out) | (with_reducible refine Kd.C_alloc ?_ _) | (with_reducible refine Kd.C_drewN ?_ _) | (with_reducible refine Kd.C_drew ?_) | exact HR112.out)) | (with_reducible refine Kd.C_alloc ?_ _) | (with_reducible refine Kd.C_drewN ?_ _) | (with_reducible refine Kd.C_drew ?_))); (case side2 => exact HC112.out); rintro e w22 ⟨rfl, hb⟩; refine ⟨_, rfl, ?_⟩; have n0_ := Aside0.mk (Kd.R_below (by (with_reducible repeat (first | apply Kd.R_alloc | apply Kd.R_drewN | apply Kd.R_drew)); exact HO_5.out) hb); have n1_ := Aside0.mk (Kd.R_below (by (with_reducible repeat (first | apply Kd.R_alloc | apply Kd.R_drewN | apply Kd.R_drew)); exact HO_7.out) hb); have n2_ := Aside0.mk (Kd.C_below (by repeat (first | (with_reducible exact HR112.out) | (with_reducible refine Kd.C_alloc ?_ _) | (with_reducible refine Kd.C_drewN ?_ _) | (with_reducible refine Kd.C_drew ?_) | exact HR112.out)) hb); have n3_ := Aside0.mk (below_step (by repeat (first | (with_reducible first | exact HB.out | apply below_alloc | apply pw_below_drewN | apply below_drew1) | exact HB.out)) hb); clear HO_5; clear HO_7; clear HR112; clear HB; have HO_5 := n0_; have HO_7 := n1_; have HR112 := n2_; have HB := n3_; clear n0_ n1_ n2_ n3_; (try clear hb); (try clear hb2); (try clear hk); (try clear hi)) | ((with_reducible refine gate_callee (f := 69) rfl ?_); refine goesL_ (some 40) rfl rfl Tryd.func69 (by kernel_rfl) rfl #[.string t113] rfl (by (try simp only [List.map_toArray, List.map_cons, List.map_nil]); first | done | rfl | (simp only [List.length_drop, List.length_take]; rfl)) ?_; (with_reducible refine (impl_fold.calls t113 t114 _ A17.out).mono ?_); rintro e w23 ⟨rfl, hb⟩; refine ⟨_, rfl, ?_⟩; have n0_ := Aside0.mk (Kd.R_below (by (with_reducible repeat (first | apply Kd.R_alloc | apply Kd.R_drewN | apply Kd.R_drew)); exact HO_5.out) hb); have n1_ := Aside0.mk (Kd.R_below (by (with_reducible repeat (first | apply Kd.R_alloc | apply Kd.R_drewN | apply Kd.R_drew)); exact HO_7.out) hb); have n2_ := Aside0.mk (Kd.C_below (by repeat (first | (with_reducible exact HR112.out) | (with_reducible refine Kd.C_alloc ?_ _) | (with_reducible refine Kd.C_drewN ?_ _) | (with_reducible refine Kd.C_drew ?_) | exact HR112.out)) hb); have n3_ := Aside0.mk (below_step (by repeat (first | (with_reducible first | exact HB.out | apply below_alloc | apply pw_below_drewN | apply below_drew1) | exact HB.out)) hb); clear HO_5; clear HO_7; clear HR112; clear HB; have HO_5 := n0_; have HO_7 := n1_; have HR112 := n2_; have HB := n3_; clear n0_ n1_ n2_ n3_; (try clear hb); (try clear hb2); (try clear hk); (try clear hi)) | ((with_reducible refine gate_callee (f := 69) rfl ?_); refine goesL_ (some 42) rfl rfl Tryd.func69 (by kernel_rfl) rfl #[.string a1] rfl (by (try simp only [List.map_toArray, List.map_cons, List.map_nil]); first | done | rfl | (simp only [List.length_drop, List.length_take]; rfl)) ?_; (with_reducible refine (impl_fold.calls a1 t115 _ A18.out).mono ?_); rintro e w24 ⟨rfl, hb⟩; refine ⟨_, rfl, ?_⟩; have n0_ := Aside0.mk (Kd.R_below (by (with_reducible repeat (first | apply Kd.R_alloc | apply Kd.R_drewN | apply Kd.R_drew)); exact HO_5.out) hb); have n1_ := Aside0.mk (Kd.R_below (by (with_reducible repeat (first | apply Kd.R_alloc | apply Kd.R_drewN | apply Kd.R_drew)); exact HO_7.out) hb); have n2_ := Aside0.mk (Kd.C_below (by repeat (first | (with_reducible exact HR112.out) | (with_reducible refine Kd.C_alloc ?_ _) | (with_reducible refine Kd.C_drewN ?_ _) | (with_reducible refine Kd.C_drew ?_) | exact HR112.out)) hb); have n3_ := Aside0.mk (below_step (by repeat (first | (with_reducible first | exact HB.out | apply below_alloc | apply pw_below_drewN | apply below_drew1) | exact HB.out)) hb); clear HO_5; clear HO_7; clear HR112; clear HB; have HO_5 := n0_; have HO_7 := n1_; have HR112 := n2_; have HB := n3_; clear n0_ n1_ n2_ n3_; (try clear hb); (try clear hb2); (try clear hk); (try clear hi)))
            go_ret
            exact ⟨by first | rfl | (simp [errW_none, errW_some] <;> rfl) | (simp only [← hji13]; first | rfl | (simp [errW_none, errW_some] <;> rfl)) | (simp [*, errW_none, errW_some] <;> rfl), by repeat (first | (with_reducible first | exact HB.out | apply below_alloc | apply pw_below_drewN | apply below_drew1) | exact HB.out)⟩
          · rw [if_neg c15] at H
            exact absurd H (by simp)
        · rw [if_neg c14] at H
          exact absurd H (by simp)

end Go.Proofs.YtpnbhblmfglkcaaDoor.F
namespace Go.Proofs.YtpnbhblmfglkcaaDoor.F
open Go Go.Shelf Go.RowKit Go.Proofs.YtpnbhblmfglkcaaDoorW.PrintWords Go.Proofs.YtpnbhblmfglkcaaDoorW.PrintLast Go.Proofs.YtpnbhblmfglkcaaDoorW.PrintMore
attribute [local go_sem] max2_int min2_int max_two min_two max_three min_three max_four min_four   -- for this text's walks alone
set_option linter.unusedVariables false
set_option linter.unusedSimpArgs false

/-! ### impl_isMeta: function 30 -/
def impl_isMeta.f (a0 : Int) : Option (Bool) := if a0 = 0 then (some true) else (if a0 = 41 then (some true) else (if a0 ≥ 249 then (some (decide (a0 ≤ 255))) else (some false)))
set_option maxHeartbeats 8000000 in
set_option maxRecDepth 100000 in
theorem impl_isMeta.calls (a0 : Int) (r : Bool) (w : World) (h : impl_isMeta.f a0 = some r) :
    Calls Tryd.prog 30 #[.int .i64 a0] w fun e w' => e = .returned (.bool r) ∧ Drawn0 w w' := by
  have H : (if a0 = 0 then (some true) else (if a0 = 41 then (some true) else (if a0 ≥ 249 then (some (decide (a0 ≤ 255))) else (some false)))) = some r := h
  clear h
  by_cases c2 : a0 = 0
  · rw [if_pos c2] at H
    have c2b0 : (a0 == 0) = true := beq_iff_eq.mpr c2
    have c2b1 : (a0 != 0) = false := bne_eq_false_iff_eq.mpr c2
    clear c2
    obtain rfl := Option.some.inj H
    go_enter Tryd.func30, Tryd.ntmps30
    go_wp2
    go_ret
    exact ⟨by first | rfl | (simp; done) | (simp [*]; done), by repeat (first | exact Drawn0.refl _ | apply Drawn0.step)⟩
  · rw [if_neg c2] at H
    have c2b0 : (a0 == 0) = false := beq_eq_false_iff_ne.mpr c2
    have c2b1 : (a0 != 0) = true := bne_iff_ne.mpr c2
    by_cases c3 : a0 = 41
    · rw [if_pos c3] at H
      have c3b0 : (a0 == 41) = true := beq_iff_eq.mpr c3
      have c3b1 : (a0 != 41) = false := bne_eq_false_iff_eq.mpr c3
      clear c3
      obtain rfl := Option.some.inj H
      go_enter Tryd.func30, Tryd.ntmps30
      go_wp2
      go_ret
      exact ⟨by first | rfl | (simp; done) | (simp [*]; done), by repeat (first | exact Drawn0.refl _ | apply Drawn0.step)⟩
    · rw [if_neg c3] at H
      have c3b0 : (a0 == 41) = false := beq_eq_false_iff_ne.mpr c3
      have c3b1 : (a0 != 41) = true := bne_iff_ne.mpr c3
      by_cases c4 : a0 ≥ 249
      · rw [if_pos c4] at H
        have c4b0 : decide (249 ≤ a0) = true := decide_eq_true c4
        clear c4
        obtain rfl := Option.some.inj H
        go_enter Tryd.func30, Tryd.ntmps30
        go_wp2
        go_ret
        exact ⟨by first | rfl | (simp; done) | (simp [*]; done), by repeat (first | exact Drawn0.refl _ | apply Drawn0.step)⟩
      · rw [if_neg c4] at H
        have c4b0 : decide (249 ≤ a0) = false := decide_eq_false c4
        clear c4
        obtain rfl := Option.some.inj H
        go_enter Tryd.func30, Tryd.ntmps30
        go_wp2
        go_ret
        exact ⟨by first | rfl | (simp; done) | (simp [*]; done), by repeat (first | exact Drawn0.refl _ | apply Drawn0.step)⟩

end Go.Proofs.YtpnbhblmfglkcaaDoor.F
