-- Written by a program of this session (wip/myprint.py, over the kit's print). Not trusted: Lean checks it.
import Derived.Test.YtbaajohjglhpfaaDoorFx0
import Derived.Test.YtbaajohjglhpfaaDoorFx1041
import Derived.Test.YtbaajohjglhpfaaDoorFx1042
import Derived.Test.YtbaajohjglhpfaaDoorFx5003
import Derived.Test.YtbaajohjglhpfaaDoorFx5004
namespace Go.Proofs.YtbaajohjglhpfaaDoor.F
open Go Go.Shelf Go.RowKit Go.Proofs.YtbaajohjglhpfaaDoorW.PrintWords Go.Proofs.YtbaajohjglhpfaaDoorW.PrintLast Go.Proofs.YtbaajohjglhpfaaDoorW.PrintMore
attribute [local go_sem] max2_int min2_int max_two min_two max_three min_three max_four min_four   -- for this text's walks alone
set_option linter.unusedVariables false
set_option linter.unusedSimpArgs false

/-! ### impl_parsed: function 26 -/
theorem impl_parsed.rest (w : World) (b0 b1 : Nat) (s : ByteArray) (at_ : Nat) (h0 : w.heap[b0]? = some (.cells #[.string s] 9 (0, 0))) (h1 : w.heap[b1]? = some (.cells #[.int .i64 (at_ : Int)] 3 (0, 0))) (hat : at_ ≤ s.size) :
    Calls Tryd.prog 40 #[.pointer (some ⟨b0, 0, none⟩), .pointer (some ⟨b1, 0, none⟩)] w fun e w' => e = .returned (.string (s.extract at_ s.size)) ∧ w' = w := by
  have q0 := cell_of_row w b0 0 _ _ _ h0
  have q1 := cell_of_row w b1 0 _ _ _ h1
  have hle : ((at_ : Int) ≤ (s.size : Int)) = True := eq_true (by omega)
  go_enter Tryd.func40, Tryd.ntmps40
  go_wp2
  go_ret
  exact ⟨rfl, rfl⟩
def impl_parsed.tEnd (s : ByteArray) : Nat → Nat → Nat
  | 0, k => k
  | d + 1, k => if k < s.size then impl_parsed.tEnd s d (k + 1 + (bt s (k : Int)).toNat) else k
def impl_parsed.alnum (c : Int) : Bool := (decide (48 ≤ c) && decide (c ≤ 57)) || ((decide (97 ≤ c) && decide (c ≤ 122)) || (decide (65 ≤ c) && decide (c ≤ 90)))
def impl_parsed.n (K : Nat) (c : Int) (s : ByteArray) (p : Nat) : Option (Option Int) :=
  if c = 49 then some (some 1) else if c = 50 then some (some 2) else if c = 52 ∨ c = 103 ∨ c = 113 then some (some 4)
  else if c = 110 then (impl_nameAt.f K (s.extract p s.size)).bind fun n => some (if n = 0 then none else some n)
  else if c = 116 then some (if s.size ≤ p then none else some (1 + bt s (p : Int)))
  else if c = 99 then some (if s.size ≤ p then none else if 1 + bt s (p : Int) < 2 then none else if 16 < 1 + bt s (p : Int) then none else if (s.size : Int) < (p : Int) + (1 + bt s (p : Int)) then none else if (bytesOf (s.extract (p + 1) (p + (1 + bt s (p : Int)).toNat))).all impl_parsed.alnum then some (1 + bt s (p : Int)) else none)
  else if c = 84 then some (if impl_parsed.tEnd s (s.size - p) p = p then none else some ((impl_parsed.tEnd s (s.size - p) p : Int) - p))
  else if c = 109 then (impl_MapTypes.f K (s.extract p s.size)).bind fun r => some (if r.2 = 0 then some ((s.size : Int) - p) else none)
  else if c = 42 then some (some ((s.size : Int) - p)) else none
def impl_parsed.go (K : Nat) (s : ByteArray) : List UInt8 → Nat → List S46 → Option (List S46 × Bool)
  | [], p, sp => some (sp, (p : Int) == (s.size : Int))
  | c :: r, p, sp => (impl_parsed.n K (c.toNat : Int) s p).bind fun o => match o with
    | none => some ([], false)
    | some n => if n < 0 ∨ 4611686018427387904 < n then none else if (s.size : Int) < (p : Int) + n then some ([], false) else impl_parsed.go K s r (p + n.toNat) (if (c.toNat : Int) = 110 then sp ++ [⟨p, (p : Int) + n⟩] else sp)
def impl_parsed.f (k : Nat) (a0 : Int) (a1 : ByteArray) : Option (List S46 × Bool) :=
  if 140737488355328 < a1.size then none else if (Lit.int .i64 a0).wf = true then (match formOf a0 with | none => some ([], true) | some form => impl_parsed.go k a1 form.data.toList 0 []) else none
set_option maxHeartbeats 8000000 in
set_option maxRecDepth 100000 in
theorem impl_parsed.some_ (K : Nat) (rt : Int) (s : ByteArray) (form : ByteArray) (hf : formOf rt = some form) (hwf : (Lit.int .i64 rt).wf = true) (hasc : ∀ c ∈ form.data.toList, c.toNat < 128) (hfs : form.size ≤ 100) (hs : s.size ≤ 140737488355328)
    (r1 : List S46) (r2 : Bool) (w : World) (hG : Glob w) (h : impl_parsed.go K s form.data.toList 0 [] = some (r1, r2)) :
    Calls Tryd.prog 26 #[.int .i64 rt, .string s] w fun e w' => ∃ v0_ : Value, e = .returned (.tuple #[v0_, .bool r2]) ∧ Kd.R k46 46 w' w.heap.size (fun _ => True) v0_ r1 ∧ Below w.heap.size w w' := by
  have hG1 := hG.alloc (.cells #[.string s] 9)
  obtain ⟨bm, og, om, g1, g2, g3, g4⟩ := hG1
  have hc0 := g3 _ g1
  have hlk := g4 _ rt g2 hwf
  rw [hf] at hlk
  simp only [Option.getD_some, Option.isSome_some] at hlk
  clear g1 g2 g3 g4 hf hwf
  have HH := Aside0.mk h
  have HA := Aside0.mk hasc
  have HS := Aside0.mk hs
  have HF := Aside0.mk hfs
  clear h hasc hs hfs
  have hz : ∀ (W : World) o, (W.alloc o).heap.size = W.heap.size + 1 := fun _ _ => Array.size_push _
  go_enter Tryd.func26, Tryd.ntmps26
  go_wp2
  clear hc0 hlk hG
  go_loopg [8] (form.size + 1) (fun kq v8 wr => ∃ (pos p : Nat) (sp : List S46), Aside0 (kq + pos = form.size + 1) ∧ Aside0 (pos ≤ form.size) ∧ Aside0 (sp.length ≤ pos) ∧ Aside0 (p ≤ s.size) ∧ Aside0 (PInv w form s wr pos p v8 sp) ∧ Aside0 (impl_parsed.go K s (form.data.toList.drop pos) p sp = some (r1, r2)))
  case atStart =>
    refine ⟨0, 0, [], ⟨rfl⟩, ⟨Nat.zero_le _⟩, ⟨Nat.le_refl _⟩, ⟨Nat.zero_le _⟩, ⟨?_, ?_, ?_, ?_, ?_⟩, ⟨HH.out⟩⟩
    · exact blk_alloc (blk_alloc (blk_new w _) _) _
    · have e := blk_new (w.alloc (.cells #[.string s] 9)) (.cells #[.int .i64 0] 3)
      rw [hz] at e
      exact blk_alloc e _
    · have e := World.iter_heap ((w.alloc (.cells #[.string s] 9)).alloc (.cells #[.int .i64 0] 3)) form 0
      rw [hz, hz] at e
      exact e
    · exact Kd.R_nil _ _ _ _ _
    · exact below_alloc (below_alloc (below_alloc (Below.refl _ _) _) _) _
  case round =>
    clear hz
    obtain ⟨pos, p, sp, HK, HP, HL, HQ, HI, HO⟩ := hrel
    have hb0 := cell_of_one HI.out.1
    have hb1 := cell_of_one HI.out.2.1
    by_cases hpf : pos < form.size
    · have hlen : pos < form.data.toList.length := by simpa using hpf
      have hdrop : form.data.toList.drop pos = form[pos] :: form.data.toList.drop (pos + 1) := by
        rw [List.drop_eq_getElem_cons hlen]
        rfl
      have hO := HO.out
      rw [hdrop, impl_parsed.go] at hO
      have hasc : (form[pos]'hpf).toNat < 128 := HA.out _ (by
        have : form[pos] ∈ form.data.toList.drop pos := by rw [hdrop]; simp
        exact List.mem_of_mem_drop this)
      obtain ⟨W, hnx, hI⟩ := PInv.next_ (P := Tryd.prog) HI.out hpf hasc
      have HO2 := Aside0.mk hO
      clear hO HO
      have HI2 := Aside0.mk hI
      clear hI
      generalize hcc : ((form[pos]'hpf).toNat : Int) = c at hnx HO2
      have hcn : (((form[pos]'hpf).toNat : Nat) : Int) = c := hcc
      have HCC := Aside0.mk hcc
      clear hdrop hlen hcc hcn hasc
      go_upto_block 2 with fail
      clear hb0 hb1 hnx
      go_cut [8, 13] (fun v8' v13 wc => ∃ (n : Int) (sp' : List S46), v13 = .int .i64 n ∧ Aside0 (0 ≤ n ∧ n ≤ 4611686018427387904) ∧ Aside0 (sp'.length ≤ pos + 1) ∧ Aside0 (PInv w form s wc (pos + 1) p v8' sp') ∧ Aside0 ((if (s.size : Int) < (p : Int) + n then some ([], false) else impl_parsed.go K s (form.data.toList.drop (pos + 1)) (p + n.toNat) sp') = some (r1, r2)))
      case first =>
        have hb0 := cell_of_one HI2.out.1
        have hb1 := cell_of_one HI2.out.2.1
        have hO := HO2.out
        clear HO2
        by_cases h49 : c = 49
        · subst h49
          have e1 : impl_parsed.n K 49 s p = some (some 1) := by unfold impl_parsed.n; simp
          rw [e1, Option.bind_some] at hO
          have HO3 := Aside0.mk hO
          clear hO
          go_wp2
          go_meet
          case rel => exact ⟨1, sp, by rfl, ⟨by omega⟩, ⟨by have := HL.out; omega⟩, HI2, ⟨by have := HO3.out; simpa using this⟩⟩
        by_cases h50 : c = 50
        · subst h50
          have e1 : impl_parsed.n K 50 s p = some (some 2) := by unfold impl_parsed.n; simp
          rw [e1, Option.bind_some] at hO
          have HO3 := Aside0.mk hO
          clear hO
          go_wp2
          go_meet
          case rel => exact ⟨2, sp, by rfl, ⟨by omega⟩, ⟨by have := HL.out; omega⟩, HI2, ⟨by have := HO3.out; simpa using this⟩⟩
        by_cases h52 : c = 52
        · subst h52
          have e1 : impl_parsed.n K 52 s p = some (some 4) := by unfold impl_parsed.n; simp
          rw [e1, Option.bind_some] at hO
          have HO3 := Aside0.mk hO
          clear hO
          go_wp2
          go_meet
          case rel => exact ⟨4, sp, by rfl, ⟨by omega⟩, ⟨by have := HL.out; omega⟩, HI2, ⟨by have := HO3.out; simpa using this⟩⟩
        by_cases h103 : c = 103
        · subst h103
          have e1 : impl_parsed.n K 103 s p = some (some 4) := by unfold impl_parsed.n; simp
          rw [e1, Option.bind_some] at hO
          have HO3 := Aside0.mk hO
          clear hO
          go_wp2
          go_meet
          case rel => exact ⟨4, sp, by rfl, ⟨by omega⟩, ⟨by have := HL.out; omega⟩, HI2, ⟨by have := HO3.out; simpa using this⟩⟩
        by_cases h113 : c = 113
        · subst h113
          have e1 : impl_parsed.n K 113 s p = some (some 4) := by unfold impl_parsed.n; simp
          rw [e1, Option.bind_some] at hO
          have HO3 := Aside0.mk hO
          clear hO
          go_wp2
          go_meet
          case rel => exact ⟨4, sp, by rfl, ⟨by omega⟩, ⟨by have := HL.out; omega⟩, HI2, ⟨by have := HO3.out; simpa using this⟩⟩
        by_cases h110 : c = 110
        · subst h110
          have e1 : impl_parsed.n K 110 s p = (impl_nameAt.f K (s.extract p s.size)).bind fun n => some (if n = 0 then none else some n) := by unfold impl_parsed.n; simp
          rw [e1, Option.bind_assoc] at hO
          obtain ⟨n, hn, hO⟩ := Option.bind_eq_some_iff.mp hO
          rw [Option.bind_some] at hO
          have HN := Aside0.mk hn
          clear hn e1
          by_cases hn0 : n = 0
          · rw [if_pos hn0] at hO
            simp only [Option.some.injEq, Prod.mk.injEq] at hO
            obtain ⟨rfl, rfl⟩ := hO
            subst hn0
            go_wp2_with (first | (go_at_call 40; refine (impl_parsed.rest _ _ _ s p HI2.out.1 HI2.out.2.1 HQ.out).mono ?_; rintro e w1 ⟨rfl, rfl⟩) | (go_at_call 41; refine (impl_nameAt.calls K _ 0 _ HN.out).mono ?_; rintro e w2 ⟨rfl, m, rfl⟩))
            go_ret2
            exact ⟨_, rfl, Kd.R_nil _ _ _ _ _, (HI2.out.drewN m).2.2.2.2⟩
          · rw [if_neg hn0] at hO
            simp only at hO
            by_cases hnb : n < 0 ∨ 4611686018427387904 < n
            · rw [if_pos hnb] at hO
              cases hO
            · rw [if_neg hnb] at hO
              have hov : wrap64 ((p : Int) + n) = (p : Int) + n := by
                have := HQ.out
                have := HS.out
                unfold wrap64
                omega
              have hn1 : (n == 0) = false := beq_eq_false_iff_ne.mpr hn0
              have HNB : Aside0 (0 ≤ n ∧ n ≤ 4611686018427387904) := ⟨by omega⟩
              have HO3 := Aside0.mk hO
              clear hO hnb hn0
              go_wp2_with (first | (go_at_call 40; refine (impl_parsed.rest _ _ _ s p HI2.out.1 HI2.out.2.1 HQ.out).mono ?_; rintro e w1 ⟨rfl, rfl⟩) | (go_at_call 41; refine (impl_nameAt.calls K _ n _ HN.out).mono ?_; rintro e w2 ⟨rfl, m, rfl⟩; have hd0 := cell_of_one (HI2.out.drewN m).1; have hd1 := cell_of_one (HI2.out.drewN m).2.1) | ((with_reducible refine gate_builtin (b := .append) (xs := #[.tmp 49, .tmp 55]) rfl ?_); at_builtin; refine Kd.R_append k46 (w0 := w) w.heap.size rfl (.tmp 49) (.tmp 55) 30 46 (.agg #[(.int .i64 0), (.int .i64 0)]) 16 rfl Tryd.underlying30 info46 rfl (by decide) (by omega) u8 sp (⟨(p : Int), (p : Int) + n⟩ : S46) [.int .i64 (p : Int), .int .i64 ((p : Int) + n)] (fun k => k ≠ w.heap.size ∧ k ≠ w.heap.size + 1 ∧ k ≠ w.heap.size + 1 + 1) (fun _ => False) rfl rfl ?aP (fun _ hk => hk.elim) ?aF ?aO ?aB ?aS ?aL ?_; (case aP => exact k46_mkM _ _ _ (⟨(p : Int), (p : Int) + n⟩ : S46)); (case aB => exact (HI2.out.drewN m).2.2.2.2); (case aF => exact (fun k hk => by have := lt_of_block (HI2.out.drewN m).2.2.1; omega)); (case aO => exact (HI2.out.drewN m).2.2.2.1); (case aS => exact (HI2.out.drewN m).2.2.2.2.size); (case aL => have := HL.out; have := HF.out; have := HP.out; omega); intro v1 w3 ho hb hg hat; have HI3 := Aside0.mk ((HI2.out.drewN m).spans ho hb hg); clear ho hb hg hat))
              go_meet
              case rel => exact ⟨n, sp ++ [⟨(p : Int), (p : Int) + n⟩], by rfl, HNB, ⟨by have := HL.out; simp; omega⟩, HI3, ⟨by have := HO3.out; simp only [if_true] at this; exact this⟩⟩
        by_cases h116 : c = 116
        · subst h116
          have e1 : impl_parsed.n K 116 s p = some (if s.size ≤ p then none else some (1 + bt s (p : Int))) := by unfold impl_parsed.n; simp
          rw [e1, Option.bind_some] at hO
          clear e1
          by_cases hsp : s.size ≤ p
          · rw [if_pos hsp] at hO
            simp only [Option.some.injEq, Prod.mk.injEq] at hO
            obtain ⟨rfl, rfl⟩ := hO
            have hd : decide ((s.size : Int) ≤ (p : Int)) = true := decide_eq_true (by omega)
            go_wp2
            go_ret2
            exact ⟨_, rfl, Kd.R_nil _ _ _ _ _, HI2.out.2.2.2.2⟩
          · rw [if_neg hsp] at hO
            have hbr := bt_range s (p : Int)
            have hd : decide ((s.size : Int) ≤ (p : Int)) = false := decide_eq_false (by omega)
            have q3 : ((p : Int) < (s.size : Int)) = True := eq_true (by omega)
            have q4 : (p < s.size) = True := eq_true (by omega)
            have hx4 : ∀ h : p < s.size, ((s[p]'h).toNat : Int) = bt s (p : Int) := fun h => bt_at s (p : Int) h
            have hov0 : wrap64 (bt s (p : Int)) = bt s (p : Int) := by unfold wrap64; omega
            have hov : wrap64 (1 + bt s (p : Int)) = 1 + bt s (p : Int) := by unfold wrap64; omega
            simp only at hO
            rw [if_neg (by omega)] at hO
            have HO3 := Aside0.mk hO
            have HBR := Aside0.mk hbr
            have hsp2 : ¬ ((s.size : Int) ≤ (p : Int)) := by omega
            clear hO hsp
            go_wp2
            go_meet
            case rel => exact ⟨1 + bt s (p : Int), sp, by rfl, ⟨by have := HBR.out; omega⟩, ⟨by have := HL.out; omega⟩, HI2, ⟨by have := HO3.out; rw [if_neg (show ¬ ((116 : Int) = 110) by decide)] at this; exact this⟩⟩
        by_cases h42 : c = 42
        · subst h42
          have e1 : impl_parsed.n K 42 s p = some (some ((s.size : Int) - p)) := by unfold impl_parsed.n; simp
          rw [e1, Option.bind_some] at hO
          simp only at hO
          have hsz : ((s.extract p s.size).size : Int) = (s.size : Int) - (p : Int) := by
            have := HQ.out
            rw [ByteArray.size_extract]
            omega
          rw [if_neg (by have := HQ.out; have := HS.out; omega)] at hO
          have HO3 := Aside0.mk hO
          clear hO e1
          go_wp2_with (first | (go_at_call 40; refine (impl_parsed.rest _ _ _ s p HI2.out.1 HI2.out.2.1 HQ.out).mono ?_; rintro e w1 ⟨rfl, rfl⟩))
          go_meet
          case rel => exact ⟨((s.size - p : Nat) : Int), sp, by rfl, ⟨by have := HQ.out; have := HS.out; omega⟩, ⟨by have := HL.out; omega⟩, HI2, ⟨by rw [show ((s.size - p : Nat) : Int) = (s.size : Int) - (p : Int) from by have := HQ.out; omega]; have := HO3.out; rw [if_neg (show ¬ ((42 : Int) = 110) by decide)] at this; exact this⟩⟩
        by_cases h109 : c = 109
        · subst h109
          have e1 : impl_parsed.n K 109 s p = (impl_MapTypes.f K (s.extract p s.size)).bind fun r => some (if r.2 = 0 then some ((s.size : Int) - p) else none) := by unfold impl_parsed.n; simp
          rw [e1, Option.bind_assoc] at hO
          obtain ⟨⟨ml, mc⟩, hm, hO⟩ := Option.bind_eq_some_iff.mp hO
          rw [Option.bind_some] at hO
          have HM := Aside0.mk hm
          clear hm e1
          by_cases hm0 : mc = 0
          · subst hm0
            rw [if_pos (by rfl)] at hO
            simp only at hO
            have hsz : ((s.extract p s.size).size : Int) = (s.size : Int) - (p : Int) := by
              have := HQ.out
              rw [ByteArray.size_extract]
              omega
            rw [if_neg (by have := HQ.out; have := HS.out; omega)] at hO
            have HO3 := Aside0.mk hO
            clear hO
            go_wp2_with (first | (go_at_call 40; refine (impl_parsed.rest _ _ _ s p HI2.out.1 HI2.out.2.1 HQ.out).mono ?_; rintro e w1 ⟨rfl, rfl⟩) | (go_at_call 40; refine (impl_parsed.rest _ _ _ s p HI3.out.1 HI3.out.2.1 HQ.out).mono ?_; rintro e w1 ⟨rfl, rfl⟩) | (go_at_call 42; refine (impl_MapTypes.calls K _ ml 0 _ HM.out).mono ?_; rintro e w2 ⟨vm, rfl, hR, hb⟩; have HI3 := Aside0.mk (HI2.out.below hb); clear hR hb))
            go_meet
            case rel => exact ⟨((s.size - p : Nat) : Int), sp, by rfl, ⟨by have := HQ.out; have := HS.out; omega⟩, ⟨by have := HL.out; omega⟩, HI3, ⟨by rw [show ((s.size - p : Nat) : Int) = (s.size : Int) - (p : Int) from by have := HQ.out; omega]; have := HO3.out; rw [if_neg (show ¬ ((109 : Int) = 110) by decide)] at this; exact this⟩⟩
          · rw [if_neg hm0] at hO
            simp only [Option.some.injEq, Prod.mk.injEq] at hO
            obtain ⟨rfl, rfl⟩ := hO
            have hmb : (mc != 0) = true := bne_iff_ne.mpr hm0
            clear hm0
            go_wp2_with (first | (go_at_call 40; refine (impl_parsed.rest _ _ _ s p HI2.out.1 HI2.out.2.1 HQ.out).mono ?_; rintro e w1 ⟨rfl, rfl⟩) | (go_at_call 42; refine (impl_MapTypes.calls K _ ml mc _ HM.out).mono ?_; rintro e w2 ⟨vm, rfl, hR, hb⟩; have HI3 := Aside0.mk (HI2.out.below hb); clear hR hb))
            go_ret2
            exact ⟨_, rfl, Kd.R_nil _ _ _ _ _, HI3.out.2.2.2.2⟩
        by_cases h84 : c = 84
        · subst h84
          have e1 : impl_parsed.n K 84 s p = some (if impl_parsed.tEnd s (s.size - p) p = p then none else some ((impl_parsed.tEnd s (s.size - p) p : Int) - p)) := by unfold impl_parsed.n; simp
          rw [e1, Option.bind_some] at hO
          clear e1
          have HO3 := Aside0.mk hO
          clear hO
          go_wp2
          go_loopg [16] (s.size - p) (fun kq v16 w' => ∃ k : Nat, v16 = .int .i64 (k : Int) ∧ Aside0 (impl_parsed.tEnd s kq k = impl_parsed.tEnd s (s.size - p) p) ∧ Aside0 (p ≤ k) ∧ Aside0 (k ≤ s.size + 256) ∧ Aside0 (s.size - k ≤ kq) ∧ Aside0 (PInv w form s w' (pos + 1) p u8 sp))
          case atStart => exact ⟨p, rfl, ⟨rfl⟩, ⟨Nat.le_refl _⟩, ⟨by have := HQ.out; omega⟩, ⟨Nat.le_refl _⟩, HI2⟩
          case round =>
            clear hb0 hb1
            obtain ⟨k, rfl, HT, HPK, HKS, HKQ, HI3⟩ := hrel
            have hb0 := cell_of_one HI3.out.1
            have hb1 := cell_of_one HI3.out.2.1
            by_cases hks : k < s.size
            · cases gk with
              | zero => exact absurd HKQ.out (by omega)
              | succ k1 =>
                have hbr := bt_range s (k : Int)
                have hd : decide ((k : Int) < (s.size : Int)) = true := decide_eq_true (by omega)
                have q3 : ((k : Int) < (s.size : Int)) = True := eq_true (by omega)
                have q4 : (k < s.size) = True := eq_true (by omega)
                have hx4 : ∀ h : k < s.size, ((s[k]'h).toNat : Int) = bt s (k : Int) := fun h => bt_at s (k : Int) h
                have hov0 : wrap64 (bt s (k : Int)) = bt s (k : Int) := by unfold wrap64; omega
                have hS := HS.out
                have hov : wrap64 ((k : Int) + (1 + bt s (k : Int))) = (k : Int) + (1 + bt s (k : Int)) := by unfold wrap64; omega
                have hov1 : wrap64 (1 + bt s (k : Int)) = 1 + bt s (k : Int) := by unfold wrap64; omega
                have HBR := Aside0.mk hbr
                have HT2 : Aside0 (impl_parsed.tEnd s k1 (k + 1 + (bt s (k : Int)).toNat) = impl_parsed.tEnd s (s.size - p) p) := ⟨by have := HT.out; rw [impl_parsed.tEnd, if_pos hks] at this; exact this⟩
                have HLT := Aside0.mk hks
                clear hks hS HT
                go_wp2
                go_roundg k1
                case measure => omega
                case rel =>
                  have := HBR.out
                  have := HLT.out
                  exact ⟨k + 1 + (bt s (k : Int)).toNat, by rw [show ((k + 1 + (bt s (k : Int)).toNat : Nat) : Int) = (k : Int) + (1 + bt s (k : Int)) from by omega, hov], HT2, ⟨by have := HPK.out; omega⟩, ⟨by omega⟩, ⟨by have := HKQ.out; omega⟩, HI3⟩
            · have hte : impl_parsed.tEnd s gk k = k := by
                cases gk with
                | zero => rfl
                | succ k1 => rw [impl_parsed.tEnd, if_neg hks]
              have hd : decide ((k : Int) < (s.size : Int)) = false := decide_eq_false (by omega)
              have hO := HO3.out
              rw [← HT.out, hte] at hO
              clear HO3
              by_cases hkp : k = p
              · subst hkp
                rw [if_pos rfl] at hO
                simp only [Option.some.injEq, Prod.mk.injEq] at hO
                obtain ⟨rfl, rfl⟩ := hO
                have hov : wrap64 ((k : Int) - (k : Int)) = 0 := by unfold wrap64; omega
                go_wp2
                go_ret2
                exact ⟨_, rfl, Kd.R_nil _ _ _ _ _, HI3.out.2.2.2.2⟩
              · have hpk := HPK.out
                have hkS := HKS.out
                have hS := HS.out
                rw [if_neg hkp] at hO
                simp only at hO
                rw [if_neg (by omega)] at hO
                have hov : wrap64 ((k : Int) - (p : Int)) = (k : Int) - (p : Int) := by unfold wrap64; omega
                have hne : ((k : Int) - (p : Int) == 0) = false := beq_eq_false_iff_ne.mpr (by omega)
                have HB3 : Aside0 (0 ≤ (k : Int) - (p : Int) ∧ (k : Int) - (p : Int) ≤ 4611686018427387904) := ⟨by omega⟩
                have HO4 := Aside0.mk hO
                have hks2 : ¬ ((k : Int) < (s.size : Int)) := by omega
                clear hO hkp hpk hkS hS hks
                go_wp2
                go_meet
                case rel => exact ⟨(k : Int) - p, sp, by rfl, HB3, ⟨by have := HL.out; omega⟩, HI3, ⟨by have := HO4.out; rw [if_neg (show ¬ ((84 : Int) = 110) by decide)] at this; exact this⟩⟩
        by_cases h99 : c = 99
        · subst h99
          have e1 : impl_parsed.n K 99 s p = some (if s.size ≤ p then none else if 1 + bt s (p : Int) < 2 then none else if 16 < 1 + bt s (p : Int) then none else if (s.size : Int) < (p : Int) + (1 + bt s (p : Int)) then none else if (bytesOf (s.extract (p + 1) (p + (1 + bt s (p : Int)).toNat))).all impl_parsed.alnum then some (1 + bt s (p : Int)) else none) := by unfold impl_parsed.n; simp
          rw [e1, Option.bind_some] at hO
          clear e1
          by_cases hsp : s.size ≤ p
          · rw [if_pos hsp] at hO
            simp only [Option.some.injEq, Prod.mk.injEq] at hO
            obtain ⟨rfl, rfl⟩ := hO
            have hd : decide ((s.size : Int) ≤ (p : Int)) = true := decide_eq_true (by omega)
            go_wp2
            go_ret2
            exact ⟨_, rfl, Kd.R_nil _ _ _ _ _, HI2.out.2.2.2.2⟩
          · rw [if_neg hsp] at hO
            have hbr := bt_range s (p : Int)
            have hsp2 : ¬ ((s.size : Int) ≤ (p : Int)) := by omega
            have q3 : ((p : Int) < (s.size : Int)) = True := eq_true (by omega)
            have q4 : (p < s.size) = True := eq_true (by omega)
            have hx4 : ∀ h : p < s.size, ((s[p]'h).toNat : Int) = bt s (p : Int) := fun h => bt_at s (p : Int) h
            generalize hbb : bt s (p : Int) = b at *
            have HBB := Aside0.mk hbb
            clear hbb
            have hov0 : wrap64 b = b := by unfold wrap64; omega
            have hov : wrap64 (1 + b) = 1 + b := by unfold wrap64; omega
            have hov2 : wrap64 ((p : Int) + (1 + b)) = (p : Int) + (1 + b) := by have := HQ.out; have := HS.out; unfold wrap64; omega
            have hov3 : wrap64 ((p : Int) + 1) = (p : Int) + 1 := by have := HQ.out; have := HS.out; unfold wrap64; omega
            by_cases hn2 : 1 + b < 2
            · rw [if_pos hn2] at hO
              simp only [Option.some.injEq, Prod.mk.injEq] at hO
              obtain ⟨rfl, rfl⟩ := hO
              clear hsp
              go_wp2
              go_ret2
              exact ⟨_, rfl, Kd.R_nil _ _ _ _ _, HI2.out.2.2.2.2⟩
            · rw [if_neg hn2] at hO
              by_cases hn16 : 16 < 1 + b
              · rw [if_pos hn16] at hO
                simp only [Option.some.injEq, Prod.mk.injEq] at hO
                obtain ⟨rfl, rfl⟩ := hO
                clear hsp
                go_wp2
                go_ret2
                exact ⟨_, rfl, Kd.R_nil _ _ _ _ _, HI2.out.2.2.2.2⟩
              · rw [if_neg hn16] at hO
                by_cases hlen : (s.size : Int) < (p : Int) + (1 + b)
                · rw [if_pos hlen] at hO
                  simp only [Option.some.injEq, Prod.mk.injEq] at hO
                  obtain ⟨rfl, rfl⟩ := hO
                  clear hsp
                  go_wp2
                  go_ret2
                  exact ⟨_, rfl, Kd.R_nil _ _ _ _ _, HI2.out.2.2.2.2⟩
                · rw [if_neg hlen] at hO
                  have HX := Aside0.mk hO
                  clear hO
                  have hcv := fun W x => Lib.run_convert_string_bytes (P := Tryd.prog) W 9 49 5 x Tryd.underlying9 Tryd.underlying49 Tryd.underlying5
                  have hsl1 : ((p : Int) + 1 ≤ (p : Int) + (1 + b)) = True := eq_true (by omega)
                  have hsl2 : ((p : Int) + (1 + b) ≤ (s.size : Int)) = True := eq_true (by omega)
                  have hsl3 : (0 ≤ (p : Int) + 1) = True := eq_true (by omega)
                  have hE : ((p : Int) + (1 + b)).toNat = p + (1 + b).toNat := by omega
                  have HIP := HI2.out.below (bytes_below (Below.refl W.heap.size W) (Nat.le_refl _) 5 (s.extract (p + 1) (p + (1 + b).toNat)))
                  have HRW := Go.Proofs.YtbaajohjglhpfaaDoorW.XConv.Row8.conv W 5 (s.extract (p + 1) (p + (1 + b).toNat))
                  have HXS : Aside0 ((s.extract (p + 1) (p + (1 + b).toNat)).size ≤ 16) := ⟨by rw [ByteArray.size_extract]; omega⟩
                  have HIP2 := Aside0.mk HIP
                  have HRW2 := Aside0.mk HRW
                  clear hsp HIP HRW
                  generalize hxx : s.extract (p + 1) (p + (1 + b).toNat) = x at *
                  go_wp2
                  clear hcv hsl1 hsl2 hsl3 hE hb0 hb1 hov0 hov hov2 hov3 hx4 hxx
                  go_loopg [94] x.size (fun kq v94 w' => ∃ j : Nat, v94 = .int .i64 (j : Int) ∧ Aside0 (kq + j = x.size) ∧ Aside0 (j ≤ x.size) ∧ Aside0 (((bytesOf x).take j).all impl_parsed.alnum = true) ∧ Aside0 (Go.Proofs.YtbaajohjglhpfaaDoorW.XConv.Row8 w' W.heap.size 5 (bytesOf x)) ∧ Aside0 (PInv w form s w' (pos + 1) p u8 sp))
                  case atStart => exact ⟨0, rfl, ⟨by omega⟩, ⟨by omega⟩, ⟨by simp⟩, HRW2, HIP2⟩
                  case round =>
                    clear HIP2 HRW2
                    obtain ⟨j, rfl, HKJ, HJX, HAL, HR, HI3⟩ := hrel
                    have hlb := bytesOf_length x
                    by_cases hjx : j < x.size
                    · cases gk with
                      | zero => exact absurd HKJ.out (by omega)
                      | succ k1 =>
                      have hcell := HR.out.cell j (by omega)
                      have hg : (bytesOf x).getD j 0 = bt x (j : Int) := by rw [← rd_bytesOf]; simp [rd]
                      rw [hg] at hcell
                      have hmem : bt x (j : Int) ∈ bytesOf x := by
                        rw [← hg, List.getD_eq_getElem?_getD, List.getElem?_eq_getElem (by omega)]
                        exact List.getElem_mem _
                      have HBAD : impl_parsed.alnum (bt x (j : Int)) = false → (bytesOf x).all impl_parsed.alnum = false := fun e => List.all_eq_false.2 ⟨_, hmem, by rw [e]; decide⟩
                      have HAL2 : impl_parsed.alnum (bt x (j : Int)) = true → ((bytesOf x).take (j + 1)).all impl_parsed.alnum = true := fun e => by
                        rw [List.take_succ_eq_append_getElem (by omega), List.all_append, HAL.out]
                        have : (bytesOf x)[j]'(by omega) = bt x (j : Int) := by rw [← hg, List.getD_eq_getElem?_getD, List.getElem?_eq_getElem (by omega)]; rfl
                        simp [this, e]
                      have hbr8 := bt_range x (j : Int)
                      have hd : decide ((j : Int) < (x.size : Int)) = true := decide_eq_true (by omega)
                      have hov : wrap64 ((j : Int) + 1) = (j : Int) + 1 := by have := HJX.out; have := HXS.out; unfold wrap64; omega
                      clear hg hmem hlb
                      generalize bt x (j : Int) = c8 at *
                      rcases (by omega : (c8 < 48) ∨ (48 ≤ c8 ∧ c8 ≤ 57) ∨ (57 < c8 ∧ c8 < 65) ∨ (65 ≤ c8 ∧ c8 ≤ 90) ∨ (90 < c8 ∧ c8 < 97) ∨ (97 ≤ c8 ∧ c8 ≤ 122) ∨ (122 < c8)) with hr | ⟨hr, hr2⟩ | ⟨hr, hr2⟩ | ⟨hr, hr2⟩ | ⟨hr, hr2⟩ | ⟨hr, hr2⟩ | hr
                      · have hbad := HBAD (by unfold impl_parsed.alnum; simp; omega)
                        have hO := HX.out
                        rw [hbad] at hO
                        simp only [Bool.false_eq_true, if_false, Option.some.injEq, Prod.mk.injEq] at hO
                        obtain ⟨rfl, rfl⟩ := hO
                        have t0 : (48 ≤ c8) = False := eq_false (by omega)
                        have t1 : (c8 ≤ 57) = True := eq_true (by omega)
                        have t2 : (97 ≤ c8) = False := eq_false (by omega)
                        have t3 : (c8 ≤ 122) = True := eq_true (by omega)
                        have t4 : (65 ≤ c8) = False := eq_false (by omega)
                        have t5 : (c8 ≤ 90) = True := eq_true (by omega)
                        have q3 : ((j : Int) < (x.size : Int)) = True := eq_true (by omega)
                        have q4 : (j < x.size) = True := eq_true (by omega)
                        have HJ1 := Aside0.mk hjx
                        clear hr hbr8 HBAD HAL2 hd hjx hbad
                        go_wp2
                        go_ret2
                        exact ⟨_, rfl, Kd.R_nil _ _ _ _ _, HI3.out.2.2.2.2⟩
                      · have hok := HAL2 (by unfold impl_parsed.alnum; simp; omega)
                        have HOK := Aside0.mk hok
                        have t0 : (48 ≤ c8) = True := eq_true (by omega)
                        have t1 : (c8 ≤ 57) = True := eq_true (by omega)
                        have t2 : (97 ≤ c8) = False := eq_false (by omega)
                        have t3 : (c8 ≤ 122) = True := eq_true (by omega)
                        have t4 : (65 ≤ c8) = False := eq_false (by omega)
                        have t5 : (c8 ≤ 90) = True := eq_true (by omega)
                        have q3 : ((j : Int) < (x.size : Int)) = True := eq_true (by omega)
                        have q4 : (j < x.size) = True := eq_true (by omega)
                        have HJ1 := Aside0.mk hjx
                        clear hr hr2 hbr8 HBAD HAL2 hd hjx hok
                        go_wp2
                        go_roundg k1
                        case measure => omega
                        case rel => exact ⟨j + 1, by go_num, ⟨by have := HKJ.out; omega⟩, ⟨by have := HJ1.out; omega⟩, HOK, HR, HI3⟩
                      · have hbad := HBAD (by unfold impl_parsed.alnum; simp; omega)
                        have hO := HX.out
                        rw [hbad] at hO
                        simp only [Bool.false_eq_true, if_false, Option.some.injEq, Prod.mk.injEq] at hO
                        obtain ⟨rfl, rfl⟩ := hO
                        have t0 : (48 ≤ c8) = True := eq_true (by omega)
                        have t1 : (c8 ≤ 57) = False := eq_false (by omega)
                        have t2 : (97 ≤ c8) = False := eq_false (by omega)
                        have t3 : (c8 ≤ 122) = True := eq_true (by omega)
                        have t4 : (65 ≤ c8) = False := eq_false (by omega)
                        have t5 : (c8 ≤ 90) = True := eq_true (by omega)
                        have q3 : ((j : Int) < (x.size : Int)) = True := eq_true (by omega)
                        have q4 : (j < x.size) = True := eq_true (by omega)
                        have HJ1 := Aside0.mk hjx
                        clear hr hr2 hbr8 HBAD HAL2 hd hjx hbad
                        go_wp2
                        go_ret2
                        exact ⟨_, rfl, Kd.R_nil _ _ _ _ _, HI3.out.2.2.2.2⟩
                      · have hok := HAL2 (by unfold impl_parsed.alnum; simp; omega)
                        have HOK := Aside0.mk hok
                        have t0 : (48 ≤ c8) = True := eq_true (by omega)
                        have t1 : (c8 ≤ 57) = False := eq_false (by omega)
                        have t2 : (97 ≤ c8) = False := eq_false (by omega)
                        have t3 : (c8 ≤ 122) = True := eq_true (by omega)
                        have t4 : (65 ≤ c8) = True := eq_true (by omega)
                        have t5 : (c8 ≤ 90) = True := eq_true (by omega)
                        have q3 : ((j : Int) < (x.size : Int)) = True := eq_true (by omega)
                        have q4 : (j < x.size) = True := eq_true (by omega)
                        have HJ1 := Aside0.mk hjx
                        clear hr hr2 hbr8 HBAD HAL2 hd hjx hok
                        go_wp2
                        go_roundg k1
                        case measure => omega
                        case rel => exact ⟨j + 1, by go_num, ⟨by have := HKJ.out; omega⟩, ⟨by have := HJ1.out; omega⟩, HOK, HR, HI3⟩
                      · have hbad := HBAD (by unfold impl_parsed.alnum; simp; omega)
                        have hO := HX.out
                        rw [hbad] at hO
                        simp only [Bool.false_eq_true, if_false, Option.some.injEq, Prod.mk.injEq] at hO
                        obtain ⟨rfl, rfl⟩ := hO
                        have t0 : (48 ≤ c8) = True := eq_true (by omega)
                        have t1 : (c8 ≤ 57) = False := eq_false (by omega)
                        have t2 : (97 ≤ c8) = False := eq_false (by omega)
                        have t3 : (c8 ≤ 122) = True := eq_true (by omega)
                        have t4 : (65 ≤ c8) = True := eq_true (by omega)
                        have t5 : (c8 ≤ 90) = False := eq_false (by omega)
                        have q3 : ((j : Int) < (x.size : Int)) = True := eq_true (by omega)
                        have q4 : (j < x.size) = True := eq_true (by omega)
                        have HJ1 := Aside0.mk hjx
                        clear hr hr2 hbr8 HBAD HAL2 hd hjx hbad
                        go_wp2
                        go_ret2
                        exact ⟨_, rfl, Kd.R_nil _ _ _ _ _, HI3.out.2.2.2.2⟩
                      · have hok := HAL2 (by unfold impl_parsed.alnum; simp; omega)
                        have HOK := Aside0.mk hok
                        have t0 : (48 ≤ c8) = True := eq_true (by omega)
                        have t1 : (c8 ≤ 57) = False := eq_false (by omega)
                        have t2 : (97 ≤ c8) = True := eq_true (by omega)
                        have t3 : (c8 ≤ 122) = True := eq_true (by omega)
                        have t4 : (65 ≤ c8) = True := eq_true (by omega)
                        have t5 : (c8 ≤ 90) = False := eq_false (by omega)
                        have q3 : ((j : Int) < (x.size : Int)) = True := eq_true (by omega)
                        have q4 : (j < x.size) = True := eq_true (by omega)
                        have HJ1 := Aside0.mk hjx
                        clear hr hr2 hbr8 HBAD HAL2 hd hjx hok
                        go_wp2
                        go_roundg k1
                        case measure => omega
                        case rel => exact ⟨j + 1, by go_num, ⟨by have := HKJ.out; omega⟩, ⟨by have := HJ1.out; omega⟩, HOK, HR, HI3⟩
                      · have hbad := HBAD (by unfold impl_parsed.alnum; simp; omega)
                        have hO := HX.out
                        rw [hbad] at hO
                        simp only [Bool.false_eq_true, if_false, Option.some.injEq, Prod.mk.injEq] at hO
                        obtain ⟨rfl, rfl⟩ := hO
                        have t0 : (48 ≤ c8) = True := eq_true (by omega)
                        have t1 : (c8 ≤ 57) = False := eq_false (by omega)
                        have t2 : (97 ≤ c8) = True := eq_true (by omega)
                        have t3 : (c8 ≤ 122) = False := eq_false (by omega)
                        have t4 : (65 ≤ c8) = True := eq_true (by omega)
                        have t5 : (c8 ≤ 90) = False := eq_false (by omega)
                        have q3 : ((j : Int) < (x.size : Int)) = True := eq_true (by omega)
                        have q4 : (j < x.size) = True := eq_true (by omega)
                        have HJ1 := Aside0.mk hjx
                        clear hr hbr8 HBAD HAL2 hd hjx hbad
                        go_wp2
                        go_ret2
                        exact ⟨_, rfl, Kd.R_nil _ _ _ _ _, HI3.out.2.2.2.2⟩
                    · obtain rfl : j = x.size := by have := HJX.out; omega
                      have hO := HX.out
                      have hal := HAL.out
                      rw [List.take_of_length_le (by omega)] at hal
                      rw [hal] at hO
                      simp only [if_true] at hO
                      rw [if_neg (by omega)] at hO
                      have HO3 := Aside0.mk hO
                      have HNB : Aside0 (0 ≤ 1 + b ∧ 1 + b ≤ 4611686018427387904) := ⟨by omega⟩
                      clear hO hal hlb hn2 hn16 hlen
                      go_wp2
                      go_meet
                      case rel => exact ⟨1 + b, sp, by rfl, HNB, ⟨by have := HL.out; omega⟩, HI3, ⟨by have := HO3.out; rw [if_neg (show ¬ ((99 : Int) = 110) by decide)] at this; exact this⟩⟩
        exfalso
        have e1 : impl_parsed.n K c s p = none := by unfold impl_parsed.n; simp [h49, h50, h52, h103, h113, h110, h116, h42, h109, h84, h99]
        rw [e1] at hO
        cases hO
      case rest =>
        obtain ⟨n, sp', rfl, HN, HL', HIc, HOc⟩ := hcut
        have hb0 := cell_of_one HIc.out.1
        have hb1 := cell_of_one HIc.out.2.1
        have hfr := free_of_one HIc.out.2.1
        have hov : wrap64 ((p : Int) + n) = (p : Int) + n := by
          have := HN.out
          have := HQ.out
          have := HS.out
          unfold wrap64
          omega
        have hO := HOc.out
        by_cases hbig : (s.size : Int) < (p : Int) + n
        · rw [if_pos hbig] at hO
          simp only [Option.some.injEq, Prod.mk.injEq] at hO
          obtain ⟨rfl, rfl⟩ := hO
          have hd : decide ((s.size : Int) < (p : Int) + n) = true := decide_eq_true hbig
          go_wp2
          go_ret2
          exact ⟨_, rfl, Kd.R_nil _ _ _ _ _, HIc.out.2.2.2.2⟩
        · rw [if_neg hbig] at hO
          have hd : decide ((s.size : Int) < (p : Int) + n) = false := decide_eq_false hbig
          have HO3 := Aside0.mk hO
          clear hO HOc
          go_wp2
          go_roundg (form.size - pos)
          case measure => have := HK.out; omega
          case rel =>
            have hpn : ((p + n.toNat : Nat) : Int) = (p : Int) + n := by have := HN.out; omega
            refine ⟨pos + 1, p + n.toNat, sp', ⟨by omega⟩, ⟨by omega⟩, HL', ⟨by omega⟩, ⟨?_⟩, HO3⟩
            have := HIc.out.put (p + n.toNat)
            rw [hpn] at this
            exact this
    · have hend := PInv.end_ (P := Tryd.prog) HI.out hpf
      obtain rfl : pos = form.size := by have := HP.out; omega
      have hO := HO.out
      rw [List.drop_of_length_le (by simp), impl_parsed.go] at hO
      simp only [Option.some.injEq, Prod.mk.injEq] at hO
      obtain ⟨rfl, rfl⟩ := hO
      clear HO
      go_wp2
      go_region
      go_wp2
      go_ret2
      have hI := HI.out.drew
      exact ⟨_, rfl, Kd.R_mono hI.2.2.2.1 (fun _ _ => trivial), hI.2.2.2.2⟩
set_option maxHeartbeats 8000000 in
set_option maxRecDepth 100000 in
theorem impl_parsed.none_ (rt : Int) (s : ByteArray) (hf : formOf rt = none) (hwf : (Lit.int .i64 rt).wf = true) (w : World) (hG : Glob w) :
    Calls Tryd.prog 26 #[.int .i64 rt, .string s] w fun e w' => e = .returned (.tuple #[.slice none 0 0, .bool true]) ∧ Below w.heap.size w w' := by
  have hG1 := hG.alloc (.cells #[.string s] 9)
  obtain ⟨bm, og, om, g1, g2, g3, g4⟩ := hG1
  have hc0 := g3 _ g1
  have hlk := g4 _ rt g2 hwf
  rw [hf] at hlk
  simp only [Option.getD_none, Option.isSome_none] at hlk
  clear g1 g2 g3 g4 hf hwf
  go_enter Tryd.func26, Tryd.ntmps26
  go_wp2
  go_ret2
  exact ⟨rfl, below_alloc (Below.refl _ _) _⟩
theorem formOf_small {t : Int} {form : ByteArray} (h : formOf t = some form) : (∀ c ∈ form.data.toList, c.toNat < 128) ∧ form.size ≤ 100 := by
  unfold formOf at h
  by_cases c1 : t = 1
  · rw [if_pos c1] at h
    obtain rfl := Option.some.inj h
    decide
  rw [if_neg c1] at h
  by_cases c2 : t = 2
  · rw [if_pos c2] at h
    obtain rfl := Option.some.inj h
    decide
  rw [if_neg c2] at h
  by_cases c5 : t = 5
  · rw [if_pos c5] at h
    obtain rfl := Option.some.inj h
    decide
  rw [if_neg c5] at h
  by_cases c6 : t = 6
  · rw [if_pos c6] at h
    obtain rfl := Option.some.inj h
    decide
  rw [if_neg c6] at h
  by_cases c12 : t = 12
  · rw [if_pos c12] at h
    obtain rfl := Option.some.inj h
    decide
  rw [if_neg c12] at h
  by_cases c13 : t = 13
  · rw [if_pos c13] at h
    obtain rfl := Option.some.inj h
    decide
  rw [if_neg c13] at h
  by_cases c15 : t = 15
  · rw [if_pos c15] at h
    obtain rfl := Option.some.inj h
    decide
  rw [if_neg c15] at h
  by_cases c16 : t = 16
  · rw [if_pos c16] at h
    obtain rfl := Option.some.inj h
    decide
  rw [if_neg c16] at h
  by_cases c28 : t = 28
  · rw [if_pos c28] at h
    obtain rfl := Option.some.inj h
    decide
  rw [if_neg c28] at h
  by_cases c33 : t = 33
  · rw [if_pos c33] at h
    obtain rfl := Option.some.inj h
    decide
  rw [if_neg c33] at h
  by_cases c35 : t = 35
  · rw [if_pos c35] at h
    obtain rfl := Option.some.inj h
    decide
  rw [if_neg c35] at h
  by_cases c39 : t = 39
  · rw [if_pos c39] at h
    obtain rfl := Option.some.inj h
    decide
  rw [if_neg c39] at h
  by_cases c47 : t = 47
  · rw [if_pos c47] at h
    obtain rfl := Option.some.inj h
    decide
  rw [if_neg c47] at h
  by_cases c257 : t = 257
  · rw [if_pos c257] at h
    obtain rfl := Option.some.inj h
    decide
  rw [if_neg c257] at h
  cases h
theorem impl_parsed.calls (k : Nat) (a0 : Int) (a1 : ByteArray) (r1 : List S46) (r2 : Bool) (w : World) (h : impl_parsed.f k a0 a1 = some (r1, r2)) (hG : Glob w) :
    Calls Tryd.prog 26 #[.int .i64 a0, .string a1] w fun e w' => ∃ v0_ : Value, e = .returned (.tuple #[v0_, .bool r2]) ∧ Kd.R k46 46 w' w.heap.size (fun _ => True) v0_ r1 ∧ Below w.heap.size w w' := by
  unfold impl_parsed.f at h
  split at h
  case isTrue => cases h
  case isFalse hs =>
  split at h
  case isFalse => cases h
  case isTrue hwf =>
  split at h
  case h_1 hf =>
    cases h
    refine (impl_parsed.none_ a0 a1 hf hwf w hG).mono ?_
    rintro e w' ⟨rfl, hb⟩
    exact ⟨_, rfl, Kd.R_nil _ _ _ _ _, hb⟩
  case h_2 form hf => exact impl_parsed.some_ k a0 a1 form hf hwf (formOf_small hf).1 (formOf_small hf).2 (by omega) r1 r2 w hG h
theorem impl_parsed.n_mono (K : Nat) (c : Int) (s : ByteArray) (p : Nat) : LeO (impl_parsed.n K c s p) (impl_parsed.n (K + 1) c s p) := by
  unfold impl_parsed.n
  repeat' first
      | (with_reducible exact impl_nameAt.mono _ _)
      | (with_reducible exact impl_MapTypes.mono _ _)
      | (with_reducible exact LeO.refl _)
      | (with_reducible refine LeO.ite ?_ ?_)
      | (with_reducible refine LeO.bind ?_ (fun _ => ?_))
theorem impl_parsed.go_mono (K : Nat) (s : ByteArray) : ∀ (l : List UInt8) (p : Nat) (sp : List S46), LeO (impl_parsed.go K s l p sp) (impl_parsed.go (K + 1) s l p sp) := by
  intro l
  induction l with
  | nil => intro p sp; exact LeO.refl _
  | cons c r ih =>
    intro p sp
    rw [impl_parsed.go, impl_parsed.go]
    refine LeO.bind (impl_parsed.n_mono _ _ _ _) (fun o => ?_)
    cases o with
    | none => exact LeO.refl _
    | some n =>
      refine LeO.ite (LeO.refl _) (LeO.ite (LeO.refl _) (ih _ _))
theorem impl_parsed.mono : ∀ a0 a1 k, LeO (impl_parsed.f k a0 a1) (impl_parsed.f (k + 1) a0 a1) := by
  intro a0 a1 k
  unfold impl_parsed.f
  refine LeO.ite (LeO.refl _) (LeO.ite ?_ (LeO.refl _))
  cases formOf a0 with
  | none => exact LeO.refl _
  | some form => exact impl_parsed.go_mono _ _ _ _ _

end Go.Proofs.YtbaajohjglhpfaaDoor.F
