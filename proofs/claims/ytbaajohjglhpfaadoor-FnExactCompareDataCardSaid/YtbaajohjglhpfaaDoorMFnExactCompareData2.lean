/- Part 2 of 2 of the proof of FnExactCompareData: what each Go function on its way computes, that the Go code does just this, and what the law says of it. No condition beyond the statement's own. -/
import Derived.Lib.LazyBuf
import Derived.Test.YtbaajohjglhpfaaDoorWWords
import Derived.Test.YtbaajohjglhpfaaDoorWMore
import Derived.Lib.Bytes
import Derived.Laws.BitsLemmas
import Derived.Lib.Bytealg
import Derived.Test.YtbaajohjglhpfaaDoorRows
import Derived.Test.YtbaajohjglhpfaaDoorTie
import Derived.Test.YtbaajohjglhpfaaDoorCards
import Derived.OpenVars
import Derived.WalkKit
import Derived.ProofKit
import Derived.OpenShut
import Derived.ShutString
import Derived.ChangeOld
import Derived.Below
import Derived.SizedLaws
import Derived.Test.YtbaajohjglhpfaaDoorMFnExactCompareData1
namespace Go.Proofs.YtbaajohjglhpfaaDoor.F
open Go Go.Shelf Go.RowKit Go.Proofs.YtbaajohjglhpfaaDoorW.PrintWords Go.Proofs.YtbaajohjglhpfaaDoorW.PrintLast Go.Proofs.YtbaajohjglhpfaaDoorW.PrintMore
attribute [local go_sem] max2_int min2_int max_two min_two max_three min_three max_four min_four   -- for this text's walks alone
set_option linter.unusedVariables false
set_option linter.unusedSimpArgs false

/-! ### impl_parsed: function 26 -/
theorem impl_parsed.rest (w : World) (b0 b1 : Nat) (s : ByteArray) (at_ : Nat) (h0 : w.heap[b0]? = some (.cells #[.string s] 9 (0, 0))) (h1 : w.heap[b1]? = some (.cells #[.int .i64 (at_ : Int)] 3 (0, 0))) (hat : at_ ≤ s.size) :
    Calls Tryd.prog 40 #[.pointer (some ⟨b0, 0, none⟩), .pointer (some ⟨b1, 0, none⟩)] w fun e w' => e = .returned (.string (s.extract at_ s.size)) ∧ w' = w := by
  have q0 := cell_of_row w b0 0 _ _ _ h0
  have q1 := cell_of_row w b1 0 _ _ _ h1
  have hle : ((at_ : Int) ≤ (s.size : Int)) = True := eq_true (by omega)
  go_enter Tryd.func40, Tryd.ntmps40
  go_wp2
  go_ret
  exact ⟨rfl, rfl⟩
def impl_parsed.tEnd (s : ByteArray) : Nat → Nat → Nat
  | 0, k => k
  | d + 1, k => if k < s.size then impl_parsed.tEnd s d (k + 1 + (bt s (k : Int)).toNat) else k
def impl_parsed.alnum (c : Int) : Bool := (decide (48 ≤ c) && decide (c ≤ 57)) || ((decide (97 ≤ c) && decide (c ≤ 122)) || (decide (65 ≤ c) && decide (c ≤ 90)))
def impl_parsed.n (K : Nat) (c : Int) (s : ByteArray) (p : Nat) : Option (Option Int) :=
  if c = 49 then some (some 1) else if c = 50 then some (some 2) else if c = 52 ∨ c = 103 ∨ c = 113 then some (some 4)
  else if c = 110 then (impl_nameAt.f K (s.extract p s.size)).bind fun n => some (if n = 0 then none else some n)
  else if c = 116 then some (if s.size ≤ p then none else some (1 + bt s (p : Int)))
  else if c = 99 then some (if s.size ≤ p then none else if 1 + bt s (p : Int) < 2 then none else if 16 < 1 + bt s (p : Int) then none else if (s.size : Int) < (p : Int) + (1 + bt s (p : Int)) then none else if (bytesOf (s.extract (p + 1) (p + (1 + bt s (p : Int)).toNat))).all impl_parsed.alnum then some (1 + bt s (p : Int)) else none)
  else if c = 84 then some (if impl_parsed.tEnd s (s.size - p) p = p then none else some ((impl_parsed.tEnd s (s.size - p) p : Int) - p))
  else if c = 109 then (impl_MapTypes.f K (s.extract p s.size)).bind fun r => some (if r.2 = 0 then some ((s.size : Int) - p) else none)
  else if c = 42 then some (some ((s.size : Int) - p)) else none
def impl_parsed.go (K : Nat) (s : ByteArray) : List UInt8 → Nat → List S46 → Option (List S46 × Bool)
  | [], p, sp => some (sp, (p : Int) == (s.size : Int))
  | c :: r, p, sp => (impl_parsed.n K (c.toNat : Int) s p).bind fun o => match o with
    | none => some ([], false)
    | some n => if n < 0 ∨ 4611686018427387904 < n then none else if (s.size : Int) < (p : Int) + n then some ([], false) else impl_parsed.go K s r (p + n.toNat) (if (c.toNat : Int) = 110 then sp ++ [⟨p, (p : Int) + n⟩] else sp)
def impl_parsed.f (k : Nat) (a0 : Int) (a1 : ByteArray) : Option (List S46 × Bool) :=
  if 140737488355328 < a1.size then none else if (Lit.int .i64 a0).wf = true then (match formOf a0 with | none => some ([], true) | some form => impl_parsed.go k a1 form.data.toList 0 []) else none
set_option maxHeartbeats 8000000 in
set_option maxRecDepth 100000 in
theorem impl_parsed.some_ (K : Nat) (rt : Int) (s : ByteArray) (form : ByteArray) (hf : formOf rt = some form) (hwf : (Lit.int .i64 rt).wf = true) (hasc : ∀ c ∈ form.data.toList, c.toNat < 128) (hfs : form.size ≤ 100) (hs : s.size ≤ 140737488355328)
    (r1 : List S46) (r2 : Bool) (w : World) (hG : Glob w) (h : impl_parsed.go K s form.data.toList 0 [] = some (r1, r2)) :
    Calls Tryd.prog 26 #[.int .i64 rt, .string s] w fun e w' => ∃ v0_ : Value, e = .returned (.tuple #[v0_, .bool r2]) ∧ Kd.R k46 46 w' w.heap.size (fun _ => True) v0_ r1 ∧ Below w.heap.size w w' := by
  have hG1 := hG.alloc (.cells #[.string s] 9)
  obtain ⟨bm, og, om, g1, g2, g3, g4⟩ := hG1
  have hc0 := g3 _ g1
  have hlk := g4 _ rt g2 hwf
  rw [hf] at hlk
  simp only [Option.getD_some, Option.isSome_some] at hlk
  clear g1 g2 g3 g4 hf hwf
  have HH := Aside0.mk h
  have HA := Aside0.mk hasc
  have HS := Aside0.mk hs
  have HF := Aside0.mk hfs
  clear h hasc hs hfs
  have hz : ∀ (W : World) o, (W.alloc o).heap.size = W.heap.size + 1 := fun _ _ => Array.size_push _
  go_enter Tryd.func26, Tryd.ntmps26
  go_wp2
  clear hc0 hlk hG
  go_loopg [8] (form.size + 1) (fun kq v8 wr => ∃ (pos p : Nat) (sp : List S46), Aside0 (kq + pos = form.size + 1) ∧ Aside0 (pos ≤ form.size) ∧ Aside0 (sp.length ≤ pos) ∧ Aside0 (p ≤ s.size) ∧ Aside0 (PInv w form s wr pos p v8 sp) ∧ Aside0 (impl_parsed.go K s (form.data.toList.drop pos) p sp = some (r1, r2)))
  case atStart =>
    refine ⟨0, 0, [], ⟨rfl⟩, ⟨Nat.zero_le _⟩, ⟨Nat.le_refl _⟩, ⟨Nat.zero_le _⟩, ⟨?_, ?_, ?_, ?_, ?_⟩, ⟨HH.out⟩⟩
    · exact blk_alloc (blk_alloc (blk_new w _) _) _
    · have e := blk_new (w.alloc (.cells #[.string s] 9)) (.cells #[.int .i64 0] 3)
      rw [hz] at e
      exact blk_alloc e _
    · have e := World.iter_heap ((w.alloc (.cells #[.string s] 9)).alloc (.cells #[.int .i64 0] 3)) form 0
      rw [hz, hz] at e
      exact e
    · exact Kd.R_nil _ _ _ _ _
    · exact below_alloc (below_alloc (below_alloc (Below.refl _ _) _) _) _
  case round =>
    clear hz
    obtain ⟨pos, p, sp, HK, HP, HL, HQ, HI, HO⟩ := hrel
    have hb0 := cell_of_one HI.out.1
    have hb1 := cell_of_one HI.out.2.1
    by_cases hpf : pos < form.size
    · have hlen : pos < form.data.toList.length := by simpa using hpf
      have hdrop : form.data.toList.drop pos = form[pos] :: form.data.toList.drop (pos + 1) := by
        rw [List.drop_eq_getElem_cons hlen]
        rfl
      have hO := HO.out
      rw [hdrop, impl_parsed.go] at hO
      have hasc : (form[pos]'hpf).toNat < 128 := HA.out _ (by
        have : form[pos] ∈ form.data.toList.drop pos := by rw [hdrop]; simp
        exact List.mem_of_mem_drop this)
      obtain ⟨W, hnx, hI⟩ := PInv.next_ (P := Tryd.prog) HI.out hpf hasc
      have HO2 := Aside0.mk hO
      clear hO HO
      have HI2 := Aside0.mk hI
      clear hI
      generalize hcc : ((form[pos]'hpf).toNat : Int) = c at hnx HO2
      have hcn : (((form[pos]'hpf).toNat : Nat) : Int) = c := hcc
      have HCC := Aside0.mk hcc
      clear hdrop hlen hcc hcn hasc
      go_upto_block 2 with fail
      clear hb0 hb1 hnx
      go_cut [8, 13] (fun v8' v13 wc => ∃ (n : Int) (sp' : List S46), v13 = .int .i64 n ∧ Aside0 (0 ≤ n ∧ n ≤ 4611686018427387904) ∧ Aside0 (sp'.length ≤ pos + 1) ∧ Aside0 (PInv w form s wc (pos + 1) p v8' sp') ∧ Aside0 ((if (s.size : Int) < (p : Int) + n then some ([], false) else impl_parsed.go K s (form.data.toList.drop (pos + 1)) (p + n.toNat) sp') = some (r1, r2)))
      case first =>
        have hb0 := cell_of_one HI2.out.1
        have hb1 := cell_of_one HI2.out.2.1
        have hO := HO2.out
        clear HO2
        by_cases h49 : c = 49
        · subst h49
          have e1 : impl_parsed.n K 49 s p = some (some 1) := by unfold impl_parsed.n; simp
          rw [e1, Option.bind_some] at hO
          have HO3 := Aside0.mk hO
          clear hO
          go_wp2
          go_meet
          case rel => exact ⟨1, sp, by rfl, ⟨by omega⟩, ⟨by have := HL.out; omega⟩, HI2, ⟨by have := HO3.out; simpa using this⟩⟩
        by_cases h50 : c = 50
        · subst h50
          have e1 : impl_parsed.n K 50 s p = some (some 2) := by unfold impl_parsed.n; simp
          rw [e1, Option.bind_some] at hO
          have HO3 := Aside0.mk hO
          clear hO
          go_wp2
          go_meet
          case rel => exact ⟨2, sp, by rfl, ⟨by omega⟩, ⟨by have := HL.out; omega⟩, HI2, ⟨by have := HO3.out; simpa using this⟩⟩
        by_cases h52 : c = 52
        · subst h52
          have e1 : impl_parsed.n K 52 s p = some (some 4) := by unfold impl_parsed.n; simp
          rw [e1, Option.bind_some] at hO
          have HO3 := Aside0.mk hO
          clear hO
          go_wp2
          go_meet
          case rel => exact ⟨4, sp, by rfl, ⟨by omega⟩, ⟨by have := HL.out; omega⟩, HI2, ⟨by have := HO3.out; simpa using this⟩⟩
        by_cases h103 : c = 103
        · subst h103
          have e1 : impl_parsed.n K 103 s p = some (some 4) := by unfold impl_parsed.n; simp
          rw [e1, Option.bind_some] at hO
          have HO3 := Aside0.mk hO
          clear hO
          go_wp2
          go_meet
          case rel => exact ⟨4, sp, by rfl, ⟨by omega⟩, ⟨by have := HL.out; omega⟩, HI2, ⟨by have := HO3.out; simpa using this⟩⟩
        by_cases h113 : c = 113
        · subst h113
          have e1 : impl_parsed.n K 113 s p = some (some 4) := by unfold impl_parsed.n; simp
          rw [e1, Option.bind_some] at hO
          have HO3 := Aside0.mk hO
          clear hO
          go_wp2
          go_meet
          case rel => exact ⟨4, sp, by rfl, ⟨by omega⟩, ⟨by have := HL.out; omega⟩, HI2, ⟨by have := HO3.out; simpa using this⟩⟩
        by_cases h110 : c = 110
        · subst h110
          have e1 : impl_parsed.n K 110 s p = (impl_nameAt.f K (s.extract p s.size)).bind fun n => some (if n = 0 then none else some n) := by unfold impl_parsed.n; simp
          rw [e1, Option.bind_assoc] at hO
          obtain ⟨n, hn, hO⟩ := Option.bind_eq_some_iff.mp hO
          rw [Option.bind_some] at hO
          have HN := Aside0.mk hn
          clear hn e1
          by_cases hn0 : n = 0
          · rw [if_pos hn0] at hO
            simp only [Option.some.injEq, Prod.mk.injEq] at hO
            obtain ⟨rfl, rfl⟩ := hO
            subst hn0
            go_wp2_with (first | (go_at_call 40; refine (impl_parsed.rest _ _ _ s p HI2.out.1 HI2.out.2.1 HQ.out).mono ?_; rintro e w1 ⟨rfl, rfl⟩) | (go_at_call 41; refine (impl_nameAt.calls K _ 0 _ HN.out).mono ?_; rintro e w2 ⟨rfl, m, rfl⟩))
            go_ret2
            exact ⟨_, rfl, Kd.R_nil _ _ _ _ _, (HI2.out.drewN m).2.2.2.2⟩
          · rw [if_neg hn0] at hO
            simp only at hO
            by_cases hnb : n < 0 ∨ 4611686018427387904 < n
            · rw [if_pos hnb] at hO
              cases hO
            · rw [if_neg hnb] at hO
              have hov : wrap64 ((p : Int) + n) = (p : Int) + n := by
                have := HQ.out
                have := HS.out
                unfold wrap64
                omega
              have hn1 : (n == 0) = false := beq_eq_false_iff_ne.mpr hn0
              have HNB : Aside0 (0 ≤ n ∧ n ≤ 4611686018427387904) := ⟨by omega⟩
              have HO3 := Aside0.mk hO
              clear hO hnb hn0
              go_wp2_with (first | (go_at_call 40; refine (impl_parsed.rest _ _ _ s p HI2.out.1 HI2.out.2.1 HQ.out).mono ?_; rintro e w1 ⟨rfl, rfl⟩) | (go_at_call 41; refine (impl_nameAt.calls K _ n _ HN.out).mono ?_; rintro e w2 ⟨rfl, m, rfl⟩; have hd0 := cell_of_one (HI2.out.drewN m).1; have hd1 := cell_of_one (HI2.out.drewN m).2.1) | ((with_reducible refine gate_builtin (b := .append) (xs := #[.tmp 49, .tmp 55]) rfl ?_); at_builtin; refine Kd.R_append k46 (w0 := w) w.heap.size rfl (.tmp 49) (.tmp 55) 30 46 (.agg #[(.int .i64 0), (.int .i64 0)]) 16 rfl Tryd.underlying30 info46 rfl (by decide) (by omega) u8 sp (⟨(p : Int), (p : Int) + n⟩ : S46) [.int .i64 (p : Int), .int .i64 ((p : Int) + n)] (fun k => k ≠ w.heap.size ∧ k ≠ w.heap.size + 1 ∧ k ≠ w.heap.size + 1 + 1) (fun _ => False) rfl rfl ?aP (fun _ hk => hk.elim) ?aF ?aO ?aB ?aS ?aL ?_; (case aP => exact k46_mkM _ _ _ (⟨(p : Int), (p : Int) + n⟩ : S46)); (case aB => exact (HI2.out.drewN m).2.2.2.2); (case aF => exact (fun k hk => by have := lt_of_block (HI2.out.drewN m).2.2.1; omega)); (case aO => exact (HI2.out.drewN m).2.2.2.1); (case aS => exact (HI2.out.drewN m).2.2.2.2.size); (case aL => have := HL.out; have := HF.out; have := HP.out; omega); intro v1 w3 ho hb hg hat; have HI3 := Aside0.mk ((HI2.out.drewN m).spans ho hb hg); clear ho hb hg hat))
              go_meet
              case rel => exact ⟨n, sp ++ [⟨(p : Int), (p : Int) + n⟩], by rfl, HNB, ⟨by have := HL.out; simp; omega⟩, HI3, ⟨by have := HO3.out; simp only [if_true] at this; exact this⟩⟩
        by_cases h116 : c = 116
        · subst h116
          have e1 : impl_parsed.n K 116 s p = some (if s.size ≤ p then none else some (1 + bt s (p : Int))) := by unfold impl_parsed.n; simp
          rw [e1, Option.bind_some] at hO
          clear e1
          by_cases hsp : s.size ≤ p
          · rw [if_pos hsp] at hO
            simp only [Option.some.injEq, Prod.mk.injEq] at hO
            obtain ⟨rfl, rfl⟩ := hO
            have hd : decide ((s.size : Int) ≤ (p : Int)) = true := decide_eq_true (by omega)
            go_wp2
            go_ret2
            exact ⟨_, rfl, Kd.R_nil _ _ _ _ _, HI2.out.2.2.2.2⟩
          · rw [if_neg hsp] at hO
            have hbr := bt_range s (p : Int)
            have hd : decide ((s.size : Int) ≤ (p : Int)) = false := decide_eq_false (by omega)
            have q3 : ((p : Int) < (s.size : Int)) = True := eq_true (by omega)
            have q4 : (p < s.size) = True := eq_true (by omega)
            have hx4 : ∀ h : p < s.size, ((s[p]'h).toNat : Int) = bt s (p : Int) := fun h => bt_at s (p : Int) h
            have hov0 : wrap64 (bt s (p : Int)) = bt s (p : Int) := by unfold wrap64; omega
            have hov : wrap64 (1 + bt s (p : Int)) = 1 + bt s (p : Int) := by unfold wrap64; omega
            simp only at hO
            rw [if_neg (by omega)] at hO
            have HO3 := Aside0.mk hO
            have HBR := Aside0.mk hbr
            have hsp2 : ¬ ((s.size : Int) ≤ (p : Int)) := by omega
            clear hO hsp
            go_wp2
            go_meet
            case rel => exact ⟨1 + bt s (p : Int), sp, by rfl, ⟨by have := HBR.out; omega⟩, ⟨by have := HL.out; omega⟩, HI2, ⟨by have := HO3.out; rw [if_neg (show ¬ ((116 : Int) = 110) by decide)] at this; exact this⟩⟩
        by_cases h42 : c = 42
        · subst h42
          have e1 : impl_parsed.n K 42 s p = some (some ((s.size : Int) - p)) := by unfold impl_parsed.n; simp
          rw [e1, Option.bind_some] at hO
          simp only at hO
          have hsz : ((s.extract p s.size).size : Int) = (s.size : Int) - (p : Int) := by
            have := HQ.out
            rw [ByteArray.size_extract]
            omega
          rw [if_neg (by have := HQ.out; have := HS.out; omega)] at hO
          have HO3 := Aside0.mk hO
          clear hO e1
          go_wp2_with (first | (go_at_call 40; refine (impl_parsed.rest _ _ _ s p HI2.out.1 HI2.out.2.1 HQ.out).mono ?_; rintro e w1 ⟨rfl, rfl⟩))
          go_meet
          case rel => exact ⟨((s.size - p : Nat) : Int), sp, by rfl, ⟨by have := HQ.out; have := HS.out; omega⟩, ⟨by have := HL.out; omega⟩, HI2, ⟨by rw [show ((s.size - p : Nat) : Int) = (s.size : Int) - (p : Int) from by have := HQ.out; omega]; have := HO3.out; rw [if_neg (show ¬ ((42 : Int) = 110) by decide)] at this; exact this⟩⟩
        by_cases h109 : c = 109
        · subst h109
          have e1 : impl_parsed.n K 109 s p = (impl_MapTypes.f K (s.extract p s.size)).bind fun r => some (if r.2 = 0 then some ((s.size : Int) - p) else none) := by unfold impl_parsed.n; simp
          rw [e1, Option.bind_assoc] at hO
          obtain ⟨⟨ml, mc⟩, hm, hO⟩ := Option.bind_eq_some_iff.mp hO
          rw [Option.bind_some] at hO
          have HM := Aside0.mk hm
          clear hm e1
          by_cases hm0 : mc = 0
          · subst hm0
            rw [if_pos (by rfl)] at hO
            simp only at hO
            have hsz : ((s.extract p s.size).size : Int) = (s.size : Int) - (p : Int) := by
              have := HQ.out
              rw [ByteArray.size_extract]
              omega
            rw [if_neg (by have := HQ.out; have := HS.out; omega)] at hO
            have HO3 := Aside0.mk hO
            clear hO
            go_wp2_with (first | (go_at_call 40; refine (impl_parsed.rest _ _ _ s p HI2.out.1 HI2.out.2.1 HQ.out).mono ?_; rintro e w1 ⟨rfl, rfl⟩) | (go_at_call 40; refine (impl_parsed.rest _ _ _ s p HI3.out.1 HI3.out.2.1 HQ.out).mono ?_; rintro e w1 ⟨rfl, rfl⟩) | (go_at_call 42; refine (impl_MapTypes.calls K _ ml 0 _ HM.out).mono ?_; rintro e w2 ⟨vm, rfl, hR, hb⟩; have HI3 := Aside0.mk (HI2.out.below hb); clear hR hb))
            go_meet
            case rel => exact ⟨((s.size - p : Nat) : Int), sp, by rfl, ⟨by have := HQ.out; have := HS.out; omega⟩, ⟨by have := HL.out; omega⟩, HI3, ⟨by rw [show ((s.size - p : Nat) : Int) = (s.size : Int) - (p : Int) from by have := HQ.out; omega]; have := HO3.out; rw [if_neg (show ¬ ((109 : Int) = 110) by decide)] at this; exact this⟩⟩
          · rw [if_neg hm0] at hO
            simp only [Option.some.injEq, Prod.mk.injEq] at hO
            obtain ⟨rfl, rfl⟩ := hO
            have hmb : (mc != 0) = true := bne_iff_ne.mpr hm0
            clear hm0
            go_wp2_with (first | (go_at_call 40; refine (impl_parsed.rest _ _ _ s p HI2.out.1 HI2.out.2.1 HQ.out).mono ?_; rintro e w1 ⟨rfl, rfl⟩) | (go_at_call 42; refine (impl_MapTypes.calls K _ ml mc _ HM.out).mono ?_; rintro e w2 ⟨vm, rfl, hR, hb⟩; have HI3 := Aside0.mk (HI2.out.below hb); clear hR hb))
            go_ret2
            exact ⟨_, rfl, Kd.R_nil _ _ _ _ _, HI3.out.2.2.2.2⟩
        by_cases h84 : c = 84
        · subst h84
          have e1 : impl_parsed.n K 84 s p = some (if impl_parsed.tEnd s (s.size - p) p = p then none else some ((impl_parsed.tEnd s (s.size - p) p : Int) - p)) := by unfold impl_parsed.n; simp
          rw [e1, Option.bind_some] at hO
          clear e1
          have HO3 := Aside0.mk hO
          clear hO
          go_wp2
          go_loopg [16] (s.size - p) (fun kq v16 w' => ∃ k : Nat, v16 = .int .i64 (k : Int) ∧ Aside0 (impl_parsed.tEnd s kq k = impl_parsed.tEnd s (s.size - p) p) ∧ Aside0 (p ≤ k) ∧ Aside0 (k ≤ s.size + 256) ∧ Aside0 (s.size - k ≤ kq) ∧ Aside0 (PInv w form s w' (pos + 1) p u8 sp))
          case atStart => exact ⟨p, rfl, ⟨rfl⟩, ⟨Nat.le_refl _⟩, ⟨by have := HQ.out; omega⟩, ⟨Nat.le_refl _⟩, HI2⟩
          case round =>
            clear hb0 hb1
            obtain ⟨k, rfl, HT, HPK, HKS, HKQ, HI3⟩ := hrel
            have hb0 := cell_of_one HI3.out.1
            have hb1 := cell_of_one HI3.out.2.1
            by_cases hks : k < s.size
            · cases gk with
              | zero => exact absurd HKQ.out (by omega)
              | succ k1 =>
                have hbr := bt_range s (k : Int)
                have hd : decide ((k : Int) < (s.size : Int)) = true := decide_eq_true (by omega)
                have q3 : ((k : Int) < (s.size : Int)) = True := eq_true (by omega)
                have q4 : (k < s.size) = True := eq_true (by omega)
                have hx4 : ∀ h : k < s.size, ((s[k]'h).toNat : Int) = bt s (k : Int) := fun h => bt_at s (k : Int) h
                have hov0 : wrap64 (bt s (k : Int)) = bt s (k : Int) := by unfold wrap64; omega
                have hS := HS.out
                have hov : wrap64 ((k : Int) + (1 + bt s (k : Int))) = (k : Int) + (1 + bt s (k : Int)) := by unfold wrap64; omega
                have hov1 : wrap64 (1 + bt s (k : Int)) = 1 + bt s (k : Int) := by unfold wrap64; omega
                have HBR := Aside0.mk hbr
                have HT2 : Aside0 (impl_parsed.tEnd s k1 (k + 1 + (bt s (k : Int)).toNat) = impl_parsed.tEnd s (s.size - p) p) := ⟨by have := HT.out; rw [impl_parsed.tEnd, if_pos hks] at this; exact this⟩
                have HLT := Aside0.mk hks
                clear hks hS HT
                go_wp2
                go_roundg k1
                case measure => omega
                case rel =>
                  have := HBR.out
                  have := HLT.out
                  exact ⟨k + 1 + (bt s (k : Int)).toNat, by rw [show ((k + 1 + (bt s (k : Int)).toNat : Nat) : Int) = (k : Int) + (1 + bt s (k : Int)) from by omega, hov], HT2, ⟨by have := HPK.out; omega⟩, ⟨by omega⟩, ⟨by have := HKQ.out; omega⟩, HI3⟩
            · have hte : impl_parsed.tEnd s gk k = k := by
                cases gk with
                | zero => rfl
                | succ k1 => rw [impl_parsed.tEnd, if_neg hks]
              have hd : decide ((k : Int) < (s.size : Int)) = false := decide_eq_false (by omega)
              have hO := HO3.out
              rw [← HT.out, hte] at hO
              clear HO3
              by_cases hkp : k = p
              · subst hkp
                rw [if_pos rfl] at hO
                simp only [Option.some.injEq, Prod.mk.injEq] at hO
                obtain ⟨rfl, rfl⟩ := hO
                have hov : wrap64 ((k : Int) - (k : Int)) = 0 := by unfold wrap64; omega
                go_wp2
                go_ret2
                exact ⟨_, rfl, Kd.R_nil _ _ _ _ _, HI3.out.2.2.2.2⟩
              · have hpk := HPK.out
                have hkS := HKS.out
                have hS := HS.out
                rw [if_neg hkp] at hO
                simp only at hO
                rw [if_neg (by omega)] at hO
                have hov : wrap64 ((k : Int) - (p : Int)) = (k : Int) - (p : Int) := by unfold wrap64; omega
                have hne : ((k : Int) - (p : Int) == 0) = false := beq_eq_false_iff_ne.mpr (by omega)
                have HB3 : Aside0 (0 ≤ (k : Int) - (p : Int) ∧ (k : Int) - (p : Int) ≤ 4611686018427387904) := ⟨by omega⟩
                have HO4 := Aside0.mk hO
                have hks2 : ¬ ((k : Int) < (s.size : Int)) := by omega
                clear hO hkp hpk hkS hS hks
                go_wp2
                go_meet
                case rel => exact ⟨(k : Int) - p, sp, by rfl, HB3, ⟨by have := HL.out; omega⟩, HI3, ⟨by have := HO4.out; rw [if_neg (show ¬ ((84 : Int) = 110) by decide)] at this; exact this⟩⟩
        by_cases h99 : c = 99
        · subst h99
          have e1 : impl_parsed.n K 99 s p = some (if s.size ≤ p then none else if 1 + bt s (p : Int) < 2 then none else if 16 < 1 + bt s (p : Int) then none else if (s.size : Int) < (p : Int) + (1 + bt s (p : Int)) then none else if (bytesOf (s.extract (p + 1) (p + (1 + bt s (p : Int)).toNat))).all impl_parsed.alnum then some (1 + bt s (p : Int)) else none) := by unfold impl_parsed.n; simp
          rw [e1, Option.bind_some] at hO
          clear e1
          by_cases hsp : s.size ≤ p
          · rw [if_pos hsp] at hO
            simp only [Option.some.injEq, Prod.mk.injEq] at hO
            obtain ⟨rfl, rfl⟩ := hO
            have hd : decide ((s.size : Int) ≤ (p : Int)) = true := decide_eq_true (by omega)
            go_wp2
            go_ret2
            exact ⟨_, rfl, Kd.R_nil _ _ _ _ _, HI2.out.2.2.2.2⟩
          · rw [if_neg hsp] at hO
            have hbr := bt_range s (p : Int)
            have hsp2 : ¬ ((s.size : Int) ≤ (p : Int)) := by omega
            have q3 : ((p : Int) < (s.size : Int)) = True := eq_true (by omega)
            have q4 : (p < s.size) = True := eq_true (by omega)
            have hx4 : ∀ h : p < s.size, ((s[p]'h).toNat : Int) = bt s (p : Int) := fun h => bt_at s (p : Int) h
            generalize hbb : bt s (p : Int) = b at *
            have HBB := Aside0.mk hbb
            clear hbb
            have hov0 : wrap64 b = b := by unfold wrap64; omega
            have hov : wrap64 (1 + b) = 1 + b := by unfold wrap64; omega
            have hov2 : wrap64 ((p : Int) + (1 + b)) = (p : Int) + (1 + b) := by have := HQ.out; have := HS.out; unfold wrap64; omega
            have hov3 : wrap64 ((p : Int) + 1) = (p : Int) + 1 := by have := HQ.out; have := HS.out; unfold wrap64; omega
            by_cases hn2 : 1 + b < 2
            · rw [if_pos hn2] at hO
              simp only [Option.some.injEq, Prod.mk.injEq] at hO
              obtain ⟨rfl, rfl⟩ := hO
              clear hsp
              go_wp2
              go_ret2
              exact ⟨_, rfl, Kd.R_nil _ _ _ _ _, HI2.out.2.2.2.2⟩
            · rw [if_neg hn2] at hO
              by_cases hn16 : 16 < 1 + b
              · rw [if_pos hn16] at hO
                simp only [Option.some.injEq, Prod.mk.injEq] at hO
                obtain ⟨rfl, rfl⟩ := hO
                clear hsp
                go_wp2
                go_ret2
                exact ⟨_, rfl, Kd.R_nil _ _ _ _ _, HI2.out.2.2.2.2⟩
              · rw [if_neg hn16] at hO
                by_cases hlen : (s.size : Int) < (p : Int) + (1 + b)
                · rw [if_pos hlen] at hO
                  simp only [Option.some.injEq, Prod.mk.injEq] at hO
                  obtain ⟨rfl, rfl⟩ := hO
                  clear hsp
                  go_wp2
                  go_ret2
                  exact ⟨_, rfl, Kd.R_nil _ _ _ _ _, HI2.out.2.2.2.2⟩
                · rw [if_neg hlen] at hO
                  have HX := Aside0.mk hO
                  clear hO
                  have hcv := fun W x => Lib.run_convert_string_bytes (P := Tryd.prog) W 9 49 5 x Tryd.underlying9 Tryd.underlying49 Tryd.underlying5
                  have hsl1 : ((p : Int) + 1 ≤ (p : Int) + (1 + b)) = True := eq_true (by omega)
                  have hsl2 : ((p : Int) + (1 + b) ≤ (s.size : Int)) = True := eq_true (by omega)
                  have hsl3 : (0 ≤ (p : Int) + 1) = True := eq_true (by omega)
                  have hE : ((p : Int) + (1 + b)).toNat = p + (1 + b).toNat := by omega
                  have HIP := HI2.out.below (bytes_below (Below.refl W.heap.size W) (Nat.le_refl _) 5 (s.extract (p + 1) (p + (1 + b).toNat)))
                  have HRW := Go.Proofs.YtbaajohjglhpfaaDoorW.XConv.Row8.conv W 5 (s.extract (p + 1) (p + (1 + b).toNat))
                  have HXS : Aside0 ((s.extract (p + 1) (p + (1 + b).toNat)).size ≤ 16) := ⟨by rw [ByteArray.size_extract]; omega⟩
                  have HIP2 := Aside0.mk HIP
                  have HRW2 := Aside0.mk HRW
                  clear hsp HIP HRW
                  generalize hxx : s.extract (p + 1) (p + (1 + b).toNat) = x at *
                  go_wp2
                  clear hcv hsl1 hsl2 hsl3 hE hb0 hb1 hov0 hov hov2 hov3 hx4 hxx
                  go_loopg [94] x.size (fun kq v94 w' => ∃ j : Nat, v94 = .int .i64 (j : Int) ∧ Aside0 (kq + j = x.size) ∧ Aside0 (j ≤ x.size) ∧ Aside0 (((bytesOf x).take j).all impl_parsed.alnum = true) ∧ Aside0 (Go.Proofs.YtbaajohjglhpfaaDoorW.XConv.Row8 w' W.heap.size 5 (bytesOf x)) ∧ Aside0 (PInv w form s w' (pos + 1) p u8 sp))
                  case atStart => exact ⟨0, rfl, ⟨by omega⟩, ⟨by omega⟩, ⟨by simp⟩, HRW2, HIP2⟩
                  case round =>
                    clear HIP2 HRW2
                    obtain ⟨j, rfl, HKJ, HJX, HAL, HR, HI3⟩ := hrel
                    have hlb := bytesOf_length x
                    by_cases hjx : j < x.size
                    · cases gk with
                      | zero => exact absurd HKJ.out (by omega)
                      | succ k1 =>
                      have hcell := HR.out.cell j (by omega)
                      have hg : (bytesOf x).getD j 0 = bt x (j : Int) := by rw [← rd_bytesOf]; simp [rd]
                      rw [hg] at hcell
                      have hmem : bt x (j : Int) ∈ bytesOf x := by
                        rw [← hg, List.getD_eq_getElem?_getD, List.getElem?_eq_getElem (by omega)]
                        exact List.getElem_mem _
                      have HBAD : impl_parsed.alnum (bt x (j : Int)) = false → (bytesOf x).all impl_parsed.alnum = false := fun e => List.all_eq_false.2 ⟨_, hmem, by rw [e]; decide⟩
                      have HAL2 : impl_parsed.alnum (bt x (j : Int)) = true → ((bytesOf x).take (j + 1)).all impl_parsed.alnum = true := fun e => by
                        rw [List.take_succ_eq_append_getElem (by omega), List.all_append, HAL.out]
                        have : (bytesOf x)[j]'(by omega) = bt x (j : Int) := by rw [← hg, List.getD_eq_getElem?_getD, List.getElem?_eq_getElem (by omega)]; rfl
                        simp [this, e]
                      have hbr8 := bt_range x (j : Int)
                      have hd : decide ((j : Int) < (x.size : Int)) = true := decide_eq_true (by omega)
                      have hov : wrap64 ((j : Int) + 1) = (j : Int) + 1 := by have := HJX.out; have := HXS.out; unfold wrap64; omega
                      clear hg hmem hlb
                      generalize bt x (j : Int) = c8 at *
                      rcases (by omega : (c8 < 48) ∨ (48 ≤ c8 ∧ c8 ≤ 57) ∨ (57 < c8 ∧ c8 < 65) ∨ (65 ≤ c8 ∧ c8 ≤ 90) ∨ (90 < c8 ∧ c8 < 97) ∨ (97 ≤ c8 ∧ c8 ≤ 122) ∨ (122 < c8)) with hr | ⟨hr, hr2⟩ | ⟨hr, hr2⟩ | ⟨hr, hr2⟩ | ⟨hr, hr2⟩ | ⟨hr, hr2⟩ | hr
                      · have hbad := HBAD (by unfold impl_parsed.alnum; simp; omega)
                        have hO := HX.out
                        rw [hbad] at hO
                        simp only [Bool.false_eq_true, if_false, Option.some.injEq, Prod.mk.injEq] at hO
                        obtain ⟨rfl, rfl⟩ := hO
                        have t0 : (48 ≤ c8) = False := eq_false (by omega)
                        have t1 : (c8 ≤ 57) = True := eq_true (by omega)
                        have t2 : (97 ≤ c8) = False := eq_false (by omega)
                        have t3 : (c8 ≤ 122) = True := eq_true (by omega)
                        have t4 : (65 ≤ c8) = False := eq_false (by omega)
                        have t5 : (c8 ≤ 90) = True := eq_true (by omega)
                        have q3 : ((j : Int) < (x.size : Int)) = True := eq_true (by omega)
                        have q4 : (j < x.size) = True := eq_true (by omega)
                        have HJ1 := Aside0.mk hjx
                        clear hr hbr8 HBAD HAL2 hd hjx hbad
                        go_wp2
                        go_ret2
                        exact ⟨_, rfl, Kd.R_nil _ _ _ _ _, HI3.out.2.2.2.2⟩
                      · have hok := HAL2 (by unfold impl_parsed.alnum; simp; omega)
                        have HOK := Aside0.mk hok
                        have t0 : (48 ≤ c8) = True := eq_true (by omega)
                        have t1 : (c8 ≤ 57) = True := eq_true (by omega)
                        have t2 : (97 ≤ c8) = False := eq_false (by omega)
                        have t3 : (c8 ≤ 122) = True := eq_true (by omega)
                        have t4 : (65 ≤ c8) = False := eq_false (by omega)
                        have t5 : (c8 ≤ 90) = True := eq_true (by omega)
                        have q3 : ((j : Int) < (x.size : Int)) = True := eq_true (by omega)
                        have q4 : (j < x.size) = True := eq_true (by omega)
                        have HJ1 := Aside0.mk hjx
                        clear hr hr2 hbr8 HBAD HAL2 hd hjx hok
                        go_wp2
                        go_roundg k1
                        case measure => omega
                        case rel => exact ⟨j + 1, by go_num, ⟨by have := HKJ.out; omega⟩, ⟨by have := HJ1.out; omega⟩, HOK, HR, HI3⟩
                      · have hbad := HBAD (by unfold impl_parsed.alnum; simp; omega)
                        have hO := HX.out
                        rw [hbad] at hO
                        simp only [Bool.false_eq_true, if_false, Option.some.injEq, Prod.mk.injEq] at hO
                        obtain ⟨rfl, rfl⟩ := hO
                        have t0 : (48 ≤ c8) = True := eq_true (by omega)
                        have t1 : (c8 ≤ 57) = False := eq_false (by omega)
                        have t2 : (97 ≤ c8) = False := eq_false (by omega)
                        have t3 : (c8 ≤ 122) = True := eq_true (by omega)
                        have t4 : (65 ≤ c8) = False := eq_false (by omega)
                        have t5 : (c8 ≤ 90) = True := eq_true (by omega)
                        have q3 : ((j : Int) < (x.size : Int)) = True := eq_true (by omega)
                        have q4 : (j < x.size) = True := eq_true (by omega)
                        have HJ1 := Aside0.mk hjx
                        clear hr hr2 hbr8 HBAD HAL2 hd hjx hbad
                        go_wp2
                        go_ret2
                        exact ⟨_, rfl, Kd.R_nil _ _ _ _ _, HI3.out.2.2.2.2⟩
                      · have hok := HAL2 (by unfold impl_parsed.alnum; simp; omega)
                        have HOK := Aside0.mk hok
                        have t0 : (48 ≤ c8) = True := eq_true (by omega)
                        have t1 : (c8 ≤ 57) = False := eq_false (by omega)
                        have t2 : (97 ≤ c8) = False := eq_false (by omega)
                        have t3 : (c8 ≤ 122) = True := eq_true (by omega)
                        have t4 : (65 ≤ c8) = True := eq_true (by omega)
                        have t5 : (c8 ≤ 90) = True := eq_true (by omega)
                        have q3 : ((j : Int) < (x.size : Int)) = True := eq_true (by omega)
                        have q4 : (j < x.size) = True := eq_true (by omega)
                        have HJ1 := Aside0.mk hjx
                        clear hr hr2 hbr8 HBAD HAL2 hd hjx hok
                        go_wp2
                        go_roundg k1
                        case measure => omega
                        case rel => exact ⟨j + 1, by go_num, ⟨by have := HKJ.out; omega⟩, ⟨by have := HJ1.out; omega⟩, HOK, HR, HI3⟩
                      · have hbad := HBAD (by unfold impl_parsed.alnum; simp; omega)
                        have hO := HX.out
                        rw [hbad] at hO
                        simp only [Bool.false_eq_true, if_false, Option.some.injEq, Prod.mk.injEq] at hO
                        obtain ⟨rfl, rfl⟩ := hO
                        have t0 : (48 ≤ c8) = True := eq_true (by omega)
                        have t1 : (c8 ≤ 57) = False := eq_false (by omega)
                        have t2 : (97 ≤ c8) = False := eq_false (by omega)
                        have t3 : (c8 ≤ 122) = True := eq_true (by omega)
                        have t4 : (65 ≤ c8) = True := eq_true (by omega)
                        have t5 : (c8 ≤ 90) = False := eq_false (by omega)
                        have q3 : ((j : Int) < (x.size : Int)) = True := eq_true (by omega)
                        have q4 : (j < x.size) = True := eq_true (by omega)
                        have HJ1 := Aside0.mk hjx
                        clear hr hr2 hbr8 HBAD HAL2 hd hjx hbad
                        go_wp2
                        go_ret2
                        exact ⟨_, rfl, Kd.R_nil _ _ _ _ _, HI3.out.2.2.2.2⟩
                      · have hok := HAL2 (by unfold impl_parsed.alnum; simp; omega)
                        have HOK := Aside0.mk hok
                        have t0 : (48 ≤ c8) = True := eq_true (by omega)
                        have t1 : (c8 ≤ 57) = False := eq_false (by omega)
                        have t2 : (97 ≤ c8) = True := eq_true (by omega)
                        have t3 : (c8 ≤ 122) = True := eq_true (by omega)
                        have t4 : (65 ≤ c8) = True := eq_true (by omega)
                        have t5 : (c8 ≤ 90) = False := eq_false (by omega)
                        have q3 : ((j : Int) < (x.size : Int)) = True := eq_true (by omega)
                        have q4 : (j < x.size) = True := eq_true (by omega)
                        have HJ1 := Aside0.mk hjx
                        clear hr hr2 hbr8 HBAD HAL2 hd hjx hok
                        go_wp2
                        go_roundg k1
                        case measure => omega
                        case rel => exact ⟨j + 1, by go_num, ⟨by have := HKJ.out; omega⟩, ⟨by have := HJ1.out; omega⟩, HOK, HR, HI3⟩
                      · have hbad := HBAD (by unfold impl_parsed.alnum; simp; omega)
                        have hO := HX.out
                        rw [hbad] at hO
                        simp only [Bool.false_eq_true, if_false, Option.some.injEq, Prod.mk.injEq] at hO
                        obtain ⟨rfl, rfl⟩ := hO
                        have t0 : (48 ≤ c8) = True := eq_true (by omega)
                        have t1 : (c8 ≤ 57) = False := eq_false (by omega)
                        have t2 : (97 ≤ c8) = True := eq_true (by omega)
                        have t3 : (c8 ≤ 122) = False := eq_false (by omega)
                        have t4 : (65 ≤ c8) = True := eq_true (by omega)
                        have t5 : (c8 ≤ 90) = False := eq_false (by omega)
                        have q3 : ((j : Int) < (x.size : Int)) = True := eq_true (by omega)
                        have q4 : (j < x.size) = True := eq_true (by omega)
                        have HJ1 := Aside0.mk hjx
                        clear hr hbr8 HBAD HAL2 hd hjx hbad
                        go_wp2
                        go_ret2
                        exact ⟨_, rfl, Kd.R_nil _ _ _ _ _, HI3.out.2.2.2.2⟩
                    · obtain rfl : j = x.size := by have := HJX.out; omega
                      have hO := HX.out
                      have hal := HAL.out
                      rw [List.take_of_length_le (by omega)] at hal
                      rw [hal] at hO
                      simp only [if_true] at hO
                      rw [if_neg (by omega)] at hO
                      have HO3 := Aside0.mk hO
                      have HNB : Aside0 (0 ≤ 1 + b ∧ 1 + b ≤ 4611686018427387904) := ⟨by omega⟩
                      clear hO hal hlb hn2 hn16 hlen
                      go_wp2
                      go_meet
                      case rel => exact ⟨1 + b, sp, by rfl, HNB, ⟨by have := HL.out; omega⟩, HI3, ⟨by have := HO3.out; rw [if_neg (show ¬ ((99 : Int) = 110) by decide)] at this; exact this⟩⟩
        exfalso
        have e1 : impl_parsed.n K c s p = none := by unfold impl_parsed.n; simp [h49, h50, h52, h103, h113, h110, h116, h42, h109, h84, h99]
        rw [e1] at hO
        cases hO
      case rest =>
        obtain ⟨n, sp', rfl, HN, HL', HIc, HOc⟩ := hcut
        have hb0 := cell_of_one HIc.out.1
        have hb1 := cell_of_one HIc.out.2.1
        have hfr := free_of_one HIc.out.2.1
        have hov : wrap64 ((p : Int) + n) = (p : Int) + n := by
          have := HN.out
          have := HQ.out
          have := HS.out
          unfold wrap64
          omega
        have hO := HOc.out
        by_cases hbig : (s.size : Int) < (p : Int) + n
        · rw [if_pos hbig] at hO
          simp only [Option.some.injEq, Prod.mk.injEq] at hO
          obtain ⟨rfl, rfl⟩ := hO
          have hd : decide ((s.size : Int) < (p : Int) + n) = true := decide_eq_true hbig
          go_wp2
          go_ret2
          exact ⟨_, rfl, Kd.R_nil _ _ _ _ _, HIc.out.2.2.2.2⟩
        · rw [if_neg hbig] at hO
          have hd : decide ((s.size : Int) < (p : Int) + n) = false := decide_eq_false hbig
          have HO3 := Aside0.mk hO
          clear hO HOc
          go_wp2
          go_roundg (form.size - pos)
          case measure => have := HK.out; omega
          case rel =>
            have hpn : ((p + n.toNat : Nat) : Int) = (p : Int) + n := by have := HN.out; omega
            refine ⟨pos + 1, p + n.toNat, sp', ⟨by omega⟩, ⟨by omega⟩, HL', ⟨by omega⟩, ⟨?_⟩, HO3⟩
            have := HIc.out.put (p + n.toNat)
            rw [hpn] at this
            exact this
    · have hend := PInv.end_ (P := Tryd.prog) HI.out hpf
      obtain rfl : pos = form.size := by have := HP.out; omega
      have hO := HO.out
      rw [List.drop_of_length_le (by simp), impl_parsed.go] at hO
      simp only [Option.some.injEq, Prod.mk.injEq] at hO
      obtain ⟨rfl, rfl⟩ := hO
      clear HO
      go_wp2
      go_region
      go_wp2
      go_ret2
      have hI := HI.out.drew
      exact ⟨_, rfl, Kd.R_mono hI.2.2.2.1 (fun _ _ => trivial), hI.2.2.2.2⟩
set_option maxHeartbeats 8000000 in
set_option maxRecDepth 100000 in
theorem impl_parsed.none_ (rt : Int) (s : ByteArray) (hf : formOf rt = none) (hwf : (Lit.int .i64 rt).wf = true) (w : World) (hG : Glob w) :
    Calls Tryd.prog 26 #[.int .i64 rt, .string s] w fun e w' => e = .returned (.tuple #[.slice none 0 0, .bool true]) ∧ Below w.heap.size w w' := by
  have hG1 := hG.alloc (.cells #[.string s] 9)
  obtain ⟨bm, og, om, g1, g2, g3, g4⟩ := hG1
  have hc0 := g3 _ g1
  have hlk := g4 _ rt g2 hwf
  rw [hf] at hlk
  simp only [Option.getD_none, Option.isSome_none] at hlk
  clear g1 g2 g3 g4 hf hwf
  go_enter Tryd.func26, Tryd.ntmps26
  go_wp2
  go_ret2
  exact ⟨rfl, below_alloc (Below.refl _ _) _⟩
theorem formOf_small {t : Int} {form : ByteArray} (h : formOf t = some form) : (∀ c ∈ form.data.toList, c.toNat < 128) ∧ form.size ≤ 100 := by
  unfold formOf at h
  by_cases c1 : t = 1
  · rw [if_pos c1] at h
    obtain rfl := Option.some.inj h
    decide
  rw [if_neg c1] at h
  by_cases c2 : t = 2
  · rw [if_pos c2] at h
    obtain rfl := Option.some.inj h
    decide
  rw [if_neg c2] at h
  by_cases c5 : t = 5
  · rw [if_pos c5] at h
    obtain rfl := Option.some.inj h
    decide
  rw [if_neg c5] at h
  by_cases c6 : t = 6
  · rw [if_pos c6] at h
    obtain rfl := Option.some.inj h
    decide
  rw [if_neg c6] at h
  by_cases c12 : t = 12
  · rw [if_pos c12] at h
    obtain rfl := Option.some.inj h
    decide
  rw [if_neg c12] at h
  by_cases c13 : t = 13
  · rw [if_pos c13] at h
    obtain rfl := Option.some.inj h
    decide
  rw [if_neg c13] at h
  by_cases c15 : t = 15
  · rw [if_pos c15] at h
    obtain rfl := Option.some.inj h
    decide
  rw [if_neg c15] at h
  by_cases c16 : t = 16
  · rw [if_pos c16] at h
    obtain rfl := Option.some.inj h
    decide
  rw [if_neg c16] at h
  by_cases c28 : t = 28
  · rw [if_pos c28] at h
    obtain rfl := Option.some.inj h
    decide
  rw [if_neg c28] at h
  by_cases c33 : t = 33
  · rw [if_pos c33] at h
    obtain rfl := Option.some.inj h
    decide
  rw [if_neg c33] at h
  by_cases c35 : t = 35
  · rw [if_pos c35] at h
    obtain rfl := Option.some.inj h
    decide
  rw [if_neg c35] at h
  by_cases c39 : t = 39
  · rw [if_pos c39] at h
    obtain rfl := Option.some.inj h
    decide
  rw [if_neg c39] at h
  by_cases c47 : t = 47
  · rw [if_pos c47] at h
    obtain rfl := Option.some.inj h
    decide
  rw [if_neg c47] at h
  by_cases c257 : t = 257
  · rw [if_pos c257] at h
    obtain rfl := Option.some.inj h
    decide
  rw [if_neg c257] at h
  cases h
theorem impl_parsed.calls (k : Nat) (a0 : Int) (a1 : ByteArray) (r1 : List S46) (r2 : Bool) (w : World) (h : impl_parsed.f k a0 a1 = some (r1, r2)) (hG : Glob w) :
    Calls Tryd.prog 26 #[.int .i64 a0, .string a1] w fun e w' => ∃ v0_ : Value, e = .returned (.tuple #[v0_, .bool r2]) ∧ Kd.R k46 46 w' w.heap.size (fun _ => True) v0_ r1 ∧ Below w.heap.size w w' := by
  unfold impl_parsed.f at h
  split at h
  case isTrue => cases h
  case isFalse hs =>
  split at h
  case isFalse => cases h
  case isTrue hwf =>
  split at h
  case h_1 hf =>
    cases h
    refine (impl_parsed.none_ a0 a1 hf hwf w hG).mono ?_
    rintro e w' ⟨rfl, hb⟩
    exact ⟨_, rfl, Kd.R_nil _ _ _ _ _, hb⟩
  case h_2 form hf => exact impl_parsed.some_ k a0 a1 form hf hwf (formOf_small hf).1 (formOf_small hf).2 (by omega) r1 r2 w hG h
theorem impl_parsed.n_mono (K : Nat) (c : Int) (s : ByteArray) (p : Nat) : LeO (impl_parsed.n K c s p) (impl_parsed.n (K + 1) c s p) := by
  unfold impl_parsed.n
  repeat' first
      | (with_reducible exact impl_nameAt.mono _ _)
      | (with_reducible exact impl_MapTypes.mono _ _)
      | (with_reducible exact LeO.refl _)
      | (with_reducible refine LeO.ite ?_ ?_)
      | (with_reducible refine LeO.bind ?_ (fun _ => ?_))
theorem impl_parsed.go_mono (K : Nat) (s : ByteArray) : ∀ (l : List UInt8) (p : Nat) (sp : List S46), LeO (impl_parsed.go K s l p sp) (impl_parsed.go (K + 1) s l p sp) := by
  intro l
  induction l with
  | nil => intro p sp; exact LeO.refl _
  | cons c r ih =>
    intro p sp
    rw [impl_parsed.go, impl_parsed.go]
    refine LeO.bind (impl_parsed.n_mono _ _ _ _) (fun o => ?_)
    cases o with
    | none => exact LeO.refl _
    | some n =>
      refine LeO.ite (LeO.refl _) (LeO.ite (LeO.refl _) (ih _ _))
theorem impl_parsed.mono : ∀ a0 a1 k, LeO (impl_parsed.f k a0 a1) (impl_parsed.f (k + 1) a0 a1) := by
  intro a0 a1 k
  unfold impl_parsed.f
  refine LeO.ite (LeO.refl _) (LeO.ite ?_ (LeO.refl _))
  cases formOf a0 with
  | none => exact LeO.refl _
  | some form => exact impl_parsed.go_mono _ _ _ _ _

end Go.Proofs.YtbaajohjglhpfaaDoor.F
namespace Go.Proofs.YtbaajohjglhpfaaDoor.F
open Go Go.Shelf Go.RowKit Go.Proofs.YtbaajohjglhpfaaDoorW.PrintWords Go.Proofs.YtbaajohjglhpfaaDoorW.PrintLast Go.Proofs.YtbaajohjglhpfaaDoorW.PrintMore
attribute [local go_sem] max2_int min2_int max_two min_two max_three min_three max_four min_four   -- for this text's walks alone
set_option linter.unusedVariables false
set_option linter.unusedSimpArgs false

/-! ### impl_CheckData: function 10 -/
def impl_CheckData.j0 : Nat → Int → ByteArray → Bool → Option (Int)
  | 0, _, _, _ => none
  | k + 1, x0, x1, x12 => if x12 = true then (some 6) else (if (x1.size : Int) > 65535 then (some 7) else ((impl_parsed.f k x0 x1).bind fun bt101 => (if bt101.2 = true then (some 0) else (some 7))))
def impl_CheckData.f (k : Nat) (a0 : Int) (a1 : ByteArray) : Option (Int) := if a0 < 0 then (impl_CheckData.j0 k a0 a1 true) else (impl_CheckData.j0 k a0 a1 (decide (a0 > 65535)))
theorem impl_CheckData.mono_l : ∀ k, (∀ y0 y1 y2, LeO (impl_CheckData.j0 k y0 y1 y2) (impl_CheckData.j0 (k + 1) y0 y1 y2))
  | 0 => fun _ _ _ r h => by simp [impl_CheckData.j0] at h
  | k + 1 => by
    have ih0 := impl_CheckData.mono_l k
    · intro y0 y1 y2
      unfold impl_CheckData.j0
      repeat' first
      | (with_reducible exact ih0 _ _ _)
      | (with_reducible exact impl_parsed.mono _ _ _)
      | (with_reducible exact LeO.refl _)
      | (with_reducible exact LeO.none _)
      | (with_reducible refine LeO.ite ?_ ?_)
      | (with_reducible refine LeO.bind ?_ (fun _ => ?_))
      | exact ih0 _ _ _
      | exact impl_parsed.mono _ _ _
      | exact LeO.none _
      | refine LeO.ite ?_ ?_
      | refine LeO.bind ?_ (fun _ => ?_)
theorem impl_CheckData.mono : ∀ a0 a1 k, LeO (impl_CheckData.f k a0 a1) (impl_CheckData.f (k + 1) a0 a1) := by
  intro a0 a1 k
  have ih0 := impl_CheckData.mono_l k
  unfold impl_CheckData.f
  repeat' first
      | (with_reducible exact ih0 _ _ _)
      | (with_reducible exact impl_parsed.mono _ _ _)
      | (with_reducible exact LeO.refl _)
      | (with_reducible exact LeO.none _)
      | (with_reducible refine LeO.ite ?_ ?_)
      | (with_reducible refine LeO.bind ?_ (fun _ => ?_))
      | exact ih0 _ _ _
      | exact impl_parsed.mono _ _ _
      | exact LeO.none _
      | refine LeO.ite ?_ ?_
      | refine LeO.bind ?_ (fun _ => ?_)
set_option maxHeartbeats 8000000 in
set_option maxRecDepth 100000 in
theorem impl_CheckData.calls (k : Nat) (a0 : Int) (a1 : ByteArray) (r : Int) (w : World) (h : impl_CheckData.f k a0 a1 = some r) (hG : Glob w) :
    Calls Tryd.prog 10 #[.int .i64 a0, .string a1] w fun e w' => e = .returned (.int .i64 r) ∧ Below w.heap.size w w' := by
  have HG := Aside0.mk hG
  clear hG
  have HB := Aside0.mk (Below.refl w.heap.size w)
  have H : (if a0 < 0 then (impl_CheckData.j0 k a0 a1 true) else (impl_CheckData.j0 k a0 a1 (decide (a0 > 65535)))) = some r := h
  clear h
  have HC3 := Aside0.mk H
  clear H
  go_enter Tryd.func10, Tryd.ntmps10
  go_upto_region 1 with (fail)
  go_cut [12] (fun v12 wc => ∃ (kq : Nat) (x12_2 : Bool), v12 = .bool x12_2 ∧ Aside0 (impl_CheckData.j0 kq a0 a1 x12_2 = some r) ∧ Aside0 (kq ≤ k) ∧ Aside0 (Below w.heap.size w wc))
  case first =>
    have H := HC3.out
    clear HC3
    by_cases c4 : a0 < 0
    · rw [if_pos c4] at H
      have c4b0 : decide (a0 < 0) = true := decide_eq_true c4
      clear c4
      (first | rw [c4b0] | (simp only [i64_w, i32_w]; rw [c4b0]) | skip)
      have H' := Aside0.mk H
      clear H
      go_wp2
      go_meet
      case rel => exact ⟨_, (true), (by first | rfl | (simp; done) | (simp [*]; done)), H', ⟨by first | omega | exact Nat.le_refl _⟩, ⟨by repeat (first | (with_reducible first | exact HB.out | apply below_alloc | apply pw_below_drewN | apply below_drew1) | exact HB.out)⟩⟩
    · rw [if_neg c4] at H
      have c4b0 : decide (a0 < 0) = false := decide_eq_false c4
      clear c4
      (first | rw [c4b0] | (simp only [i64_w, i32_w]; rw [c4b0]) | skip)
      have H' := Aside0.mk H
      clear H
      go_wp2
      go_meet
      case rel => exact ⟨_, (decide (a0 > 65535)), (by first | rfl | (simp; done) | (simp [*]; done)), H', ⟨by first | omega | exact Nat.le_refl _⟩, ⟨by repeat (first | (with_reducible first | exact HB.out | apply below_alloc | apply pw_below_drewN | apply below_drew1) | exact HB.out)⟩⟩
  case rest =>
    clear HC3
    try clear c1
    try clear p2
    try clear c4
    try clear c4b0
    obtain ⟨kq, x12_2, rfl, HA, HJ2, HB⟩ := hcut
    cases kq with
    | zero => exact absurd HA.out (by simp [impl_CheckData.j0])
    | succ kj2 =>
      have H := HA.out
      clear HA
      simp only [impl_CheckData.j0] at H
      by_cases c5 : x12_2 = true
      · subst c5
        have H1 : (some 6) = some r := by rw [if_pos rfl] at H; exact H
        clear H
        have H := H1
        clear H1
        obtain rfl := Option.some.inj H
        go_wp2
        go_ret
        exact ⟨by first | rfl | (simp [errW_none, errW_some] <;> rfl) | (simp [*, errW_none, errW_some] <;> rfl), by repeat (first | (with_reducible first | exact HB.out | apply below_alloc | apply pw_below_drewN | apply below_drew1) | exact HB.out)⟩
      · replace c5 := Bool.eq_false_iff.mpr c5
        subst c5
        have H1 : (if (a1.size : Int) > 65535 then (some 7) else ((impl_parsed.f kj2 a0 a1).bind fun bt101 => (if bt101.2 = true then (some 0) else (some 7)))) = some r := by rw [if_neg (show ¬ (false = true) by decide)] at H; exact H
        clear H
        have H := H1
        clear H1
        by_cases c6 : (a1.size : Int) > 65535
        · rw [if_pos c6] at H
          have c6b0 : decide (65535 < (a1.size : Int)) = true := decide_eq_true c6
          have c6b1 : decide (65535 < a1.size) = true := decide_eq_true (by omega)
          clear c6
          obtain rfl := Option.some.inj H
          go_wp2
          go_ret
          exact ⟨by first | rfl | (simp [errW_none, errW_some] <;> rfl) | (simp [*, errW_none, errW_some] <;> rfl), by repeat (first | (with_reducible first | exact HB.out | apply below_alloc | apply pw_below_drewN | apply below_drew1) | exact HB.out)⟩
        · rw [if_neg c6] at H
          have c6b0 : decide (65535 < (a1.size : Int)) = false := decide_eq_false c6
          have c6b1 : decide (65535 < a1.size) = false := decide_eq_false (by omega)
          clear c6
          replace H := Option.bind_eq_some_iff.mp H
          obtain ⟨⟨t101, t102⟩, A70, H⟩ := H
          replace H : (if t102 = true then (some 0) else (some 7)) = some r := H
          have A7 := Aside0.mk A70
          clear A70
          by_cases c8 : t102 = true
          · subst c8
            have H1 : (some 0) = some r := by rw [if_pos rfl] at H; exact H
            clear H
            have H := H1
            clear H1
            obtain rfl := Option.some.inj H
            go_wp2_with (first | ((with_reducible refine gate_callee (f := 26) rfl ?_); refine goesL_ (some 19) rfl rfl Tryd.func26 (by kernel_rfl) rfl #[.int .i64 a0, .string a1] rfl (by (try simp only [List.map_toArray, List.map_cons, List.map_nil]); first | done | rfl | (simp only [List.length_drop, List.length_take]; rfl)) ?_; (with_reducible refine (impl_parsed.calls kj2 a0 a1 t101 true _ A7.out (HG.out.below (by repeat (first | (with_reducible first | exact HB.out | apply below_alloc | apply pw_below_drewN | apply below_drew1) | exact HB.out)))).mono ?_); rintro e w9 ⟨v103, rfl, ho0, hb⟩; refine ⟨_, rfl, ?_⟩; have n0_ := Aside0.mk (Kd.R_lower ho0 (below_size (by repeat (first | (with_reducible first | exact HB.out | apply below_alloc | apply pw_below_drewN | apply below_drew1) | exact HB.out)))); have n1_ := Aside0.mk (below_step (by repeat (first | (with_reducible first | exact HB.out | apply below_alloc | apply pw_below_drewN | apply below_drew1) | exact HB.out)) hb); clear HB; have HO104 := n0_; have HB := n1_; clear n0_ n1_; (try clear hb); (try clear hb2); (try clear hk); (try clear hi); (try clear ho0)))
            go_ret
            exact ⟨by first | rfl | (simp [errW_none, errW_some] <;> rfl) | (simp [*, errW_none, errW_some] <;> rfl), by repeat (first | (with_reducible first | exact HB.out | apply below_alloc | apply pw_below_drewN | apply below_drew1) | exact HB.out)⟩
          · replace c8 := Bool.eq_false_iff.mpr c8
            subst c8
            have H1 : (some 7) = some r := by rw [if_neg (show ¬ (false = true) by decide)] at H; exact H
            clear H
            have H := H1
            clear H1
            obtain rfl := Option.some.inj H
            go_wp2_with (first | ((with_reducible refine gate_callee (f := 26) rfl ?_); refine goesL_ (some 19) rfl rfl Tryd.func26 (by kernel_rfl) rfl #[.int .i64 a0, .string a1] rfl (by (try simp only [List.map_toArray, List.map_cons, List.map_nil]); first | done | rfl | (simp only [List.length_drop, List.length_take]; rfl)) ?_; (with_reducible refine (impl_parsed.calls kj2 a0 a1 t101 false _ A7.out (HG.out.below (by repeat (first | (with_reducible first | exact HB.out | apply below_alloc | apply pw_below_drewN | apply below_drew1) | exact HB.out)))).mono ?_); rintro e w10 ⟨v103, rfl, ho0, hb⟩; refine ⟨_, rfl, ?_⟩; have n0_ := Aside0.mk (Kd.R_lower ho0 (below_size (by repeat (first | (with_reducible first | exact HB.out | apply below_alloc | apply pw_below_drewN | apply below_drew1) | exact HB.out)))); have n1_ := Aside0.mk (below_step (by repeat (first | (with_reducible first | exact HB.out | apply below_alloc | apply pw_below_drewN | apply below_drew1) | exact HB.out)) hb); clear HB; have HO104 := n0_; have HB := n1_; clear n0_ n1_; (try clear hb); (try clear hb2); (try clear hk); (try clear hi); (try clear ho0)))
            go_ret
            exact ⟨by first | rfl | (simp [errW_none, errW_some] <;> rfl) | (simp [*, errW_none, errW_some] <;> rfl), by repeat (first | (with_reducible first | exact HB.out | apply below_alloc | apply pw_below_drewN | apply below_drew1) | exact HB.out)⟩

end Go.Proofs.YtbaajohjglhpfaaDoor.F
namespace Go.Proofs.YtbaajohjglhpfaaDoor.F
open Go Go.Shelf Go.RowKit Go.Proofs.YtbaajohjglhpfaaDoorW.PrintWords Go.Proofs.YtbaajohjglhpfaaDoorW.PrintLast Go.Proofs.YtbaajohjglhpfaaDoorW.PrintMore
attribute [local go_sem] max2_int min2_int max_two min_two max_three min_three max_four min_four   -- for this text's walks alone
set_option linter.unusedVariables false
set_option linter.unusedSimpArgs false

/-! ### impl_DataNames: function 16 -/
def impl_DataNames.f (k : Nat) (a0 : Int) (a1 : ByteArray) : Option ((List (S46))) := (impl_CheckData.f k a0 a1).bind fun t101 => (if t101 = 0 then ((impl_parsed.f k a0 a1).bind fun bt102 => (some bt102.1)) else (some ([] : List (S46))))
theorem impl_DataNames.mono : ∀ a0 a1 k, LeO (impl_DataNames.f k a0 a1) (impl_DataNames.f (k + 1) a0 a1) := by
  intro a0 a1 k
  unfold impl_DataNames.f
  repeat' first
      | (with_reducible exact impl_CheckData.mono _ _ _)
      | (with_reducible exact impl_parsed.mono _ _ _)
      | (with_reducible exact LeO.refl _)
      | (with_reducible exact LeO.none _)
      | (with_reducible refine LeO.ite ?_ ?_)
      | (with_reducible refine LeO.bind ?_ (fun _ => ?_))
      | exact impl_CheckData.mono _ _ _
      | exact impl_parsed.mono _ _ _
      | exact LeO.none _
      | refine LeO.ite ?_ ?_
      | refine LeO.bind ?_ (fun _ => ?_)
set_option maxHeartbeats 8000000 in
set_option maxRecDepth 100000 in
theorem impl_DataNames.calls (k : Nat) (a0 : Int) (a1 : ByteArray) (r : List (S46)) (w : World) (h : impl_DataNames.f k a0 a1 = some r) (hG : Glob w) :
    Calls Tryd.prog 16 #[.int .i64 a0, .string a1] w fun e w' => ∃ v0_ : Value, e = .returned (v0_) ∧ Kd.R k46 46 w' w.heap.size (fun _ => True) v0_ r ∧ Below w.heap.size w w' := by
  have HG := Aside0.mk hG
  clear hG
  have HB := Aside0.mk (Below.refl w.heap.size w)
  have H : ((impl_CheckData.f k a0 a1).bind fun t101 => (if t101 = 0 then ((impl_parsed.f k a0 a1).bind fun bt102 => (some bt102.1)) else (some ([] : List (S46))))) = some r := h
  clear h
  replace H := Option.bind_eq_some_iff.mp H
  obtain ⟨t101, A30, H⟩ := H
  replace H : (if t101 = 0 then ((impl_parsed.f k a0 a1).bind fun bt102 => (some bt102.1)) else (some ([] : List (S46)))) = some r := H
  have A3 := Aside0.mk A30
  clear A30
  by_cases c4 : t101 = 0
  · rw [if_pos c4] at H
    have c4b0 : (t101 == 0) = true := beq_iff_eq.mpr c4
    have c4b1 : (t101 != 0) = false := bne_eq_false_iff_eq.mpr c4
    clear c4
    replace H := Option.bind_eq_some_iff.mp H
    obtain ⟨⟨t102, t103⟩, A50, H⟩ := H
    replace H : (some t102) = some r := H
    have A5 := Aside0.mk A50
    clear A50
    obtain rfl := Option.some.inj H
    go_enter Tryd.func16, Tryd.ntmps16
    go_wp2_with (first | ((with_reducible refine gate_callee (f := 10) rfl ?_); refine goesL_ (some 9) rfl rfl Tryd.func10 (by kernel_rfl) rfl #[.int .i64 a0, .string a1] rfl (by (try simp only [List.map_toArray, List.map_cons, List.map_nil]); first | done | rfl | (simp only [List.length_drop, List.length_take]; rfl)) ?_; (with_reducible refine (impl_CheckData.calls k a0 a1 t101 _ A3.out (HG.out.below (by repeat (first | (with_reducible first | exact HB.out | apply below_alloc | apply pw_below_drewN | apply below_drew1) | exact HB.out)))).mono ?_); rintro e w6 ⟨rfl, hb⟩; refine ⟨_, rfl, ?_⟩; have n0_ := Aside0.mk (below_step (by repeat (first | (with_reducible first | exact HB.out | apply below_alloc | apply pw_below_drewN | apply below_drew1) | exact HB.out)) hb); clear HB; have HB := n0_; clear n0_; (try clear hb); (try clear hb2); (try clear hk); (try clear hi)) | ((with_reducible refine gate_callee (f := 26) rfl ?_); refine goesL_ (some 14) rfl rfl Tryd.func26 (by kernel_rfl) rfl #[.int .i64 a0, .string a1] rfl (by (try simp only [List.map_toArray, List.map_cons, List.map_nil]); first | done | rfl | (simp only [List.length_drop, List.length_take]; rfl)) ?_; (with_reducible refine (impl_parsed.calls k a0 a1 t102 t103 _ A5.out (HG.out.below (by repeat (first | (with_reducible first | exact HB.out | apply below_alloc | apply pw_below_drewN | apply below_drew1) | exact HB.out)))).mono ?_); rintro e w7 ⟨v104, rfl, ho0, hb⟩; refine ⟨_, rfl, ?_⟩; have n0_ := Aside0.mk (Kd.R_lower ho0 (below_size (by repeat (first | (with_reducible first | exact HB.out | apply below_alloc | apply pw_below_drewN | apply below_drew1) | exact HB.out)))); have n1_ := Aside0.mk (below_step (by repeat (first | (with_reducible first | exact HB.out | apply below_alloc | apply pw_below_drewN | apply below_drew1) | exact HB.out)) hb); clear HB; have HO105 := n0_; have HB := n1_; clear n0_ n1_; (try clear hb); (try clear hb2); (try clear hk); (try clear hi); (try clear ho0)))
    go_ret
    exact ⟨_, by first | rfl | (simp [errW_none, errW_some] <;> rfl) | (simp [*, errW_none, errW_some] <;> rfl), by (with_reducible repeat (first | apply Kd.R_alloc | apply Kd.R_drewN | apply Kd.R_drew)); exact HO105.out, by repeat (first | (with_reducible first | exact HB.out | apply below_alloc | apply pw_below_drewN | apply below_drew1) | exact HB.out)⟩
  · rw [if_neg c4] at H
    have c4b0 : (t101 == 0) = false := beq_eq_false_iff_ne.mpr c4
    have c4b1 : (t101 != 0) = true := bne_iff_ne.mpr c4
    obtain rfl := Option.some.inj H
    go_enter Tryd.func16, Tryd.ntmps16
    go_wp2_with (first | ((with_reducible refine gate_callee (f := 10) rfl ?_); refine goesL_ (some 9) rfl rfl Tryd.func10 (by kernel_rfl) rfl #[.int .i64 a0, .string a1] rfl (by (try simp only [List.map_toArray, List.map_cons, List.map_nil]); first | done | rfl | (simp only [List.length_drop, List.length_take]; rfl)) ?_; (with_reducible refine (impl_CheckData.calls k a0 a1 t101 _ A3.out (HG.out.below (by repeat (first | (with_reducible first | exact HB.out | apply below_alloc | apply pw_below_drewN | apply below_drew1) | exact HB.out)))).mono ?_); rintro e w8 ⟨rfl, hb⟩; refine ⟨_, rfl, ?_⟩; have n0_ := Aside0.mk (below_step (by repeat (first | (with_reducible first | exact HB.out | apply below_alloc | apply pw_below_drewN | apply below_drew1) | exact HB.out)) hb); clear HB; have HB := n0_; clear n0_; (try clear hb); (try clear hb2); (try clear hk); (try clear hi)))
    go_ret
    exact ⟨_, by first | rfl | (simp [errW_none, errW_some] <;> rfl) | (simp [*, errW_none, errW_some] <;> rfl), by first | exact Kd.R_nil _ _ _ _ _ | exact Kd.N_nil _ _ _ _ _ | exact Kd.V_nil _ _ _ _ _ | exact Kd.Q_nil _ _ _ _ _ | exact Kd.S_nil _ _ _ _ _, by repeat (first | (with_reducible first | exact HB.out | apply below_alloc | apply pw_below_drewN | apply below_drew1) | exact HB.out)⟩

end Go.Proofs.YtbaajohjglhpfaaDoor.F
namespace Go.Proofs.YtbaajohjglhpfaaDoor.F
open Go Go.Shelf Go.RowKit Go.Proofs.YtbaajohjglhpfaaDoorW.PrintWords Go.Proofs.YtbaajohjglhpfaaDoorW.PrintLast Go.Proofs.YtbaajohjglhpfaaDoorW.PrintMore
attribute [local go_sem] max2_int min2_int max_two min_two max_three min_three max_four min_four   -- for this text's walks alone
set_option linter.unusedVariables false
set_option linter.unusedSimpArgs false

/-! ### impl_fold: function 33 -/
def low8 (x : Int) : Int := if 65 ≤ x ∧ x ≤ 90 then x + 32 else x
def impl_fold.f (a0 : ByteArray) : Option (ByteArray) := if a0.size ≤ 140737488355328 then some (strOfNums ((bytesOf a0).map low8)) else none
theorem impl_fold.step (s : ByteArray) (k : Nat) (hk : k < s.size) (v : Int) (hv : v = low8 (bt s (k : Int))) : (((bytesOf s).map low8).take k ++ (bytesOf s).drop k).set k v = ((bytesOf s).map low8).take (k + 1) ++ (bytesOf s).drop (k + 1) := by
  have hl := bytesOf_length s
  have hb : (bytesOf s)[k]'(by omega) = bt s (k : Int) := by
    rw [← rd_bytesOf]
    simp [rd, List.getD_eq_getElem?_getD, hl, hk]
  rw [List.set_append_right _ _ (by simp; omega), List.length_take, List.length_map, hl, Nat.min_eq_left (by omega), Nat.sub_self, List.drop_eq_getElem_cons (by omega), List.set_cons_zero, List.take_succ_eq_append_getElem (by simp; omega), List.append_assoc]
  simp [hb, hv]
theorem impl_fold.same (s : ByteArray) (k : Nat) (hk : k < s.size) (hv : low8 (bt s (k : Int)) = bt s (k : Int)) : ((bytesOf s).map low8).take k ++ (bytesOf s).drop k = ((bytesOf s).map low8).take (k + 1) ++ (bytesOf s).drop (k + 1) := by
  have hl := bytesOf_length s
  have hb : (bytesOf s)[k]'(by omega) = bt s (k : Int) := by
    rw [← rd_bytesOf]
    simp [rd, List.getD_eq_getElem?_getD, hl, hk]
  rw [List.drop_eq_getElem_cons (by omega), List.take_succ_eq_append_getElem (by simp; omega), List.append_assoc]
  simp [hb, hv]
theorem impl_fold.at_ (s : ByteArray) (k : Nat) (hk : k < s.size) : (((bytesOf s).map low8).take k ++ (bytesOf s).drop k).getD k 0 = bt s (k : Int) := by
  have hl := bytesOf_length s
  rw [← rd_bytesOf]
  simp [rd, List.getD_eq_getElem?_getD, List.getElem?_append_right, hl, hk, Nat.min_eq_left (Nat.le_of_lt hk)]
set_option maxHeartbeats 1000000 in
set_option maxRecDepth 100000 in
theorem impl_fold.calls (a0 : ByteArray) (r : ByteArray) (w : World) (h : impl_fold.f a0 = some r) :
    Calls Tryd.prog 33 #[.string a0] w fun e w' => e = .returned (.string r) ∧ Below w.heap.size w w' := by
  unfold impl_fold.f at h
  split at h
  case isFalse => cases h
  case isTrue hs =>
  obtain rfl := Option.some.inj h
  have hcv := fun W => Lib.run_convert_string_bytes (P := Tryd.prog) W 9 49 5 a0 Tryd.underlying9 Tryd.underlying49 Tryd.underlying5
  have hl := bytesOf_length a0
  go_enter Tryd.func33, Tryd.ntmps33
  go_wp2
  go_loopw [10] (fun i wr => ∃ k : Nat, k ≤ a0.size ∧ i = .int .i64 k ∧ Aside0 (Go.Proofs.YtbaajohjglhpfaaDoorW.XConv.Row8 wr w.heap.size 5 (((bytesOf a0).map low8).take k ++ (bytesOf a0).drop k)) ∧ Aside0 (Below w.heap.size w wr)) (fun i _ => a0.size - (intOf i).toNat)
  case atStart => exact ⟨0, Nat.zero_le _, rfl, ⟨by simpa using Go.Proofs.YtbaajohjglhpfaaDoorW.XConv.Row8.conv w 5 a0⟩, ⟨bytes_below (Below.refl _ _) (Nat.le_refl _) _ _⟩⟩
  case round =>
    obtain ⟨k, hk, rfl, HR, HB⟩ := hrel
    by_cases hlt : k < a0.size
    · have hlen : (((bytesOf a0).map low8).take k ++ (bytesOf a0).drop k).length = a0.size := by simp [hl]; omega
      have hcell := HR.out.cell k (by omega)
      rw [impl_fold.at_ a0 k hlt] at hcell
      have hfr := HR.out.frozen k (by omega)
      have Hlen := Aside0.mk hlen
      clear hlen hl
      have hbr := bt_range a0 (k : Int)
      have hlt2 : decide ((k : Int) < (a0.size : Int)) = true := decide_eq_true (by omega)
      have hblt : w.heap.size < (_ : World).heap.size := HR.out.lt
      generalize hc : bt a0 (k : Int) = c at *
      have Hc := Aside0.mk hc
      clear hc
      by_cases h1 : 65 ≤ c
      · by_cases h2 : c ≤ 90
        · go_wp2
          go_roundw
          case rel => exact ⟨k + 1, by omega, by go_num, ⟨by rw [← impl_fold.step a0 k hlt (c + 32) (by rw [Hc.out]; unfold low8; rw [if_pos ⟨h1, h2⟩])]; exact HR.out.set k (c + 32)⟩, ⟨HB.out.setCell (Nat.le_refl _) _⟩⟩
          case measure => simp [intOf]; omega
        · go_wp2
          go_roundw
          case rel => exact ⟨k + 1, by omega, by go_num, ⟨by rw [← impl_fold.same a0 k hlt (by rw [Hc.out]; unfold low8; rw [if_neg (by omega)])]; exact HR.out⟩, HB⟩
          case measure => simp [intOf]; omega
      · go_wp2
        go_roundw
        case rel => exact ⟨k + 1, by omega, by go_num, ⟨by rw [← impl_fold.same a0 k hlt (by rw [Hc.out]; unfold low8; rw [if_neg (by omega)])]; exact HR.out⟩, HB⟩
        case measure => simp [intOf]; omega
    · obtain rfl : k = a0.size := by omega
      have hR := HR.out
      rw [List.take_of_length_le (by simp [hl]), List.drop_of_length_le (by omega), List.append_nil] at hR
      have hcv2 := fun c => string_of_reads (P := Tryd.prog) (c := c) Tryd.underlying49 Tryd.underlying5 Tryd.underlying9 (hR.reads (n := a0.size) (by simp [hl]; omega) (by simp [hl]))
      have hlt2 : decide ((a0.size : Int) < (a0.size : Int)) = false := decide_eq_false (by omega)
      clear hl
      go_wp2
      go_ret
      exact ⟨rfl, HB.out⟩

end Go.Proofs.YtbaajohjglhpfaaDoor.F
namespace Go.Proofs.YtbaajohjglhpfaaDoor.F
open Go Go.Shelf Go.RowKit Go.Proofs.YtbaajohjglhpfaaDoorW.PrintWords Go.Proofs.YtbaajohjglhpfaaDoorW.PrintLast Go.Proofs.YtbaajohjglhpfaaDoorW.PrintMore
attribute [local go_sem] max2_int min2_int max_two min_two max_three min_three max_four min_four   -- for this text's walks alone
set_option linter.unusedVariables false
set_option linter.unusedSimpArgs false

/-! ### impl_FoldData: function 21 -/
def impl_FoldData.put : List Int → Nat → List Int → List Int
  | b, _, [] => b
  | b, i, v :: r => impl_FoldData.put (b.set i v) (i + 1) r
theorem impl_FoldData.put_length : ∀ (ts : List Int) (b : List Int) (i : Nat), (impl_FoldData.put b i ts).length = b.length := by
  intro ts
  induction ts with
  | nil => intro b i; rfl
  | cons v r ih => intro b i; rw [impl_FoldData.put, ih, List.length_set]
def impl_FoldData.go (s : ByteArray) : List S46 → List Int → Option (List Int)
  | [], b => some b
  | x :: r, b => if 0 ≤ x.f0 ∧ x.f0 < x.f1 ∧ x.f1 ≤ (s.size : Int) then (impl_fold.f (s.extract x.f0.toNat x.f1.toNat)).bind fun t => if (t.size : Int) = x.f1 - x.f0 then impl_FoldData.go s r (impl_FoldData.put b x.f0.toNat (bytesOf t)) else none else none
def impl_FoldData.f (k : Nat) (a0 : Int) (a1 : ByteArray) : Option ByteArray :=
  (impl_CheckData.f k a0 a1).bind fun c => if c = 0 then (if 140737488355328 < a1.size then none else (impl_DataNames.f k a0 a1).bind fun sp => if 1000000000 < sp.length then none else (impl_FoldData.go a1 sp (bytesOf a1)).bind fun b => some (strOfNums b)) else some ⟨#[]⟩
theorem impl_FoldData.mono : ∀ a0 a1 k, LeO (impl_FoldData.f k a0 a1) (impl_FoldData.f (k + 1) a0 a1) := by
  intro a0 a1 k
  unfold impl_FoldData.f
  refine LeO.bind (impl_CheckData.mono _ _ _) (fun c => LeO.ite (LeO.ite (LeO.refl _) (LeO.bind (impl_DataNames.mono _ _ _) (fun _ => LeO.refl _))) (LeO.refl _))
theorem impl_FoldData.row {g e : Nat} : ∀ (ts : List Int) (o : Nat) (w : World) (xs : List Int), Go.Proofs.YtbaajohjglhpfaaDoorW.XConv.Row8 w g e xs → Go.Proofs.YtbaajohjglhpfaaDoorW.XConv.Row8 (w.setCells g o (ts.map fun x => Value.int .u8 x)) g e (impl_FoldData.put xs o ts) := by
  intro ts
  induction ts with
  | nil => intro o w xs h; exact h
  | cons v r ih => intro o w xs h; exact ih (o + 1) _ _ (h.set o v)
theorem impl_FoldData.cells (t : ByteArray) : (t.data.toList.map fun x => Value.int .u8 (x.toNat : Int)) = (bytesOf t).map fun x => Value.int .u8 x := by
  simp [bytesOf]
theorem impl_FoldData.other {b k : Nat} (hk : k ≠ b) : ∀ (vs : List Value) (o : Nat) (w : World), (w.setCells b o vs).heap[k]? = w.heap[k]? := by
  intro vs
  induction vs with
  | nil => intro o w; rfl
  | cons v r ih => intro o w; exact (ih (o + 1) _).trans (Below.heap_setCell w _ _ _ hk)
set_option maxHeartbeats 8000000 in
set_option maxRecDepth 100000 in
theorem impl_FoldData.calls (k : Nat) (a0 : Int) (a1 : ByteArray) (r : ByteArray) (w : World) (h : impl_FoldData.f k a0 a1 = some r) (hG : Glob w) :
    Calls Tryd.prog 21 #[.int .i64 a0, .string a1] w fun e w' => e = .returned (.string r) ∧ Below w.heap.size w w' := by
  unfold impl_FoldData.f at h
  replace h := Option.bind_eq_some_iff.mp h
  obtain ⟨c, A1, h⟩ := h
  have H1 := Aside0.mk A1
  have HG := Aside0.mk hG
  clear A1 hG
  by_cases hc : c = 0
  · rw [if_pos hc] at h
    subst hc
    split at h
    case isTrue => cases h
    case isFalse hs =>
    replace h := Option.bind_eq_some_iff.mp h
    obtain ⟨sp, A2, h⟩ := h
    split at h
    case isTrue => cases h
    case isFalse hspl =>
    replace h := Option.bind_eq_some_iff.mp h
    obtain ⟨b, A3, h⟩ := h
    obtain rfl := Option.some.inj h
    have H2 := Aside0.mk A2
    have H3 := Aside0.mk A3
    have HSZ := Aside0.mk hs
    clear A2 A3 h hs
    have hcv := fun W => Lib.run_convert_string_bytes (P := Tryd.prog) W 9 49 5 a1 Tryd.underlying9 Tryd.underlying49 Tryd.underlying5
    go_enter Tryd.func21, Tryd.ntmps21
    go_wp2_with (first | (go_at_call 10; refine (impl_CheckData.calls k _ _ _ _ H1.out HG.out).mono ?_; rintro e w1 ⟨rfl, hb1⟩; have HB1 := Aside0.mk hb1; clear hb1) | (go_at_call 16; refine (impl_DataNames.calls k _ _ _ _ H2.out (HG.out.below (bytes_below HB1.out HB1.out.size _ _))).mono ?_; rintro e w2 ⟨vsp, rfl, hR, hb2⟩; have HR8 := Aside0.mk ((Go.Proofs.YtbaajohjglhpfaaDoorW.XConv.Row8.conv w1 5 a1).below hb2); have HB2 := Aside0.mk (below_step (bytes_below HB1.out HB1.out.size 5 a1) hb2); have HRR := Aside0.mk (Kd.R_mono (Kd.R_bound hR) (fun k hk => hk.2.1)); obtain ⟨A, cc, rfl, hle, hC⟩ := Kd.R_reads hR; clear hR hb2 hC))
    have hgs : w.heap.size ≤ w1.heap.size := HB1.out.size
    have hgl : w1.heap.size < (Lib.bytesWorld w1 5 a1).heap.size := (Go.Proofs.YtbaajohjglhpfaaDoorW.XConv.Row8.conv w1 5 a1).lt
    have hcap := grownCap_ge w1 a1.size 0 5
    generalize (Lib.bytesWorld w1 5 a1).heap.size = base at *
    generalize w1.heap.size = g at *
    generalize grownCap w1 a1.size 0 5 = cp at *
    clear hcv
    go_loopw [18] (fun i wr => ∃ (j : Nat) (cur : List Int), j ≤ sp.length ∧ i = .int .i64 j ∧ Aside0 (cur.length = a1.size) ∧ Aside0 (Go.Proofs.YtbaajohjglhpfaaDoorW.XConv.Row8 wr g 5 cur) ∧ Aside0 (impl_FoldData.go a1 (sp.drop j) cur = some b) ∧ Aside0 (Kd.R k46 46 wr base (fun k => base ≤ k) (.slice A sp.length cc) sp) ∧ Aside0 (Below w.heap.size w wr)) (fun i _ => sp.length - (intOf i).toNat)
    case atStart => exact ⟨0, bytesOf a1, Nat.zero_le _, rfl, ⟨bytesOf_length a1⟩, HR8, H3, HRR, HB2⟩
    case round =>
      obtain ⟨j, cur, hj, rfl, HL, HR, HO, HS, HB⟩ := hrel
      by_cases hlt : j < sp.length
      · have hO := HO.out
        rw [List.drop_eq_getElem_cons hlt, impl_FoldData.go] at hO
        obtain ⟨ad, e1, hx0, hx1⟩ := at_T46 (Kd.R_reads' HS.out).2.2 (j : Int) (by omega) (by omega)
        have hrd : rd_T46 sp (j : Int) = sp[j] := by simp [rd_T46, List.getD_eq_getElem?_getD, hlt]
        rw [hrd, Int.toNat_natCast] at hx0 hx1
        cases e1
        split at hO
        case isFalse => cases hO
        case isTrue hc =>
        replace hO := Option.bind_eq_some_iff.mp hO
        obtain ⟨t, A4, hO⟩ := hO
        split at hO
        case isFalse => cases hO
        case isTrue ht =>
        obtain ⟨h0, h1, h2⟩ := hc
        obtain ⟨p, hp⟩ := Int.eq_ofNat_of_zero_le h0
        obtain ⟨q, hq⟩ := Int.eq_ofNat_of_zero_le (Int.le_trans h0 (Int.le_of_lt h1))
        rw [hp] at hx0 h1 A4 ht hO
        rw [hq] at hx1 h1 h2 A4 ht
        rw [Int.toNat_natCast] at A4 hO
        rw [Int.toNat_natCast] at A4
        have H4 := Aside0.mk A4
        have H5 := Aside0.mk hO
        have hpq : p < q := by omega
        have hqs : q ≤ a1.size := by omega
        have hts : t.size = q - p := by omega
        clear A4 hO h0 h1 h2 hp hq ht
        have l1 : ((j : Int) < (sp.length : Int)) = True := eq_true (by omega)
        have l2 : decide ((j : Int) < (sp.length : Int)) = true := decide_eq_true (by omega)
        have l3 : ((p : Int) ≤ (q : Int)) = True := eq_true (by omega)
        have l4 : ((q : Int) ≤ (cp : Int)) = True := eq_true (by omega)
        have l5 : ((q : Int) ≤ (a1.size : Int)) = True := eq_true (by omega)
        have l6 : (p ≤ q) = True := eq_true (by omega)
        have l7 : (q ≤ cp) = True := eq_true (by omega)
        have l8 : (q ≤ a1.size) = True := eq_true (by omega)
        have l9 : (cp = p) = False := eq_false (by omega)
        go_upto_region 7 with fail
        have hW : ∀ o, (wr.alloc o).heap[wr.heap.size]? = some o := blk_new wr
        have hb0 : (wr.alloc (Obj.cells #[Value.int IntKind.i64 (p : Int), Value.int IntKind.i64 (q : Int)] 46)).drew.cell? ⟨wr.heap.size, 0, none⟩ = some (.int .i64 (p : Int)) := (cell_of_row _ _ 0 _ _ _ (hW _)).trans rfl
        have hb1 : (wr.alloc (Obj.cells #[Value.int IntKind.i64 (p : Int), Value.int IntKind.i64 (q : Int)] 46)).drew.cell? ⟨wr.heap.size, 1, none⟩ = some (.int .i64 (q : Int)) := (cell_of_row _ _ 1 _ _ _ (hW _)).trans rfl
        have HR1 := Aside0.mk ((HR.out.below (below_alloc (Below.refl _ _) (Obj.cells #[Value.int IntKind.i64 (p : Int), Value.int IntKind.i64 (q : Int)] 46))).drew)
        have HS1 := Aside0.mk (Kd.R_drew (Kd.R_alloc HS.out (Obj.cells #[Value.int IntKind.i64 (p : Int), Value.int IntKind.i64 (q : Int)] 46)))
        have HB1' := Aside0.mk (below_drew (below_alloc HB.out (Obj.cells #[Value.int IntKind.i64 (p : Int), Value.int IntKind.i64 (q : Int)] 46)))
        clear hx0 hx1 hW
        refine start_ (n := 14) (S := fun w' => w'.cell? ⟨wr.heap.size, 0, none⟩ = some (.int .i64 (p : Int)) ∧ w'.cell? ⟨wr.heap.size, 1, none⟩ = some (.int .i64 (q : Int))) (ds := [13]) #[false, false, false, false, false, false, false, false, false, false, false, false, false, false] (by kernel_rfl) rfl rfl ⟨hb0, hb1⟩ (fun hHeld => ?_)
        refine pure_ (i := 0) (N := some 22) (v := ?_) (a' := ?_) #[true, false, false, false, false, false, false, false, false, false, false, false, false, false] rfl rfl (by kernel_rfl) (fun _ _ _ h => h) (Or.inl ⟨by rfl, ?_⟩) ?_ ?_
        rotate_left
        · intro w'
          go_simp
          with_reducible rfl
        rotate_left
        · simp only [Act.put, List.setIfInBounds_toArray, List.set_cons_zero, List.set_cons_succ, i64_w, i32_w]
          rfl
        refine pure_ (i := 1) (N := some 23) (v := ?_) (a' := ?_) #[true, true, false, false, false, false, false, false, false, false, false, false, false, false] rfl rfl (by kernel_rfl) (fun _ _ _ h => h) (Or.inl ⟨by rfl, ?_⟩) ?_ ?_
        rotate_left
        · intro w'
          go_simp
          with_reducible rfl
        rotate_left
        · simp only [Act.put, List.setIfInBounds_toArray, List.set_cons_zero, List.set_cons_succ, i64_w, i32_w]
          rfl
        refine pure_ (i := 3) (N := some 25) (v := ?_) (a' := ?_) #[true, true, false, true, false, false, false, false, false, false, false, false, false, false] rfl rfl (by kernel_rfl) (fun _ _ _ h => h) (Or.inl ⟨by rfl, ?_⟩) ?_ ?_
        rotate_left
        · intro w'
          go_simp
          with_reducible rfl
        rotate_left
        · simp only [Act.put, List.setIfInBounds_toArray, List.set_cons_zero, List.set_cons_succ, i64_w, i32_w]
          rfl
        refine pure_ (i := 6) (N := some 28) (v := ?_) (a' := ?_) #[true, true, false, true, false, false, true, false, false, false, false, false, false, false] rfl rfl (by kernel_rfl) (fun _ _ _ h => h) (Or.inl ⟨by rfl, ?_⟩) ?_ ?_
        rotate_left
        · intro w'
          go_simp
          with_reducible rfl
        rotate_left
        · simp only [Act.put, List.setIfInBounds_toArray, List.set_cons_zero, List.set_cons_succ, i64_w, i32_w]
          rfl
        refine pure_ (i := 7) (N := some 29) (v := ?_) (a' := ?_) #[true, true, false, true, false, false, true, true, false, false, false, false, false, false] rfl rfl (by kernel_rfl) (fun _ _ _ h => h) (Or.inl ⟨by rfl, ?_⟩) ?_ ?_
        rotate_left
        · intro w'
          go_simp
          with_reducible rfl
        rotate_left
        · simp only [Act.put, List.setIfInBounds_toArray, List.set_cons_zero, List.set_cons_succ, i64_w, i32_w]
          rfl
        refine pure_ (i := 9) (N := some 31) (v := ?_) (a' := ?_) #[true, true, false, true, false, false, true, true, false, true, false, false, false, false] rfl rfl (by kernel_rfl) (fun _ _ _ h => h) (Or.inl ⟨by rfl, ?_⟩) ?_ ?_
        rotate_left
        · intro w'
          go_simp
          with_reducible rfl
        rotate_left
        · simp only [Act.put, List.setIfInBounds_toArray, List.set_cons_zero, List.set_cons_succ, i64_w, i32_w]
          rfl
        refine take_ (i := 2) (N := some 24) (v := ?_) (a' := ?_) #[true, true, true, true, false, false, true, true, false, true, false, false, false, false] rfl rfl (by kernel_rfl) (fun _ _ _ h => h) (Or.inl ⟨by rfl, ?_⟩) hHeld ?_ ?_
        rotate_left
        · rintro w' ⟨s0, s1⟩
          go_simp
          with_reducible rfl
        rotate_left
        · simp only [Act.put, List.setIfInBounds_toArray, List.set_cons_zero, List.set_cons_succ, i64_w, i32_w]
          rfl
        refine take_ (i := 4) (N := some 26) (v := ?_) (a' := ?_) #[true, true, true, true, true, false, true, true, false, true, false, false, false, false] rfl rfl (by kernel_rfl) (fun _ _ _ h => h) (Or.inl ⟨by rfl, ?_⟩) hHeld ?_ ?_
        rotate_left
        · rintro w' ⟨s0, s1⟩
          go_simp
          with_reducible rfl
        rotate_left
        · simp only [Act.put, List.setIfInBounds_toArray, List.set_cons_zero, List.set_cons_succ, i64_w, i32_w]
          rfl
        refine pure_ (i := 5) (N := some 27) (v := ?_) (a' := ?_) #[true, true, true, true, true, true, true, true, false, true, false, false, false, false] rfl rfl (by kernel_rfl) (fun _ _ _ h => h) (Or.inl ⟨by rfl, ?_⟩) ?_ ?_
        rotate_left
        · intro w'
          go_simp
          with_reducible rfl
        rotate_left
        · simp only [Act.put, List.setIfInBounds_toArray, List.set_cons_zero, List.set_cons_succ, i64_w, i32_w]
          rfl
        refine take_ (i := 8) (N := some 30) (v := ?_) (a' := ?_) #[true, true, true, true, true, true, true, true, true, true, false, false, false, false] rfl rfl (by kernel_rfl) (fun _ _ _ h => h) (Or.inl ⟨by rfl, ?_⟩) hHeld ?_ ?_
        rotate_left
        · rintro w' ⟨s0, s1⟩
          go_simp
          with_reducible rfl
        rotate_left
        · simp only [Act.put, List.setIfInBounds_toArray, List.set_cons_zero, List.set_cons_succ, i64_w, i32_w]
          rfl
        refine take_ (i := 10) (N := some 32) (v := ?_) (a' := ?_) #[true, true, true, true, true, true, true, true, true, true, true, false, false, false] rfl rfl (by kernel_rfl) (fun _ _ _ h => h) (Or.inl ⟨by rfl, ?_⟩) hHeld ?_ ?_
        rotate_left
        · rintro w' ⟨s0, s1⟩
          go_simp
          with_reducible rfl
        rotate_left
        · simp only [Act.put, List.setIfInBounds_toArray, List.set_cons_zero, List.set_cons_succ, i64_w, i32_w]
          rfl
        refine pure_ (i := 11) (N := some 33) (v := ?_) (a' := ?_) #[true, true, true, true, true, true, true, true, true, true, true, true, false, false] rfl rfl (by kernel_rfl) (fun _ _ _ h => h) (Or.inl ⟨by rfl, ?_⟩) ?_ ?_
        rotate_left
        · intro w'
          go_simp
          with_reducible rfl
        rotate_left
        · simp only [Act.put, List.setIfInBounds_toArray, List.set_cons_zero, List.set_cons_succ, i64_w, i32_w]
          rfl
        refine one_ (i := 12) (N := some 34) #[true, true, true, true, true, true, true, true, true, true, true, true, true, false] rfl rfl (by kernel_rfl) (by decide) (fun K hK => ?_)
        refine goes_ Tryd.func33 (by kernel_rfl) rfl #[.string (a1.extract p q)] (by rfl) rfl rfl (by simp only [List.map_toArray, List.map_cons, List.map_nil]; rfl) ?_
        with_reducible refine (impl_fold.calls _ _ _ H4.out).mono ?_
        rintro e w3 ⟨rfl, hb⟩
        refine ⟨_, rfl, ?_⟩
        refine hK.out _ _ ⟨((hb.cell (World.block_lt_of_cell? _ _ hb0)).trans hb0), ((hb.cell (World.block_lt_of_cell? _ _ hb1)).trans hb1)⟩ (fun hHeld => ?_)
        clear hK K
        refine norm_ (a' := ?_) ?_ ?_
        rotate_left
        · show Act.put _ (some 34) _ = _
          simp only [Act.put, List.setIfInBounds_toArray, List.set_cons_zero, List.set_cons_succ, i64_w, i32_w]
          rfl
        refine last_ (i := 13) (N := some 35) #[true, true, true, true, true, true, true, true, true, true, true, true, true, true] rfl rfl (by kernel_rfl) (by decide) (fun K hK => ?_)
        have hR3 := HR1.out.below hb
        have hlen3 := HL.out
        have hrun := run_copy_string (P := Tryd.prog) w3 49 9 3 5 g p (q - p) (cp - p) t Tryd.underlying49 Tryd.sizeOf5 (by omega) (fun jj hjj => by rw [hR3.cell (p + jj) (by omega)]; rfl) (fun jj hjj => hR3.frozen (p + jj) (by omega))
        have hR4 := Aside0.mk (impl_FoldData.row (bytesOf t) p w3 cur hR3)
        have hS4 := Aside0.mk (Kd.R_below HS1.out hb)
        have hB4 := Aside0.mk (below_step HB1'.out hb)
        clear hR3 hb hb0 hb1 HR1 HS1 HB1'
        refine value_ (w1 := ?_) (v := ?_) (by rfl) rfl ?_ ?_
        rotate_left 2
        · go_simp
          constructor
          · rfl
          · rfl
        refine hK.out _ _ ?_
        clear hK K
        refine norm_ (a' := ?_) ?_ ?_
        rotate_left
        · show Act.put _ (some 35) _ = _
          simp only [Act.put, List.setIfInBounds_toArray, List.set_cons_zero, List.set_cons_succ, i64_w, i32_w]
          rfl
        refine done_ (by kernel_rfl) ?_

        go_wp2
        go_roundw
        case rel =>
          refine ⟨j + 1, impl_FoldData.put cur p (bytesOf t), by omega, by go_num, ⟨by rw [impl_FoldData.put_length]; exact HL.out⟩, ⟨?_⟩, H5, ⟨?_⟩, ⟨?_⟩⟩
          · rw [impl_FoldData.cells]; exact hR4.out
          · exact Kd.R_step hS4.out (fun k hk _ => impl_FoldData.other (by omega) _ _ _)
          · exact below_setCells hgs _ _ _ hB4.out
        case measure => simp [intOf]; omega
      · obtain rfl : j = sp.length := by omega
        have hO := HO.out
        rw [List.drop_length, impl_FoldData.go] at hO
        obtain rfl := Option.some.inj hO
        have hcv2 := fun c => string_of_reads (P := Tryd.prog) (c := c) Tryd.underlying49 Tryd.underlying5 Tryd.underlying9 (HR.out.reads (n := a1.size) (by have := HL.out; have := HSZ.out; omega) HL.out.symm)
        have hlt2 : decide ((sp.length : Int) < (sp.length : Int)) = false := decide_eq_false (by omega)
        go_wp2
        go_ret
        exact ⟨rfl, HB.out⟩
  · rw [if_neg hc] at h
    obtain rfl := Option.some.inj h
    go_enter Tryd.func21, Tryd.ntmps21
    go_wp2_with (first | (go_at_call 10; refine (impl_CheckData.calls k _ _ _ _ H1.out HG.out).mono ?_; rintro e w1 ⟨rfl, hb1⟩; have HB1 := Aside0.mk hb1; clear hb1; have hc2 : (c != 0) = true := bne_iff_ne.mpr hc))
    go_ret
    exact ⟨rfl, HB1.out⟩

end Go.Proofs.YtbaajohjglhpfaaDoor.F
namespace Go.Proofs.YtbaajohjglhpfaaDoor.F
open Go Go.Shelf Go.RowKit Go.Proofs.YtbaajohjglhpfaaDoorW.PrintWords Go.Proofs.YtbaajohjglhpfaaDoorW.PrintLast Go.Proofs.YtbaajohjglhpfaaDoorW.PrintMore
attribute [local go_sem] max2_int min2_int max_two min_two max_three min_three max_four min_four   -- for this text's walks alone
set_option linter.unusedVariables false
set_option linter.unusedSimpArgs false

/-! ### strings_Compare: function 35 -/
def cmp_ren : Go.Shelf.Ren := ⟨fun | 106 => 35 | 213 => 48 | 265 => 49 | n => n, fun | 9 => 9 | 3 => 3 | n => n, fun | n => n⟩
theorem cmp_lays : Go.Proofs.Lays.n106 Tryd.prog cmp_ren := {
  mixed := by kernel_rfl
  f106 := Tryd.func35.trans (congrArg some (by kernel_rfl))
  f213 := Tryd.func48.trans (congrArg some (by kernel_rfl))
  f265 := Tryd.func49.trans (congrArg some (by kernel_rfl))
  t3 := Tryd.underlying3
  a3 := Tryd.isAgg3
  z3 := Tryd.sizeOf3
  v3 := Tryd.zeroValue3
  t9 := Tryd.underlying9
  a9 := Tryd.isAgg9
  z9 := Tryd.sizeOf9
  v9 := Tryd.zeroValue9 }
def strings_Compare.f (a0 : ByteArray) (a1 : ByteArray) : Option (Int) := some (Lib.compareBytes a0.data.toList a1.data.toList)
theorem strings_Compare.calls (a0 : ByteArray) (a1 : ByteArray) (r : Int) (w : World) (h : strings_Compare.f a0 a1 = some r) :
    Calls Tryd.prog 35 #[.string a0, .string a1] w fun e w' => e = .returned (.int .i64 r) ∧ Drawn0 w w' := by
  obtain rfl := Option.some.inj h
  exact (Any.strings_Compare cmp_lays a0 a1 w).mono fun e w' ⟨he, hw⟩ => ⟨he, 0, by rw [hw]; rfl⟩

end Go.Proofs.YtbaajohjglhpfaaDoor.F
namespace Go.Proofs.YtbaajohjglhpfaaDoor.F
open Go Go.Shelf Go.RowKit Go.Proofs.YtbaajohjglhpfaaDoorW.PrintWords Go.Proofs.YtbaajohjglhpfaaDoorW.PrintLast Go.Proofs.YtbaajohjglhpfaaDoorW.PrintMore
attribute [local go_sem] max2_int min2_int max_two min_two max_three min_three max_four min_four   -- for this text's walks alone
set_option linter.unusedVariables false
set_option linter.unusedSimpArgs false

/-! ### impl_CompareData: function 23 -/
def impl_CompareData.j0 : Nat → Int → ByteArray → ByteArray → Bool → Option (Int)
  | 0, _, _, _, _ => none
  | k + 1, x0, x1, x2, x16 => if x16 = true then (some 0) else ((impl_FoldData.f k x0 x1).bind fun t103 => ((impl_FoldData.f k x0 x2).bind fun t104 => ((strings_Compare.f t103 t104).bind fun t105 => (some t105))))
def impl_CompareData.f (k : Nat) (a0 : Int) (a1 : ByteArray) (a2 : ByteArray) : Option (Int) := (impl_CheckData.f k a0 a1).bind fun t101 => (if t101 = 0 then ((impl_CheckData.f k a0 a2).bind fun t102 => (impl_CompareData.j0 k a0 a1 a2 (t102 != 0))) else (impl_CompareData.j0 k a0 a1 a2 true))
theorem impl_CompareData.mono_l : ∀ k, (∀ y0 y1 y2 y3, LeO (impl_CompareData.j0 k y0 y1 y2 y3) (impl_CompareData.j0 (k + 1) y0 y1 y2 y3))
  | 0 => fun _ _ _ _ r h => by simp [impl_CompareData.j0] at h
  | k + 1 => by
    have ih0 := impl_CompareData.mono_l k
    · intro y0 y1 y2 y3
      unfold impl_CompareData.j0
      repeat' first
      | (with_reducible exact ih0 _ _ _ _)
      | (with_reducible exact impl_CheckData.mono _ _ _)
      | (with_reducible exact impl_FoldData.mono _ _ _)
      | (with_reducible exact LeO.refl _)
      | (with_reducible exact LeO.none _)
      | (with_reducible refine LeO.ite ?_ ?_)
      | (with_reducible refine LeO.bind ?_ (fun _ => ?_))
      | exact ih0 _ _ _ _
      | exact impl_CheckData.mono _ _ _
      | exact impl_FoldData.mono _ _ _
      | exact LeO.none _
      | refine LeO.ite ?_ ?_
      | refine LeO.bind ?_ (fun _ => ?_)
theorem impl_CompareData.mono : ∀ a0 a1 a2 k, LeO (impl_CompareData.f k a0 a1 a2) (impl_CompareData.f (k + 1) a0 a1 a2) := by
  intro a0 a1 a2 k
  have ih0 := impl_CompareData.mono_l k
  unfold impl_CompareData.f
  repeat' first
      | (with_reducible exact ih0 _ _ _ _)
      | (with_reducible exact impl_CheckData.mono _ _ _)
      | (with_reducible exact impl_FoldData.mono _ _ _)
      | (with_reducible exact LeO.refl _)
      | (with_reducible exact LeO.none _)
      | (with_reducible refine LeO.ite ?_ ?_)
      | (with_reducible refine LeO.bind ?_ (fun _ => ?_))
      | exact ih0 _ _ _ _
      | exact impl_CheckData.mono _ _ _
      | exact impl_FoldData.mono _ _ _
      | exact LeO.none _
      | refine LeO.ite ?_ ?_
      | refine LeO.bind ?_ (fun _ => ?_)
set_option maxHeartbeats 8000000 in
set_option maxRecDepth 100000 in
theorem impl_CompareData.calls (k : Nat) (a0 : Int) (a1 : ByteArray) (a2 : ByteArray) (r : Int) (w : World) (h : impl_CompareData.f k a0 a1 a2 = some r) (hG : Glob w) :
    Calls Tryd.prog 23 #[.int .i64 a0, .string a1, .string a2] w fun e w' => e = .returned (.int .i64 r) ∧ Below w.heap.size w w' := by
  have HG := Aside0.mk hG
  clear hG
  have HB := Aside0.mk (Below.refl w.heap.size w)
  have H : ((impl_CheckData.f k a0 a1).bind fun t101 => (if t101 = 0 then ((impl_CheckData.f k a0 a2).bind fun t102 => (impl_CompareData.j0 k a0 a1 a2 (t102 != 0))) else (impl_CompareData.j0 k a0 a1 a2 true))) = some r := h
  clear h
  have HC4 := Aside0.mk H
  clear H
  go_enter Tryd.func23, Tryd.ntmps23
  go_upto_region 1 with (fail)
  go_cut [16] (fun v16 wc => ∃ (kq : Nat) (x16_3 : Bool), v16 = .bool x16_3 ∧ Aside0 (impl_CompareData.j0 kq a0 a1 a2 x16_3 = some r) ∧ Aside0 (kq ≤ k) ∧ Aside0 (Below w.heap.size w wc))
  case first =>
    have H := HC4.out
    clear HC4
    replace H := Option.bind_eq_some_iff.mp H
    obtain ⟨t101, A50, H⟩ := H
    replace H : (if t101 = 0 then ((impl_CheckData.f k a0 a2).bind fun t102 => (impl_CompareData.j0 k a0 a1 a2 (t102 != 0))) else (impl_CompareData.j0 k a0 a1 a2 true)) = some r := H
    have A5 := Aside0.mk A50
    clear A50
    by_cases c6 : t101 = 0
    · rw [if_pos c6] at H
      have c6b0 : (t101 == 0) = true := beq_iff_eq.mpr c6
      have c6b1 : (t101 != 0) = false := bne_eq_false_iff_eq.mpr c6
      clear c6
      (first | rw [c6b0] | (simp only [i64_w, i32_w]; rw [c6b0]) | skip)
      replace H := Option.bind_eq_some_iff.mp H
      obtain ⟨t102, A70, H⟩ := H
      replace H : (impl_CompareData.j0 k a0 a1 a2 (t102 != 0)) = some r := H
      have A7 := Aside0.mk A70
      clear A70
      have H' := Aside0.mk H
      clear H
      go_wp2_with (first | ((with_reducible refine gate_callee (f := 10) rfl ?_); refine goesL_ (some 9) rfl rfl Tryd.func10 (by kernel_rfl) rfl #[.int .i64 a0, .string a1] rfl (by (try simp only [List.map_toArray, List.map_cons, List.map_nil]); first | done | rfl | (simp only [List.length_drop, List.length_take]; rfl)) ?_; (with_reducible refine (impl_CheckData.calls k a0 a1 t101 _ A5.out (HG.out.below (by repeat (first | (with_reducible first | exact HB.out | apply below_alloc | apply pw_below_drewN | apply below_drew1) | exact HB.out)))).mono ?_); rintro e w8 ⟨rfl, hb⟩; refine ⟨_, rfl, ?_⟩; have n0_ := Aside0.mk (below_step (by repeat (first | (with_reducible first | exact HB.out | apply below_alloc | apply pw_below_drewN | apply below_drew1) | exact HB.out)) hb); clear HB; have HB := n0_; clear n0_; (try clear hb); (try clear hb2); (try clear hk); (try clear hi)) | (go_at_call 10; (with_reducible refine (impl_CheckData.calls k a0 a2 t102 _ A7.out (HG.out.below (by repeat (first | (with_reducible first | exact HB.out | apply below_alloc | apply pw_below_drewN | apply below_drew1) | exact HB.out)))).mono ?_); rintro e w9 ⟨rfl, hb⟩; have n0_ := Aside0.mk (below_step (by repeat (first | (with_reducible first | exact HB.out | apply below_alloc | apply pw_below_drewN | apply below_drew1) | exact HB.out)) hb); clear HB; have HB := n0_; clear n0_; (try clear hb); (try clear hb2); (try clear hk); (try clear hi)))
      go_meet
      case rel => exact ⟨_, ((t102 != 0)), (by first | rfl | (simp; done) | (simp [*]; done)), H', ⟨by first | omega | exact Nat.le_refl _⟩, ⟨by repeat (first | (with_reducible first | exact HB.out | apply below_alloc | apply pw_below_drewN | apply below_drew1) | exact HB.out)⟩⟩
    · rw [if_neg c6] at H
      have c6b0 : (t101 == 0) = false := beq_eq_false_iff_ne.mpr c6
      have c6b1 : (t101 != 0) = true := bne_iff_ne.mpr c6
      (first | rw [c6b0] | (simp only [i64_w, i32_w]; rw [c6b0]) | skip)
      have H' := Aside0.mk H
      clear H
      go_wp2_with (first | ((with_reducible refine gate_callee (f := 10) rfl ?_); refine goesL_ (some 9) rfl rfl Tryd.func10 (by kernel_rfl) rfl #[.int .i64 a0, .string a1] rfl (by (try simp only [List.map_toArray, List.map_cons, List.map_nil]); first | done | rfl | (simp only [List.length_drop, List.length_take]; rfl)) ?_; (with_reducible refine (impl_CheckData.calls k a0 a1 t101 _ A5.out (HG.out.below (by repeat (first | (with_reducible first | exact HB.out | apply below_alloc | apply pw_below_drewN | apply below_drew1) | exact HB.out)))).mono ?_); rintro e w10 ⟨rfl, hb⟩; refine ⟨_, rfl, ?_⟩; have n0_ := Aside0.mk (below_step (by repeat (first | (with_reducible first | exact HB.out | apply below_alloc | apply pw_below_drewN | apply below_drew1) | exact HB.out)) hb); clear HB; have HB := n0_; clear n0_; (try clear hb); (try clear hb2); (try clear hk); (try clear hi)))
      go_meet
      case rel => exact ⟨_, (true), (by first | rfl | (simp; done) | (simp [*]; done)), H', ⟨by first | omega | exact Nat.le_refl _⟩, ⟨by repeat (first | (with_reducible first | exact HB.out | apply below_alloc | apply pw_below_drewN | apply below_drew1) | exact HB.out)⟩⟩
  case rest =>
    clear HC4
    try clear c1
    try clear c2
    try clear p2
    try clear c6
    try clear c6b0
    try clear c6b1
    try clear c10
    obtain ⟨kq, x16_3, rfl, HA, HJ3, HB⟩ := hcut
    cases kq with
    | zero => exact absurd HA.out (by simp [impl_CompareData.j0])
    | succ kj3 =>
      have H := HA.out
      clear HA
      simp only [impl_CompareData.j0] at H
      by_cases c11 : x16_3 = true
      · subst c11
        have H1 : (some 0) = some r := by rw [if_pos rfl] at H; exact H
        clear H
        have H := H1
        clear H1
        obtain rfl := Option.some.inj H
        go_wp2
        go_ret
        exact ⟨by first | rfl | (simp [errW_none, errW_some] <;> rfl) | (simp [*, errW_none, errW_some] <;> rfl), by repeat (first | (with_reducible first | exact HB.out | apply below_alloc | apply pw_below_drewN | apply below_drew1) | exact HB.out)⟩
      · replace c11 := Bool.eq_false_iff.mpr c11
        subst c11
        have H1 : ((impl_FoldData.f kj3 a0 a1).bind fun t103 => ((impl_FoldData.f kj3 a0 a2).bind fun t104 => ((strings_Compare.f t103 t104).bind fun t105 => (some t105)))) = some r := by rw [if_neg (show ¬ (false = true) by decide)] at H; exact H
        clear H
        have H := H1
        clear H1
        replace H := Option.bind_eq_some_iff.mp H
        obtain ⟨t103, A120, H⟩ := H
        replace H : ((impl_FoldData.f kj3 a0 a2).bind fun t104 => ((strings_Compare.f t103 t104).bind fun t105 => (some t105))) = some r := H
        have A12 := Aside0.mk A120
        clear A120
        replace H := Option.bind_eq_some_iff.mp H
        obtain ⟨t104, A130, H⟩ := H
        replace H : ((strings_Compare.f t103 t104).bind fun t105 => (some t105)) = some r := H
        have A13 := Aside0.mk A130
        clear A130
        replace H := Option.bind_eq_some_iff.mp H
        obtain ⟨t105, A140, H⟩ := H
        replace H : (some t105) = some r := H
        have A14 := Aside0.mk A140
        clear A140
        obtain rfl := Option.some.inj H
        go_wp2_with (first | ((with_reducible refine gate_callee (f := 21) rfl ?_); refine goesL_ (some 19) rfl rfl Tryd.func21 (by kernel_rfl) rfl #[.int .i64 a0, .string a1] rfl (by (try simp only [List.map_toArray, List.map_cons, List.map_nil]); first | done | rfl | (simp only [List.length_drop, List.length_take]; rfl)) ?_; (with_reducible refine (impl_FoldData.calls kj3 a0 a1 t103 _ A12.out (HG.out.below (by repeat (first | (with_reducible first | exact HB.out | apply below_alloc | apply pw_below_drewN | apply below_drew1) | exact HB.out)))).mono ?_); rintro e w15 ⟨rfl, hb⟩; refine ⟨_, rfl, ?_⟩; have n0_ := Aside0.mk (below_step (by repeat (first | (with_reducible first | exact HB.out | apply below_alloc | apply pw_below_drewN | apply below_drew1) | exact HB.out)) hb); clear HB; have HB := n0_; clear n0_; (try clear hb); (try clear hb2); (try clear hk); (try clear hi)) | ((with_reducible refine gate_callee (f := 21) rfl ?_); refine goesL_ (some 22) rfl rfl Tryd.func21 (by kernel_rfl) rfl #[.int .i64 a0, .string a2] rfl (by (try simp only [List.map_toArray, List.map_cons, List.map_nil]); first | done | rfl | (simp only [List.length_drop, List.length_take]; rfl)) ?_; (with_reducible refine (impl_FoldData.calls kj3 a0 a2 t104 _ A13.out (HG.out.below (by repeat (first | (with_reducible first | exact HB.out | apply below_alloc | apply pw_below_drewN | apply below_drew1) | exact HB.out)))).mono ?_); rintro e w16 ⟨rfl, hb⟩; refine ⟨_, rfl, ?_⟩; have n0_ := Aside0.mk (below_step (by repeat (first | (with_reducible first | exact HB.out | apply below_alloc | apply pw_below_drewN | apply below_drew1) | exact HB.out)) hb); clear HB; have HB := n0_; clear n0_; (try clear hb); (try clear hb2); (try clear hk); (try clear hi)) | ((with_reducible refine gate_callee (f := 35) rfl ?_); refine goesL_ (some 23) rfl rfl Tryd.func35 (by kernel_rfl) rfl #[.string t103, .string t104] rfl (by (try simp only [List.map_toArray, List.map_cons, List.map_nil]); first | done | rfl | (simp only [List.length_drop, List.length_take]; rfl)) ?_; (with_reducible refine (strings_Compare.calls t103 t104 t105 _ A14.out).mono ?_); rintro e w' ⟨rfl, ⟨nd, rfl⟩⟩; refine ⟨_, rfl, ?_⟩))
        go_ret
        exact ⟨by first | rfl | (simp [errW_none, errW_some] <;> rfl) | (simp [*, errW_none, errW_some] <;> rfl), by repeat (first | (with_reducible first | exact HB.out | apply below_alloc | apply pw_below_drewN | apply below_drew1) | exact HB.out)⟩

end Go.Proofs.YtbaajohjglhpfaaDoor.F
namespace Go.Proofs.YtbaajohjglhpfaaDoor.F
open Go Go.Shelf Go.RowKit Go.Proofs.YtbaajohjglhpfaaDoorW.PrintWords Go.Proofs.YtbaajohjglhpfaaDoorW.PrintLast Go.Proofs.YtbaajohjglhpfaaDoorW.PrintMore
attribute [local go_sem] max2_int min2_int max_two min_two max_three min_three max_four min_four   -- for this text's walks alone
set_option linter.unusedVariables false
set_option linter.unusedSimpArgs false

/-! ### laws_FnExactCompareData: function 8 -/
def laws_FnExactCompareData.f (k : Nat) (a0 : Int) (a1 : ByteArray) (a2 : ByteArray) : Option (Bool) := if (a1.size : Int) > 1048576 then (some true) else (if (a2.size : Int) > 1048576 then (some true) else ((spec_CompareData.f k a0 a1 a2).bind fun t101 => ((impl_CompareData.f k a0 a1 a2).bind fun t102 => (if t102 = t101 then (some true) else (some false)))))
theorem laws_FnExactCompareData.mono : ∀ a0 a1 a2 k, LeO (laws_FnExactCompareData.f k a0 a1 a2) (laws_FnExactCompareData.f (k + 1) a0 a1 a2) := by
  intro a0 a1 a2 k
  unfold laws_FnExactCompareData.f
  repeat' first
      | (with_reducible exact impl_CompareData.mono _ _ _ _)
      | (with_reducible exact spec_CompareData.mono _ _ _ _)
      | (with_reducible exact LeO.refl _)
      | (with_reducible exact LeO.none _)
      | (with_reducible refine LeO.ite ?_ ?_)
      | (with_reducible refine LeO.bind ?_ (fun _ => ?_))
      | exact impl_CompareData.mono _ _ _ _
      | exact spec_CompareData.mono _ _ _ _
      | exact LeO.none _
      | refine LeO.ite ?_ ?_
      | refine LeO.bind ?_ (fun _ => ?_)
set_option maxHeartbeats 8000000 in
set_option maxRecDepth 100000 in
theorem laws_FnExactCompareData.calls (k : Nat) (a0 : Int) (a1 : ByteArray) (a2 : ByteArray) (r : Bool) (w : World) (h : laws_FnExactCompareData.f k a0 a1 a2 = some r) (hG : Glob w) :
    Calls Tryd.prog 8 #[.int .i64 a0, .string a1, .string a2] w fun e w' => e = .returned (.bool r) ∧ Below w.heap.size w w' := by
  have HG := Aside0.mk hG
  clear hG
  have HB := Aside0.mk (Below.refl w.heap.size w)
  have H : (if (a1.size : Int) > 1048576 then (some true) else (if (a2.size : Int) > 1048576 then (some true) else ((spec_CompareData.f k a0 a1 a2).bind fun t101 => ((impl_CompareData.f k a0 a1 a2).bind fun t102 => (if t102 = t101 then (some true) else (some false)))))) = some r := h
  clear h
  by_cases c4 : (a1.size : Int) > 1048576
  · rw [if_pos c4] at H
    have c4b0 : decide (1048576 < (a1.size : Int)) = true := decide_eq_true c4
    have c4b1 : decide (1048576 < a1.size) = true := decide_eq_true (by omega)
    clear c4
    obtain rfl := Option.some.inj H
    go_enter Tryd.func8, Tryd.ntmps8
    go_wp2
    go_ret
    exact ⟨by first | rfl | (simp [errW_none, errW_some] <;> rfl) | (simp [*, errW_none, errW_some] <;> rfl), by repeat (first | (with_reducible first | exact HB.out | apply below_alloc | apply pw_below_drewN | apply below_drew1) | exact HB.out)⟩
  · rw [if_neg c4] at H
    have c4b0 : decide (1048576 < (a1.size : Int)) = false := decide_eq_false c4
    have c4b1 : decide (1048576 < a1.size) = false := decide_eq_false (by omega)
    clear c4
    by_cases c5 : (a2.size : Int) > 1048576
    · rw [if_pos c5] at H
      have c5b0 : decide (1048576 < (a2.size : Int)) = true := decide_eq_true c5
      have c5b1 : decide (1048576 < a2.size) = true := decide_eq_true (by omega)
      clear c5
      obtain rfl := Option.some.inj H
      go_enter Tryd.func8, Tryd.ntmps8
      go_wp2
      go_ret
      exact ⟨by first | rfl | (simp [errW_none, errW_some] <;> rfl) | (simp [*, errW_none, errW_some] <;> rfl), by repeat (first | (with_reducible first | exact HB.out | apply below_alloc | apply pw_below_drewN | apply below_drew1) | exact HB.out)⟩
    · rw [if_neg c5] at H
      have c5b0 : decide (1048576 < (a2.size : Int)) = false := decide_eq_false c5
      have c5b1 : decide (1048576 < a2.size) = false := decide_eq_false (by omega)
      clear c5
      replace H := Option.bind_eq_some_iff.mp H
      obtain ⟨t101, A60, H⟩ := H
      replace H : ((impl_CompareData.f k a0 a1 a2).bind fun t102 => (if t102 = t101 then (some true) else (some false))) = some r := H
      have A6 := Aside0.mk A60
      clear A60
      replace H := Option.bind_eq_some_iff.mp H
      obtain ⟨t102, A70, H⟩ := H
      replace H : (if t102 = t101 then (some true) else (some false)) = some r := H
      have A7 := Aside0.mk A70
      clear A70
      by_cases c8 : t102 = t101
      · rw [if_pos c8] at H
        have c8b0 : (t102 == t101) = true := beq_iff_eq.mpr c8
        have c8b1 : (t102 != t101) = false := bne_eq_false_iff_eq.mpr c8
        clear c8
        obtain rfl := Option.some.inj H
        go_enter Tryd.func8, Tryd.ntmps8
        go_wp2_with (first | ((with_reducible refine gate_callee (f := 22) rfl ?_); refine goesL_ (some 18) rfl rfl Tryd.func22 (by kernel_rfl) rfl #[.int .i64 a0, .string a1, .string a2] rfl (by (try simp only [List.map_toArray, List.map_cons, List.map_nil]); first | done | rfl | (simp only [List.length_drop, List.length_take]; rfl)) ?_; (with_reducible refine (spec_CompareData.calls k a0 a1 a2 t101 _ A6.out).mono ?_); rintro e w9 ⟨rfl, hb⟩; refine ⟨_, rfl, ?_⟩; have n0_ := Aside0.mk (below_step (by repeat (first | (with_reducible first | exact HB.out | apply below_alloc | apply pw_below_drewN | apply below_drew1) | exact HB.out)) hb); clear HB; have HB := n0_; clear n0_; (try clear hb); (try clear hb2); (try clear hk); (try clear hi)) | ((with_reducible refine gate_callee (f := 23) rfl ?_); refine goesL_ (some 22) rfl rfl Tryd.func23 (by kernel_rfl) rfl #[.int .i64 a0, .string a1, .string a2] rfl (by (try simp only [List.map_toArray, List.map_cons, List.map_nil]); first | done | rfl | (simp only [List.length_drop, List.length_take]; rfl)) ?_; (with_reducible refine (impl_CompareData.calls k a0 a1 a2 t102 _ A7.out (HG.out.below (by repeat (first | (with_reducible first | exact HB.out | apply below_alloc | apply pw_below_drewN | apply below_drew1) | exact HB.out)))).mono ?_); rintro e w10 ⟨rfl, hb⟩; refine ⟨_, rfl, ?_⟩; have n0_ := Aside0.mk (below_step (by repeat (first | (with_reducible first | exact HB.out | apply below_alloc | apply pw_below_drewN | apply below_drew1) | exact HB.out)) hb); clear HB; have HB := n0_; clear n0_; (try clear hb); (try clear hb2); (try clear hk); (try clear hi)))
        go_ret
        exact ⟨by first | rfl | (simp [errW_none, errW_some] <;> rfl) | (simp [*, errW_none, errW_some] <;> rfl), by repeat (first | (with_reducible first | exact HB.out | apply below_alloc | apply pw_below_drewN | apply below_drew1) | exact HB.out)⟩
      · rw [if_neg c8] at H
        have c8b0 : (t102 == t101) = false := beq_eq_false_iff_ne.mpr c8
        have c8b1 : (t102 != t101) = true := bne_iff_ne.mpr c8
        obtain rfl := Option.some.inj H
        go_enter Tryd.func8, Tryd.ntmps8
        go_wp2_with (first | ((with_reducible refine gate_callee (f := 22) rfl ?_); refine goesL_ (some 18) rfl rfl Tryd.func22 (by kernel_rfl) rfl #[.int .i64 a0, .string a1, .string a2] rfl (by (try simp only [List.map_toArray, List.map_cons, List.map_nil]); first | done | rfl | (simp only [List.length_drop, List.length_take]; rfl)) ?_; (with_reducible refine (spec_CompareData.calls k a0 a1 a2 t101 _ A6.out).mono ?_); rintro e w11 ⟨rfl, hb⟩; refine ⟨_, rfl, ?_⟩; have n0_ := Aside0.mk (below_step (by repeat (first | (with_reducible first | exact HB.out | apply below_alloc | apply pw_below_drewN | apply below_drew1) | exact HB.out)) hb); clear HB; have HB := n0_; clear n0_; (try clear hb); (try clear hb2); (try clear hk); (try clear hi)) | ((with_reducible refine gate_callee (f := 23) rfl ?_); refine goesL_ (some 22) rfl rfl Tryd.func23 (by kernel_rfl) rfl #[.int .i64 a0, .string a1, .string a2] rfl (by (try simp only [List.map_toArray, List.map_cons, List.map_nil]); first | done | rfl | (simp only [List.length_drop, List.length_take]; rfl)) ?_; (with_reducible refine (impl_CompareData.calls k a0 a1 a2 t102 _ A7.out (HG.out.below (by repeat (first | (with_reducible first | exact HB.out | apply below_alloc | apply pw_below_drewN | apply below_drew1) | exact HB.out)))).mono ?_); rintro e w12 ⟨rfl, hb⟩; refine ⟨_, rfl, ?_⟩; have n0_ := Aside0.mk (below_step (by repeat (first | (with_reducible first | exact HB.out | apply below_alloc | apply pw_below_drewN | apply below_drew1) | exact HB.out)) hb); clear HB; have HB := n0_; clear n0_; (try clear hb); (try clear hb2); (try clear hk); (try clear hi)))
        go_ret
        exact ⟨by first | rfl | (simp [errW_none, errW_some] <;> rfl) | (simp [*, errW_none, errW_some] <;> rfl), by repeat (first | (with_reducible first | exact HB.out | apply below_alloc | apply pw_below_drewN | apply below_drew1) | exact HB.out)⟩

/-- THE ONE PURE STATEMENT of laws_FnExactCompareData: yours. -/
def laws_FnExactCompareData.Pure : Prop := ∀ (a0 : Int) (a1 : ByteArray) (a2 : ByteArray), (Lit.int .i64 a0).wf = true → a1.size ≤ 140737488351232 → a2.size ≤ 140737488351232 → ∃ k, laws_FnExactCompareData.f k a0 a1 a2 = some true
theorem laws_FnExactCompareData.walk (P : laws_FnExactCompareData.Pure) (a0 : Int) (a1 : ByteArray) (a2 : ByteArray) (w : World) (w0 : (Lit.int .i64 a0).wf = true) (w1 : a1.size ≤ 140737488351232) (w2 : a2.size ≤ 140737488351232) (hG : Glob w) :
    Calls Tryd.prog 8 #[.int .i64 a0, .string a1, .string a2] w fun e w' => e = .returned (.bool true) ∧ Below w.heap.size w w' := by
  obtain ⟨k, h⟩ := P a0 a1 a2 w0 w1 w2
  refine (laws_FnExactCompareData.calls k a0 a1 a2 true w h hG).mono ?_
  rintro e w' ⟨rfl, hd⟩
  exact ⟨rfl, hd⟩

end Go.Proofs.YtbaajohjglhpfaaDoor.F
namespace Go.Proofs.YtbaajohjglhpfaaDoor.Base
open Go.RowKit Go.Proofs.YtbaajohjglhpfaaDoorW.PrintWords Go.Proofs.YtbaajohjglhpfaaDoorW.PrintMore

theorem w64 {x : Int} (h0 : -9223372036854775808 ≤ x) (h1 : x ≤ 9223372036854775807) : wrap64 x = x := by
  unfold wrap64
  omega

def L (s : ByteArray) : List UInt8 := s.data.toList
def B (l : List UInt8) : ByteArray := ⟨l.toArray⟩
theorem L_B (l : List UInt8) : L (B l) = l := by simp [L, B]
theorem B_L (s : ByteArray) : B (L s) = s := by simp [L, B]
theorem L_inj {a b : ByteArray} (h : L a = L b) : a = b := by rw [← B_L a, ← B_L b, h]
theorem L_iff {a b : ByteArray} : L a = L b ↔ a = b := ⟨L_inj, fun h => by rw [h]⟩
theorem size_L (s : ByteArray) : s.size = (L s).length := by simp [L]
theorem toL (s : ByteArray) : s.toList = L s := Lib.toList_data s
theorem L_extract (s : ByteArray) (i j : Nat) : L (s.extract i j) = ((L s).drop i).take (j - i) := by
  simp [L, ByteArray.data_extract]
theorem L_append (a b : ByteArray) : L (a ++ b) = L a ++ L b := by
  simp [L, ByteArray.data_append]
theorem bt_L (s : ByteArray) (i : Int) : bt s i = (((L s).getD i.toNat 0).toNat : Int) := by
  unfold bt
  split
  · rename_i h
    have h' : i.toNat < (L s).length := by rw [← size_L]; exact h
    rw [List.getD_eq_getElem?_getD, List.getElem?_eq_getElem h']
    rfl
  · rename_i h
    have h' : (L s).length ≤ i.toNat := by rw [← size_L]; omega
    rw [List.getD_eq_getElem?_getD, List.getElem?_eq_none h']
    rfl
theorem bt_mid {x : ByteArray} {p : List UInt8} {c : UInt8} {r : List UInt8} (h : L x = p ++ c :: r) {i : Int} (hi : i = (p.length : Int)) : bt x i = (c.toNat : Int) := by
  rw [bt_L, h, hi]
  simp [List.getD_eq_getElem?_getD]
theorem bt_cons {x : ByteArray} {c : UInt8} {r : List UInt8} (h : L x = c :: r) : bt x 0 = (c.toNat : Int) := bt_mid (p := []) h rfl
theorem L_strOfNums (xs : List Int) : L (strOfNums xs) = xs.map fun n => UInt8.ofNat n.toNat := by simp [L, strOfNums]
theorem byte_le (c : UInt8) : (c.toNat : Int) ≤ 255 := by have := c.toNat_lt; omega
theorem byte_id (c : UInt8) : UInt8.ofNat ((c.toNat : Int)).toNat = c := by simp

theorem drop_len {α : Type} (p t : List α) (k : Nat) : (p ++ t).drop (p.length + k) = t.drop k := by
  rw [List.drop_append, List.drop_eq_nil_of_le (by omega), List.nil_append, Nat.add_sub_cancel_left]
theorem getD_len {α : Type} (p t : List α) (k : Nat) (d : α) : (p ++ t).getD (p.length + k) d = t.getD k d := by
  simp [List.getD_eq_getElem?_getD, List.getElem?_append_right]

/-- The labels of a name's bytes; none: they are no name (but for the limit on the whole). -/
def labs : List UInt8 → Option (List ByteArray)
  | [] => none
  | c :: r => if c.toNat = 0 then (if r = [] then some [] else none) else if 63 < c.toNat then none else if r.length < c.toNat then none else (labs (r.drop c.toNat)).map (B (r.take c.toNat) :: ·)
  termination_by l => l.length
  decreasing_by simp; omega

/-- The labels of a name. -/
def names (l : List UInt8) : Option (List ByteArray) := if l.length < 1 ∨ 255 < l.length then none else labs l

/-- What a cut in labels answers that had come to some. -/
def res (acc : List ByteArray) : Option (List ByteArray) → List ByteArray × Bool
  | none => ([], false)
  | some ls => (acc ++ ls, true)
theorem res_map (acc : List ByteArray) (b : ByteArray) (o : Option (List ByteArray)) : res acc (o.map (b :: ·)) = res (acc ++ [b]) o := by
  cases o <;> simp [res]

/-- What the other cut in labels leaves where it fails. -/
def jk (acc : List ByteArray) : List UInt8 → List ByteArray
  | [] => []
  | c :: r => if c.toNat = 0 then acc else if 63 < c.toNat then [] else if r.length < c.toNat then [] else jk (acc ++ [B (r.take c.toNat)]) (r.drop c.toNat)
  termination_by l => l.length
  decreasing_by simp; omega
def res2 (acc : List ByteArray) (l : List UInt8) : List ByteArray × Bool := match labs l with
  | none => (jk acc l, false)
  | some ls => (acc ++ ls, true)
theorem labs_count : ∀ (n : Nat) (l : List UInt8), l.length ≤ n → ∀ ls, labs l = some ls → ls.length + 1 ≤ l.length := by
  intro n
  induction n with
  | zero =>
    intro l hl ls h
    obtain rfl : l = [] := List.length_eq_zero_iff.1 (by omega)
    simp [labs] at h
  | succ n ih =>
    intro l hl ls h
    cases l with
    | nil => simp [labs] at h
    | cons c r =>
      simp only [List.length_cons] at hl ⊢
      rw [labs] at h
      by_cases h0 : c.toNat = 0
      · rw [if_pos h0] at h
        by_cases hr : r = []
        · rw [if_pos hr] at h
          obtain rfl := Option.some.inj h
          simp
        · rw [if_neg hr] at h
          cases h
      · rw [if_neg h0] at h
        by_cases h63 : 63 < c.toNat
        · rw [if_pos h63] at h
          cases h
        · rw [if_neg h63] at h
          by_cases hl2 : r.length < c.toNat
          · rw [if_pos hl2] at h
            cases h
          · rw [if_neg hl2] at h
            obtain ⟨t, ht, rfl⟩ := Option.map_eq_some_iff.1 h
            have := ih (r.drop c.toNat) (by simp; omega) t ht
            simp at this ⊢
            omega
theorem names_count {l : List UInt8} {ls : List ByteArray} (h : names l = some ls) : ls.length ≤ 254 := by
  unfold names at h
  split at h
  · cases h
  · have := labs_count _ l (Nat.le_refl _) ls h
    omega
end Go.Proofs.YtbaajohjglhpfaaDoor.Base
namespace Go.Proofs.YtbaajohjglhpfaaDoor.Base
open Go.RowKit Go.Proofs.YtbaajohjglhpfaaDoorW.PrintWords Go.Proofs.YtbaajohjglhpfaaDoorW.PrintLast
/-- How many bytes the name has with which the bytes begin, found from a position on; 0: none. -/
def nmP (x : List UInt8) : Nat → Nat → Nat
  | 0, _ => 0
  | d + 1, p => match x.drop p with
    | [] => 0
    | c :: _ => if c.toNat = 0 then (if 255 < p + 1 then 0 else p + 1) else if 63 < c.toNat then 0 else nmP x d (p + 1 + c.toNat)
theorem drop_at {x : List UInt8} {p : Nat} (h : p < x.length) : x.drop p = x[p] :: x.drop (p + 1) := List.drop_eq_getElem_cons h
theorem bt_get {x : ByteArray} {p : Nat} (h : p < (L x).length) : bt x (p : Int) = (((L x)[p]).toNat : Int) := by
  rw [bt_L, Int.toNat_natCast, List.getD_eq_getElem?_getD, List.getElem?_eq_getElem h]
  rfl
theorem nmP_big (x : List UInt8) : ∀ (d p : Nat), 255 ≤ p → nmP x d p = 0 := by
  intro d
  induction d with
  | zero => intro p _; rfl
  | succ d ih =>
    intro p hp
    rw [nmP]
    split
    · rfl
    · split
      · rw [if_pos (by omega)]
      · split
        · rfl
        · exact ih _ (by omega)
theorem nmP_le (x : List UInt8) : ∀ (d p : Nat), nmP x d p ≤ x.length ∧ nmP x d p ≤ 255 := by
  intro d
  induction d with
  | zero => intro p; exact ⟨Nat.zero_le _, Nat.zero_le _⟩
  | succ d ih =>
    intro p
    rw [nmP]
    split
    · exact ⟨Nat.zero_le _, Nat.zero_le _⟩
    · rename_i c r h
      split
      · split
        · exact ⟨Nat.zero_le _, Nat.zero_le _⟩
        · refine ⟨?_, by omega⟩
          have : (x.drop p).length ≥ 1 := by rw [h]; simp
          rw [List.length_drop] at this
          omega
      · split
        · exact ⟨Nat.zero_le _, Nat.zero_le _⟩
        · exact ih _
/-- The name's length at the beginning. -/
def nm (x : List UInt8) : Nat := nmP x (x.length + 1) 0
/-- The short text's length at the beginning; 0: none. -/
def tx : List UInt8 → Nat
  | [] => 0
  | c :: r => if r.length < c.toNat then 0 else c.toNat + 1
theorem nmP_gt (x : List UInt8) : ∀ (d p : Nat), nmP x d p ≠ 0 → p < nmP x d p := by
  intro d
  induction d with
  | zero => intro p h; exact absurd rfl h
  | succ d ih =>
    intro p h
    cases hx : x.drop p with
    | nil => rw [nmP, hx] at h; exact absurd rfl h
    | cons c r =>
      rw [nmP, hx] at h ⊢
      dsimp only at h ⊢
      by_cases h0 : c.toNat = 0
      · rw [if_pos h0] at h ⊢
        by_cases h1 : 255 < p + 1
        · rw [if_pos h1] at h; exact absurd rfl h
        · rw [if_neg h1]
          omega
      · rw [if_neg h0] at h ⊢
        by_cases h1 : 63 < c.toNat
        · rw [if_pos h1] at h; exact absurd rfl h
        · rw [if_neg h1] at h ⊢
          have := ih _ h
          omega
theorem nmP_labs (x : List UInt8) : ∀ (d p : Nat), nmP x d p ≠ 0 → ∃ ls, labs ((x.drop p).take (nmP x d p - p)) = some ls := by
  intro d
  induction d with
  | zero => intro p h; exact absurd rfl h
  | succ d ih =>
    intro p h
    have hle := (nmP_le x (d + 1) p).1
    cases hx : x.drop p with
    | nil => rw [nmP, hx] at h; exact absurd rfl h
    | cons c r =>
      rw [nmP, hx] at h hle ⊢
      dsimp only at h hle ⊢
      by_cases h0 : c.toNat = 0
      · rw [if_pos h0] at h hle ⊢
        by_cases h1 : 255 < p + 1
        · rw [if_pos h1] at h; exact absurd rfl h
        · rw [if_neg h1, show p + 1 - p = 1 from by omega]
          exact ⟨[], by rw [List.take_succ_cons, List.take_zero, labs, if_pos h0, if_pos rfl]⟩
      · rw [if_neg h0] at h hle ⊢
        by_cases h1 : 63 < c.toNat
        · rw [if_pos h1] at h; exact absurd rfl h
        · rw [if_neg h1] at h hle ⊢
          have hgt := nmP_gt x d _ h
          obtain ⟨ls, hls⟩ := ih _ h
          have hr : x.drop (p + 1) = r := by rw [← List.drop_drop, hx]; rfl
          have hrl : r.length = x.length - (p + 1) := by rw [← hr, List.length_drop]
          generalize nmP x d (p + 1 + c.toNat) = n at *
          rw [show n - p = (n - p - 1) + 1 from by omega, List.take_succ_cons, labs, if_neg h0, if_neg h1, if_neg (by rw [List.length_take]; omega)]
          have e : (r.take (n - p - 1)).drop c.toNat = (x.drop (p + 1 + c.toNat)).take (n - (p + 1 + c.toNat)) := by
            rw [List.drop_take, ← List.drop_drop, hr]
            congr 1
            omega
          rw [e, hls]
          exact ⟨_, rfl⟩
theorem nm_names (x : List UInt8) (h : nm x ≠ 0) : (names (x.take (nm x))).isSome = true := by
  have h1 := nmP_le x (x.length + 1) 0
  obtain ⟨ls, hl⟩ := nmP_labs x (x.length + 1) 0 h
  unfold nm at h ⊢
  rw [List.drop_zero, Nat.sub_zero] at hl
  unfold names
  rw [List.length_take, Nat.min_eq_left h1.1, if_neg (by omega), hl]
  rfl
theorem toList_nil (x : ByteArray) : (x.toList = []) ↔ L x = [] := by rw [toL]
end Go.Proofs.YtbaajohjglhpfaaDoor.Base
namespace Go.Proofs.YtbaajohjglhpfaaDoor.Base
open Go Go.RowKit Go.Proofs.YtbaajohjglhpfaaDoorW.PrintWords Go.Proofs.YtbaajohjglhpfaaDoorW.PrintMore

theorem wrap_u64 (n : Int) : IntKind.u64.wrap n = n % 18446744073709551616 := by simp [IntKind.wrap, IntKind.bits, IntKind.signed]
theorem u8_and1 (x : Int) (h0 : 0 ≤ x) (h1 : x < 256) : bits .and .u8 x 1 = x % 2 := bits_mask .u8 8 (by decide) wraps_u8 1 (by decide) x h0 h1
theorem bit_iff (c : UInt8) (n : Nat) (hn : n ≤ 7) (s : Int) (hs : s = (n : Int)) : (bits .and .u8 (shr .u8 (c.toNat : Int) s) 1 = 1) ↔ (c.toNat / 2 ^ n) % 2 = 1 := by
  subst hs
  have hc := byte_le c
  have e : shr .u8 (c.toNat : Int) (n : Int) = ((c.toNat / 2 ^ n : Nat) : Int) := by
    unfold shr
    rw [Int.toNat_natCast, Nat.min_eq_left (by simp only [IntKind.bits]; omega)]
    simp
  have hle : c.toNat / 2 ^ n ≤ c.toNat := Nat.div_le_self _ _
  rw [e]
  generalize c.toNat / 2 ^ n = q at hle ⊢
  rw [u8_and1 _ (by omega) (by omega)]
  omega

/-- Bit i of a row of bytes, the first byte's highest first. -/
def bitAt (b : List UInt8) (i : Nat) : Bool := decide (((b.getD (i / 8) 0).toNat / 2 ^ (7 - i % 8)) % 2 = 1)
/-- The types of a block: those of n bits from lo on. -/
def blk (w : Nat) (b : List UInt8) : Nat → Nat → List Int
  | _, 0 => []
  | lo, n + 1 => (if bitAt b lo = true then [256 * (w : Int) + (lo : Int)] else []) ++ blk w b (lo + 1) n
theorem blk_length (w : Nat) (b : List UInt8) : ∀ n lo, (blk w b lo n).length ≤ n := by
  intro n
  induction n with
  | zero => intro lo; simp [blk]
  | succ n ih =>
    intro lo
    have := ih (lo + 1)
    unfold blk
    split <;> simp <;> omega
theorem blk_add (w : Nat) (b : List UInt8) : ∀ m n lo, blk w b lo (m + n) = blk w b lo m ++ blk w b (lo + m) n := by
  intro m
  induction m with
  | zero => intro n lo; simp [blk]
  | succ m ih =>
    intro n lo
    rw [show m + 1 + n = (m + n) + 1 from by omega]
    rw [blk, blk, ih n (lo + 1), show lo + 1 + m = lo + (m + 1) from by omega, List.append_assoc]
/-- The types of a map whose blocks are above last; none: it is no map. -/
def tmap (last : Int) : List UInt8 → Option (List Int)
  | [] => some []
  | [_] => none
  | w :: n :: r => if (w.toNat : Int) ≤ last then none else if n.toNat < 1 then none else if 32 < n.toNat then none else if r.length < n.toNat then none else if (r.getD (n.toNat - 1) 0).toNat = 0 then none else (tmap (w.toNat : Int) (r.drop n.toNat)).map (blk w.toNat r 0 (8 * n.toNat) ++ ·)
  termination_by l => l.length
  decreasing_by simp; omega
theorem tmap_length : ∀ (N : Nat) (l : List UInt8) (last : Int) (ts : List Int), l.length ≤ N → tmap last l = some ts → ts.length ≤ 8 * l.length := by
  intro N
  induction N with
  | zero =>
    intro l last ts hl h
    obtain rfl : l = [] := List.length_eq_zero_iff.1 (by omega)
    simp [tmap] at h
    subst h
    simp
  | succ N ih =>
    intro l last ts hl h
    match l, hl, h with
    | [], hl, h => simp [tmap] at h; subst h; simp
    | [_], hl, h => simp [tmap] at h
    | w :: n :: r, hl, h =>
      simp only [List.length_cons] at hl ⊢
      rw [tmap] at h
      repeat' (split at h; · cases h)
      obtain ⟨t, ht, rfl⟩ := Option.map_eq_some_iff.1 h
      have h1 := ih (r.drop n.toNat) _ t (by simp; omega) ht
      have h2 := blk_length w.toNat r (8 * n.toNat) 0
      simp at h1 ⊢
      omega
def mres (acc : List Int) : Option (List Int) → List Int × Int
  | none => ([], 7)
  | some t => (acc ++ t, 0)
theorem mres_map (acc t : List Int) (o : Option (List Int)) : mres acc (o.map (t ++ ·)) = mres (acc ++ t) o := by
  cases o <;> simp [mres]
end Go.Proofs.YtbaajohjglhpfaaDoor.Base
namespace Go.Proofs.YtbaajohjglhpfaaDoor.Base
open Go.RowKit Go.Proofs.YtbaajohjglhpfaaDoorW.PrintWords Go.Proofs.YtbaajohjglhpfaaDoorW.PrintLast
def alnum (c : UInt8) : Bool := (decide (48 ≤ c.toNat) && decide (c.toNat ≤ 57)) || ((decide (97 ≤ c.toNat) && decide (c.toNat ≤ 122)) || (decide (65 ≤ c.toNat) && decide (c.toNat ≤ 90)))
/-- Short texts, one behind another, to the very end. -/
def exact : Nat → List UInt8 → Bool
  | _, [] => true
  | 0, _ => false
  | d + 1, c :: r => if r.length < c.toNat then false else exact d (r.drop c.toNat)
/-- What a letter of the program's forms takes. -/
def con (c : Nat) (l : List UInt8) : Option Nat :=
  if c = 49 then (if l.length < 1 then none else some 1) else if c = 50 then (if l.length < 2 then none else some 2) else if c = 52 ∨ c = 103 ∨ c = 113 then (if l.length < 4 then none else some 4)
  else if c = 110 then (if nm l = 0 then none else some (nm l)) else if c = 116 then (if tx l = 0 then none else some (tx l))
  else if c = 99 then (if tx l < 2 ∨ 16 < tx l then none else if ((l.take (tx l)).drop 1).all alnum then some (tx l) else none)
  else if c = 84 then (if l = [] then none else if exact l.length l then some l.length else none)
  else if c = 109 then (if (tmap (-1) l).isSome then some l.length else none) else if c = 42 then some l.length else none
def pg : List UInt8 → List UInt8 → Bool
  | [], l => l.isEmpty
  | c :: r, l => match con c.toNat l with | none => false | some n => pg r (l.drop n)
/-- The stretches that the names take, by the program's forms. -/
def psp : List UInt8 → Nat → List UInt8 → List (Nat × Nat)
  | [], _, _ => []
  | c :: r, p, l => match con c.toNat l with
    | none => []
    | some n => (if c.toNat = 110 then [(p, p + n)] else []) ++ psp r (p + n) (l.drop n)
def letters (l : List UInt8) : Prop := ∀ c ∈ l, c.toNat ∈ [49, 50, 52, 103, 113, 110, 116, 99, 84, 109, 42]
theorem tx_le (l : List UInt8) : tx l ≤ l.length := by
  cases l with
  | nil => exact Nat.zero_le _
  | cons c r => rw [tx]; split <;> simp <;> omega
theorem nm_le (l : List UInt8) : nm l ≤ l.length := (nmP_le l _ _).1
end Go.Proofs.YtbaajohjglhpfaaDoor.Base
namespace Go.Proofs.YtbaajohjglhpfaaDoor.Pure
open Go.RowKit Go.Proofs.YtbaajohjglhpfaaDoor.F Go.Proofs.YtbaajohjglhpfaaDoor.Base Go.Proofs.YtbaajohjglhpfaaDoorW.PrintWords Go.Proofs.YtbaajohjglhpfaaDoorW.PrintLast Go.Proofs.YtbaajohjglhpfaaDoorW.PrintMore
set_option linter.unusedVariables false
set_option linter.unusedSimpArgs false
-- base: BaseMap
theorem impl_MapTypes_l2 (x : ByteArray) (w n : UInt8) (p r : List UInt8) (hx : L x = p ++ w :: n :: r) (hp : p.length ≤ 10000000) (h3 : n.toNat ≤ 32) (h4 : n.toNat ≤ r.length) (last kk : Nat) (hkk : kk < n.toNat) (m : Nat) : ∀ (d j : Nat) (acc : List Int), j + d = 8 → acc.length + d ≤ 100000000 → impl_MapTypes.l2 (d + 1 + m) x acc (last : Int) (p.length : Int) (w.toNat : Int) (n.toNat : Int) (kk : Int) (j : Int) = impl_MapTypes.l1 m x (acc ++ blk w.toNat r (8 * kk + j) d) (last : Int) (p.length : Int) (w.toNat : Int) (n.toNat : Int) ((kk + 1 : Nat) : Int) := by
  have hs := size_L x
  rw [hx] at hs
  simp only [List.length_append, List.length_cons] at hs
  have hw := byte_le w
  intro d
  induction d with
  | zero =>
    intro j acc hj hb
    rw [show 0 + 1 + m = m + 1 from by omega]
    simp only [impl_MapTypes.l2]
    rw [if_neg (by omega), w64 (by omega) (by omega)]
    simp [blk]
  | succ d ih =>
    intro j acc hj hb
    rw [show d + 1 + 1 + m = (d + 1 + m) + 1 from by omega]
    simp only [impl_MapTypes.l2]
    rw [if_pos (by omega)]
    simp (maxSteps := 10000000) (disch := omega) only [w64]
    rw [if_pos (by omega), if_pos (by omega), if_pos (by omega)]
    have b2 : bt x ((p.length : Int) + 2 + (kk : Int)) = ((r.getD kk 0).toNat : Int) := by
      rw [bt_L, hx, show ((p.length : Int) + 2 + (kk : Int)).toNat = p.length + (kk + 2) from by omega, getD_len]
      simp [List.getD_eq_getElem?_getD]
    rw [b2]
    have hbit := bit_iff (r.getD kk 0) (7 - j) (by omega) (7 - (j : Int)) (by omega)
    have e8 : (8 * kk + j) / 8 = kk := by omega
    have e8' : (8 * kk + j) % 8 = j := by omega
    rw [blk]
    by_cases hB : bitAt r (8 * kk + j) = true
    · have hB' : ((r.getD kk 0).toNat / 2 ^ (7 - j)) % 2 = 1 := by unfold bitAt at hB; rw [e8, e8'] at hB; exact of_decide_eq_true hB
      rw [if_pos (hbit.2 hB'), if_pos (by omega), if_pos hB]
      have := ih (j + 1) (acc ++ [256 * (w.toNat : Int) + ((8 * kk + j : Nat) : Int)]) (by omega) (by simp; omega)
      rw [show ((j + 1 : Nat) : Int) = (j : Int) + 1 from by omega, List.append_assoc, show 8 * kk + (j + 1) = 8 * kk + j + 1 from by omega] at this
      rw [← this, show 256 * (w.toNat : Int) + ((8 * kk + j : Nat) : Int) = 256 * (w.toNat : Int) + 8 * (kk : Int) + (j : Int) from by omega]
    · have hB' : ¬ ((r.getD kk 0).toNat / 2 ^ (7 - j)) % 2 = 1 := by unfold bitAt at hB; rw [e8, e8'] at hB; simpa using hB
      rw [if_neg (fun h => hB' (hbit.1 h)), if_neg hB]
      have := ih (j + 1) acc (by omega) (by omega)
      rw [show ((j + 1 : Nat) : Int) = (j : Int) + 1 from by omega, show 8 * kk + (j + 1) = 8 * kk + j + 1 from by omega] at this
      rw [this, List.nil_append]
theorem impl_MapTypes_l1 (x : ByteArray) (w n : UInt8) (p r : List UInt8) (hx : L x = p ++ w :: n :: r) (hp : p.length ≤ 10000000) (h3 : n.toNat ≤ 32) (h4 : n.toNat ≤ r.length) (last : Nat) (m : Nat) : ∀ (d kk : Nat) (acc : List Int), kk + d = n.toNat → acc.length + 8 * d ≤ 100000000 → impl_MapTypes.l1 (10 * d + 1 + m) x acc (last : Int) (p.length : Int) (w.toNat : Int) (n.toNat : Int) (kk : Int) = impl_MapTypes.l0 m x (acc ++ blk w.toNat r (8 * kk) (8 * d)) (last : Int) ((p.length + 2 + n.toNat : Nat) : Int) := by
  intro d
  induction d with
  | zero =>
    intro kk acc hk hb
    rw [show 10 * 0 + 1 + m = m + 1 from by omega]
    simp only [impl_MapTypes.l1]
    rw [if_neg (by omega)]
    simp (maxSteps := 10000000) (disch := omega) only [w64]
    simp only [Nat.mul_zero, blk, List.append_nil]
    rw [show (p.length : Int) + (2 + (n.toNat : Int)) = ((p.length + 2 + n.toNat : Nat) : Int) from by omega]
  | succ d ih =>
    intro kk acc hk hb
    rw [show 10 * (d + 1) + 1 + m = (8 + 1 + (10 * d + 1 + m)) + 1 from by omega]
    simp only [impl_MapTypes.l1]
    rw [if_pos (by omega)]
    have h2 := impl_MapTypes_l2 x w n p r hx hp h3 h4 last kk (by omega) (10 * d + 1 + m) 8 0 acc (by omega) (by omega)
    rw [show ((0 : Nat) : Int) = 0 from rfl] at h2
    have hl := blk_length w.toNat r 8 (8 * kk + 0)
    rw [h2, ih (kk + 1) _ (by omega) (by simp only [List.length_append]; omega), List.append_assoc, show 8 * (d + 1) = 8 + 8 * d from by omega, blk_add, show 8 * (kk + 1) = 8 * kk + 8 from by omega, Nat.add_zero]
theorem impl_MapTypes_l0 (x : ByteArray) (hx0 : x.size ≤ 1048576) : ∀ (N k : Nat) (acc : List Int) (last : Int) (p r : List UInt8), L x = p ++ r → r.length ≤ N → 400 * N < k → acc.length + 8 * r.length ≤ 90000000 → impl_MapTypes.l0 k x acc last (p.length : Int) = some (mres acc (tmap last r)) := by
  intro N
  induction N with
  | zero =>
    intro k acc last p r hx hn hk hb
    obtain ⟨k, rfl⟩ : ∃ m, k = m + 1 := ⟨k - 1, by omega⟩
    obtain rfl : r = [] := List.length_eq_zero_iff.1 (by omega)
    have hs := size_L x
    rw [hx] at hs
    simp only [List.append_nil] at hs
    simp only [impl_MapTypes.l0]
    rw [if_neg (by omega)]
    simp [tmap, mres]
  | succ N ih =>
    intro k acc last p r hx hn hk hb
    obtain ⟨k, rfl⟩ : ∃ m, k = m + 1 := ⟨k - 1, by omega⟩
    have hs := size_L x
    rw [hx] at hs
    simp only [impl_MapTypes.l0]
    match r, hx, hs, hn, hb with
    | [], hx, hs, hn, hb =>
      simp only [List.append_nil] at hs
      rw [if_neg (by omega)]
      simp [tmap, mres]
    | [c], hx, hs, hn, hb =>
      simp only [List.length_append, List.length_cons, List.length_nil] at hs
      rw [if_pos (by omega), w64 (by omega) (by omega), if_pos (by omega)]
      simp [tmap, mres]
    | w :: n :: r, hx, hs, hn, hb =>
      simp only [List.length_append, List.length_cons] at hs hn hb
      have hw := byte_le w
      have hnb := byte_le n
      have b0 : bt x (p.length : Int) = (w.toNat : Int) := bt_mid hx rfl
      have b1 : bt x ((p.length : Int) + 1) = (n.toNat : Int) := bt_mid (p := p ++ [w]) (c := n) (r := r) (by rw [hx]; simp) (by simp)
      rw [if_pos (by omega)]
      simp (maxSteps := 10000000) (disch := omega) only [w64]
      rw [if_neg (by omega), if_pos (by omega), if_pos (by omega), if_pos (by omega), b0, b1]
      rw [tmap]
      obtain ⟨k, rfl⟩ : ∃ m, k = m + 1 := ⟨k - 1, by omega⟩
      simp only [impl_MapTypes.j1, if_true]
      by_cases h1 : (w.toNat : Int) ≤ last
      · rw [if_pos h1, if_pos h1]; rfl
      rw [if_neg h1, if_neg h1]
      by_cases h2 : n.toNat < 1
      · rw [if_pos (by omega), if_pos h2]; rfl
      rw [if_neg (by omega), if_neg h2]
      by_cases h3 : 32 < n.toNat
      · rw [if_pos (by omega), if_pos h3]; rfl
      rw [if_neg (by omega), if_neg h3]
      by_cases h4 : r.length < n.toNat
      · rw [if_pos (by omega), if_pos h4]; rfl
      rw [if_neg (by omega), if_neg h4, if_pos (by omega), if_pos (by omega)]
      have b2 : bt x ((p.length : Int) + 1 + (n.toNat : Int)) = ((r.getD (n.toNat - 1) 0).toNat : Int) := by
        rw [bt_L, hx, show ((p.length : Int) + 1 + (n.toNat : Int)).toNat = p.length + (n.toNat - 1 + 2) from by omega, getD_len]
        simp [List.getD_eq_getElem?_getD]
      rw [b2]
      by_cases h5 : (r.getD (n.toNat - 1) 0).toNat = 0
      · rw [if_pos (by rw [beq_iff_eq]; omega), if_pos h5]; rfl
      rw [if_neg (by rw [beq_iff_eq]; omega), if_neg h5]
      obtain ⟨m, rfl⟩ : ∃ m, k = 10 * n.toNat + 1 + m := ⟨k - (10 * n.toNat + 1), by omega⟩
      have hl1 := impl_MapTypes_l1 x w n p r hx (by omega) (by omega) (by omega) w.toNat m n.toNat 0 acc (by omega) (by omega)
      rw [show ((0 : Nat) : Int) = 0 from rfl] at hl1
      rw [hl1]
      have hbl := blk_length w.toNat r (8 * n.toNat) 0
      have e2 : ((p.length + 2 + n.toNat : Nat) : Int) = ((p ++ w :: n :: r.take n.toNat).length : Int) := by simp [List.length_take]; omega
      rw [e2, ih m _ _ (p ++ w :: n :: r.take n.toNat) (r.drop n.toNat) (by rw [hx]; simp) (by simp; omega) (by omega) (by simp; omega), mres_map]
theorem impl_MapTypes_eq (a : ByteArray) (ha : a.size ≤ 1048576) (k : Nat) (hk : 450000000 ≤ k) : impl_MapTypes.f k a = some (mres [] (tmap (-1) (L a))) := by
  have hs := size_L a
  unfold impl_MapTypes.f
  exact impl_MapTypes_l0 a ha (L a).length k [] (-1) [] (L a) rfl (Nat.le_refl _) (by omega) (by simp; omega)

end Go.Proofs.YtbaajohjglhpfaaDoor.Pure
namespace Go.Proofs.YtbaajohjglhpfaaDoor.Pure
open Go.RowKit Go.Proofs.YtbaajohjglhpfaaDoor.F Go.Proofs.YtbaajohjglhpfaaDoor.Base Go.Proofs.YtbaajohjglhpfaaDoorW.PrintWords Go.Proofs.YtbaajohjglhpfaaDoorW.PrintLast Go.Proofs.YtbaajohjglhpfaaDoorW.PrintMore
set_option linter.unusedVariables false
set_option linter.unusedSimpArgs false
-- base: BaseData
theorem impl_nameAt_l0 (x : ByteArray) (hx : x.size ≤ 1000000000) : ∀ (d p k : Nat), x.size ≤ p + d → p ≤ x.size + 64 → d < k → impl_nameAt.l0 k x (p : Int) = some (nmP (L x) d p : Int) := by
  intro d
  induction d with
  | zero =>
    intro p k h1 h2 hk
    obtain ⟨k, rfl⟩ : ∃ m, k = m + 1 := ⟨k - 1, by omega⟩
    rw [impl_nameAt.l0, if_neg (by omega)]
    rfl
  | succ d ih =>
    intro p k h1 h2 hk
    obtain ⟨k, rfl⟩ : ∃ m, k = m + 1 := ⟨k - 1, by omega⟩
    rw [impl_nameAt.l0]
    by_cases hp : p < x.size
    · have hl : p < (L x).length := by rw [← size_L]; exact hp
      have hc := byte_le (L x)[p]
      rw [if_pos (by omega), if_pos (by omega), bt_get hl, nmP, drop_at hl]
      generalize (L x)[p] = c at *
      rw [w64 (x := (c.toNat : Int)) (by omega) (by omega)]
      simp only
      by_cases h0 : c.toNat = 0
      · rw [if_pos (by omega), if_pos h0, w64 (by omega) (by omega)]
        by_cases h3 : 255 < p + 1
        · rw [if_pos (by omega), if_pos h3]; rfl
        · rw [if_neg (by omega), if_neg h3]; rfl
      · rw [if_neg (by omega), if_neg h0]
        by_cases h63 : 63 < c.toNat
        · rw [if_pos (by omega), if_pos h63]; rfl
        · rw [if_neg (by omega), if_neg h63, w64 (x := 1 + (c.toNat : Int)) (by omega) (by omega), w64 (by omega) (by omega)]
          have := ih (p + 1 + c.toNat) k (by omega) (by omega) (by omega)
          rw [← this]
          congr 1
          omega
    · rw [if_neg (by omega), nmP, List.drop_of_length_le (by rw [← size_L]; omega)]
      rfl
theorem impl_nameAt_eq (x : ByteArray) (hx : x.size ≤ 1000000000) (k : Nat) (hk : x.size + 1 < k) : impl_nameAt.f k x = some (nm (L x) : Int) := by
  unfold impl_nameAt.f nm
  rw [← size_L]
  exact impl_nameAt_l0 x hx (x.size + 1) 0 k (by omega) (by omega) hk

end Go.Proofs.YtbaajohjglhpfaaDoor.Pure
namespace Go.Proofs.YtbaajohjglhpfaaDoor.Pure
open Go.RowKit Go.Proofs.YtbaajohjglhpfaaDoor.F Go.Proofs.YtbaajohjglhpfaaDoor.Base Go.Proofs.YtbaajohjglhpfaaDoorW.PrintWords Go.Proofs.YtbaajohjglhpfaaDoorW.PrintLast Go.Proofs.YtbaajohjglhpfaaDoorW.PrintMore
set_option linter.unusedVariables false
set_option linter.unusedSimpArgs false
-- base: BaseForm
theorem impl_parsed_alnum (c : UInt8) : impl_parsed.alnum (c.toNat : Int) = alnum c := by
  unfold impl_parsed.alnum alnum
  congr 1 <;> (try congr 1) <;> (try congr 1) <;> simp <;> omega
theorem impl_parsed_tMost (s : ByteArray) : ∀ (d k : Nat), k ≤ s.size + 256 → impl_parsed.tEnd s d k ≤ s.size + 256 := by
  intro d
  induction d with
  | zero => intro k h; exact h
  | succ d ih =>
    intro k h
    rw [impl_parsed.tEnd]
    split
    · have := bt_range s (k : Int)
      exact ih _ (by omega)
    · exact h
theorem impl_parsed_tEnd (s : ByteArray) : ∀ (d k : Nat), s.size ≤ k + d → s.size ≤ impl_parsed.tEnd s d k ∧ k ≤ impl_parsed.tEnd s d k ∧ (impl_parsed.tEnd s d k = s.size ↔ (k ≤ s.size ∧ exact d ((L s).drop k) = true)) := by
  have hs := size_L s
  intro d
  induction d with
  | zero =>
    intro k h
    refine ⟨by rw [impl_parsed.tEnd]; omega, by rw [impl_parsed.tEnd]; omega, ?_⟩
    rw [impl_parsed.tEnd, List.drop_of_length_le (by omega)]
    simp [exact]
    omega
  | succ d ih =>
    intro k h
    rw [impl_parsed.tEnd]
    by_cases hk : k < s.size
    · have hl : k < (L s).length := by omega
      rw [if_pos hk, drop_at hl, exact, bt_get hl]
      generalize (L s)[k] = c
      have e : k + 1 + (c.toNat : Int).toNat = k + 1 + c.toNat := by omega
      rw [e]
      obtain ⟨h1, h2, h3⟩ := ih (k + 1 + c.toNat) (by omega)
      refine ⟨h1, by omega, ?_⟩
      rw [h3, List.drop_drop, List.length_drop]
      by_cases hc : (L s).length - (k + 1) < c.toNat
      · rw [if_pos hc]
        simp
        omega
      · rw [if_neg hc]
        exact ⟨fun h => ⟨by omega, h.2⟩, fun h => ⟨by omega, h.2⟩⟩
    · rw [if_neg hk, List.drop_of_length_le (by omega)]
      refine ⟨by omega, Nat.le_refl _, ?_⟩
      simp [exact]
      omega
theorem impl_parsed_n (s : ByteArray) (hs : s.size ≤ 65535) (K : Nat) (hK : 450000000 ≤ K) (c : UInt8) (hc : c.toNat ∈ [49, 50, 52, 103, 113, 110, 116, 99, 84, 109, 42]) (p : Nat) (hp : p ≤ s.size) (l : List UInt8) (hl : (L s).drop p = l) :
    ∃ o, impl_parsed.n K (c.toNat : Int) s p = some o ∧ (match o with | none => con c.toNat l = none | some n => 0 ≤ n ∧ n ≤ 100000 ∧ con c.toNat l = if (s.size : Int) < (p : Int) + n then none else some n.toNat) := by
  have hlen : l.length = s.size - p := by rw [← hl, List.length_drop, ← size_L]
  have hx : L (s.extract p s.size) = l := by rw [L_extract, hl, List.take_of_length_le (by omega)]
  have hxs : (s.extract p s.size).size = l.length := by rw [size_L, hx]
  have hbt : ∀ b t, l = b :: t → bt s (p : Int) = (b.toNat : Int) := fun b t e => by
    have h1 : p < (L s).length := by
      rw [← size_L]
      rw [e] at hlen
      simp at hlen
      omega
    rw [bt_get h1]
    rw [drop_at h1, e] at hl
    rw [(List.cons.inj hl).1]
  have fix : ∀ m : Nat, (if l.length < m then (none : Option Nat) else some m) = if (s.size : Int) < (p : Int) + (m : Int) then none else some ((m : Int)).toNat := by
    intro m
    by_cases h1 : l.length < m
    · rw [if_pos h1, if_pos (by omega)]
    · rw [if_neg h1, if_neg (by omega)]; rfl
  simp only [List.mem_cons, List.not_mem_nil, or_false] at hc
  rcases hc with h | h | h | h | h | h | h | h | h | h | h <;> rw [h]
  · exact ⟨some 1, by simp [impl_parsed.n], by decide, by decide, by unfold con; rw [if_pos rfl]; exact fix 1⟩
  · exact ⟨some 2, by simp [impl_parsed.n], by decide, by decide, by unfold con; rw [if_neg (by decide), if_pos rfl]; exact fix 2⟩
  · exact ⟨some 4, by simp [impl_parsed.n], by decide, by decide, by unfold con; rw [if_neg (by decide), if_neg (by decide), if_pos (by decide)]; exact fix 4⟩
  · exact ⟨some 4, by simp [impl_parsed.n], by decide, by decide, by unfold con; rw [if_neg (by decide), if_neg (by decide), if_pos (by decide)]; exact fix 4⟩
  · exact ⟨some 4, by simp [impl_parsed.n], by decide, by decide, by unfold con; rw [if_neg (by decide), if_neg (by decide), if_pos (by decide)]; exact fix 4⟩
  · have e1 : impl_parsed.n K ((110 : Nat) : Int) s p = (impl_nameAt.f K (s.extract p s.size)).bind fun n => some (if n = 0 then none else some n) := by unfold impl_parsed.n; simp
    have e2 : con 110 l = if nm l = 0 then none else some (nm l) := by unfold con; simp
    rw [e1, e2, impl_nameAt_eq _ (by omega) K (by omega), Option.bind_some, hx]
    have h1 := nm_le l
    by_cases h0 : nm l = 0
    · exact ⟨none, by rw [if_pos (by omega)], by rw [if_pos h0]⟩
    · exact ⟨some (nm l : Int), by rw [if_neg (by omega)], by omega, by omega, by rw [if_neg h0, if_neg (by omega)]; rfl⟩
  · have e1 : impl_parsed.n K ((116 : Nat) : Int) s p = some (if s.size ≤ p then none else some (1 + bt s (p : Int))) := by unfold impl_parsed.n; simp
    have e2 : con 116 l = if tx l = 0 then none else some (tx l) := by unfold con; simp
    rw [e1, e2]
    cases l with
    | nil => exact ⟨none, by rw [if_pos (by simp at hlen; omega)], rfl⟩
    | cons b t =>
      have hb := byte_le b
      simp only [List.length_cons] at hlen
      rw [hbt b t rfl, tx, if_neg (by omega)]
      refine ⟨_, rfl, by omega, by omega, ?_⟩
      by_cases h1 : t.length < b.toNat
      · rw [if_pos h1, if_pos rfl, if_pos (by omega)]
      · rw [if_neg h1, if_neg (by omega), if_neg (by omega)]
        congr 1
        omega
  · have e1 : impl_parsed.n K ((99 : Nat) : Int) s p = some (if s.size ≤ p then none else if 1 + bt s (p : Int) < 2 then none else if 16 < 1 + bt s (p : Int) then none else if (s.size : Int) < (p : Int) + (1 + bt s (p : Int)) then none else if (bytesOf (s.extract (p + 1) (p + (1 + bt s (p : Int)).toNat))).all impl_parsed.alnum then some (1 + bt s (p : Int)) else none) := by unfold impl_parsed.n; simp
    have e2 : con 99 l = if tx l < 2 ∨ 16 < tx l then none else if ((l.take (tx l)).drop 1).all alnum then some (tx l) else none := by unfold con; simp
    rw [e1, e2]
    cases l with
    | nil => exact ⟨none, by rw [if_pos (by simp at hlen; omega)], rfl⟩
    | cons b t =>
      have hb := byte_le b
      simp only [List.length_cons] at hlen
      rw [hbt b t rfl, if_neg (by omega)]
      have hdt : (L s).drop (p + 1) = t := by
        rw [← List.drop_drop, hl]
        rfl
      by_cases h1 : t.length < b.toNat
      · have h2 : tx (b :: t) = 0 := by rw [tx, if_pos h1]
        rw [h2, if_pos (show ((0 : Nat) < 2 ∨ 16 < (0 : Nat)) from .inl (by decide))]
        refine ⟨none, ?_, rfl⟩
        by_cases g1 : (1 : Int) + b.toNat < 2
        · rw [if_pos g1]
        · rw [if_neg g1]
          by_cases g2 : 16 < (1 : Int) + b.toNat
          · rw [if_pos g2]
          · rw [if_neg g2, if_pos (by omega)]
      · have h2 : tx (b :: t) = b.toNat + 1 := by rw [tx, if_neg h1]
        rw [h2]
        by_cases g1 : (1 : Int) + b.toNat < 2
        · exact ⟨none, by rw [if_pos g1], by rw [if_pos (show (b.toNat + 1 < 2 ∨ 16 < b.toNat + 1) by omega)]⟩
        · by_cases g2 : 16 < (1 : Int) + b.toNat
          · exact ⟨none, by rw [if_neg g1, if_pos g2], by rw [if_pos (show (b.toNat + 1 < 2 ∨ 16 < b.toNat + 1) by omega)]⟩
          · rw [if_neg g1, if_neg g2, if_neg (show ¬ ((s.size : Int) < (p : Int) + ((1 : Int) + b.toNat)) by omega), if_neg (show ¬ (b.toNat + 1 < 2 ∨ 16 < b.toNat + 1) by omega)]
            have h3 : (bytesOf (s.extract (p + 1) (p + ((1 : Int) + b.toNat).toNat))).all impl_parsed.alnum = (((b :: t).take (b.toNat + 1)).drop 1).all alnum := by
              have h4 : bytesOf (s.extract (p + 1) (p + ((1 : Int) + b.toNat).toNat)) = (L (s.extract (p + 1) (p + ((1 : Int) + b.toNat).toNat))).map fun c => (c.toNat : Int) := rfl
              rw [h4, L_extract, hdt, show p + ((1 : Int) + b.toNat).toNat - (p + 1) = b.toNat from by omega, List.all_map]
              rw [List.take_succ_cons, List.drop_succ_cons, List.drop_zero]
              congr 1
              funext c
              exact impl_parsed_alnum c
            rw [h3]
            by_cases g3 : (((b :: t).take (b.toNat + 1)).drop 1).all alnum = true
            · rw [if_pos g3, if_pos g3]
              refine ⟨_, rfl, by omega, by omega, ?_⟩
              rw [if_neg (by omega)]
              congr 1
              omega
            · rw [if_neg g3, if_neg g3]
              exact ⟨none, rfl, rfl⟩
  · have e1 : impl_parsed.n K ((84 : Nat) : Int) s p = some (if impl_parsed.tEnd s (s.size - p) p = p then none else some ((impl_parsed.tEnd s (s.size - p) p : Int) - p)) := by unfold impl_parsed.n; simp
    have e2 : con 84 l = if l = [] then none else if exact l.length l then some l.length else none := by unfold con; simp
    rw [e1, e2]
    obtain ⟨h1, h2, h3⟩ := impl_parsed_tEnd s (s.size - p) p (by omega)
    have h4 := impl_parsed_tMost s (s.size - p) p (by omega)
    have hex : exact (s.size - p) l = exact l.length l := by rw [hlen]
    rw [hl, hex] at h3
    generalize impl_parsed.tEnd s (s.size - p) p = e at *
    by_cases hn : l = []
    · have h0 : l.length = 0 := by rw [hn]; rfl
      have h5 : exact l.length l = true := by rw [hn]; rfl
      have h6 := h3.2 ⟨hp, h5⟩
      exact ⟨none, by rw [if_pos (by omega)], by rw [if_pos hn]⟩
    · have h0 : l.length ≠ 0 := fun h => hn (List.eq_nil_of_length_eq_zero h)
      refine ⟨some ((e : Int) - p), by rw [if_neg (by omega)], by omega, by omega, ?_⟩
      rw [if_neg hn]
      by_cases h5 : exact l.length l = true
      · have h6 := h3.2 ⟨hp, h5⟩
        rw [if_pos h5, if_neg (by omega)]
        congr 1
        omega
      · have h6 : ¬ e = s.size := fun h => h5 (h3.1 h).2
        rw [if_neg h5, if_pos (by omega)]
  · have e1 : impl_parsed.n K ((109 : Nat) : Int) s p = (impl_MapTypes.f K (s.extract p s.size)).bind fun r => some (if r.2 = 0 then some ((s.size : Int) - p) else none) := by unfold impl_parsed.n; simp
    have e2 : con 109 l = if (tmap (-1) l).isSome then some l.length else none := by unfold con; simp
    rw [e1, e2, impl_MapTypes_eq _ (by omega) K (by omega), Option.bind_some, hx]
    cases tmap (-1) l with
    | none => exact ⟨none, by rw [mres, if_neg (by decide)], rfl⟩
    | some ts => exact ⟨some ((s.size : Int) - p), by rw [mres, if_pos rfl], by omega, by omega, by rw [Option.isSome_some, if_pos rfl, if_neg (by omega)]; congr 1; omega⟩
  · exact ⟨some ((s.size : Int) - p), by simp [impl_parsed.n], by omega, by omega, by unfold con; simp; omega⟩
theorem impl_parsed_go (s : ByteArray) (hs : s.size ≤ 65535) (K : Nat) (hK : 450000000 ≤ K) : ∀ (r : List UInt8) (p : Nat) (sp : List _), letters r → p ≤ s.size → ∃ sp', impl_parsed.go K s r p sp = some (sp', pg r ((L s).drop p)) ∧ (pg r ((L s).drop p) = true → sp' = sp ++ (psp r p ((L s).drop p)).map fun x => ⟨(x.1 : Int), (x.2 : Int)⟩) := by
  intro r
  induction r with
  | nil =>
    intro p sp _ hp
    refine ⟨sp, ?_, fun _ => by simp [psp]⟩
    rw [impl_parsed.go, pg]
    congr 2
    rw [Bool.eq_iff_iff, List.isEmpty_iff, List.drop_eq_nil_iff, ← size_L, beq_iff_eq]
    omega
  | cons c r ih =>
    intro p sp hr hp
    obtain ⟨o, h1, h2⟩ := impl_parsed_n s hs K hK c (hr c (by simp)) p hp _ rfl
    rw [impl_parsed.go, h1, Option.bind_some, pg, psp]
    cases o with
    | none =>
      simp only at h2
      rw [h2]
      exact ⟨[], rfl, fun e => by cases e⟩
    | some n =>
      simp only at h2
      obtain ⟨h3, h4, h5⟩ := h2
      simp only
      rw [if_neg (by omega), h5]
      by_cases h6 : (s.size : Int) < (p : Int) + n
      · rw [if_pos h6, if_pos h6]
        exact ⟨[], rfl, fun e => by cases e⟩
      · rw [if_neg h6, if_neg h6]
        obtain ⟨sp', h7, h8⟩ := ih (p + n.toNat) (if (c.toNat : Int) = 110 then sp ++ [⟨p, (p : Int) + n⟩] else sp) (fun x hx => hr x (by simp [hx])) (by omega)
        refine ⟨sp', ?_, ?_⟩
        · rw [h7]
          simp only [List.drop_drop]
        · simp only [List.drop_drop]
          intro e
          rw [h8 e]
          by_cases h9 : (c.toNat : Int) = 110
          · rw [if_pos h9, if_pos (by omega), List.append_assoc]
            simp only [List.map_append, List.map_cons, List.map_nil]
            rw [show ((p + n.toNat : Nat) : Int) = (p : Int) + n from by omega]
          · rw [if_neg h9, if_neg (by omega), List.nil_append]

end Go.Proofs.YtbaajohjglhpfaaDoor.Pure
namespace Go.Proofs.YtbaajohjglhpfaaDoor.Pure
open Go.RowKit Go.Proofs.YtbaajohjglhpfaaDoor.F Go.Proofs.YtbaajohjglhpfaaDoor.Base Go.Proofs.YtbaajohjglhpfaaDoorW.PrintWords Go.Proofs.YtbaajohjglhpfaaDoorW.PrintLast Go.Proofs.YtbaajohjglhpfaaDoorW.PrintMore
set_option linter.unusedVariables false
set_option linter.unusedSimpArgs false
-- base: BaseForm
/-- The reference's form of a type. -/
def sform (t : Int) : List UInt8 :=
  if t = 1 then [98, 98, 98, 98] else if t = 2 ∨ t = 5 ∨ t = 12 ∨ t = 39 then [110] else if t = 6 then [110, 110, 98, 98, 98, 98, 98, 98, 98, 98, 98, 98, 98, 98, 98, 98, 98, 98, 98, 98, 98, 98]
  else if t = 13 then [116, 116] else if t = 15 then [98, 98, 110] else if t = 16 then [115] else if t = 28 then [98, 98, 98, 98, 98, 98, 98, 98, 98, 98, 98, 98, 98, 98, 98, 98]
  else if t = 33 then [98, 98, 98, 98, 98, 98, 110] else if t = 35 then [98, 98, 98, 98, 116, 116, 116, 110] else if t = 47 then [110, 109] else if t = 257 then [98, 99] else [42]
theorem spec_l02Form_eq (t : Int) (k : Nat) (hk : 1 ≤ k) : spec_l02Form.f k t = some (B (sform t)) := by
  obtain ⟨k, rfl⟩ : ∃ m, k = m + 1 := ⟨k - 1, by omega⟩
  unfold spec_l02Form.f
  by_cases c1 : t = 1
  · subst c1; rfl
  by_cases c2 : t = 2
  · subst c2; rfl
  by_cases c5 : t = 5
  · subst c5; rfl
  by_cases c12 : t = 12
  · subst c12; rfl
  by_cases c39 : t = 39
  · subst c39; rfl
  rw [if_neg c1, if_neg c2, if_neg c5, if_neg c12, spec_l02Form.j0, if_neg (by simpa using c39)]
  have hs : sform t = (if t = 6 then [110, 110, 98, 98, 98, 98, 98, 98, 98, 98, 98, 98, 98, 98, 98, 98, 98, 98, 98, 98, 98, 98]
      else if t = 13 then [116, 116] else if t = 15 then [98, 98, 110] else if t = 16 then [115] else if t = 28 then [98, 98, 98, 98, 98, 98, 98, 98, 98, 98, 98, 98, 98, 98, 98, 98]
      else if t = 33 then [98, 98, 98, 98, 98, 98, 110] else if t = 35 then [98, 98, 98, 98, 116, 116, 116, 110] else if t = 47 then [110, 109] else if t = 257 then [98, 99] else [42]) := by
    unfold sform
    rw [if_neg c1, if_neg (show ¬ (t = 2 ∨ t = 5 ∨ t = 12 ∨ t = 39) by omega)]
  rw [hs]
  by_cases c6 : t = 6
  · subst c6; rfl
  by_cases c13 : t = 13
  · subst c13; rfl
  by_cases c15 : t = 15
  · subst c15; rfl
  by_cases c16 : t = 16
  · subst c16; rfl
  by_cases c28 : t = 28
  · subst c28; rfl
  by_cases c33 : t = 33
  · subst c33; rfl
  by_cases c35 : t = 35
  · subst c35; rfl
  by_cases c47 : t = 47
  · subst c47; rfl
  by_cases c257 : t = 257
  · subst c257; rfl
  simp only [if_neg c6, if_neg c13, if_neg c15, if_neg c16, if_neg c28, if_neg c33, if_neg c35, if_neg c47, if_neg c257]
  rfl

end Go.Proofs.YtbaajohjglhpfaaDoor.Pure
namespace Go.Proofs.YtbaajohjglhpfaaDoor.Pure
open Go.RowKit Go.Proofs.YtbaajohjglhpfaaDoor.F Go.Proofs.YtbaajohjglhpfaaDoor.Base Go.Proofs.YtbaajohjglhpfaaDoorW.PrintWords Go.Proofs.YtbaajohjglhpfaaDoorW.PrintLast Go.Proofs.YtbaajohjglhpfaaDoorW.PrintMore
set_option linter.unusedVariables false
set_option linter.unusedSimpArgs false
-- base: BaseMap
theorem spec_l02Map_l0 : ∀ (N k : Nat) (x : ByteArray) (last : Int), x.size ≤ N → N < k → spec_l02Map.l0 k x last = some (tmap last (L x)).isSome := by
  intro N
  induction N with
  | zero =>
    intro k x last hn hk
    obtain ⟨k, rfl⟩ : ∃ m, k = m + 1 := ⟨k - 1, by omega⟩
    have hs := size_L x
    have hx : L x = [] := List.length_eq_zero_iff.1 (by omega)
    simp only [spec_l02Map.l0, toL]
    rw [if_pos hx, hx]
    simp [tmap]
  | succ N ih =>
    intro k x last hn hk
    obtain ⟨k, rfl⟩ : ∃ m, k = m + 1 := ⟨k - 1, by omega⟩
    have hs := size_L x
    simp only [spec_l02Map.l0, toL]
    match hx : L x with
    | [] => rw [if_pos rfl]; simp [tmap]
    | [c] =>
      rw [hx] at hs
      simp only [List.length_cons, List.length_nil] at hs
      rw [if_neg (by simp), if_pos (by omega)]
      simp [tmap]
    | w :: n :: r =>
      rw [hx] at hs
      simp only [List.length_cons] at hs
      have hw := byte_le w
      have hnb := byte_le n
      have b0 : bt x 0 = (w.toNat : Int) := bt_cons hx
      have b1 : bt x 1 = (n.toNat : Int) := bt_mid (p := [w]) hx rfl
      rw [if_neg (by simp), if_neg (by omega), if_pos (by omega), if_pos (by omega), b0, b1]
      simp (maxSteps := 10000000) (disch := omega) only [w64]
      rw [tmap]
      by_cases h1 : (w.toNat : Int) ≤ last
      · rw [if_pos h1, if_pos h1]; rfl
      · rw [if_neg h1, if_neg h1]
        by_cases h2 : n.toNat < 1
        · rw [if_pos (by omega), if_pos h2]; rfl
        · rw [if_neg (by omega), if_neg h2]
          by_cases h3 : 32 < n.toNat
          · rw [if_pos (by omega), if_pos h3]; rfl
          · rw [if_neg (by omega), if_neg h3]
            by_cases h4 : r.length < n.toNat
            · rw [if_pos (by omega), if_pos h4]; rfl
            · rw [if_neg (by omega), if_neg h4, if_pos (by omega), if_pos (by omega)]
              have b2 : bt x ((n.toNat : Int) + 1) = ((r.getD (n.toNat - 1) 0).toNat : Int) := by
                rw [bt_L, hx, show ((n.toNat : Int) + 1).toNat = (n.toNat - 1) + 2 from by omega]
                simp [List.getD_eq_getElem?_getD]
              rw [b2]
              by_cases h5 : (r.getD (n.toNat - 1) 0).toNat = 0
              · rw [if_pos (by omega), if_pos h5]; rfl
              · rw [if_neg (by omega), if_neg h5, if_pos (by omega), if_pos (by omega)]
                have e2 : L (x.extract ((n.toNat : Int) + 2).toNat x.size) = r.drop n.toNat := by
                  rw [L_extract, hx, hs, show ((n.toNat : Int) + 2).toNat = n.toNat + 2 from by omega]
                  simp [List.take_of_length_le]
                rw [ih k _ _ (by rw [size_L, e2]; simp; omega) (by omega), e2]
                cases tmap (w.toNat : Int) (r.drop n.toNat) <;> simp
theorem spec_l02Map_eq (a : ByteArray) (k : Nat) (hk : a.size < k) : spec_l02Map.f k a = some (tmap (-1) (L a)).isSome := by
  unfold spec_l02Map.f
  exact spec_l02Map_l0 a.size k a (-1) (Nat.le_refl _) hk

end Go.Proofs.YtbaajohjglhpfaaDoor.Pure
namespace Go.Proofs.YtbaajohjglhpfaaDoor.Pure
open Go.RowKit Go.Proofs.YtbaajohjglhpfaaDoor.F Go.Proofs.YtbaajohjglhpfaaDoor.Base Go.Proofs.YtbaajohjglhpfaaDoorW.PrintWords Go.Proofs.YtbaajohjglhpfaaDoorW.PrintLast Go.Proofs.YtbaajohjglhpfaaDoorW.PrintMore
set_option linter.unusedVariables false
set_option linter.unusedSimpArgs false
-- base: BaseData
theorem spec_l02NameAt_l0 (x : ByteArray) (hx : x.size ≤ 1000000000) : ∀ (d p k : Nat), x.size ≤ p + d → p ≤ x.size + 64 → 2 * d + 2 ≤ k → spec_l02NameAt.l0 k x (p : Int) = some (B ((L x).take (nmP (L x) d p))) := by
  intro d
  induction d with
  | zero =>
    intro p k h1 h2 hk
    obtain ⟨k, rfl⟩ : ∃ m, k = m + 1 + 1 := ⟨k - 2, by omega⟩
    rw [spec_l02NameAt.l0, if_neg (by omega), spec_l02NameAt.j1, if_neg (by decide)]
    rfl
  | succ d ih =>
    intro p k h1 h2 hk
    obtain ⟨k, rfl⟩ : ∃ m, k = m + 1 + 1 := ⟨k - 2, by omega⟩
    rw [spec_l02NameAt.l0]
    by_cases hp : p < x.size
    · rw [if_pos (by omega), spec_l02NameAt.j1]
      by_cases h255 : p < 255
      · have hl : p < (L x).length := by rw [← size_L]; exact hp
        have hc := byte_le (L x)[p]
        have hpi : (p : Int) < 255 := by omega
        rw [if_pos (decide_eq_true hpi), if_pos (by omega), if_pos (by omega), bt_get hl, nmP, drop_at hl]
        generalize (L x)[p] = c at *
        rw [w64 (x := (c.toNat : Int)) (by omega) (by omega)]
        simp only
        by_cases h0 : c.toNat = 0
        · rw [if_pos (by omega), if_pos h0, w64 (by omega) (by omega), if_pos (by omega), if_pos (by omega), if_neg (by omega)]
          congr 1
          apply L_inj
          rw [L_extract, L_B]
          simp
        · rw [if_neg (by omega), if_neg h0]
          by_cases h63 : 63 < c.toNat
          · rw [if_pos (by omega), if_pos h63]; rfl
          · rw [if_neg (by omega), if_neg h63, w64 (x := (p : Int) + (c.toNat : Int)) (by omega) (by omega), w64 (by omega) (by omega)]
            have := ih (p + 1 + c.toNat) k (by omega) (by omega) (by omega)
            rw [← this]
            congr 1
            omega
      · have hpi : ¬ (p : Int) < 255 := by omega
        rw [decide_eq_false hpi, if_neg (by decide), nmP_big _ _ _ (by omega)]
        rfl
    · rw [if_neg (by omega), spec_l02NameAt.j1, if_neg (by decide), nmP, List.drop_of_length_le (by rw [← size_L]; omega)]
      rfl
theorem spec_l02NameAt_eq (x : ByteArray) (hx : x.size ≤ 1000000000) (k : Nat) (hk : 2 * x.size + 4 ≤ k) : spec_l02NameAt.f k x = some (B ((L x).take (nm (L x)))) := by
  unfold spec_l02NameAt.f nm
  rw [← size_L]
  exact spec_l02NameAt_l0 x hx (x.size + 1) 0 k (by omega) (by omega) (by omega)

end Go.Proofs.YtbaajohjglhpfaaDoor.Pure
namespace Go.Proofs.YtbaajohjglhpfaaDoor.Pure
open Go.RowKit Go.Proofs.YtbaajohjglhpfaaDoor.F Go.Proofs.YtbaajohjglhpfaaDoor.Base Go.Proofs.YtbaajohjglhpfaaDoorW.PrintWords Go.Proofs.YtbaajohjglhpfaaDoorW.PrintLast Go.Proofs.YtbaajohjglhpfaaDoorW.PrintMore
set_option linter.unusedVariables false
set_option linter.unusedSimpArgs false
-- base: BaseData
theorem spec_l02Text_eq (x : ByteArray) (hx : x.size ≤ 1000000000) : spec_l02Text.f x = some (B ((L x).take (tx (L x)))) := by
  unfold spec_l02Text.f
  have hs := size_L x
  cases h : L x with
  | nil => rw [if_pos ((toList_nil x).2 h)]; rfl
  | cons c r =>
    rw [h] at hs
    have hc := byte_le c
    simp only [List.length_cons] at hs
    rw [if_neg (fun e => by rw [toList_nil, h] at e; cases e), if_pos (by omega), bt_cons h, w64 (x := (c.toNat : Int)) (by omega) (by omega), w64 (by omega) (by omega), tx]
    by_cases h1 : r.length < c.toNat
    · rw [if_pos (by omega), if_pos h1]; rfl
    · rw [if_neg (by omega), if_neg h1, if_pos (by omega), if_pos (by omega)]
      congr 1
      apply L_inj
      rw [L_extract, L_B, h]
      simp

end Go.Proofs.YtbaajohjglhpfaaDoor.Pure
namespace Go.Proofs.YtbaajohjglhpfaaDoor.Pure
open Go.RowKit Go.Proofs.YtbaajohjglhpfaaDoor.F Go.Proofs.YtbaajohjglhpfaaDoor.Base Go.Proofs.YtbaajohjglhpfaaDoorW.PrintWords Go.Proofs.YtbaajohjglhpfaaDoorW.PrintLast Go.Proofs.YtbaajohjglhpfaaDoorW.PrintMore
set_option linter.unusedVariables false
set_option linter.unusedSimpArgs false
-- base: BaseForm
theorem spec_l02Alnum_is (c : UInt8) : spec_l02Alnum.f (c.toNat : Int) = some (alnum c) := by
  have h : ∀ n : Fin 256, spec_l02Alnum.f (n.val : Int) = some ((decide (48 ≤ n.val) && decide (n.val ≤ 57)) || ((decide (97 ≤ n.val) && decide (n.val ≤ 122)) || (decide (65 ≤ n.val) && decide (n.val ≤ 90)))) := by decide +kernel
  exact h ⟨c.toNat, c.toNat_lt⟩
theorem spec_l02Parts_tag (K : Nat) : ∀ l : List UInt8, spec_l02Parts.tag K (l.map fun c => (c.toNat : Int)) = some (l.all alnum) := by
  intro l
  induction l with
  | nil => rfl
  | cons c r ih =>
    rw [List.map_cons, spec_l02Parts.tag, spec_l02Alnum_is, Option.bind_some, List.all_cons]
    cases alnum c
    · rfl
    · rw [if_pos rfl, ih]; rfl
/-- The texts that stand at the beginning, as many as there are: how many bytes. -/
def runs : Nat → List UInt8 → Nat
  | 0, _ => 0
  | d + 1, l => if tx l = 0 then 0 else tx l + runs d (l.drop (tx l))
theorem runs_le : ∀ (d : Nat) (l : List UInt8), runs d l ≤ l.length := by
  intro d
  induction d with
  | zero => intro l; exact Nat.zero_le _
  | succ d ih =>
    intro l
    rw [runs]
    split
    · exact Nat.zero_le _
    · have := ih (l.drop (tx l))
      have h := tx_le l
      rw [List.length_drop] at this
      omega
theorem spec_l02Parts_run (d : ByteArray) (hd : d.size ≤ 65535) : ∀ (n k : Nat) (p : ByteArray) (q : Nat), L p = (L d).take q → q ≤ d.size → d.size ≤ q + n → n + 1 ≤ k →
    spec_l02Parts.run k d p = some (B ((L d).take (q + runs n ((L d).drop q)))) := by
  have hs := size_L d
  intro n
  induction n with
  | zero =>
    intro k p q hp hq hn hk
    obtain ⟨k, rfl⟩ : ∃ m, k = m + 1 := ⟨k - 1, by omega⟩
    have hps : p.size = q := by rw [size_L, hp, List.length_take]; omega
    have hx : L (d.extract p.size d.size) = [] := by rw [L_extract, hps, List.drop_of_length_le (by omega)]; simp
    rw [spec_l02Parts.run, if_neg (by omega), spec_l02Text_eq _ (by rw [size_L, hx]; decide), Option.bind_some, hx, if_pos (by rw [size_L, L_B]; rfl)]
    congr 1
    apply L_inj
    rw [L_B, hp]
    rfl
  | succ n ih =>
    intro k p q hp hq hn hk
    obtain ⟨k, rfl⟩ : ∃ m, k = m + 1 := ⟨k - 1, by omega⟩
    have hps : p.size = q := by rw [size_L, hp, List.length_take]; omega
    have hx : L (d.extract p.size d.size) = (L d).drop q := by rw [L_extract, hps, List.take_of_length_le (by rw [List.length_drop]; omega)]
    have hxl : ((L d).drop q).length = d.size - q := by rw [List.length_drop]; omega
    have ht := tx_le ((L d).drop q)
    rw [spec_l02Parts.run, if_neg (by omega), spec_l02Text_eq _ (by rw [size_L, hx]; omega), Option.bind_some, hx, runs]
    have hsz : (B (((L d).drop q).take (tx ((L d).drop q)))).size = tx ((L d).drop q) := by rw [size_L, L_B, List.length_take]; omega
    rw [hsz]
    by_cases h0 : tx ((L d).drop q) = 0
    · rw [if_pos h0, if_pos h0]
      congr 1
      apply L_inj
      rw [L_B, hp]
      rfl
    · rw [if_neg h0, if_neg h0, if_pos (by omega), ih k _ (q + tx ((L d).drop q)) (by rw [L_append, L_B, hp, List.take_add]) (by omega) (by omega) (by omega), List.drop_drop]
      congr 3
      omega
/-- What a letter of the reference's forms takes. -/
def scon (c : Nat) (l : List UInt8) : Option Nat :=
  if c = 110 then (if nm l = 0 then none else some (nm l)) else if c = 98 then (if l = [] then none else some 1) else if c = 116 then (if tx l = 0 then none else some (tx l))
  else if c = 115 then (if runs l.length l = 0 then none else some (runs l.length l))
  else if c = 99 then (if tx l < 2 ∨ 16 < tx l then none else if ((l.take (tx l)).drop 1).all alnum then some l.length else none)
  else if c = 109 then (if (tmap (-1) l).isSome then some l.length else none) else if c = 42 then some l.length else none
def spg : List UInt8 → List UInt8 → Bool
  | [], l => l.isEmpty
  | c :: r, l => match scon c.toNat l with | none => false | some n => spg r (l.drop n)
def sletters (l : List UInt8) : Prop := ∀ c ∈ l, c.toNat ∈ [110, 98, 116, 115, 99, 109, 42]
theorem spec_l02Parts_pre (K : Nat) (hK : 450000000 ≤ K) (c : UInt8) (hc : c.toNat ∈ [110, 98, 116, 115, 99, 109, 42]) (d : ByteArray) (hd : d.size ≤ 65535) :
    ∃ o, spec_l02Parts.pre K (c.toNat : Int) d = some o ∧ (match o with
      | none => scon c.toNat (L d) = none
      | some p => p.size ≤ d.size ∧ L p = (L d).take p.size ∧ scon c.toNat (L d) = if p.size = 0 ∧ (c.toNat : Int) ≠ 109 ∧ (c.toNat : Int) ≠ 42 then none else some p.size) := by
  have hs := size_L d
  generalize hl : L d = l at *
  have h1 := nm_le l
  have h2 := tx_le l
  have hts : ∀ n, n ≤ l.length → (B (l.take n)).size = n := fun n hn => by rw [size_L, L_B, List.length_take]; omega
  simp only [List.mem_cons, List.not_mem_nil, or_false] at hc
  rcases hc with h | h | h | h | h | h | h <;> rw [h]
  · have e1 : spec_l02Parts.pre K ((110 : Nat) : Int) d = (spec_l02NameAt.f K d).bind fun p => some (some p) := by unfold spec_l02Parts.pre; simp
    have e2 : scon 110 l = if nm l = 0 then none else some (nm l) := by unfold scon; simp
    rw [e1, e2, spec_l02NameAt_eq d (by omega) K (by omega), Option.bind_some, hl]
    refine ⟨_, rfl, by rw [hts _ h1]; omega, by rw [L_B, hts _ h1], ?_⟩
    rw [hts _ h1]
    by_cases h0 : nm l = 0
    · rw [if_pos h0, if_pos ⟨h0, by decide, by decide⟩]
    · rw [if_neg h0, if_neg (fun e => h0 e.1)]
  · have e1 : spec_l02Parts.pre K ((98 : Nat) : Int) d = some (some (if d.size = 0 then ⟨#[]⟩ else d.extract 0 1)) := by unfold spec_l02Parts.pre; simp
    have e2 : scon 98 l = if l = [] then none else some 1 := by unfold scon; simp
    rw [e1, e2]
    by_cases h0 : d.size = 0
    · have h3 : l = [] := List.eq_nil_of_length_eq_zero (by omega)
      rw [if_pos h0, if_pos h3]
      exact ⟨_, rfl, by show (0 : Nat) ≤ _; omega, rfl, by rw [if_pos ⟨rfl, by decide, by decide⟩]⟩
    · have h3 : ¬ l = [] := fun e => h0 (by rw [e] at hs; exact hs)
      have h4 : (d.extract 0 1).size = 1 := by rw [ByteArray.size_extract]; omega
      rw [if_neg h0, if_neg h3]
      exact ⟨_, rfl, by rw [h4]; omega, by rw [L_extract, hl, h4]; rfl, by rw [h4, if_neg (fun e => absurd e.1 (by decide))]⟩
  · have e1 : spec_l02Parts.pre K ((116 : Nat) : Int) d = (spec_l02Text.f d).bind fun p => some (some p) := by unfold spec_l02Parts.pre; simp
    have e2 : scon 116 l = if tx l = 0 then none else some (tx l) := by unfold scon; simp
    rw [e1, e2, spec_l02Text_eq d (by omega), Option.bind_some, hl]
    refine ⟨_, rfl, by rw [hts _ h2]; omega, by rw [L_B, hts _ h2], ?_⟩
    rw [hts _ h2]
    by_cases h0 : tx l = 0
    · rw [if_pos h0, if_pos ⟨h0, by decide, by decide⟩]
    · rw [if_neg h0, if_neg (fun e => h0 e.1)]
  · have e1 : spec_l02Parts.pre K ((115 : Nat) : Int) d = (spec_l02Parts.run K d ⟨#[]⟩).bind fun p => some (some p) := by unfold spec_l02Parts.pre; simp
    have e2 : scon 115 l = if runs l.length l = 0 then none else some (runs l.length l) := by unfold scon; simp
    have h3 := runs_le l.length l
    rw [e1, e2, spec_l02Parts_run d hd l.length K ⟨#[]⟩ 0 rfl (Nat.zero_le _) (by omega) (by omega), Option.bind_some, hl, List.drop_zero, Nat.zero_add]
    refine ⟨_, rfl, by rw [hts _ h3]; omega, by rw [L_B, hts _ h3], ?_⟩
    rw [hts _ h3]
    by_cases h0 : runs l.length l = 0
    · rw [if_pos h0, if_pos ⟨h0, by decide, by decide⟩]
    · rw [if_neg h0, if_neg (fun e => h0 e.1)]
  · have e1 : spec_l02Parts.pre K ((99 : Nat) : Int) d = (spec_l02Text.f d).bind fun p => if p.size < 2 then some none else if 16 < p.size then some none else (spec_l02Parts.tag K ((bytesOf p).drop 1)).bind fun b => some (if b = true then some d else none) := by unfold spec_l02Parts.pre; simp
    have e2 : scon 99 l = if tx l < 2 ∨ 16 < tx l then none else if ((l.take (tx l)).drop 1).all alnum then some l.length else none := by unfold scon; simp
    rw [e1, e2, spec_l02Text_eq d (by omega), Option.bind_some, hl, hts _ h2]
    by_cases g1 : tx l < 2
    · exact ⟨none, by rw [if_pos g1], by rw [if_pos (.inl g1)]⟩
    · by_cases g2 : 16 < tx l
      · exact ⟨none, by rw [if_neg g1, if_pos g2], by rw [if_pos (.inr g2)]⟩
      · have h4 : (bytesOf (B (l.take (tx l)))).drop 1 = ((l.take (tx l)).drop 1).map fun c => (c.toNat : Int) := by
          have h5 : bytesOf (B (l.take (tx l))) = (L (B (l.take (tx l)))).map fun c => (c.toNat : Int) := rfl
          rw [h5, L_B, List.map_drop]
        rw [if_neg g1, if_neg g2, if_neg (show ¬ (tx l < 2 ∨ 16 < tx l) by omega), h4, spec_l02Parts_tag, Option.bind_some]
        by_cases g3 : ((l.take (tx l)).drop 1).all alnum = true
        · rw [if_pos g3, if_pos g3]
          exact ⟨_, rfl, Nat.le_refl _, by rw [hl, hs, List.take_length], by rw [if_neg (fun e => by have := e.1; omega), hs]⟩
        · rw [if_neg g3, if_neg g3]
          exact ⟨none, rfl, rfl⟩
  · have e1 : spec_l02Parts.pre K ((109 : Nat) : Int) d = (spec_l02Map.f K d).bind fun b => some (if b = true then some d else none) := by unfold spec_l02Parts.pre; simp
    have e2 : scon 109 l = if (tmap (-1) l).isSome then some l.length else none := by unfold scon; simp
    rw [e1, e2, spec_l02Map_eq d K (by omega), Option.bind_some, hl]
    cases tmap (-1) l with
    | none => exact ⟨none, rfl, rfl⟩
    | some ts => exact ⟨some d, rfl, Nat.le_refl _, by rw [hl, hs, List.take_length], by rw [if_pos (show (some ts).isSome = true from rfl), hs, if_neg (fun e => e.2.1 rfl)]⟩
  · have e1 : spec_l02Parts.pre K ((42 : Nat) : Int) d = some (some d) := by unfold spec_l02Parts.pre; simp
    have e2 : scon 42 l = some l.length := by unfold scon; simp
    rw [e1, e2]
    exact ⟨_, rfl, Nat.le_refl _, by rw [hl, hs, List.take_length], by rw [if_neg (fun e => e.2.2 rfl), hs]⟩
/-- The parts of data, by the reference's forms. -/
def sparts : List UInt8 → List UInt8 → List (List UInt8)
  | [], _ => []
  | c :: r, l => match scon c.toNat l with | none => [] | some n => l.take n :: sparts r (l.drop n)
theorem sparts_length : ∀ (r l : List UInt8), spg r l = true → (sparts r l).length = r.length := by
  intro r
  induction r with
  | nil => intro l _; rfl
  | cons c r ih =>
    intro l h
    rw [spg] at h
    rw [sparts]
    cases hc : scon c.toNat l with
    | none => rw [hc] at h; cases h
    | some n =>
      rw [hc] at h
      simp only at h ⊢
      rw [List.length_cons, List.length_cons, ih _ h]
/-- The stretches that the names take, by the reference's forms. -/
def ssp : List UInt8 → Nat → List UInt8 → List (Nat × Nat)
  | [], _, _ => []
  | c :: r, p, l => match scon c.toNat l with
    | none => []
    | some n => (if c.toNat = 110 then [(p, p + n)] else []) ++ ssp r (p + n) (l.drop n)
theorem spec_l02Parts_go (K : Nat) (hK : 450000000 ≤ K) : ∀ (r : List UInt8) (d : ByteArray) (out : List ByteArray), sletters r → d.size ≤ 65535 → out.length + r.length ≤ 1000 → ∃ out', spec_l02Parts.go K r d out = some (out', spg r (L d)) ∧ (spg r (L d) = true → out' = out ++ (sparts r (L d)).map B) := by
  intro r
  induction r with
  | nil =>
    intro d out _ _ _
    exact ⟨out, by rw [spec_l02Parts.go, spg, toL], fun _ => by simp [sparts]⟩
  | cons c r ih =>
    intro d out hr hd ho
    obtain ⟨o, h1, h2⟩ := spec_l02Parts_pre K hK c (hr c (by simp)) d hd
    simp only [List.length_cons] at ho
    rw [spec_l02Parts.go, h1, Option.bind_some, spg, sparts]
    cases o with
    | none =>
      simp only at h2
      rw [h2]
      exact ⟨[], rfl, fun e => by cases e⟩
    | some p =>
      simp only at h2
      obtain ⟨h3, hp, h4⟩ := h2
      rw [h4]
      simp only
      by_cases h5 : p.size = 0 ∧ (c.toNat : Int) ≠ 109 ∧ (c.toNat : Int) ≠ 42
      · rw [if_pos h5, if_pos h5]
        exact ⟨[], rfl, fun e => by cases e⟩
      · rw [if_neg h5, if_neg h5, if_neg (by omega), if_neg (by omega)]
        have hx : L (d.extract p.size d.size) = (L d).drop p.size := by rw [L_extract, List.take_of_length_le (by rw [List.length_drop, ← size_L]; exact Nat.le_refl _)]
        obtain ⟨out', h6, h7⟩ := ih (d.extract p.size d.size) (out ++ [p]) (fun x hx => hr x (by simp [hx])) (by rw [size_L, hx, List.length_drop, ← size_L]; omega) (by simp; omega)
        refine ⟨out', by rw [h6, hx], fun e => ?_⟩
        rw [hx] at h7
        rw [h7 e, List.append_assoc]
        simp only [List.map_cons, List.singleton_append]
        congr 2
        apply L_inj
        rw [L_B]
        exact hp
theorem exact_runs : ∀ (d : Nat) (l : List UInt8), l.length ≤ d → (exact d l = true ↔ runs d l = l.length) := by
  intro d
  induction d with
  | zero =>
    intro l h
    obtain rfl : l = [] := List.eq_nil_of_length_eq_zero (by omega)
    exact ⟨fun _ => rfl, fun _ => rfl⟩
  | succ d ih =>
    intro l h
    cases l with
    | nil => exact ⟨fun _ => by rw [runs, if_pos (by rfl)]; rfl, fun _ => rfl⟩
    | cons c r =>
      simp only [List.length_cons] at h
      rw [exact, runs, tx]
      by_cases h1 : r.length < c.toNat
      · rw [if_pos h1, if_pos h1, if_pos rfl]
        simp
      · rw [if_neg h1, if_neg h1, if_neg (by omega), List.drop_succ_cons, ih (r.drop c.toNat) (by rw [List.length_drop]; omega), List.length_drop, List.length_cons]
        omega
theorem pg_nil (l : List UInt8) : pg [] l = l.isEmpty := rfl
theorem spg_nil (l : List UInt8) : spg [] l = l.isEmpty := rfl
theorem pg_1 (r l : List UInt8) : pg (49 :: r) l = if l.length < 1 then false else pg r (l.drop 1) := by
  rw [pg]; show (match (if l.length < 1 then none else some 1) with | none => false | some n => pg r (l.drop n)) = _
  cases l <;> simp
theorem pg_2 (r l : List UInt8) : pg (50 :: r) l = if l.length < 2 then false else pg r (l.drop 2) := by
  rw [pg]; show (match (if l.length < 2 then none else some 2) with | none => false | some n => pg r (l.drop n)) = _; split <;> rename_i h <;> split at h <;> simp_all
theorem pg_4 (r l : List UInt8) : pg (52 :: r) l = if l.length < 4 then false else pg r (l.drop 4) := by
  rw [pg]; show (match (if l.length < 4 then none else some 4) with | none => false | some n => pg r (l.drop n)) = _; split <;> rename_i h <;> split at h <;> simp_all
theorem pg_g (r l : List UInt8) : pg (103 :: r) l = if l.length < 4 then false else pg r (l.drop 4) := by
  rw [pg]; show (match (if l.length < 4 then none else some 4) with | none => false | some n => pg r (l.drop n)) = _; split <;> rename_i h <;> split at h <;> simp_all
theorem pg_q (r l : List UInt8) : pg (113 :: r) l = if l.length < 4 then false else pg r (l.drop 4) := by
  rw [pg]; show (match (if l.length < 4 then none else some 4) with | none => false | some n => pg r (l.drop n)) = _; split <;> rename_i h <;> split at h <;> simp_all
theorem pg_n (r l : List UInt8) : pg (110 :: r) l = if nm l = 0 then false else pg r (l.drop (nm l)) := by
  rw [pg]; show (match (if nm l = 0 then none else some (nm l)) with | none => false | some n => pg r (l.drop n)) = _; split <;> rename_i h <;> split at h <;> simp_all
theorem pg_t (r l : List UInt8) : pg (116 :: r) l = if tx l = 0 then false else pg r (l.drop (tx l)) := by
  rw [pg]; show (match (if tx l = 0 then none else some (tx l)) with | none => false | some n => pg r (l.drop n)) = _; split <;> rename_i h <;> split at h <;> simp_all
theorem spg_n (r l : List UInt8) : spg (110 :: r) l = if nm l = 0 then false else spg r (l.drop (nm l)) := by
  rw [spg]; show (match (if nm l = 0 then none else some (nm l)) with | none => false | some n => spg r (l.drop n)) = _; split <;> rename_i h <;> split at h <;> simp_all
theorem spg_t (r l : List UInt8) : spg (116 :: r) l = if tx l = 0 then false else spg r (l.drop (tx l)) := by
  rw [spg]; show (match (if tx l = 0 then none else some (tx l)) with | none => false | some n => spg r (l.drop n)) = _; split <;> rename_i h <;> split at h <;> simp_all
theorem spg_b (r l : List UInt8) : spg (98 :: r) l = if l.length < 1 then false else spg r (l.drop 1) := by
  rw [spg]; show (match (if l = [] then none else some 1) with | none => false | some n => spg r (l.drop n)) = _
  cases l <;> simp
theorem spg_bb (r l : List UInt8) : spg (98 :: 98 :: r) l = if l.length < 2 then false else spg r (l.drop 2) := by
  rw [spg_b, spg_b, List.length_drop, List.drop_drop]
  by_cases h : l.length < 2
  · rw [if_pos h]
    split
    · rfl
    · rw [if_pos (by omega)]
  · rw [if_neg h, if_neg (by omega), if_neg (by omega)]
theorem spg_b4 (r l : List UInt8) : spg (98 :: 98 :: 98 :: 98 :: r) l = if l.length < 4 then false else spg r (l.drop 4) := by
  rw [spg_bb, spg_bb, List.length_drop, List.drop_drop]
  by_cases h : l.length < 4
  · rw [if_pos h]
    split
    · rfl
    · rw [if_pos (by omega)]
  · rw [if_neg h, if_neg (by omega), if_neg (by omega)]

end Go.Proofs.YtbaajohjglhpfaaDoor.Pure
namespace Go.Proofs.YtbaajohjglhpfaaDoor.Pure
open Go.RowKit Go.Proofs.YtbaajohjglhpfaaDoor.F Go.Proofs.YtbaajohjglhpfaaDoor.Base Go.Proofs.YtbaajohjglhpfaaDoorW.PrintWords Go.Proofs.YtbaajohjglhpfaaDoorW.PrintLast Go.Proofs.YtbaajohjglhpfaaDoorW.PrintMore
set_option linter.unusedVariables false
set_option linter.unusedSimpArgs false
-- base: BaseForm
theorem forms_T (l : List UInt8) : pg [84] l = spg [115] l := by
  have e1 : con 84 l = if l = [] then none else if exact l.length l then some l.length else none := by unfold con; simp
  have e2 : scon 115 l = if runs l.length l = 0 then none else some (runs l.length l) := by unfold scon; simp
  have h := exact_runs l.length l (Nat.le_refl _)
  have h2 := runs_le l.length l
  rw [pg, spg]
  show (match con 84 l with | none => false | some n => pg [] (l.drop n)) = (match scon 115 l with | none => false | some n => spg [] (l.drop n))
  rw [e1, e2]
  by_cases hn : l = []
  · subst hn; rfl
  · have h0 : l.length ≠ 0 := fun e => hn (List.eq_nil_of_length_eq_zero e)
    rw [if_neg hn]
    by_cases hx : exact l.length l = true
    · have h3 := h.1 hx
      rw [if_pos hx, if_neg (by omega), h3]
      rfl
    · have h3 : runs l.length l ≠ l.length := fun e => hx (h.2 e)
      rw [if_neg hx]
      by_cases h4 : runs l.length l = 0
      · rw [if_pos h4]
      · rw [if_neg h4]
        show false = (l.drop (runs l.length l)).isEmpty
        symm
        rw [Bool.eq_false_iff]
        intro e
        rw [List.isEmpty_iff, List.drop_eq_nil_iff] at e
        omega
theorem forms_c (l : List UInt8) : pg [99, 42] l = spg [99] l := by
  have e1 : con 99 l = if tx l < 2 ∨ 16 < tx l then none else if ((l.take (tx l)).drop 1).all alnum then some (tx l) else none := by unfold con; simp
  have e2 : scon 99 l = if tx l < 2 ∨ 16 < tx l then none else if ((l.take (tx l)).drop 1).all alnum then some l.length else none := by unfold scon; simp
  have e3 : ∀ x : List UInt8, pg [42] x = true := fun x => by
    have : con 42 x = some x.length := by unfold con; simp
    rw [pg]
    show (match con 42 x with | none => false | some n => pg [] (x.drop n)) = true
    rw [this]
    simp [pg]
  rw [pg, spg]
  show (match con 99 l with | none => false | some n => pg [42] (l.drop n)) = (match scon 99 l with | none => false | some n => spg [] (l.drop n))
  rw [e1, e2]
  by_cases h1 : tx l < 2 ∨ 16 < tx l
  · rw [if_pos h1, if_pos h1]
  · rw [if_neg h1, if_neg h1]
    by_cases h2 : ((l.take (tx l)).drop 1).all alnum = true
    · rw [if_pos h2, if_pos h2]
      simp [e3, spg]
    · rw [if_neg h2, if_neg h2]
theorem forms_m (l : List UInt8) : pg [109] l = spg [109] l := by
  have e1 : con 109 l = if (tmap (-1) l).isSome then some l.length else none := by unfold con; simp
  have e2 : scon 109 l = if (tmap (-1) l).isSome then some l.length else none := by unfold scon; simp
  rw [pg, spg]
  show (match con 109 l with | none => false | some n => pg [] (l.drop n)) = (match scon 109 l with | none => false | some n => spg [] (l.drop n))
  rw [e1, e2]
  rfl
theorem forms_star (l : List UInt8) : spg [42] l = true := by
  have : scon 42 l = some l.length := by unfold scon; simp
  rw [spg]
  show (match scon 42 l with | none => false | some n => spg [] (l.drop n)) = true
  rw [this]
  simp [spg]
/-- The two forms of a type tell the same data. -/
theorem forms_same (t : Int) (l : List UInt8) : (match formOf t with | none => true | some f => pg f.data.toList l) = spg (sform t) l := by
  by_cases c1 : t = 1
  · subst c1; show pg [52] l = spg [98, 98, 98, 98] l; rw [pg_4, spg_b4]; rfl
  by_cases c2 : t = 2
  · subst c2; show pg [110] l = spg [110] l; rw [pg_n, spg_n]; rfl
  by_cases c5 : t = 5
  · subst c5; show pg [110] l = spg [110] l; rw [pg_n, spg_n]; rfl
  by_cases c6 : t = 6
  · subst c6; show pg [110, 110, 103, 103, 103, 103, 113] l = spg [110, 110, 98, 98, 98, 98, 98, 98, 98, 98, 98, 98, 98, 98, 98, 98, 98, 98, 98, 98, 98, 98] l; rw [pg_n, pg_n, pg_g, pg_g, pg_g, pg_g, pg_q, spg_n, spg_n, spg_b4, spg_b4, spg_b4, spg_b4, spg_b4]; rfl
  by_cases c12 : t = 12
  · subst c12; show pg [110] l = spg [110] l; rw [pg_n, spg_n]; rfl
  by_cases c13 : t = 13
  · subst c13; show pg [116, 116] l = spg [116, 116] l; rw [pg_t, pg_t, spg_t, spg_t]; rfl
  by_cases c15 : t = 15
  · subst c15; show pg [50, 110] l = spg [98, 98, 110] l; rw [pg_2, pg_n, spg_bb, spg_n]; rfl
  by_cases c16 : t = 16
  · subst c16; exact forms_T l
  by_cases c28 : t = 28
  · subst c28; show pg [103, 103, 103, 103] l = spg [98, 98, 98, 98, 98, 98, 98, 98, 98, 98, 98, 98, 98, 98, 98, 98] l; rw [pg_g, pg_g, pg_g, pg_g, spg_b4, spg_b4, spg_b4, spg_b4]; rfl
  by_cases c33 : t = 33
  · subst c33; show pg [50, 50, 50, 110] l = spg [98, 98, 98, 98, 98, 98, 110] l; rw [pg_2, pg_2, pg_2, pg_n, spg_bb, spg_bb, spg_bb, spg_n]; rfl
  by_cases c35 : t = 35
  · subst c35; show pg [50, 50, 116, 116, 116, 110] l = spg [98, 98, 98, 98, 116, 116, 116, 110] l; rw [pg_2, pg_2, pg_t, pg_t, pg_t, pg_n, spg_bb, spg_bb, spg_t, spg_t, spg_t, spg_n]; rfl
  by_cases c39 : t = 39
  · subst c39; show pg [110] l = spg [110] l; rw [pg_n, spg_n]; rfl
  by_cases c47 : t = 47
  · subst c47; show pg [110, 109] l = spg [110, 109] l; rw [pg_n, spg_n, forms_m]
  by_cases c257 : t = 257
  · subst c257; show pg [49, 99, 42] l = spg [98, 99] l; rw [pg_1, spg_b, forms_c]
  have e1 : formOf t = none := by
    unfold formOf
    simp only [if_neg c1, if_neg c2, if_neg c5, if_neg c6, if_neg c12, if_neg c13, if_neg c15, if_neg c16, if_neg c28, if_neg c33, if_neg c35, if_neg c39, if_neg c47, if_neg c257]
  have e2 : sform t = [42] := by
    unfold sform
    rw [if_neg c1, if_neg (show ¬ (t = 2 ∨ t = 5 ∨ t = 12 ∨ t = 39) by omega)]
    simp only [if_neg c6, if_neg c13, if_neg c15, if_neg c16, if_neg c28, if_neg c33, if_neg c35, if_neg c47, if_neg c257]
  rw [e1, e2, forms_star]
theorem letters_of {t : Int} {f : ByteArray} (h : formOf t = some f) : letters f.data.toList := by
  unfold formOf at h
  by_cases c1 : t = 1
  · rw [if_pos c1] at h
    obtain rfl := Option.some.inj h
    unfold letters
    decide
  rw [if_neg c1] at h
  by_cases c2 : t = 2
  · rw [if_pos c2] at h
    obtain rfl := Option.some.inj h
    unfold letters
    decide
  rw [if_neg c2] at h
  by_cases c5 : t = 5
  · rw [if_pos c5] at h
    obtain rfl := Option.some.inj h
    unfold letters
    decide
  rw [if_neg c5] at h
  by_cases c6 : t = 6
  · rw [if_pos c6] at h
    obtain rfl := Option.some.inj h
    unfold letters
    decide
  rw [if_neg c6] at h
  by_cases c12 : t = 12
  · rw [if_pos c12] at h
    obtain rfl := Option.some.inj h
    unfold letters
    decide
  rw [if_neg c12] at h
  by_cases c13 : t = 13
  · rw [if_pos c13] at h
    obtain rfl := Option.some.inj h
    unfold letters
    decide
  rw [if_neg c13] at h
  by_cases c15 : t = 15
  · rw [if_pos c15] at h
    obtain rfl := Option.some.inj h
    unfold letters
    decide
  rw [if_neg c15] at h
  by_cases c16 : t = 16
  · rw [if_pos c16] at h
    obtain rfl := Option.some.inj h
    unfold letters
    decide
  rw [if_neg c16] at h
  by_cases c28 : t = 28
  · rw [if_pos c28] at h
    obtain rfl := Option.some.inj h
    unfold letters
    decide
  rw [if_neg c28] at h
  by_cases c33 : t = 33
  · rw [if_pos c33] at h
    obtain rfl := Option.some.inj h
    unfold letters
    decide
  rw [if_neg c33] at h
  by_cases c35 : t = 35
  · rw [if_pos c35] at h
    obtain rfl := Option.some.inj h
    unfold letters
    decide
  rw [if_neg c35] at h
  by_cases c39 : t = 39
  · rw [if_pos c39] at h
    obtain rfl := Option.some.inj h
    unfold letters
    decide
  rw [if_neg c39] at h
  by_cases c47 : t = 47
  · rw [if_pos c47] at h
    obtain rfl := Option.some.inj h
    unfold letters
    decide
  rw [if_neg c47] at h
  by_cases c257 : t = 257
  · rw [if_pos c257] at h
    obtain rfl := Option.some.inj h
    unfold letters
    decide
  rw [if_neg c257] at h
  cases h
theorem sletters_of (t : Int) : sletters (sform t) ∧ (sform t).length ≤ 100 := by
  unfold sform
  repeat' split
  all_goals exact ⟨by unfold sletters; decide, by decide⟩
theorem psp_no : ∀ (r : List UInt8) (p : Nat) (l : List UInt8), (∀ c ∈ r, c.toNat ≠ 110) → psp r p l = [] := by
  intro r
  induction r with
  | nil => intro p l _; rfl
  | cons c r ih =>
    intro p l h
    rw [psp]
    cases con c.toNat l with
    | none => rfl
    | some n =>
      simp only
      rw [if_neg (h c (by simp)), ih _ _ (fun x hx => h x (by simp [hx]))]
      rfl
theorem ssp_no : ∀ (r : List UInt8) (p : Nat) (l : List UInt8), (∀ c ∈ r, c.toNat ≠ 110) → ssp r p l = [] := by
  intro r
  induction r with
  | nil => intro p l _; rfl
  | cons c r ih =>
    intro p l h
    rw [ssp]
    cases scon c.toNat l with
    | none => rfl
    | some n =>
      simp only
      rw [if_neg (h c (by simp)), ih _ _ (fun x hx => h x (by simp [hx]))]
      rfl
theorem psp_n (r : List UInt8) (p : Nat) (l : List UInt8) : psp (110 :: r) p l = if nm l = 0 then [] else (p, p + nm l) :: psp r (p + nm l) (l.drop (nm l)) := by
  rw [psp]; show (match (if nm l = 0 then none else some (nm l)) with | none => [] | some n => (if (110 : Nat) = 110 then [(p, p + n)] else []) ++ psp r (p + n) (l.drop n)) = _
  by_cases h : nm l = 0
  · rw [if_pos h, if_pos h]
  · rw [if_neg h, if_neg h]; rfl
theorem ssp_n (r : List UInt8) (p : Nat) (l : List UInt8) : ssp (110 :: r) p l = if nm l = 0 then [] else (p, p + nm l) :: ssp r (p + nm l) (l.drop (nm l)) := by
  rw [ssp]; show (match (if nm l = 0 then none else some (nm l)) with | none => [] | some n => (if (110 : Nat) = 110 then [(p, p + n)] else []) ++ ssp r (p + n) (l.drop n)) = _
  by_cases h : nm l = 0
  · rw [if_pos h, if_pos h]
  · rw [if_neg h, if_neg h]; rfl
theorem psp_t (r : List UInt8) (p : Nat) (l : List UInt8) : psp (116 :: r) p l = if tx l = 0 then [] else psp r (p + tx l) (l.drop (tx l)) := by
  rw [psp]; show (match (if tx l = 0 then none else some (tx l)) with | none => [] | some n => (if (116 : Nat) = 110 then [(p, p + n)] else []) ++ psp r (p + n) (l.drop n)) = _
  by_cases h : tx l = 0
  · rw [if_pos h, if_pos h]
  · rw [if_neg h, if_neg h]; rfl
theorem ssp_t (r : List UInt8) (p : Nat) (l : List UInt8) : ssp (116 :: r) p l = if tx l = 0 then [] else ssp r (p + tx l) (l.drop (tx l)) := by
  rw [ssp]; show (match (if tx l = 0 then none else some (tx l)) with | none => [] | some n => (if (116 : Nat) = 110 then [(p, p + n)] else []) ++ ssp r (p + n) (l.drop n)) = _
  by_cases h : tx l = 0
  · rw [if_pos h, if_pos h]
  · rw [if_neg h, if_neg h]; rfl
theorem psp_2 (r : List UInt8) (p : Nat) (l : List UInt8) : psp (50 :: r) p l = if l.length < 2 then [] else psp r (p + 2) (l.drop 2) := by
  rw [psp]; show (match (if l.length < 2 then none else some 2) with | none => [] | some n => (if (50 : Nat) = 110 then [(p, p + n)] else []) ++ psp r (p + n) (l.drop n)) = _
  by_cases h : l.length < 2
  · rw [if_pos h, if_pos h]
  · rw [if_neg h, if_neg h]; rfl
theorem ssp_b (r : List UInt8) (p : Nat) (l : List UInt8) : ssp (98 :: r) p l = if l.length < 1 then [] else ssp r (p + 1) (l.drop 1) := by
  rw [ssp]; show (match (if l = [] then none else some 1) with | none => [] | some n => (if (98 : Nat) = 110 then [(p, p + n)] else []) ++ ssp r (p + n) (l.drop n)) = _
  cases l <;> simp
theorem ssp_bb (r : List UInt8) (p : Nat) (l : List UInt8) : ssp (98 :: 98 :: r) p l = if l.length < 2 then [] else ssp r (p + 2) (l.drop 2) := by
  rw [ssp_b, ssp_b, List.length_drop, List.drop_drop]
  by_cases h : l.length < 2
  · rw [if_pos h]
    split
    · rfl
    · rw [if_pos (by omega)]
  · rw [if_neg h, if_neg (by omega), if_neg (by omega)]
/-- The names stand at the same places by both forms of a type. -/
theorem spans_same (t : Int) (p : Nat) (l : List UInt8) : (match formOf t with | none => [] | some f => psp f.data.toList p l) = ssp (sform t) p l := by
  by_cases c1 : t = 1
  · subst c1; show psp [52] p l = ssp [98, 98, 98, 98] p l; rw [psp_no _ _ _ (by decide), ssp_no _ _ _ (by decide)]
  by_cases c2 : t = 2
  · subst c2; show psp [110] p l = ssp [110] p l; rw [psp_n, ssp_n]; rfl
  by_cases c5 : t = 5
  · subst c5; show psp [110] p l = ssp [110] p l; rw [psp_n, ssp_n]; rfl
  by_cases c6 : t = 6
  · subst c6; show psp [110, 110, 103, 103, 103, 103, 113] p l = ssp [110, 110, 98, 98, 98, 98, 98, 98, 98, 98, 98, 98, 98, 98, 98, 98, 98, 98, 98, 98, 98, 98] p l; rw [psp_n, psp_n, ssp_n, ssp_n, psp_no [103, 103, 103, 103, 113] _ _ (by decide), ssp_no [98, 98, 98, 98, 98, 98, 98, 98, 98, 98, 98, 98, 98, 98, 98, 98, 98, 98, 98, 98] _ _ (by decide)]
  by_cases c12 : t = 12
  · subst c12; show psp [110] p l = ssp [110] p l; rw [psp_n, ssp_n]; rfl
  by_cases c13 : t = 13
  · subst c13; show psp [116, 116] p l = ssp [116, 116] p l; rw [psp_no _ _ _ (by decide), ssp_no _ _ _ (by decide)]
  by_cases c15 : t = 15
  · subst c15; show psp [50, 110] p l = ssp [98, 98, 110] p l; rw [psp_2, psp_n, ssp_bb, ssp_n]; rfl
  by_cases c16 : t = 16
  · subst c16; show psp [84] p l = ssp [115] p l; rw [psp_no _ _ _ (by decide), ssp_no _ _ _ (by decide)]
  by_cases c28 : t = 28
  · subst c28; show psp [103, 103, 103, 103] p l = ssp [98, 98, 98, 98, 98, 98, 98, 98, 98, 98, 98, 98, 98, 98, 98, 98] p l; rw [psp_no _ _ _ (by decide), ssp_no _ _ _ (by decide)]
  by_cases c33 : t = 33
  · subst c33; show psp [50, 50, 50, 110] p l = ssp [98, 98, 98, 98, 98, 98, 110] p l; rw [psp_2, psp_2, psp_2, psp_n, ssp_bb, ssp_bb, ssp_bb, ssp_n]; rfl
  by_cases c35 : t = 35
  · subst c35; show psp [50, 50, 116, 116, 116, 110] p l = ssp [98, 98, 98, 98, 116, 116, 116, 110] p l; rw [psp_2, psp_2, psp_t, psp_t, psp_t, psp_n, ssp_bb, ssp_bb, ssp_t, ssp_t, ssp_t, ssp_n]; rfl
  by_cases c39 : t = 39
  · subst c39; show psp [110] p l = ssp [110] p l; rw [psp_n, ssp_n]; rfl
  by_cases c47 : t = 47
  · subst c47; show psp [110, 109] p l = ssp [110, 109] p l; rw [psp_n, ssp_n, psp_no [109] _ _ (by decide), ssp_no [109] _ _ (by decide)]
  by_cases c257 : t = 257
  · subst c257; show psp [49, 99, 42] p l = ssp [98, 99] p l; rw [psp_no _ _ _ (by decide), ssp_no _ _ _ (by decide)]
  have e1 : formOf t = none := by
    unfold formOf
    simp only [if_neg c1, if_neg c2, if_neg c5, if_neg c6, if_neg c12, if_neg c13, if_neg c15, if_neg c16, if_neg c28, if_neg c33, if_neg c35, if_neg c39, if_neg c47, if_neg c257]
  have e2 : sform t = [42] := by
    unfold sform
    rw [if_neg c1, if_neg (show ¬ (t = 2 ∨ t = 5 ∨ t = 12 ∨ t = 39) by omega)]
    simp only [if_neg c6, if_neg c13, if_neg c15, if_neg c16, if_neg c28, if_neg c33, if_neg c35, if_neg c47, if_neg c257]
  rw [e1, e2, ssp_no _ _ _ (by decide)]
/-- The stretches of names in data. -/
def nspans (t : Int) (l : List UInt8) : List (Nat × Nat) := ssp (sform t) 0 l
theorem impl_parsed_f (t : Int) (ht : (Lit.int .i64 t).wf = true) (s : ByteArray) (hs : s.size ≤ 65535) (K : Nat) (hK : 450000000 ≤ K) : ∃ sp, impl_parsed.f K t s = some (sp, spg (sform t) (L s)) ∧ (spg (sform t) (L s) = true → sp = (nspans t (L s)).map fun x => ⟨(x.1 : Int), (x.2 : Int)⟩) := by
  unfold impl_parsed.f
  rw [if_neg (by omega), if_pos ht, ← forms_same, nspans, ← spans_same]
  cases h : formOf t with
  | none => exact ⟨[], rfl, fun _ => rfl⟩
  | some f =>
    obtain ⟨sp, h1, h2⟩ := impl_parsed_go s hs K hK _ 0 [] (letters_of h) (Nat.zero_le _)
    exact ⟨sp, h1, h2⟩
theorem spec_parts_f (t : Int) (s : ByteArray) (hs : s.size ≤ 65535) (K : Nat) (hK : 450000000 ≤ K) : ∃ out, spec_l02Parts.f K (B (sform t)) s = some (out, spg (sform t) (L s)) ∧ (spg (sform t) (L s) = true → out = (sparts (sform t) (L s)).map B) := by
  obtain ⟨h1, h2⟩ := sletters_of t
  have h3 : (B (sform t)).data.toList = sform t := L_B _
  have h4 : (B (sform t)).size = (sform t).length := by rw [size_L, L_B]
  unfold spec_l02Parts.f
  rw [if_neg (by omega), h3]
  exact spec_l02Parts_go K hK _ s [] h1 hs (by simp; omega)
theorem CheckData_both (t : Int) (ht : (Lit.int .i64 t).wf = true) (s : ByteArray) (K : Nat) (hK : 450000001 ≤ K) : ∃ r, spec_CheckData.f K t s = some r ∧ impl_CheckData.f K t s = some r ∧ (r = 0 → spg (sform t) (L s) = true ∧ s.size ≤ 65535) := by
  obtain ⟨K, rfl⟩ : ∃ m, K = m + 1 := ⟨K - 1, by omega⟩
  have key : ∀ b : Bool, ∃ r, spec_CheckData.j0 (K + 1) t s b = some r ∧ impl_CheckData.j0 (K + 1) t s b = some r ∧ (r = 0 → spg (sform t) (L s) = true ∧ s.size ≤ 65535) := by
    intro b
    cases b with
    | true => exact ⟨6, by rw [spec_CheckData.j0, if_pos rfl], by rw [impl_CheckData.j0, if_pos rfl], fun e => by cases e⟩
    | false =>
      have hF : ¬ (false = true) := by decide
      by_cases h : (s.size : Int) > 65535
      · exact ⟨7, by rw [spec_CheckData.j0, if_neg hF, if_pos h], by rw [impl_CheckData.j0, if_neg hF, if_pos h], fun e => by cases e⟩
      · rw [show spec_CheckData.j0 (K + 1) t s false = _ from by rw [spec_CheckData.j0, if_neg hF, if_neg h], show impl_CheckData.j0 (K + 1) t s false = _ from by rw [impl_CheckData.j0, if_neg hF, if_neg h]]
        obtain ⟨out, e1, _⟩ := spec_parts_f t s (by omega) K (by omega)
        obtain ⟨sp, e2, _⟩ := impl_parsed_f t ht s (by omega) K (by omega)
        rw [spec_l02Form_eq t K (by omega), Option.bind_some, e1, e2, Option.bind_some, Option.bind_some]
        cases hp : spg (sform t) (L s)
        · exact ⟨7, rfl, rfl, fun e => by cases e⟩
        · exact ⟨0, rfl, rfl, fun _ => ⟨rfl, by omega⟩⟩
  unfold spec_CheckData.f impl_CheckData.f
  by_cases h : t < 0
  · rw [if_pos h, if_pos h]; exact key true
  · rw [if_neg h, if_neg h]; exact key _
theorem soa_long (l : List UInt8) (h : spg (sform 6) l = true) : 20 ≤ l.length := by
  have h' : spg [110, 110, 98, 98, 98, 98, 98, 98, 98, 98, 98, 98, 98, 98, 98, 98, 98, 98, 98, 98, 98, 98] l = true := h
  rw [spg_n] at h'
  split at h'
  · cases h'
  rw [spg_n] at h'
  split at h'
  · cases h'
  rw [spg_b4] at h'
  split at h'
  · cases h'
  rw [spg_b4] at h'
  split at h'
  · cases h'
  rw [spg_b4] at h'
  split at h'
  · cases h'
  rw [spg_b4] at h'
  split at h'
  · cases h'
  rw [spg_b4] at h'
  split at h'
  · cases h'
  simp only [List.length_drop] at *
  omega

end Go.Proofs.YtbaajohjglhpfaaDoor.Pure
namespace Go.Proofs.YtbaajohjglhpfaaDoor.Base
open Go Go.RowKit Go.Proofs.YtbaajohjglhpfaaDoorW.PrintWords Go.Proofs.YtbaajohjglhpfaaDoorW.PrintMore

def low (c : UInt8) : UInt8 := if 65 ≤ c.toNat ∧ c.toNat ≤ 90 then UInt8.ofNat (c.toNat + 32) else c
theorem low_toNat (c : UInt8) : (low c).toNat = if 65 ≤ c.toNat ∧ c.toNat ≤ 90 then c.toNat + 32 else c.toNat := by
  unfold low
  split
  · rw [UInt8.toNat_ofNat']
    omega
  · rfl
theorem low_small {c : UInt8} (h : c.toNat ≤ 64) : low c = c := by
  unfold low
  rw [if_neg (by omega)]
theorem low_low (c : UInt8) : low (low c) = low c := by
  apply UInt8.toNat_inj.1
  rw [low_toNat (low c), low_toNat c]
  by_cases h : 65 ≤ c.toNat ∧ c.toNat ≤ 90
  · rw [if_pos h, if_neg (by omega)]
  · rw [if_neg h, if_neg h]
def foldB (s : ByteArray) : ByteArray := B ((L s).map low)
theorem L_foldB (s : ByteArray) : L (foldB s) = (L s).map low := L_B _
theorem foldB_size (s : ByteArray) : (foldB s).size = s.size := by rw [size_L, size_L, L_foldB, List.length_map]
theorem foldB_foldB (s : ByteArray) : foldB (foldB s) = foldB s := by
  apply L_inj
  rw [L_foldB, L_foldB, List.map_map]
  exact List.map_congr_left fun c _ => low_low c
def joinL (ls : List ByteArray) : List UInt8 := ls.flatMap fun s => UInt8.ofNat s.size :: L s
def join (ls : List ByteArray) : ByteArray := B (joinL ls ++ [0])
theorem joinL_cons (s : ByteArray) (t : List ByteArray) : joinL (s :: t) = UInt8.ofNat s.size :: (L s ++ joinL t) := by simp [joinL]
theorem joinL_append (a b : List ByteArray) : joinL (a ++ b) = joinL a ++ joinL b := by simp [joinL]
theorem L_join (ls : List ByteArray) : L (join ls) = joinL ls ++ [0] := L_B _
theorem size_join (ls : List ByteArray) : (join ls).size = (joinL ls).length + 1 := by rw [size_L, L_join]; simp
/-- A name's bytes are its labels joined, and each label has from 1 to 63 bytes. -/
theorem labs_join : ∀ (n : Nat) (l : List UInt8), l.length ≤ n → ∀ ls, labs l = some ls → l = joinL ls ++ [0] ∧ ∀ s ∈ ls, 1 ≤ s.size ∧ s.size ≤ 63 := by
  intro n
  induction n with
  | zero =>
    intro l hl ls h
    obtain rfl : l = [] := List.length_eq_zero_iff.1 (by omega)
    simp [labs] at h
  | succ n ih =>
    intro l hl ls h
    cases l with
    | nil => simp [labs] at h
    | cons c r =>
      simp only [List.length_cons] at hl
      rw [labs] at h
      by_cases h0 : c.toNat = 0
      · rw [if_pos h0] at h
        by_cases hr : r = []
        · rw [if_pos hr] at h
          obtain rfl := Option.some.inj h
          subst hr
          have : c = 0 := UInt8.toNat_inj.1 h0
          subst this
          exact ⟨by simp [joinL], by simp⟩
        · rw [if_neg hr] at h; cases h
      · rw [if_neg h0] at h
        by_cases h63 : 63 < c.toNat
        · rw [if_pos h63] at h; cases h
        · rw [if_neg h63] at h
          by_cases hl2 : r.length < c.toNat
          · rw [if_pos hl2] at h; cases h
          · rw [if_neg hl2] at h
            obtain ⟨t, ht, rfl⟩ := Option.map_eq_some_iff.1 h
            obtain ⟨h1, h2⟩ := ih (r.drop c.toNat) (by simp; omega) t ht
            have hs : (B (r.take c.toNat)).size = c.toNat := by rw [size_L, L_B, List.length_take]; omega
            refine ⟨?_, ?_⟩
            · rw [joinL_cons, hs, L_B, List.cons_append, List.append_assoc, ← h1, List.take_append_drop]
              simp
            · intro s hm
              rcases List.mem_cons.1 hm with rfl | hm
              · rw [hs]; omega
              · exact h2 s hm
theorem names_join {l : List UInt8} {ls : List ByteArray} (h : names l = some ls) : l = joinL ls ++ [0] ∧ (∀ s ∈ ls, 1 ≤ s.size ∧ s.size ≤ 63) ∧ l.length ≤ 255 := by
  unfold names at h
  split at h
  · cases h
  · obtain ⟨h1, h2⟩ := labs_join _ l (Nat.le_refl _) ls h
    exact ⟨h1, h2, by omega⟩
/-- Labels of good length, joined, are cut into just these labels. -/
theorem labs_of_join : ∀ (ls : List ByteArray), (∀ s ∈ ls, 1 ≤ s.size ∧ s.size ≤ 63) → labs (joinL ls ++ [0]) = some ls := by
  intro ls
  induction ls with
  | nil => intro _; simp [joinL, labs]
  | cons s t ih =>
    intro h
    have hs := h s (by simp)
    have ht := ih fun x hx => h x (by simp [hx])
    have hl := size_L s
    have hn : (UInt8.ofNat s.size).toNat = s.size := by rw [UInt8.toNat_ofNat']; omega
    rw [joinL_cons, List.cons_append, labs, hn, if_neg (by omega), if_neg (by omega), if_neg (by simp; omega)]
    have e1 : (L s ++ joinL t ++ [0]).drop s.size = joinL t ++ [0] := by rw [List.append_assoc, hl, List.drop_left]
    have e2 : (L s ++ joinL t ++ [0]).take s.size = L s := by rw [List.append_assoc, hl, List.take_left]
    rw [e1, e2, ht, B_L]
    rfl
theorem names_of_join {ls : List ByteArray} (h : ∀ s ∈ ls, 1 ≤ s.size ∧ s.size ≤ 63) (hn : (joinL ls).length + 1 ≤ 255) : names (joinL ls ++ [0]) = some ls := by
  unfold names
  rw [if_neg (by simp; omega), labs_of_join ls h]
theorem joinL_fold : ∀ (ls : List ByteArray), (∀ s ∈ ls, s.size ≤ 63) → (joinL ls).map low = joinL (ls.map foldB) := by
  intro ls
  induction ls with
  | nil => intro _; simp [joinL]
  | cons s t ih =>
    intro h
    have hs := h s (by simp)
    rw [joinL_cons, List.map_cons, List.map_append, ih fun x hx => h x (by simp [hx]), List.map_cons, joinL_cons, foldB_size, L_foldB, low_small (by rw [UInt8.toNat_ofNat']; omega)]
theorem fold_join {ls : List ByteArray} (h : ∀ s ∈ ls, s.size ≤ 63) : foldB (join ls) = join (ls.map foldB) := by
  apply L_inj
  rw [L_foldB, L_join, L_join, List.map_append, joinL_fold ls h]
  simp [low_small]
theorem join_names {a : ByteArray} {ls : List ByteArray} (h : names (L a) = some ls) : join ls = a := L_inj (by rw [L_join, ← (names_join h).1])
theorem mem_size {ls : List ByteArray} (h : ∀ s ∈ ls, 1 ≤ s.size ∧ s.size ≤ 63) : ∀ s ∈ ls, s.size ≤ 63 := fun s hs => (h s hs).2
theorem joinL_len_fold (ls : List ByteArray) : (joinL (ls.map foldB)).length = (joinL ls).length := by
  induction ls with
  | nil => rfl
  | cons s t ih => rw [List.map_cons, joinL_cons, joinL_cons]; simp [ih, L_foldB]
theorem joinL_len_drop (ls : List ByteArray) (n : Nat) : (joinL (ls.drop n)).length ≤ (joinL ls).length := by
  have h : joinL ls = joinL (ls.take n) ++ joinL (ls.drop n) := by rw [← joinL_append, List.take_append_drop]
  rw [h, List.length_append]; omega
theorem joinL_len_ge (ls : List ByteArray) : ls.length ≤ (joinL ls).length := by
  induction ls with
  | nil => simp
  | cons s t ih => rw [joinL_cons]; simp; omega
theorem mem_len_le {ls : List ByteArray} {s : ByteArray} (h : s ∈ ls) : s.size ≤ (joinL ls).length := by
  induction ls with
  | nil => cases h
  | cons x t ih =>
    rw [joinL_cons, size_L]
    rcases List.mem_cons.1 h with rfl | h
    · simp; omega
    · have := ih h
      rw [size_L] at this
      simp; omega
def sameN (a b : ByteArray) : Bool := (names (L a)).isSome && ((names (L b)).isSome && (L (foldB a) == L (foldB b)))
theorem foldB_ne {a : ByteArray} {ls : List ByteArray} (h : names (L a) = some ls) : L (foldB a) ≠ [] := by
  rw [L_foldB, (names_join h).1]
  simp
/-- A name without its first labels. -/
def ancN (o : Option (List ByteArray)) (n : Int) : ByteArray × Int := match o with
  | none => (⟨#[]⟩, 32)
  | some ls => if n < 0 ∨ n > (ls.length : Int) then (⟨#[]⟩, 32) else (join (ls.drop n.toNat), 0)
/-- The order of two names by their labels from the right, given turned round. -/
def cmpR : List ByteArray → List ByteArray → Int
  | [], [] => 0
  | [], _ :: _ => -1
  | _ :: _, [] => 1
  | a :: x, b :: y => if Lib.compareBytes (L (foldB a)) (L (foldB b)) = 0 then cmpR x y else Lib.compareBytes (L (foldB a)) (L (foldB b))
/-- The order of two names. -/
def cmpN (a b : ByteArray) : Int := match names (L a), names (L b) with
  | some x, some y => cmpR x.reverse y.reverse
  | _, _ => 0
theorem rev_drop (l : List ByteArray) (i : Nat) (h : i < l.length) : l.reverse.drop i = l.getD (l.length - (i + 1)) ByteArray.empty :: l.reverse.drop (i + 1) := by
  rw [List.drop_eq_getElem_cons (by simpa using h)]
  congr 1
  rw [List.getElem_reverse, List.getD_eq_getElem?_getD, List.getElem?_eq_getElem (by omega)]
  simp only [Option.getD_some]
  congr 1
  omega
/-- The name that labels make. -/
def mkN (ls : List ByteArray) : ByteArray × Int := if 127 < ls.length then (⟨#[]⟩, 3) else if ∃ s ∈ ls, s.size < 1 ∨ 63 < s.size then (⟨#[]⟩, 2) else if 255 < (joinL ls).length + 1 then (⟨#[]⟩, 3) else (join ls, 0)
def GoodL (ls : List ByteArray) : Prop := ∀ s ∈ ls, 1 ≤ s.size ∧ s.size ≤ 63
theorem join_inj {x y : List ByteArray} (hx : GoodL x) (hy : GoodL y) (h : join x = join y) : x = y := by
  have h2 : labs (L (join x)) = labs (L (join y)) := by rw [h]
  rw [L_join, L_join, labs_of_join x hx, labs_of_join y hy] at h2
  exact Option.some.inj h2
theorem GoodL.fold {x : List ByteArray} (hx : GoodL x) : GoodL (x.map foldB) := by
  intro s hs
  obtain ⟨t, ht, rfl⟩ := List.mem_map.1 hs
  rw [foldB_size]
  exact hx t ht
theorem GoodL.drop {x : List ByteArray} (hx : GoodL x) (n : Nat) : GoodL (x.drop n) := fun s hs => hx s (List.mem_of_mem_drop hs)
theorem GoodL.take {x : List ByteArray} (hx : GoodL x) (n : Nat) : GoodL (x.take n) := fun s hs => hx s (List.mem_of_mem_take hs)
theorem GoodL.append {x y : List ByteArray} (hx : GoodL x) (hy : GoodL y) : GoodL (x ++ y) := fun s hs => (List.mem_append.1 hs).elim (hx s) (hy s)
theorem foldB_join_iff {x y : List ByteArray} (hx : GoodL x) (hy : GoodL y) : foldB (join x) = foldB (join y) ↔ x.map foldB = y.map foldB := by
  rw [fold_join (mem_size hx), fold_join (mem_size hy)]
  exact ⟨join_inj hx.fold hy.fold, fun h => by rw [h]⟩
theorem names_good {a : ByteArray} {ls : List ByteArray} (h : names (L a) = some ls) : GoodL ls ∧ join ls = a ∧ (joinL ls).length + 1 ≤ 255 := by
  obtain ⟨h1, h2, h3⟩ := names_join h
  exact ⟨h2, join_names h, by rw [h1] at h3; simpa using h3⟩
theorem joinL_good_ge : ∀ {ls : List ByteArray}, GoodL ls → 2 * ls.length ≤ (joinL ls).length := by
  intro ls
  induction ls with
  | nil => intro _; simp
  | cons s t ih =>
    intro h
    have h1 := h s (by simp)
    have h2 := ih fun x hx => h x (by simp [hx])
    have := size_L s
    rw [joinL_cons]
    simp only [List.length_cons, List.length_append]
    omega
/-- The name of good labels. -/
def mkG (ls : List ByteArray) : ByteArray × Int := if 255 < (joinL ls).length + 1 then (⟨#[]⟩, 3) else (join ls, 0)
theorem mkN_good {ls : List ByteArray} (h : GoodL ls) : mkN ls = mkG ls := by
  have hl := joinL_good_ge h
  have hne : ¬ ∃ s ∈ ls, s.size < 1 ∨ 63 < s.size := by
    rintro ⟨s, hs, hb⟩
    have := h s hs
    omega
  unfold mkN mkG
  by_cases h1 : 127 < ls.length
  · rw [if_pos h1, if_pos (by omega)]
  · rw [if_neg h1, if_neg hne]
/-- Is a name another one or below it: by their labels. -/
def underL (x y : List ByteArray) : Bool := decide (y.length ≤ x.length ∧ (x.drop (x.length - y.length)).map foldB = y.map foldB)
def underN (a b : ByteArray) : Bool := match names (L a), names (L b) with
  | some x, some y => underL x y
  | _, _ => false
theorem sameN_iff {a b : ByteArray} {x y : List ByteArray} (hx : names (L a) = some x) (hy : names (L b) = some y) : sameN a b = decide (x.map foldB = y.map foldB) := by
  obtain ⟨gx, jx, _⟩ := names_good hx
  obtain ⟨gy, jy, _⟩ := names_good hy
  unfold sameN
  rw [hx, hy]
  simp only [Option.isSome_some, Bool.true_and]
  by_cases h : x.map foldB = y.map foldB
  · rw [decide_eq_true h, beq_iff_eq, ← jx, ← jy, (foldB_join_iff gx gy).2 h]
  · rw [decide_eq_false h, beq_eq_false_iff_ne]
    intro e
    rw [← jx, ← jy] at e
    exact h ((foldB_join_iff gx gy).1 (L_inj e))
/-- A name put below another one. -/
def tailN (a b c : ByteArray) : ByteArray × Int := match names (L a), names (L b), names (L c) with
  | some x, some y, some z => if underL x y = true ∧ x.length ≠ y.length then mkG (x.take (x.length - y.length) ++ z) else (⟨#[]⟩, 22)
  | _, _, _ => (⟨#[]⟩, 32)
end Go.Proofs.YtbaajohjglhpfaaDoor.Base
namespace Go.Proofs.YtbaajohjglhpfaaDoor.F
open Go Go.Shelf Go.RowKit Go.Proofs.YtbaajohjglhpfaaDoorW.PrintWords Go.Proofs.YtbaajohjglhpfaaDoorW.PrintLast Go.Proofs.YtbaajohjglhpfaaDoorW.PrintMore
attribute [local go_sem] max2_int min2_int max_two min_two max_three min_three max_four min_four   -- for this text's walks alone
set_option linter.unusedVariables false
set_option linter.unusedSimpArgs false

/-! ### spec_DataNames: function 15 -/
def spec_DataNames.l0 : Nat → List (S46) → ByteArray → List ByteArray → Int → Int → Option ((List (S46)))
  | 0, _, _, _, _, _ => none
  | k + 1, x5, x6, x7, x9, x10 => if x10 < (x7.length : Int) then (if 0 ≤ x10 then (if x10 < (x6.size : Int) then (if (bt x6 x10) = 110 then (if x5.length < 8796093022208 then (spec_DataNames.l0 k (x5 ++ [(⟨x9, wrap64 (x9 + ((rdOf ByteArray.empty x7 x10).size : Int))⟩ : S46)]) x6 x7 (wrap64 (x9 + ((rdOf ByteArray.empty x7 x10).size : Int))) (wrap64 (x10 + 1))) else (none)) else (spec_DataNames.l0 k x5 x6 x7 (wrap64 (x9 + ((rdOf ByteArray.empty x7 x10).size : Int))) (wrap64 (x10 + 1)))) else (none)) else (none)) else (some x5)
def spec_DataNames.f (k : Nat) (a0 : Int) (a1 : ByteArray) : Option ((List (S46))) := (some (([] : List (S46)) : List (S46))).bind fun y101 => ((spec_CheckData.f k a0 a1).bind fun t104 => (if t104 = 0 then ((spec_l02Form.f k a0).bind fun t105 => ((spec_l02Parts.f k t105 a1).bind fun bt106 => (spec_DataNames.l0 k y101 t105 bt106.1 0 0))) else (some y101)))
theorem spec_DataNames.mono_l : ∀ k, (∀ y0 y1 y2 y3 y4, LeO (spec_DataNames.l0 k y0 y1 y2 y3 y4) (spec_DataNames.l0 (k + 1) y0 y1 y2 y3 y4))
  | 0 => fun _ _ _ _ _ r h => by simp [spec_DataNames.l0] at h
  | k + 1 => by
    have ih0 := spec_DataNames.mono_l k
    · intro y0 y1 y2 y3 y4
      unfold spec_DataNames.l0
      repeat' first
      | (with_reducible exact ih0 _ _ _ _ _)
      | (with_reducible exact spec_CheckData.mono _ _ _)
      | (with_reducible exact spec_l02Form.mono _ _)
      | (with_reducible exact spec_l02Parts.mono _ _ _)
      | (with_reducible exact LeO.refl _)
      | (with_reducible exact LeO.none _)
      | (with_reducible refine LeO.ite ?_ ?_)
      | (with_reducible refine LeO.bind ?_ (fun _ => ?_))
      | exact ih0 _ _ _ _ _
      | exact spec_CheckData.mono _ _ _
      | exact spec_l02Form.mono _ _
      | exact spec_l02Parts.mono _ _ _
      | exact LeO.none _
      | refine LeO.ite ?_ ?_
      | refine LeO.bind ?_ (fun _ => ?_)
theorem spec_DataNames.mono : ∀ a0 a1 k, LeO (spec_DataNames.f k a0 a1) (spec_DataNames.f (k + 1) a0 a1) := by
  intro a0 a1 k
  have ih0 := spec_DataNames.mono_l k
  unfold spec_DataNames.f
  repeat' first
      | (with_reducible exact ih0 _ _ _ _ _)
      | (with_reducible exact spec_CheckData.mono _ _ _)
      | (with_reducible exact spec_l02Form.mono _ _)
      | (with_reducible exact spec_l02Parts.mono _ _ _)
      | (with_reducible exact LeO.refl _)
      | (with_reducible exact LeO.none _)
      | (with_reducible refine LeO.ite ?_ ?_)
      | (with_reducible refine LeO.bind ?_ (fun _ => ?_))
      | exact ih0 _ _ _ _ _
      | exact spec_CheckData.mono _ _ _
      | exact spec_l02Form.mono _ _
      | exact spec_l02Parts.mono _ _ _
      | exact LeO.none _
      | refine LeO.ite ?_ ?_
      | refine LeO.bind ?_ (fun _ => ?_)
set_option maxHeartbeats 8000000 in
set_option maxRecDepth 100000 in
theorem spec_DataNames.calls (k : Nat) (a0 : Int) (a1 : ByteArray) (r : List (S46)) (w : World) (h : spec_DataNames.f k a0 a1 = some r) :
    Calls Tryd.prog 15 #[.int .i64 a0, .string a1] w fun e w' => ∃ v0_ : Value, e = .returned (v0_) ∧ Kd.R k46 46 w' w.heap.size (fun _ => True) v0_ r ∧ Below w.heap.size w w' := by
  have hu46 := Tryd.underlying46
  have HB := Aside0.mk (Below.refl w.heap.size w)
  have H : ((some (([] : List (S46)) : List (S46))).bind fun y101 => ((spec_CheckData.f k a0 a1).bind fun t104 => (if t104 = 0 then ((spec_l02Form.f k a0).bind fun t105 => ((spec_l02Parts.f k t105 a1).bind fun bt106 => (spec_DataNames.l0 k y101 t105 bt106.1 0 0))) else (some y101)))) = some r := h
  clear h
  obtain ⟨y101, hy101⟩ : ∃ y_ : List (S46), y_ = (([] : List (S46))) := ⟨_, rfl⟩
  replace H : ((spec_CheckData.f k a0 a1).bind fun t104 => (if t104 = 0 then ((spec_l02Form.f k a0).bind fun t105 => ((spec_l02Parts.f k t105 a1).bind fun bt106 => (spec_DataNames.l0 k y101 t105 bt106.1 0 0))) else (some y101))) = some r := by first | (rw [hy101]; with_reducible exact H) | (have H2_ := (Option.bind_some _ _).symm.trans H; rw [hy101]; with_reducible exact H2_) | (have H2_ := (Option.bind_some _ _).symm.trans H; with_reducible exact H2_) | with_reducible exact H | (rw [hy101]; exact H) | exact H
  have Ny101 := Aside0.mk hy101
  clear hy101
  replace H := Option.bind_eq_some_iff.mp H
  obtain ⟨t104, A30, H⟩ := H
  replace H : (if t104 = 0 then ((spec_l02Form.f k a0).bind fun t105 => ((spec_l02Parts.f k t105 a1).bind fun bt106 => (spec_DataNames.l0 k y101 t105 bt106.1 0 0))) else (some y101)) = some r := H
  have A3 := Aside0.mk A30
  clear A30
  by_cases c4 : t104 = 0
  · rw [if_pos c4] at H
    have c4b0 : (t104 == 0) = true := beq_iff_eq.mpr c4
    have c4b1 : (t104 != 0) = false := bne_eq_false_iff_eq.mpr c4
    clear c4
    replace H := Option.bind_eq_some_iff.mp H
    obtain ⟨t105, A50, H⟩ := H
    replace H : ((spec_l02Parts.f k t105 a1).bind fun bt106 => (spec_DataNames.l0 k y101 t105 bt106.1 0 0)) = some r := H
    have A5 := Aside0.mk A50
    clear A50
    replace H := Option.bind_eq_some_iff.mp H
    obtain ⟨⟨t106, t107⟩, A60, H⟩ := H
    replace H : (spec_DataNames.l0 k y101 t105 t106 0 0) = some r := H
    have A6 := Aside0.mk A60
    clear A60
    have H' := Aside0.mk H
    clear H
    go_enter Tryd.func15, Tryd.ntmps15
    go_wp2_with (first | ((with_reducible refine gate_dst (N := 12) rfl ?_); refine Kd.R_lit k46 _ 46 ?hg (N := 12) ?hd (xs := ([] : List (S46))) (inner := []) (ok := fun _ => True) (okp := fun _ => True) ?hr ?hp (fun _ hk => hk) trivial (Below.refl _ _) (Nat.le_refl _) (by simp) ?_; (case hd => rfl); (case hg => rfl); (case hr => first | (go_simp; done) | (go_simp; rfl)); (case hp => exact (Reps.none _ _)); intro v102 w7 ho8 hb hg_ hnew_; clear hg_ hnew_; (first | rw [← Ny101.out] at ho8 | (simp only [Int.reduceToNat] at ho8; rw [← Ny101.out] at ho8)); have n0_ := Aside0.mk (Kd.R_lower ho8 (below_size (by repeat (first | (with_reducible first | exact HB.out | apply below_alloc | apply pw_below_drewN | apply below_drew1) | exact HB.out)))); have n1_ := Aside0.mk (below_step (by repeat (first | (with_reducible first | exact HB.out | apply below_alloc | apply pw_below_drewN | apply below_drew1) | exact HB.out)) hb); clear HB; have HO103 := n0_; have HB := n1_; clear n0_ n1_; clear hb ho8) | ((with_reducible refine gate_callee (f := 9) rfl ?_); refine goesL_ (some 15) rfl rfl Tryd.func9 (by kernel_rfl) rfl #[.int .i64 a0, .string a1] rfl (by (try simp only [List.map_toArray, List.map_cons, List.map_nil]); first | done | rfl | (simp only [List.length_drop, List.length_take]; rfl)) ?_; (with_reducible refine (spec_CheckData.calls k a0 a1 t104 _ A3.out).mono ?_); rintro e w9 ⟨rfl, hb⟩; refine ⟨_, rfl, ?_⟩; have n0_ := Aside0.mk (Kd.R_below (by (with_reducible repeat (first | apply Kd.R_alloc | apply Kd.R_drewN | apply Kd.R_drew)); exact HO103.out) hb); have n1_ := Aside0.mk (below_step (by repeat (first | (with_reducible first | exact HB.out | apply below_alloc | apply pw_below_drewN | apply below_drew1) | exact HB.out)) hb); clear HO103; clear HB; have HO103 := n0_; have HB := n1_; clear n0_ n1_; (try clear hb); (try clear hb2); (try clear hk); (try clear hi)) | ((with_reducible refine gate_callee (f := 25) rfl ?_); refine goesL_ (some 19) rfl rfl Tryd.func25 (by kernel_rfl) rfl #[.int .i64 a0] rfl (by (try simp only [List.map_toArray, List.map_cons, List.map_nil]); first | done | rfl | (simp only [List.length_drop, List.length_take]; rfl)) ?_; (with_reducible refine (spec_l02Form.calls k a0 t105 _ A5.out).mono ?_); rintro e w' ⟨rfl, ⟨nd, rfl⟩⟩; refine ⟨_, rfl, ?_⟩) | ((with_reducible refine gate_callee (f := 24) rfl ?_); refine goesL_ (some 23) rfl rfl Tryd.func24 (by kernel_rfl) rfl #[.string t105, .string a1] rfl (by (try simp only [List.map_toArray, List.map_cons, List.map_nil]); first | done | rfl | (simp only [List.length_drop, List.length_take]; rfl)) ?_; (with_reducible refine (spec_l02Parts.calls k t105 a1 t106 t107 _ A6.out).mono ?_); rintro e w10 ⟨v108, rfl, ho0, hb⟩; refine ⟨_, rfl, ?_⟩; have n0_ := Aside0.mk (Kd.R_below (by (with_reducible repeat (first | apply Kd.R_alloc | apply Kd.R_drewN | apply Kd.R_drew)); exact HO103.out) hb); have n1_ := Aside0.mk (Kd.R_lower ho0 (below_size (by repeat (first | (with_reducible first | exact HB.out | apply below_alloc | apply pw_below_drewN | apply below_drew1) | exact HB.out)))); have n2_ := Aside0.mk (below_step (by repeat (first | (with_reducible first | exact HB.out | apply below_alloc | apply pw_below_drewN | apply below_drew1) | exact HB.out)) hb); clear HO103; clear HB; have HO103 := n0_; have HO109 := n1_; have HB := n2_; clear n0_ n1_ n2_; (try clear hb); (try clear hb2); (try clear hk); (try clear hi); (try clear ho0)))
    go_loopg [5, 9, 10] k (fun kq v5 v9 v10 w' => ∃ (x5_1 : List (S46)) (x9_1 : Int) (x10_1 : Int), v9 = .int .i64 x9_1 ∧ v10 = .int .i64 x10_1 ∧ Aside0 (spec_DataNames.l0 kq x5_1 t105 t106 x9_1 x10_1 = some r) ∧ Aside0 (kq ≤ k) ∧ Aside0 (Kd.R k46 46 w' w.heap.size (fun _ => True) v5 x5_1) ∧ Aside0 (Kd.R Kd.string 9 w' w.heap.size (fun _ => True) v108 t106) ∧ Aside0 (Below w.heap.size w w'))
    case atStart => exact ⟨(y101), (0), (0), (by first | rfl | (simp; done) | (simp [*]; done)), (by first | rfl | (simp; done) | (simp [*]; done)), H', ⟨Nat.le_refl _⟩, ⟨by (with_reducible repeat (first | apply Kd.R_alloc | apply Kd.R_drewN | apply Kd.R_drew)); exact HO103.out⟩, ⟨by (with_reducible repeat (first | apply Kd.R_alloc | apply Kd.R_drewN | apply Kd.R_drew)); exact HO109.out⟩, ⟨by repeat (first | (with_reducible first | exact HB.out | apply below_alloc | apply pw_below_drewN | apply below_drew1) | exact HB.out)⟩⟩
    case round =>
      clear H'
      try clear c1
      try clear c2
      try clear p2
      try clear c4
      try clear c4b0
      try clear c4b1
      try clear c9
      obtain ⟨x5_1, x9_1, x10_1, rfl, rfl, HA, HK1, HO_5, HO_7, HB⟩ := hrel
      cases gk with
      | zero => exact absurd HA.out (by simp [spec_DataNames.l0])
      | succ k1 =>
        have H := HA.out
        clear HA
        simp only [spec_DataNames.l0] at H
        by_cases c11 : x10_1 < (t106.length : Int)
        · rw [if_pos c11] at H
          have c11b0 : decide (x10_1 < (t106.length : Int)) = true := decide_eq_true c11
          clear c11
          by_cases c12 : 0 ≤ x10_1
          · rw [if_pos c12] at H
            have c12b0 : decide (0 ≤ x10_1) = true := decide_eq_true c12
            clear c12
            by_cases c13 : x10_1 < (t105.size : Int)
            · rw [if_pos c13] at H
              have c13b0 : decide (x10_1 < (t105.size : Int)) = true := decide_eq_true c13
              clear c13
              by_cases c15 : (bt t105 x10_1) = 110
              · rw [if_pos c15] at H
                have c15b0 : ((bt t105 x10_1) == 110) = true := beq_iff_eq.mpr c15
                have c15b1 : ((bt t105 x10_1) != 110) = false := bne_eq_false_iff_eq.mpr c15
                clear c15
                by_cases c16 : x5_1.length < 8796093022208
                · rw [if_pos c16] at H
                  have LMc16 := Aside0.mk c16
                  clear c16
                  obtain ⟨y111, hy111⟩ : ∃ y_ : List (S46), y_ = (x5_1 ++ [(⟨x9_1, wrap64 (x9_1 + ((rdOf ByteArray.empty t106 x10_1).size : Int))⟩ : S46)]) := ⟨_, rfl⟩
                  replace H : (spec_DataNames.l0 k1 y111 t105 t106 (wrap64 (x9_1 + ((rdOf ByteArray.empty t106 x10_1).size : Int))) (wrap64 (x10_1 + 1))) = some r := by first | (rw [hy111]; with_reducible exact H) | (have H2_ := (Option.bind_some _ _).symm.trans H; rw [hy111]; with_reducible exact H2_) | (have H2_ := (Option.bind_some _ _).symm.trans H; with_reducible exact H2_) | with_reducible exact H | (rw [hy111]; exact H) | exact H
                  have Ny111 := Aside0.mk hy111
                  clear hy111
                  have H' := Aside0.mk H
                  clear H
                  obtain ⟨Ao17, co17, eo17⟩ := Kd.R_slice HO_7.out
                  subst eo17
                  have p110 : 0 ≤ (x10_1 : Int) := of_decide_eq_true (by first | (with_reducible assumption) | assumption)
                  have q110 : x10_1 < (t106.length : Int) := of_decide_eq_true (by first | (with_reducible assumption) | assumption)
                  obtain ⟨ad110, e110, hx110_0⟩ := Kd.at_string (Kd.R_reads' HO_7.out).2.2 x10_1 p110 q110
                  cases e110
                  replace p110 := eq_true p110
                  replace q110 := eq_true q110
                  have p14 : 0 ≤ (x10_1 : Int) := of_decide_eq_true (by first | (with_reducible assumption) | assumption)
                  have q14 : x10_1 < (t105.size : Int) := of_decide_eq_true (by first | (with_reducible assumption) | assumption)
                  have hx14 := bt_at t105 x10_1
                  replace p14 := eq_true p14
                  replace q14 := eq_true q14
                  go_wp2_with (first | ((with_reducible refine gate_builtin (b := .append) (xs := #[.tmp 43, .tmp 47]) rfl ?_); at_builtin; refine Kd.R_append k46 (w0 := w) w.heap.size rfl (.tmp 43) (.tmp 47) 30 46 (.agg #[(.int .i64 0), (.int .i64 0)]) 16 rfl Tryd.underlying30 info46 rfl (by decide) (by omega) u5 x5_1 (⟨x9_1, wrap64 (x9_1 + ((rdOf ByteArray.empty t106 x10_1).size : Int))⟩ : S46) [.int .i64 x9_1, .int .i64 (wrap64 (x9_1 + ((rdOf ByteArray.empty t106 x10_1).size : Int)))] (fun _ => True) (fun _ => False) rfl rfl ?aP (fun _ hk => hk.elim) ?aF ?aO ?aB ?aS ?aL ?_; (case aP => exact k46_mkM _ _ _ (⟨x9_1, wrap64 (x9_1 + ((rdOf ByteArray.empty t106 x10_1).size : Int))⟩ : S46)); (case aB => exact (by repeat (first | (with_reducible first | exact HB.out | apply below_alloc | apply pw_below_drewN | apply below_drew1) | exact HB.out))); (case aF => exact (fun _ _ => trivial)); (case aO => exact (by (with_reducible repeat (first | apply Kd.R_alloc | apply Kd.R_drewN | apply Kd.R_drew)); exact HO_5.out)); (case aS => exact (below_size (by repeat (first | (with_reducible first | exact HB.out | apply below_alloc | apply pw_below_drewN | apply below_drew1) | exact HB.out)))); (case aL => have := LMc16.out; omega); intro v112 w18 ho hb hg hat; rw [← Ny111.out] at ho; have n0_ := Aside0.mk (Kd.R_over' (by (with_reducible repeat (first | apply Kd.R_alloc | apply Kd.R_drewN | apply Kd.R_drew)); exact HO_7.out) (Kd.R_typed (by (with_reducible repeat (first | apply Kd.R_alloc | apply Kd.R_drewN | apply Kd.R_drew)); exact HO_5.out)) (by decide) hg); have n1_ := Aside0.mk (hb); have n2_ := Aside0.mk (ho); clear HO_7; clear HB; clear HO_5; have HO_7 := n0_; have HB := n1_; have HO113 := n2_; clear n0_ n1_ n2_; clear ho hb hg hat))
                  go_roundg k1
                  case measure => have := HK1.out; omega
                  case rel => exact ⟨(y111), (wrap64 (x9_1 + ((rdOf ByteArray.empty t106 x10_1).size : Int))), (wrap64 (x10_1 + 1)), (by first | rfl | (simp; done) | (simp [*]; done)), (by first | rfl | (simp; done) | (simp [*]; done)), H', ⟨by have := HK1.out; omega⟩, ⟨by (with_reducible repeat (first | apply Kd.R_alloc | apply Kd.R_drewN | apply Kd.R_drew)); exact HO113.out⟩, ⟨by (with_reducible repeat (first | apply Kd.R_alloc | apply Kd.R_drewN | apply Kd.R_drew)); exact HO_7.out⟩, ⟨by repeat (first | (with_reducible first | exact HB.out | apply below_alloc | apply pw_below_drewN | apply below_drew1) | exact HB.out)⟩⟩
                · rw [if_neg c16] at H
                  exact absurd H (by simp)
              · rw [if_neg c15] at H
                have c15b0 : ((bt t105 x10_1) == 110) = false := beq_eq_false_iff_ne.mpr c15
                have c15b1 : ((bt t105 x10_1) != 110) = true := bne_iff_ne.mpr c15
                have H' := Aside0.mk H
                clear H
                obtain ⟨Ao19, co19, eo19⟩ := Kd.R_slice HO_7.out
                subst eo19
                have p110 : 0 ≤ (x10_1 : Int) := of_decide_eq_true (by first | (with_reducible assumption) | assumption)
                have q110 : x10_1 < (t106.length : Int) := of_decide_eq_true (by first | (with_reducible assumption) | assumption)
                obtain ⟨ad110, e110, hx110_0⟩ := Kd.at_string (Kd.R_reads' HO_7.out).2.2 x10_1 p110 q110
                cases e110
                replace p110 := eq_true p110
                replace q110 := eq_true q110
                have p14 : 0 ≤ (x10_1 : Int) := of_decide_eq_true (by first | (with_reducible assumption) | assumption)
                have q14 : x10_1 < (t105.size : Int) := of_decide_eq_true (by first | (with_reducible assumption) | assumption)
                have hx14 := bt_at t105 x10_1
                replace p14 := eq_true p14
                replace q14 := eq_true q14
                go_wp2
                go_roundg k1
                case measure => have := HK1.out; omega
                case rel => exact ⟨(x5_1), (wrap64 (x9_1 + ((rdOf ByteArray.empty t106 x10_1).size : Int))), (wrap64 (x10_1 + 1)), (by first | rfl | (simp; done) | (simp [*]; done)), (by first | rfl | (simp; done) | (simp [*]; done)), H', ⟨by have := HK1.out; omega⟩, ⟨by (with_reducible repeat (first | apply Kd.R_alloc | apply Kd.R_drewN | apply Kd.R_drew)); exact HO_5.out⟩, ⟨by (with_reducible repeat (first | apply Kd.R_alloc | apply Kd.R_drewN | apply Kd.R_drew)); exact HO_7.out⟩, ⟨by repeat (first | (with_reducible first | exact HB.out | apply below_alloc | apply pw_below_drewN | apply below_drew1) | exact HB.out)⟩⟩
            · rw [if_neg c13] at H
              exact absurd H (by simp)
          · rw [if_neg c12] at H
            exact absurd H (by simp)
        · rw [if_neg c11] at H
          have c11b0 : decide (x10_1 < (t106.length : Int)) = false := decide_eq_false c11
          clear c11
          obtain rfl := Option.some.inj H
          obtain ⟨Ao20, co20, eo20⟩ := Kd.R_slice HO_7.out
          subst eo20
          go_wp2
          go_ret
          exact ⟨_, by first | rfl | (simp [errW_none, errW_some] <;> rfl) | (simp [*, errW_none, errW_some] <;> rfl), by (with_reducible repeat (first | apply Kd.R_alloc | apply Kd.R_drewN | apply Kd.R_drew)); exact HO_5.out, by repeat (first | (with_reducible first | exact HB.out | apply below_alloc | apply pw_below_drewN | apply below_drew1) | exact HB.out)⟩
  · rw [if_neg c4] at H
    have c4b0 : (t104 == 0) = false := beq_eq_false_iff_ne.mpr c4
    have c4b1 : (t104 != 0) = true := bne_iff_ne.mpr c4
    obtain rfl := Option.some.inj H
    go_enter Tryd.func15, Tryd.ntmps15
    go_wp2_with (first | ((with_reducible refine gate_dst (N := 12) rfl ?_); refine Kd.R_lit k46 _ 46 ?hg (N := 12) ?hd (xs := ([] : List (S46))) (inner := []) (ok := fun _ => True) (okp := fun _ => True) ?hr ?hp (fun _ hk => hk) trivial (Below.refl _ _) (Nat.le_refl _) (by simp) ?_; (case hd => rfl); (case hg => rfl); (case hr => first | (go_simp; done) | (go_simp; rfl)); (case hp => exact (Reps.none _ _)); intro v102 w21 ho22 hb hg_ hnew_; clear hg_ hnew_; (first | rw [← Ny101.out] at ho22 | (simp only [Int.reduceToNat] at ho22; rw [← Ny101.out] at ho22)); have n0_ := Aside0.mk (Kd.R_lower ho22 (below_size (by repeat (first | (with_reducible first | exact HB.out | apply below_alloc | apply pw_below_drewN | apply below_drew1) | exact HB.out)))); have n1_ := Aside0.mk (below_step (by repeat (first | (with_reducible first | exact HB.out | apply below_alloc | apply pw_below_drewN | apply below_drew1) | exact HB.out)) hb); clear HB; have HO103 := n0_; have HB := n1_; clear n0_ n1_; clear hb ho22) | ((with_reducible refine gate_callee (f := 9) rfl ?_); refine goesL_ (some 15) rfl rfl Tryd.func9 (by kernel_rfl) rfl #[.int .i64 a0, .string a1] rfl (by (try simp only [List.map_toArray, List.map_cons, List.map_nil]); first | done | rfl | (simp only [List.length_drop, List.length_take]; rfl)) ?_; (with_reducible refine (spec_CheckData.calls k a0 a1 t104 _ A3.out).mono ?_); rintro e w23 ⟨rfl, hb⟩; refine ⟨_, rfl, ?_⟩; have n0_ := Aside0.mk (Kd.R_below (by (with_reducible repeat (first | apply Kd.R_alloc | apply Kd.R_drewN | apply Kd.R_drew)); exact HO103.out) hb); have n1_ := Aside0.mk (below_step (by repeat (first | (with_reducible first | exact HB.out | apply below_alloc | apply pw_below_drewN | apply below_drew1) | exact HB.out)) hb); clear HO103; clear HB; have HO103 := n0_; have HB := n1_; clear n0_ n1_; (try clear hb); (try clear hb2); (try clear hk); (try clear hi)))
    go_ret
    exact ⟨_, by first | rfl | (simp [errW_none, errW_some] <;> rfl) | (simp [*, errW_none, errW_some] <;> rfl), by (with_reducible repeat (first | apply Kd.R_alloc | apply Kd.R_drewN | apply Kd.R_drew)); exact HO103.out, by repeat (first | (with_reducible first | exact HB.out | apply below_alloc | apply pw_below_drewN | apply below_drew1) | exact HB.out)⟩

end Go.Proofs.YtbaajohjglhpfaaDoor.F
namespace Go.Proofs.YtbaajohjglhpfaaDoor.Pure
open Go.RowKit Go.Proofs.YtbaajohjglhpfaaDoor.F Go.Proofs.YtbaajohjglhpfaaDoor.Base Go.Proofs.YtbaajohjglhpfaaDoorW.PrintWords Go.Proofs.YtbaajohjglhpfaaDoorW.PrintLast Go.Proofs.YtbaajohjglhpfaaDoorW.PrintMore
set_option linter.unusedVariables false
set_option linter.unusedSimpArgs false
-- base: BaseForm
theorem scon_le (c : Nat) (l : List UInt8) (n : Nat) (h : scon c l = some n) : n ≤ l.length := by
  have h1 := nm_le l
  have h2 := tx_le l
  have h3 := runs_le l.length l
  unfold scon at h
  repeat' split at h
  all_goals first | cases h | skip
  all_goals try omega
  rename_i hl
  cases l with
  | nil => exact absurd rfl hl
  | cons a b => simp
theorem ssp_length : ∀ (r : List UInt8) (p : Nat) (l : List UInt8), (ssp r p l).length ≤ r.length := by
  intro r
  induction r with
  | nil => intro p l; exact Nat.le_refl _
  | cons c r ih =>
    intro p l
    rw [ssp]
    cases scon c.toNat l with
    | none => exact Nat.zero_le _
    | some n =>
      have := ih (p + n) (l.drop n)
      simp only
      split <;> simp <;> omega
theorem spec_DataNames_l0 (f : List UInt8) (ps : List ByteArray) (hf : f.length ≤ 100) (hps : ps.length = f.length) : ∀ (r l : List UInt8) (k i p : Nat) (out : List S46), f.drop i = r → ps.drop i = (sparts r l).map B → spg r l = true → p + l.length ≤ 65535 → r.length < k → out.length + r.length ≤ 1000 → i + r.length = f.length →
    spec_DataNames.l0 k out (B f) ps p i = some (out ++ (ssp r p l).map fun x => ⟨(x.1 : Int), (x.2 : Int)⟩) := by
  intro r
  induction r with
  | nil =>
    intro l k i p out _ _ _ _ hk _ hi
    obtain ⟨k, rfl⟩ : ∃ m, k = m + 1 := ⟨k - 1, by omega⟩
    simp only [List.length_nil] at hi
    rw [spec_DataNames.l0, if_neg (by omega)]
    simp [ssp]
  | cons c r ih =>
    intro l k i p out h1 h2 h3 h4 hk ho hi
    obtain ⟨k, rfl⟩ : ∃ m, k = m + 1 := ⟨k - 1, by omega⟩
    simp only [List.length_cons] at hi ho hk
    have hB : (B f).size = f.length := by rw [size_L, L_B]
    have hbt : bt (B f) (i : Int) = (c.toNat : Int) := by
      rw [bt_L, L_B, List.getD_eq_getElem?_getD, Int.toNat_natCast]
      have : f[i]? = (f.drop i)[0]? := by rw [List.getElem?_drop, Nat.add_zero]
      rw [this, h1]
      rfl
    rw [spg] at h3
    rw [sparts] at h2
    rw [ssp]
    cases hc : scon c.toNat l with
    | none => rw [hc] at h3; cases h3
    | some n =>
      rw [hc] at h2 h3
      simp only at h2 h3 ⊢
      have hn := scon_le _ _ _ hc
      have hrd : rdOf ByteArray.empty ps (i : Int) = B (l.take n) := by
        rw [rdOf, List.getD_eq_getElem?_getD, Int.toNat_natCast]
        have : ps[i]? = (ps.drop i)[0]? := by rw [List.getElem?_drop, Nat.add_zero]
        rw [this, h2]
        rfl
      have hsz : (B (l.take n)).size = n := by rw [size_L, L_B, List.length_take]; omega
      rw [spec_DataNames.l0, if_pos (by omega), if_pos (by omega), if_pos (by omega), hbt, hrd, hsz, w64 (x := (p : Int) + (n : Int)) (by omega) (by omega), w64 (x := (i : Int) + 1) (by omega) (by omega)]
      have hd1 : f.drop (i + 1) = r := by rw [← List.drop_drop, h1]; rfl
      have hd2 : ps.drop (i + 1) = (sparts r (l.drop n)).map B := by rw [← List.drop_drop, h2]; rfl
      have key := fun out' ho' => ih (l.drop n) k (i + 1) (p + n) out' hd1 hd2 h3 (by rw [List.length_drop]; omega) (by omega) ho' (by omega)
      rw [show ((i + 1 : Nat) : Int) = (i : Int) + 1 from by omega, show ((p + n : Nat) : Int) = (p : Int) + (n : Int) from by omega] at key
      by_cases h9 : (c.toNat : Int) = 110
      · rw [if_pos h9, if_pos (by omega), if_pos (by omega), key _ (by simp; omega)]
        simp
      · rw [if_neg h9, if_neg (by omega), key _ (by omega)]
        simp
theorem spec_DataNames_ok (t : Int) (s : ByteArray) (K : Nat) (hK : 450000000 ≤ K) (hc : spec_CheckData.f K t s = some 0) (h1 : spg (sform t) (L s) = true) (h2 : s.size ≤ 65535) : spec_DataNames.f K t s = some ((nspans t (L s)).map fun x => ⟨(x.1 : Int), (x.2 : Int)⟩) := by
  obtain ⟨out, e1, e2⟩ := spec_parts_f t s h2 K hK
  have hl := (sletters_of t).2
  unfold spec_DataNames.f
  rw [Option.bind_some, hc, Option.bind_some, if_pos rfl, spec_l02Form_eq t K (by omega), Option.bind_some, e1, Option.bind_some, e2 h1]
  have := spec_DataNames_l0 (sform t) ((sparts (sform t) (L s)).map B) hl (by rw [List.length_map, sparts_length _ _ h1]) (sform t) (L s) K 0 0 [] rfl rfl h1 (by rw [← size_L]; omega) (by omega) (by simp; omega) (by omega)
  simpa [nspans] using this
theorem spec_DataNames_bad (t : Int) (s : ByteArray) (K : Nat) (r : Int) (hr : r ≠ 0) (hc : spec_CheckData.f K t s = some r) : spec_DataNames.f K t s = some [] := by
  unfold spec_DataNames.f
  rw [Option.bind_some, hc, Option.bind_some, if_neg hr]

end Go.Proofs.YtbaajohjglhpfaaDoor.Pure
namespace Go.Proofs.YtbaajohjglhpfaaDoor.Pure
open Go.RowKit Go.Proofs.YtbaajohjglhpfaaDoor.F Go.Proofs.YtbaajohjglhpfaaDoor.Base Go.Proofs.YtbaajohjglhpfaaDoorW.PrintWords Go.Proofs.YtbaajohjglhpfaaDoorW.PrintLast Go.Proofs.YtbaajohjglhpfaaDoorW.PrintMore
set_option linter.unusedVariables false
set_option linter.unusedSimpArgs false
theorem impl_DataNames_ok (t : Int) (ht : (Lit.int .i64 t).wf = true) (s : ByteArray) (K : Nat) (hK : 450000000 ≤ K) (hc : impl_CheckData.f K t s = some 0) (h1 : spg (sform t) (L s) = true) (h2 : s.size ≤ 65535) : impl_DataNames.f K t s = some ((nspans t (L s)).map fun x => ⟨(x.1 : Int), (x.2 : Int)⟩) := by
  obtain ⟨sp, e1, e2⟩ := impl_parsed_f t ht s h2 K hK
  unfold impl_DataNames.f
  rw [hc, Option.bind_some, if_pos rfl, e1, Option.bind_some, e2 h1]
theorem impl_DataNames_bad (t : Int) (s : ByteArray) (K : Nat) (r : Int) (hr : r ≠ 0) (hc : impl_CheckData.f K t s = some r) : impl_DataNames.f K t s = some [] := by
  unfold impl_DataNames.f
  rw [hc, Option.bind_some, if_neg hr]
theorem DataNames_both (t : Int) (ht : (Lit.int .i64 t).wf = true) (s : ByteArray) (K : Nat) (hK : 450000001 ≤ K) : ∃ sp : List S46, sp.length ≤ 1000 ∧ spec_DataNames.f K t s = some sp ∧ impl_DataNames.f K t s = some sp := by
  obtain ⟨r, e1, e2, e3⟩ := CheckData_both t ht s K hK
  by_cases hr : r = 0
  · subst hr
    obtain ⟨h1, h2⟩ := e3 rfl
    refine ⟨_, ?_, spec_DataNames_ok t s K (by omega) e1 h1 h2, impl_DataNames_ok t ht s K (by omega) e2 h1 h2⟩
    have := ssp_length (sform t) 0 (L s)
    have := (sletters_of t).2
    rw [List.length_map, nspans]
    omega
  · exact ⟨[], by simp, spec_DataNames_bad t s K r hr e1, impl_DataNames_bad t s K r hr e2⟩

end Go.Proofs.YtbaajohjglhpfaaDoor.Pure
namespace Go.Proofs.YtbaajohjglhpfaaDoor.Pure
open Go.RowKit Go.Proofs.YtbaajohjglhpfaaDoor.F Go.Proofs.YtbaajohjglhpfaaDoor.Base Go.Proofs.YtbaajohjglhpfaaDoorW.PrintWords Go.Proofs.YtbaajohjglhpfaaDoorW.PrintLast Go.Proofs.YtbaajohjglhpfaaDoorW.PrintMore
set_option linter.unusedVariables false
set_option linter.unusedSimpArgs false
-- base: BaseName
theorem impl_fold_eq (a : ByteArray) (ha : a.size ≤ 140737488355328) : impl_fold.f a = some (foldB a) := by
  unfold impl_fold.f
  rw [if_pos ha]
  congr 1
  apply L_inj
  rw [L_strOfNums, L_foldB, bytesOf, List.map_map, List.map_map]
  apply List.map_congr_left
  intro c _
  simp only [Function.comp, low8]
  unfold low
  by_cases h : 65 ≤ c.toNat ∧ c.toNat ≤ 90
  · rw [if_pos (by omega), if_pos h, show ((c.toNat : Int) + 32).toNat = c.toNat + 32 from by omega]
  · rw [if_neg (by omega), if_neg h]
    simp

end Go.Proofs.YtbaajohjglhpfaaDoor.Pure
namespace Go.Proofs.YtbaajohjglhpfaaDoor.Pure
open Go.RowKit Go.Proofs.YtbaajohjglhpfaaDoor.F Go.Proofs.YtbaajohjglhpfaaDoor.Base Go.Proofs.YtbaajohjglhpfaaDoorW.PrintWords Go.Proofs.YtbaajohjglhpfaaDoorW.PrintLast Go.Proofs.YtbaajohjglhpfaaDoorW.PrintMore
set_option linter.unusedVariables false
set_option linter.unusedSimpArgs false
-- base: BaseName
theorem spec_l01Join_eq (l : List ByteArray) (hb : (joinL l).length ≤ 1000000000) : spec_l01Join.f l = some (join l) := by
  have hll := joinL_len_ge l
  have e : joinS l = joinL l := rfl
  unfold spec_l01Join.f
  rw [e, if_pos (by omega)]
  rfl

end Go.Proofs.YtbaajohjglhpfaaDoor.Pure
namespace Go.Proofs.YtbaajohjglhpfaaDoor.Pure
open Go.RowKit Go.Proofs.YtbaajohjglhpfaaDoor.F Go.Proofs.YtbaajohjglhpfaaDoor.Base Go.Proofs.YtbaajohjglhpfaaDoorW.PrintWords Go.Proofs.YtbaajohjglhpfaaDoorW.PrintLast Go.Proofs.YtbaajohjglhpfaaDoorW.PrintMore
set_option linter.unusedVariables false
set_option linter.unusedSimpArgs false
-- base: BaseName
theorem spec_l01Small_l0 (x : ByteArray) (hx0 : x.size ≤ 1048576) : ∀ (n k : Nat) (acc : List Int) (p r : List UInt8), L x = p ++ r → r.length ≤ n → n < k → acc.length + r.length ≤ 1048576 → spec_l01Small.l0 k x acc (p.length : Int) = some (strOfNums (acc ++ r.map fun c => ((low c).toNat : Int))) := by
  intro n
  induction n with
  | zero =>
    intro k acc p r hx hn hk hb
    obtain ⟨k, rfl⟩ : ∃ m, k = m + 1 := ⟨k - 1, by omega⟩
    obtain rfl : r = [] := List.length_eq_zero_iff.1 (by omega)
    have hs := size_L x
    rw [hx] at hs
    simp only [List.append_nil] at hs
    rw [spec_l01Small.l0, if_neg (by omega)]
    simp
  | succ n ih =>
    intro k acc p r hx hn hk hb
    obtain ⟨k, rfl⟩ : ∃ m, k = m + 1 := ⟨k - 1, by omega⟩
    have hs := size_L x
    rw [hx] at hs
    rw [spec_l01Small.l0]
    cases r with
    | nil =>
      simp only [List.append_nil] at hs
      rw [if_neg (by omega)]
      simp
    | cons c r =>
      simp only [List.length_append, List.length_cons] at hs hn hb
      have hc := byte_le c
      rw [if_pos (by omega), if_pos (by omega), bt_mid hx rfl, w64 (by omega) (by omega)]
      have key : ∀ v : Int, v = ((low c).toNat : Int) → (if acc.length < 140737488355328 then spec_l01Small.l0 k x (acc ++ [v]) ((p.length : Int) + 1) else none) = some (strOfNums (acc ++ (c :: r).map fun c => ((low c).toNat : Int))) := by
        intro v hv
        rw [if_pos (by omega), show (p.length : Int) + 1 = ((p ++ [c]).length : Int) by simp, ih k _ (p ++ [c]) r (by rw [hx]; simp) (by omega) (by omega) (by simp; omega), hv]
        simp
      have hlow := low_toNat c
      by_cases h1 : (c.toNat : Int) ≥ 65
      · rw [if_pos h1]
        by_cases h2 : (c.toNat : Int) ≤ 90
        · rw [if_pos h2]
          rw [if_pos (by omega)] at hlow
          exact key _ (by omega)
        · rw [if_neg h2]
          rw [if_neg (by omega)] at hlow
          exact key _ (by omega)
      · rw [if_neg h1]
        rw [if_neg (by omega)] at hlow
        exact key _ (by omega)
theorem spec_l01Small_eq (a : ByteArray) (ha : a.size ≤ 1048576) (k : Nat) (hk : a.size < k) : spec_l01Small.f k a = some (foldB a) := by
  have hs := size_L a
  unfold spec_l01Small.f
  have h := spec_l01Small_l0 a ha (L a).length k [] [] (L a) rfl (Nat.le_refl _) (by omega) (by simp; omega)
  rw [show (([] : List UInt8).length : Int) = 0 from rfl] at h
  rw [h]
  congr 1
  apply L_inj
  rw [L_strOfNums, L_foldB]
  simp

end Go.Proofs.YtbaajohjglhpfaaDoor.Pure
namespace Go.Proofs.YtbaajohjglhpfaaDoor.Pure
open Go.RowKit Go.Proofs.YtbaajohjglhpfaaDoor.F Go.Proofs.YtbaajohjglhpfaaDoor.Base Go.Proofs.YtbaajohjglhpfaaDoorW.PrintWords Go.Proofs.YtbaajohjglhpfaaDoorW.PrintLast Go.Proofs.YtbaajohjglhpfaaDoorW.PrintMore
set_option linter.unusedVariables false
set_option linter.unusedSimpArgs false
theorem spec_l01Split_l0 : ∀ (n k : Nat) (acc : List ByteArray) (x : ByteArray), x.size ≤ n → n < k → acc.length + x.size ≤ 300 → spec_l01Split.l0 k acc x = some (res acc (labs (L x))) := by
  intro n
  induction n with
  | zero =>
    intro k acc x hn hk hb
    obtain ⟨k, rfl⟩ : ∃ m, k = m + 1 := ⟨k - 1, by omega⟩
    have hs := size_L x
    have hx : L x = [] := List.length_eq_zero_iff.1 (by omega)
    simp only [spec_l01Split.l0, toL]
    rw [if_pos hx, hx]
    simp [labs, res]
  | succ n ih =>
    intro k acc x hn hk hb
    obtain ⟨k, rfl⟩ : ∃ m, k = m + 1 := ⟨k - 1, by omega⟩
    have hs := size_L x
    simp only [spec_l01Split.l0, toL]
    cases hx : L x with
    | nil => rw [if_pos rfl]; simp [labs, res]
    | cons c r =>
      rw [hx] at hs
      simp only [List.length_cons] at hs
      have hc := byte_le c
      rw [bt_cons hx, if_neg (by simp), if_pos (by omega)]
      simp (maxSteps := 10000000) (disch := omega) only [w64]
      rw [labs]
      by_cases h0 : c.toNat = 0
      · rw [if_pos (by omega), if_pos h0]
        by_cases hr : r = []
        · rw [if_pos (by subst hr; simp at hs; omega), if_pos hr]; simp [res]
        · rw [if_neg (by intro h; exact hr (List.length_eq_zero_iff.1 (by omega))), if_neg hr]; simp [res]
      · rw [if_neg (by omega), if_neg h0]
        by_cases h63 : 63 < c.toNat
        · rw [if_pos (by omega), if_pos h63]; simp [res]
        · rw [if_neg (by omega), if_neg h63]
          by_cases hl : r.length < c.toNat
          · rw [if_pos (by omega), if_pos hl]; simp [res]
          · rw [if_neg (by omega), if_neg hl, if_pos (by omega), if_pos (by omega), if_pos (by omega), if_pos (by omega)]
            have e0 : ((c.toNat : Int) + 1).toNat = c.toNat + 1 := by omega
            rw [e0]
            have e1 : x.extract 1 (c.toNat + 1) = B (r.take c.toNat) := L_inj (by rw [L_extract, hx, L_B]; simp)
            have e2 : L (x.extract (c.toNat + 1) x.size) = r.drop c.toNat := by rw [L_extract, hx, hs]; simp [List.take_of_length_le]
            have e3 : (x.extract (c.toNat + 1) x.size).size = r.length - c.toNat := by rw [size_L, e2]; simp
            rw [ih k _ _ (by omega) (by omega) (by simp; omega), e1, e2, res_map]
theorem spec_l01Split_eq (a : ByteArray) (k : Nat) (hk : 400 ≤ k) : spec_l01Split.f k a = some (res [] (names (L a))) := by
  obtain ⟨k, rfl⟩ : ∃ m, k = m + 1 := ⟨k - 1, by omega⟩
  have hs := size_L a
  unfold spec_l01Split.f names
  simp only [Option.bind_some, spec_l01Split.j0]
  by_cases h1 : (L a).length < 1
  · rw [if_pos (by omega), if_pos trivial, if_pos (by omega)]; simp [res]
  · rw [if_neg (by omega)]
    by_cases h2 : 255 < (L a).length
    · rw [if_pos (by simp; omega), if_pos (by omega)]; simp [res]
    · rw [if_neg (by simp; omega), if_neg (by omega)]
      exact spec_l01Split_l0 a.size k [] a (Nat.le_refl _) (by omega) (by simp; omega)

end Go.Proofs.YtbaajohjglhpfaaDoor.Pure
namespace Go.Proofs.YtbaajohjglhpfaaDoor.Pure
open Go.RowKit Go.Proofs.YtbaajohjglhpfaaDoor.F Go.Proofs.YtbaajohjglhpfaaDoor.Base Go.Proofs.YtbaajohjglhpfaaDoorW.PrintWords Go.Proofs.YtbaajohjglhpfaaDoorW.PrintLast Go.Proofs.YtbaajohjglhpfaaDoorW.PrintMore
set_option linter.unusedVariables false
set_option linter.unusedSimpArgs false
-- base: BaseName
theorem spec_FoldName_l0 (l : List ByteArray) (hb : (joinL l).length ≤ 1000000) : ∀ (d k i : Nat), i + d = l.length → d + l.length + 1000000 < k → spec_FoldName.l0 k ((l.take i).map foldB ++ l.drop i) (i : Int) = some (join (l.map foldB)) := by
  have hll := joinL_len_ge l
  intro d
  induction d with
  | zero =>
    intro k i hi hk
    obtain ⟨k, rfl⟩ : ∃ m, k = m + 1 := ⟨k - 1, by omega⟩
    obtain rfl : i = l.length := by omega
    have e : (l.take l.length).map foldB ++ l.drop l.length = l.map foldB := by simp
    rw [spec_FoldName.l0, e, if_neg (by simp), spec_l01Join_eq _ (by rw [joinL_len_fold]; omega)]
    simp
  | succ d ih =>
    intro k i hi hk
    obtain ⟨k, rfl⟩ : ∃ m, k = m + 1 := ⟨k - 1, by omega⟩
    have hlen : ((l.take i).map foldB ++ l.drop i).length = l.length := by simp; omega
    have hel : rdOf ByteArray.empty ((l.take i).map foldB ++ l.drop i) (i : Int) = l[i]'(by omega) := by
      have hi' : i < l.length := by omega
      simp [rdOf, List.getD_eq_getElem?_getD, List.getElem?_append_right, Nat.min_eq_left (Nat.le_of_lt hi'), hi']
    have hm : l[i]'(by omega) ∈ l := List.getElem_mem _
    have hsz := mem_len_le hm
    rw [spec_FoldName.l0, if_pos (by omega), if_pos (by omega), hel, spec_l01Small_eq _ (by omega) k (by omega)]
    simp only [Option.bind_some]
    rw [w64 (by omega) (by omega)]
    have e : ((l.take i).map foldB ++ l.drop i).set (i : Int).toNat (foldB (l[i]'(by omega))) = (l.take (i + 1)).map foldB ++ l.drop (i + 1) := by
      rw [Int.toNat_natCast, List.set_append_right _ _ (by simp; omega), List.length_map, List.length_take, Nat.min_eq_left (by omega), Nat.sub_self, List.drop_eq_getElem_cons (by omega), List.set_cons_zero, List.take_succ_eq_append_getElem (by omega), List.map_append, List.append_assoc]
      simp
    rw [e]
    exact ih k (i + 1) (by omega) (by omega)
theorem spec_FoldName_eq (a : ByteArray) (k : Nat) (hk : 1100000 ≤ k) : spec_FoldName.f k a = some (if (names (L a)).isSome = true then foldB a else ⟨#[]⟩) := by
  unfold spec_FoldName.f
  rw [spec_l01Split_eq a k (by omega)]
  cases h : names (L a) with
  | none => simp [res]
  | some ls =>
    obtain ⟨h1, h2, h3⟩ := names_join h
    have hl : (joinL ls).length + 1 ≤ 255 := by rw [h1] at h3; simpa using h3
    have hll := joinL_len_ge ls
    simp only [res, Option.bind_some, if_true, List.nil_append, Option.isSome_some]
    have := spec_FoldName_l0 ls (by omega) ls.length k 0 (by omega) (by omega)
    simp only [List.take_zero, List.map_nil, List.nil_append, List.drop_zero] at this
    rw [show ((0 : Nat) : Int) = 0 from rfl] at this
    rw [this, ← fold_join (mem_size h2), join_names h]

end Go.Proofs.YtbaajohjglhpfaaDoor.Pure
namespace Go.Proofs.YtbaajohjglhpfaaDoor.Pure
open Go.RowKit Go.Proofs.YtbaajohjglhpfaaDoor.F Go.Proofs.YtbaajohjglhpfaaDoor.Base Go.Proofs.YtbaajohjglhpfaaDoorW.PrintWords Go.Proofs.YtbaajohjglhpfaaDoorW.PrintLast Go.Proofs.YtbaajohjglhpfaaDoorW.PrintMore
set_option linter.unusedVariables false
set_option linter.unusedSimpArgs false
-- base: BaseName BaseForm
/-- The data with its names folded, by the reference's forms. -/
def fl : List UInt8 → List UInt8 → List UInt8
  | [], _ => []
  | c :: r, l => match scon c.toNat l with | none => [] | some n => (if c.toNat = 110 then (l.take n).map low else l.take n) ++ fl r (l.drop n)
theorem fl_length : ∀ (r l : List UInt8), (fl r l).length ≤ l.length := by
  intro r
  induction r with
  | nil => intro l; exact Nat.zero_le _
  | cons c r ih =>
    intro l
    rw [fl]
    cases hc : scon c.toNat l with
    | none => exact Nat.zero_le _
    | some n =>
      have hn := scon_le _ _ _ hc
      have := ih (l.drop n)
      rw [List.length_drop] at this
      simp only
      split <;> simp <;> omega
theorem scon_name (l : List UInt8) (n : Nat) (h : scon 110 l = some n) : n = nm l ∧ nm l ≠ 0 := by
  have e : scon 110 l = if nm l = 0 then none else some (nm l) := by unfold scon; simp
  rw [e] at h
  split at h
  · cases h
  · rename_i h1
    exact ⟨(Option.some.inj h).symm, h1⟩
theorem spec_FoldData_l0 (f : List UInt8) (ps : List ByteArray) (hf : f.length ≤ 100) (hps : ps.length = f.length) : ∀ (r l : List UInt8) (k i : Nat) (out : ByteArray), f.drop i = r → ps.drop i = (sparts r l).map B → spg r l = true → out.size + l.length ≤ 65535 → 1100000 + r.length < k → i + r.length = f.length →
    spec_FoldData.l0 k (B f) ps out i = some (out ++ B (fl r l)) := by
  intro r
  induction r with
  | nil =>
    intro l k i out _ _ _ _ hk hi
    obtain ⟨k, rfl⟩ : ∃ m, k = m + 1 := ⟨k - 1, by omega⟩
    simp only [List.length_nil] at hi
    rw [spec_FoldData.l0, if_neg (by omega)]
    congr 1
    apply L_inj
    rw [L_append, L_B, fl, List.append_nil]
  | cons c r ih =>
    intro l k i out h1 h2 h3 h4 hk hi
    obtain ⟨k, rfl⟩ : ∃ m, k = m + 1 := ⟨k - 1, by omega⟩
    simp only [List.length_cons] at hi hk
    have hB : (B f).size = f.length := by rw [size_L, L_B]
    have hbt : bt (B f) (i : Int) = (c.toNat : Int) := by
      rw [bt_L, L_B, List.getD_eq_getElem?_getD, Int.toNat_natCast]
      have : f[i]? = (f.drop i)[0]? := by rw [List.getElem?_drop, Nat.add_zero]
      rw [this, h1]
      rfl
    rw [spg] at h3
    rw [sparts] at h2
    rw [fl]
    cases hc : scon c.toNat l with
    | none => rw [hc] at h3; cases h3
    | some n =>
      rw [hc] at h2 h3
      simp only at h2 h3 ⊢
      have hn := scon_le _ _ _ hc
      have hrd : rdOf ByteArray.empty ps (i : Int) = B (l.take n) := by
        rw [rdOf, List.getD_eq_getElem?_getD, Int.toNat_natCast]
        have : ps[i]? = (ps.drop i)[0]? := by rw [List.getElem?_drop, Nat.add_zero]
        rw [this, h2]
        rfl
      have hsz : (B (l.take n)).size = n := by rw [size_L, L_B, List.length_take]; omega
      have hsz2 : (B ((l.take n).map low)).size = n := by rw [size_L, L_B, List.length_map, List.length_take]; omega
      rw [spec_FoldData.l0, if_pos (by omega), if_pos (by omega), if_pos (by omega), hbt, hrd, hsz, w64 (x := (i : Int) + 1) (by omega) (by omega)]
      have hd1 : f.drop (i + 1) = r := by rw [← List.drop_drop, h1]; rfl
      have hd2 : ps.drop (i + 1) = (sparts r (l.drop n)).map B := by rw [← List.drop_drop, h2]; rfl
      have key := fun out' ho' => ih (l.drop n) k (i + 1) out' hd1 hd2 h3 ho' (by omega) (by omega)
      rw [show ((i + 1 : Nat) : Int) = (i : Int) + 1 from by omega] at key
      by_cases h9 : (c.toNat : Int) = 110
      · have h9' : c.toNat = 110 := by omega
        rw [h9'] at hc
        obtain ⟨hnn, hne⟩ := scon_name l n hc
        have hfold : foldB (B (l.take n)) = B ((l.take n).map low) := L_inj (by rw [L_foldB, L_B, L_B])
        rw [if_pos h9, if_pos h9', spec_FoldName_eq _ _ (by omega), L_B, hnn, nm_names l hne, if_pos rfl, ← hnn, Option.bind_some, hfold, if_pos (by rw [hsz2]; omega), key _ (by rw [ByteArray.size_append, hsz2, List.length_drop]; omega)]
        congr 1
        apply L_inj
        simp only [L_append, L_B, List.append_assoc]
      · rw [if_neg h9, if_neg (show ¬ c.toNat = 110 by omega), if_pos (by omega), key _ (by rw [ByteArray.size_append, hsz, List.length_drop]; omega)]
        congr 1
        apply L_inj
        simp only [L_append, L_B, List.append_assoc]
/-- The data with its names folded. -/
def fdata (t : Int) (l : List UInt8) : List UInt8 := fl (sform t) l
theorem spec_FoldData_ok (t : Int) (s : ByteArray) (K : Nat) (hK : 450000000 ≤ K) (hc : spec_CheckData.f K t s = some 0) (h1 : spg (sform t) (L s) = true) (h2 : s.size ≤ 65535) : spec_FoldData.f K t s = some (B (fdata t (L s))) := by
  obtain ⟨out, e1, e2⟩ := spec_parts_f t s h2 K hK
  have hl := (sletters_of t).2
  unfold spec_FoldData.f
  rw [hc, Option.bind_some, if_pos rfl, spec_l02Form_eq t K (by omega), Option.bind_some, e1, Option.bind_some, e2 h1]
  have := spec_FoldData_l0 (sform t) ((sparts (sform t) (L s)).map B) hl (by rw [List.length_map, sparts_length _ _ h1]) (sform t) (L s) K 0 ⟨#[]⟩ rfl rfl h1 (by rw [← size_L]; show 0 + s.size ≤ 65535; omega) (by omega) (by omega)
  rw [show ((0 : Nat) : Int) = 0 from rfl] at this
  rw [this]
  have e : (⟨#[]⟩ : ByteArray) ++ B (fl (sform t) (L s)) = B (fl (sform t) (L s)) := L_inj (by rw [L_append, L_B, show L ⟨#[]⟩ = [] from rfl, List.nil_append])
  exact congrArg some e
theorem spec_FoldData_bad (t : Int) (s : ByteArray) (K : Nat) (r : Int) (hr : r ≠ 0) (hc : spec_CheckData.f K t s = some r) : spec_FoldData.f K t s = some ⟨#[]⟩ := by
  unfold spec_FoldData.f
  rw [hc, Option.bind_some, if_neg hr]

end Go.Proofs.YtbaajohjglhpfaaDoor.Pure
namespace Go.Proofs.YtbaajohjglhpfaaDoor.Pure
open Go.RowKit Go.Proofs.YtbaajohjglhpfaaDoor.F Go.Proofs.YtbaajohjglhpfaaDoor.Base Go.Proofs.YtbaajohjglhpfaaDoorW.PrintWords Go.Proofs.YtbaajohjglhpfaaDoorW.PrintLast Go.Proofs.YtbaajohjglhpfaaDoorW.PrintMore
set_option linter.unusedVariables false
set_option linter.unusedSimpArgs false
-- base: BaseName BaseForm
theorem impl_FoldData_put : ∀ (new old pre post : List Int), old.length = new.length → impl_FoldData.put (pre ++ (old ++ post)) pre.length new = pre ++ (new ++ post) := by
  intro new
  induction new with
  | nil =>
    intro old pre post h
    obtain rfl : old = [] := List.length_eq_zero_iff.1 h
    rfl
  | cons v r ih =>
    intro old pre post h
    cases old with
    | nil => simp at h
    | cons o old =>
      rw [impl_FoldData.put]
      have e : (pre ++ (o :: old ++ post)).set pre.length v = (pre ++ [v]) ++ (old ++ post) := by
        rw [List.set_append_right _ _ (Nat.le_refl _), Nat.sub_self]
        simp
      have := ih old (pre ++ [v]) post (by simpa using h)
      rw [List.length_append, List.length_singleton] at this
      rw [e, this]
      simp
def ints (l : List UInt8) : List Int := l.map fun c => (c.toNat : Int)
theorem bytesOf_ints (s : ByteArray) : bytesOf s = ints (L s) := rfl
theorem impl_FoldData_go (s : ByteArray) (hs : s.size ≤ 65535) : ∀ (r l : List UInt8) (p : Nat) (pre : List Int), spg r l = true → (L s).drop p = l → pre.length = p → p ≤ s.size → impl_FoldData.go s ((ssp r p l).map fun x => ⟨(x.1 : Int), (x.2 : Int)⟩) (pre ++ ints l) = some (pre ++ ints (fl r l)) := by
  intro r
  induction r with
  | nil =>
    intro l p pre h _ _ _
    rw [spg, List.isEmpty_iff] at h
    subst h
    rfl
  | cons c r ih =>
    intro l p pre h hl hp hps
    rw [spg] at h
    rw [ssp, fl]
    cases hc : scon c.toNat l with
    | none => rw [hc] at h; cases h
    | some n =>
      rw [hc] at h
      simp only at h ⊢
      have hn := scon_le _ _ _ hc
      have hll : l.length = s.size - p := by rw [← hl, List.length_drop, ← size_L]
      have hd : (L s).drop (p + n) = l.drop n := by rw [← List.drop_drop, hl]
      by_cases h9 : c.toNat = 110
      · rw [h9] at hc
        obtain ⟨hnn, hne⟩ := scon_name l n hc
        rw [if_pos h9, if_pos h9, List.singleton_append, List.map_cons, impl_FoldData.go, if_pos (by refine ⟨?_, ?_, ?_⟩ <;> simp only <;> omega)]
        simp only [Int.toNat_natCast]
        have hx : L (s.extract p (p + n)) = l.take n := by rw [L_extract, hl]; congr 1; omega
        have hxs : (s.extract p (p + n)).size = n := by rw [size_L, hx, List.length_take]; omega
        have hfold : foldB (s.extract p (p + n)) = B ((l.take n).map low) := L_inj (by rw [L_foldB, L_B, hx])
        have hsz2 : (B ((l.take n).map low)).size = n := by rw [size_L, L_B, List.length_map, List.length_take]; omega
        rw [impl_fold_eq _ (by omega), Option.bind_some, hfold, hsz2, if_pos (by omega), bytesOf_ints, L_B]
        have hsplit : ints l = ints (l.take n) ++ ints (l.drop n) := by unfold ints; rw [← List.map_append, List.take_append_drop]
        rw [hsplit]
        have hput := impl_FoldData_put (ints ((l.take n).map low)) (ints (l.take n)) pre (ints (l.drop n)) (by unfold ints; simp)
        rw [hp] at hput
        rw [hput, ← List.append_assoc, ih (l.drop n) (p + n) (pre ++ ints ((l.take n).map low)) h hd (by unfold ints; simp; omega) (by omega)]
        unfold ints
        simp
      · rw [if_neg h9, if_neg h9, List.nil_append]
        have hsplit : ints l = ints (l.take n) ++ ints (l.drop n) := by unfold ints; rw [← List.map_append, List.take_append_drop]
        rw [hsplit, ← List.append_assoc, ih (l.drop n) (p + n) (pre ++ ints (l.take n)) h hd (by unfold ints; simp; omega) (by omega)]
        unfold ints
        simp
theorem strOfNums_ints (l : List UInt8) : strOfNums (ints l) = B l := by
  apply L_inj
  rw [L_strOfNums, L_B, ints, List.map_map]
  exact (List.map_congr_left fun c _ => byte_id c).trans (List.map_id l)
theorem impl_FoldData_ok (t : Int) (ht : (Lit.int .i64 t).wf = true) (s : ByteArray) (K : Nat) (hK : 450000000 ≤ K) (hc : impl_CheckData.f K t s = some 0) (h1 : spg (sform t) (L s) = true) (h2 : s.size ≤ 65535) : impl_FoldData.f K t s = some (B (fdata t (L s))) := by
  unfold impl_FoldData.f
  have hsl := ssp_length (sform t) 0 (L s)
  have hsf := (sletters_of t).2
  rw [hc, Option.bind_some, if_pos rfl, if_neg (by omega), impl_DataNames_ok t ht s K hK hc h1 h2, Option.bind_some, if_neg (by rw [List.length_map, nspans]; omega), bytesOf_ints]
  have := impl_FoldData_go s h2 (sform t) (L s) 0 [] h1 rfl rfl (Nat.zero_le _)
  rw [List.nil_append, List.nil_append] at this
  rw [nspans, this, Option.bind_some, strOfNums_ints]
  rfl
theorem impl_FoldData_bad (t : Int) (s : ByteArray) (K : Nat) (r : Int) (hr : r ≠ 0) (hc : impl_CheckData.f K t s = some r) : impl_FoldData.f K t s = some ⟨#[]⟩ := by
  unfold impl_FoldData.f
  rw [hc, Option.bind_some, if_neg hr]
theorem FoldData_both (t : Int) (ht : (Lit.int .i64 t).wf = true) (s : ByteArray) (K : Nat) (hK : 450000001 ≤ K) : ∃ x, x.size ≤ 65535 ∧ spec_FoldData.f K t s = some x ∧ impl_FoldData.f K t s = some x := by
  obtain ⟨r, e1, e2, e3⟩ := CheckData_both t ht s K hK
  by_cases hr : r = 0
  · subst hr
    obtain ⟨h1, h2⟩ := e3 rfl
    refine ⟨_, ?_, spec_FoldData_ok t s K (by omega) e1 h1 h2, impl_FoldData_ok t ht s K (by omega) e2 h1 h2⟩
    have := fl_length (sform t) (L s)
    rw [size_L, L_B, fdata]
    rw [size_L] at h2
    omega
  · exact ⟨⟨#[]⟩, Nat.zero_le _, spec_FoldData_bad t s K r hr e1, impl_FoldData_bad t s K r hr e2⟩

end Go.Proofs.YtbaajohjglhpfaaDoor.Pure
namespace Go.Proofs.YtbaajohjglhpfaaDoor.Pure
open Go.RowKit Go.Proofs.YtbaajohjglhpfaaDoor.F Go.Proofs.YtbaajohjglhpfaaDoor.Base Go.Proofs.YtbaajohjglhpfaaDoorW.PrintWords Go.Proofs.YtbaajohjglhpfaaDoorW.PrintLast Go.Proofs.YtbaajohjglhpfaaDoorW.PrintMore
set_option linter.unusedVariables false
set_option linter.unusedSimpArgs false
theorem FnExactCompareData : laws_FnExactCompareData.Pure := by
  intro t a b ht _ _
  refine ⟨450000003, ?_⟩
  unfold laws_FnExactCompareData.f
  by_cases h : (a.size : Int) > 1048576
  · rw [if_pos h]
  by_cases h' : (b.size : Int) > 1048576
  · rw [if_neg h, if_pos h']
  have key : ∃ q, spec_CompareData.f 450000003 t a b = some q ∧ impl_CompareData.f 450000003 t a b = some q := by
    obtain ⟨r, e1, e2, _⟩ := CheckData_both t ht a 450000003 (by omega)
    obtain ⟨r', e1', e2', _⟩ := CheckData_both t ht b 450000003 (by omega)
    obtain ⟨x, hx, f1, f2⟩ := FoldData_both t ht a 450000002 (by omega)
    obtain ⟨y, hy, f1', f2'⟩ := FoldData_both t ht b 450000002 (by omega)
    have kj : ∀ z : Bool, ∃ q, spec_CompareData.j0 450000003 t a b z = some q ∧ impl_CompareData.j0 450000003 t a b z = some q := by
      intro z
      cases z with
      | true => exact ⟨0, by rw [spec_CompareData.j0, if_pos rfl], by rw [impl_CompareData.j0, if_pos rfl]⟩
      | false =>
        have hF : ¬ (false = true) := by decide
        refine ⟨Lib.compareBytes x.data.toList y.data.toList, ?_, ?_⟩
        · rw [spec_CompareData.j0, if_neg hF, f1, Option.bind_some, f1', Option.bind_some]; rfl
        · rw [impl_CompareData.j0, if_neg hF, f2, Option.bind_some, f2', Option.bind_some]; rfl
    unfold spec_CompareData.f impl_CompareData.f
    rw [e1, e2, Option.bind_some, Option.bind_some]
    by_cases hr : r = 0
    · rw [if_pos hr, if_pos hr, e1', e2', Option.bind_some, Option.bind_some]
      exact kj _
    · rw [if_neg hr, if_neg hr]
      exact kj _
  obtain ⟨q, q1, q2⟩ := key
  rw [if_neg h, if_neg h', q1, Option.bind_some, q2, Option.bind_some, if_pos rfl]

end Go.Proofs.YtbaajohjglhpfaaDoor.Pure
namespace Go.Proofs.YtbaajohjglhpfaaDoor.fnExactCompareData
open Go.ChangeShapes Go.WideShapes Go.ChangeAt Go.RowKit
open Go.ChangeMaps (open_string shut_string)
set_option linter.unusedVariables false
theorem laidOut : laidOutB Tryd.prog = true := by kernel_rfl
theorem own : ownKnob Tryd.prog.godebug = none := by kernel_rfl
set_option maxRecDepth 100000 in
theorem lifted (os : Os) (started : os.Started) (H : Type) (enc : TypeId × Value → H) :
    ReturnsInHanded {} Tryd.checked os 8 .any (fun w args => (Rows.fnExactCompareDataSpec.pre enc Tryd.prog Tryd.f8 [] false w args ∧ laidMetH Tryd.prog (XGlob.laidF (H := Unit)) w) ∧ sizedMet enc Tryd.prog Tryd.f8 (OpenSpec.ofChange Rows.fnExactCompareDataSpec) false w args) (Rows.fnExactCompareDataSpec.post enc Tryd.prog Tryd.f8 false true false false) := by
  refine returnsInHanded_of_change_and (C := Tryd.checked) (X := fun w _ => laidMetH Tryd.prog (XGlob.laidF (H := Unit)) w) (fun _ _ _ hh h => h.of_heap hh) own started (by kernel_rfl) Tryd.func8
    (ChangeSpec.witness_shaped (enc := enc) (C := Tryd.checked) (os := os) (X := fun w _ => laidMetH Tryd.prog (XGlob.laidF (H := Unit)) w) false (World.doorLaid Tryd.prog 84 os) #[.int .i64 0, .string ByteArray.empty, .string ByteArray.empty] 8 rfl (World.shaped_of_RefB (by kernel_rfl) (by kernel_rfl)) (by kernel_rfl) (by kernel_rfl) (by kernel_rfl) (XGlob.door_met os _)) ?_
  intro W base args ds gs before hval0 hW hcnd hsz0 hL _
  have hsz : (DataW.weightsEach Tryd.prog (Tryd.f8.params.toList ++ Rows.fnExactCompareDataSpec.plain.varTypes Tryd.prog) (ds ++ gs)).all (· ≤ reachBytes) = true := hsz0
  have hval : ∀ (j : Nat) t v, Tryd.f8.params[j]? = some t → args[j]? = some v → Value.okWide Tryd.prog W .any base t v := hval0
  have hW' := hW
  obtain ⟨p, q, hA0, hV, rfl, hfz, hnd⟩ := hW
  have hA : DataW.TrodAll enc Tryd.prog W 0 (fun _ => true) true Tryd.f8.params.toList args.toList ds p := hA0
  rw [Tryd.params8] at hA hval hsz
  obtain ⟨v0, vs0, d0, ds0, p0, q0, hargs, rfl, rfl, h0, r0⟩ := trodAll_cons hA
  obtain ⟨v1, vs1, d1, ds1, p1, q1, rfl, rfl, rfl, h1, r1⟩ := trodAll_cons r0
  obtain ⟨v2, vs2, d2, ds2, p2, q2, rfl, rfl, rfl, h2, r2⟩ := trodAll_cons r1
  obtain ⟨rfl, rfl, rfl⟩ := trodAll_nil r2
  obtain rfl : args = #[v0, v1, v2] := by cases args; simp_all
  have hV2 := hV
  obtain ⟨gg, tt, cs, fuel, dg, pg, rfl, hg1, hg2, hg3, hg4, rfl⟩ := trodVars_one hV
  obtain ⟨a0, rfl, rfl, rfl, w0⟩ := open_int Tryd.underlying2 (hval 0 2 v0 rfl rfl) h0
  obtain ⟨a1, rfl, rfl, rfl, y1⟩ := open_string Tryd.underlying9 (hval 1 9 v1 rfl rfl) h1
  have w1 : a1.size ≤ 140737488351232 := by
    have z := sized_string hsz (j := 1) (t := 9) rfl rfl
    rw [Array.length_toList] at z
    exact z
  obtain ⟨a2, rfl, rfl, rfl, y2⟩ := open_string Tryd.underlying9 (hval 2 9 v2 rfl rfl) h2
  have w2 : a2.size ≤ 140737488351232 := by
    have z := sized_string hsz (j := 2) (t := 9) rfl rfl
    rw [Array.length_toList] at z
    exact z
  clear hA0 hval0 hsz0 hsz
  refine (F.laws_FnExactCompareData.walk Pure.FnExactCompareData a0 a1 a2 W w0 w1 w2 (XGlob.glob_of_laid hL)).mono fun e W' ⟨he, bel⟩ => ?_
  subst he
  exact ⟨_, rfl, _, _, _, [], _, _, hW', trodAll_mk1 (shut_bool Tryd.underlying4 _), (trodAll_cons_mk (shut_int Tryd.underlying2 w0) (trodAll_cons_mk (shut_string Tryd.underlying9 y1) (trodAll_cons_mk (shut_string Tryd.underlying9 y2) trodAll_mk0))), bel.trodVars laidOut (by kernel_rfl) hV2, bel.frame _, fun h => by cases h⟩
theorem over : Rows.fnExactCompareDataRow.holds Tryd.pinned (OpenSpec.ofChange Rows.fnExactCompareDataSpec) :=
  OpenClaim.holds_of_wide 8 Tryd.f8 rfl rfl rfl rfl rfl rfl rfl ⟨rfl, rfl, rfl, rfl, rfl⟩ rfl rfl rfl rfl rfl (by kernel_rfl) Tryd.func8 (by kernel_rfl)
    (of_decide_eq_true (by kernel_rfl)) (by unfold Func.isWrapper; first | (rw [if_pos (by decide +kernel)]; kernel_rfl) | (rw [if_neg (by decide +kernel)]; exact ⟨rfl, rfl⟩))
    (fun os started H enc _ => lifted os started H enc)
end Go.Proofs.YtbaajohjglhpfaaDoor.fnExactCompareData
namespace Go.Proofs.YtbaajohjglhpfaaDoor
open Go
/-- The tied card. -/
theorem fnExactCompareData_holds : Rows.FnExactCompareDataCardSaid :=
  Claim7.holds_tied_plain_at .later [] [.mapped] true (true, "a71cce0d9c634e1873534bc5148387056bf8f9a90435827dabebf7fd23b2ae95") false
    fnExactCompareData.over (fun _ h => by cases h) (by kernel_rfl) (fun _ h => by cases h) fnExactCompareData_row_tie rfl ⟨rfl, rfl⟩ (by kernel_rfl) rfl
    (fun f fn hf hfn => by
      obtain rfl : f = 8 := Option.some.inj ((show Tryd.prog.funcNamed "loop.example/s01858/laws.FnExactCompareData" = some 8 by kernel_rfl).symm.trans hf) |>.symm
      obtain rfl : fn = Tryd.f8 := (Option.some.inj (Tryd.func8.symm.trans hfn)).symm
      exact ⟨by kernel_rfl, fun j t ht => by
        rw [Tryd.params8] at ht
        have hm : t ∈ [2, 9] := by simpa using Array.mem_of_getElem? ht
        have hall : ([2, 9].all fun u => !Tryd.prog.wantsStandIn u) = true := by kernel_rfl
        exact (show Tryd.prog.wantsStandIn t = false by simpa using List.all_eq_true.1 hall t hm)⟩)
    (by kernel_rfl)
#print axioms fnExactCompareData_holds
end Go.Proofs.YtbaajohjglhpfaaDoor
