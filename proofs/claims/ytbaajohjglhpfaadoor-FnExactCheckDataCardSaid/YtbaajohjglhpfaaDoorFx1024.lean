-- Written by a program of this session (wip/myprint.py, over the kit's print). Not trusted: Lean checks it.
import Derived.Test.YtbaajohjglhpfaaDoorFx0
import Derived.Test.YtbaajohjglhpfaaDoorFx1036
import Derived.Test.YtbaajohjglhpfaaDoorFx1037
import Derived.Test.YtbaajohjglhpfaaDoorFx1038
import Derived.Test.YtbaajohjglhpfaaDoorFx1039
namespace Go.Proofs.YtbaajohjglhpfaaDoor.F
open Go Go.Shelf Go.RowKit Go.Proofs.YtbaajohjglhpfaaDoorW.PrintWords Go.Proofs.YtbaajohjglhpfaaDoorW.PrintLast Go.Proofs.YtbaajohjglhpfaaDoorW.PrintMore
attribute [local go_sem] max2_int min2_int max_two min_two max_three min_three max_four min_four   -- for this text's walks alone
set_option linter.unusedVariables false
set_option linter.unusedSimpArgs false

/-! ### spec_l02Parts: function 24 -/
def spec_l02Parts.run : Nat → ByteArray → ByteArray → Option ByteArray
  | 0, _, _ => none
  | k + 1, d, p => if d.size < p.size then none else (spec_l02Text.f (d.extract p.size d.size)).bind fun t => if t.size = 0 then some p else if p.size + t.size ≤ 9223372036854775807 then spec_l02Parts.run k d (p ++ t) else none
def spec_l02Parts.tag (K : Nat) : List Int → Option Bool
  | [] => some true
  | c :: r => (spec_l02Alnum.f c).bind fun b => if b = true then spec_l02Parts.tag K r else some false
def spec_l02Parts.pre (K : Nat) (c : Int) (d : ByteArray) : Option (Option ByteArray) :=
  if c = 110 then (spec_l02NameAt.f K d).bind fun p => some (some p)
  else if c = 98 then some (some (if d.size = 0 then ⟨#[]⟩ else d.extract 0 1))
  else if c = 116 then (spec_l02Text.f d).bind fun p => some (some p)
  else if c = 115 then (spec_l02Parts.run K d ⟨#[]⟩).bind fun p => some (some p)
  else if c = 99 then (spec_l02Text.f d).bind fun p => if p.size < 2 then some none else if 16 < p.size then some none else (spec_l02Parts.tag K ((bytesOf p).drop 1)).bind fun b => some (if b = true then some d else none)
  else if c = 109 then (spec_l02Map.f K d).bind fun b => some (if b = true then some d else none)
  else if c = 42 then some (some d) else none
def spec_l02Parts.go (K : Nat) : List UInt8 → ByteArray → List ByteArray → Option (List ByteArray × Bool)
  | [], d, out => some (out, d.toList.isEmpty)
  | c :: r, d, out => (spec_l02Parts.pre K (c.toNat : Int) d).bind fun o => match o with
    | none => some ([], false)
    | some p => if p.size = 0 ∧ (c.toNat : Int) ≠ 109 ∧ (c.toNat : Int) ≠ 42 then some ([], false) else if d.size < p.size then none else if 8796093022208 ≤ out.length then none else spec_l02Parts.go K r (d.extract p.size d.size) (out ++ [p])
def spec_l02Parts.f (k : Nat) (a0 : ByteArray) (a1 : ByteArray) : Option (List ByteArray × Bool) := if 140737488355328 < a0.size then none else spec_l02Parts.go k a0.data.toList a1 []
theorem spec_l02Parts.nil_iff (p : ByteArray) : (p.toList = []) ↔ p.size = 0 := by
  rw [Lib.toList_data]
  constructor
  · intro h
    have : p.data.size = 0 := by rw [← Array.length_toList, h]; rfl
    exact this
  · intro h
    exact List.eq_nil_of_length_eq_zero (by simpa using h)
theorem spec_l02Parts.nil_dec (p : ByteArray) : p.toList.isEmpty = decide (p.size = 0) := by
  rw [Bool.eq_iff_iff, List.isEmpty_iff, decide_eq_true_iff]
  exact spec_l02Parts.nil_iff p
set_option maxHeartbeats 8000000 in
set_option maxRecDepth 100000 in
theorem spec_l02Parts.calls (k : Nat) (a0 : ByteArray) (a1 : ByteArray) (r1 : List ByteArray) (r2 : Bool) (w : World) (h : spec_l02Parts.f k a0 a1 = some (r1, r2)) :
    Calls Tryd.prog 24 #[.string a0, .string a1] w fun e w' => ∃ v0_ : Value, e = .returned (.tuple #[v0_, .bool r2]) ∧ Kd.R Kd.string 9 w' w.heap.size (fun _ => True) v0_ r1 ∧ Below w.heap.size w w' := by
  unfold spec_l02Parts.f at h
  split at h
  case isTrue => cases h
  case isFalse hs =>
  have HB := Aside0.mk (Below.refl w.heap.size w)
  have HH := Aside0.mk h
  have HS : Aside0 (a0.size ≤ 140737488355328) := ⟨by omega⟩
  clear h hs
  go_enter Tryd.func24, Tryd.ntmps24
  go_wp2_with (first | ((with_reducible refine gate_dst (N := 10) rfl ?_); (try (refine gate_guard (by rfl) ?_; dsimp only)); refine Kd.R_lit Kd.string _ 9 ?hg (N := 10) ?hd (xs := ([] : List ByteArray)) (inner := []) (ok := fun _ => True) (okp := fun _ => True) ?hr ?hp (fun _ hk => hk) trivial (Below.refl _ _) (Nat.le_refl _) (by simp) ?_; (case hd => rfl); (case hg => rfl); (case hr => first | (go_simp; done) | (go_simp; rfl)); (case hp => exact (Reps.none _ _)); intro v102 w3 ho4 hb hg_ hnew_; clear hg_ hnew_; have n0_ := Aside0.mk (Kd.R_lower ho4 (below_size HB.out)); have n1_ := Aside0.mk (below_step HB.out hb); clear HB; have HO := n0_; have HB := n1_; clear n0_ n1_; clear hb ho4))
  go_loopg [1, 6, 7] (a0.size + 1) (fun kq v1 v6 v7 w' => ∃ (d : ByteArray) (out : List ByteArray) (i : Nat), v1 = .string d ∧ v7 = .int .i64 (i : Int) ∧ Aside0 (kq + i = a0.size + 1) ∧ Aside0 (i ≤ a0.size) ∧ Aside0 (spec_l02Parts.go k (a0.data.toList.drop i) d out = some (r1, r2)) ∧ Aside0 (Kd.R Kd.string 9 w' w.heap.size (fun _ => True) v6 out) ∧ Aside0 (Below w.heap.size w w'))
  case atStart => exact ⟨a1, [], 0, rfl, rfl, ⟨rfl⟩, ⟨Nat.zero_le _⟩, HH, HO, HB⟩
  case round =>
    clear HO HB HH
    obtain ⟨d, out, i, rfl, rfl, HK, HI, HA, HO, HB⟩ := hrel
    by_cases hi : i < a0.size
    · have hlen : i < a0.data.toList.length := by simpa using hi
      have hdrop : a0.data.toList.drop i = a0[i] :: a0.data.toList.drop (i + 1) := by
        rw [List.drop_eq_getElem_cons hlen]
        rfl
      have hO := HA.out
      rw [hdrop, spec_l02Parts.go] at hO
      clear HA
      have q3 : ((i : Int) < (a0.size : Int)) = True := eq_true (by omega)
      have q4 : (i < a0.size) = True := eq_true (by omega)
      generalize hcc : ((a0[i]'hi).toNat : Int) = c at hO
      have hx4 : ∀ h : i < a0.size, ((a0[i]'h).toNat : Int) = c := fun _ => hcc
      have HII := Aside0.mk hi
      have hov : wrap64 ((i : Int) + 1) = (i : Int) + 1 := by have := HS.out; unfold wrap64; omega
      have HOO := Aside0.mk hO
      clear hdrop hlen hcc hO hi
      go_upto_block 2 with fail
      go_cut [8] (fun v8' wc => ∃ (p : ByteArray), v8' = .string p ∧ Aside0 ((if p.size = 0 ∧ c ≠ 109 ∧ c ≠ 42 then some ([], false) else if d.size < p.size then none else if 8796093022208 ≤ out.length then none else spec_l02Parts.go k (a0.data.toList.drop (i + 1)) (d.extract p.size d.size) (out ++ [p])) = some (r1, r2)) ∧ Aside0 (Kd.R Kd.string 9 wc w.heap.size (fun _ => True) u6 out) ∧ Aside0 (Below w.heap.size w wc))
      case first =>
        have hO := HOO.out
        clear HOO
        by_cases h110 : c = 110
        · subst h110
          have e1 : spec_l02Parts.pre k 110 d = (spec_l02NameAt.f k d).bind fun p => some (some p) := by unfold spec_l02Parts.pre; simp
          rw [e1, Option.bind_assoc] at hO
          obtain ⟨p, hp, hO⟩ := Option.bind_eq_some_iff.mp hO
          rw [Option.bind_some] at hO
          have HP := Aside0.mk hp
          have HO2 := Aside0.mk hO
          clear hp hO e1
          go_wp2_with (first | (go_at_call 36; refine (spec_l02NameAt.calls k _ p _ HP.out).mono ?_; rintro e w1 ⟨rfl, m, rfl⟩))
          go_meet
          case rel => exact ⟨p, by rfl, HO2, ⟨Kd.R_drewN HO.out _⟩, ⟨pw_below_drewN HB.out _⟩⟩
        by_cases h98 : c = 98
        · subst h98
          have e1 : spec_l02Parts.pre k 98 d = some (some (if d.size = 0 then ⟨#[]⟩ else d.extract 0 1)) := by unfold spec_l02Parts.pre; simp
          rw [e1, Option.bind_some] at hO
          have hde := spec_l02Parts.nil_dec d
          clear e1
          by_cases hd0 : d.size = 0
          · rw [if_pos hd0] at hO
            rw [decide_eq_true hd0] at hde
            have HO2 := Aside0.mk hO
            clear hO hd0
            go_wp2
            go_meet
            case rel => exact ⟨⟨#[]⟩, by rfl, HO2, HO, HB⟩
          · rw [if_neg hd0] at hO
            rw [decide_eq_false hd0] at hde
            have HO2 := Aside0.mk hO
            have h1 : (1 ≤ (d.size : Int)) = True := eq_true (by omega)
            have h2 : (1 ≤ d.size) = True := eq_true (by omega)
            clear hO hd0
            go_wp2
            go_meet
            case rel => exact ⟨d.extract 0 1, by rfl, HO2, HO, HB⟩
        by_cases h116 : c = 116
        · subst h116
          have e1 : spec_l02Parts.pre k 116 d = (spec_l02Text.f d).bind fun p => some (some p) := by unfold spec_l02Parts.pre; simp
          rw [e1, Option.bind_assoc] at hO
          obtain ⟨p, hp, hO⟩ := Option.bind_eq_some_iff.mp hO
          rw [Option.bind_some] at hO
          have HP := Aside0.mk hp
          have HO2 := Aside0.mk hO
          clear hp hO e1
          go_wp2_with (first | (go_at_call 37; refine (spec_l02Text.calls _ p _ HP.out).mono ?_; rintro e w1 ⟨rfl, m, rfl⟩))
          go_meet
          case rel => exact ⟨p, by rfl, HO2, ⟨Kd.R_drewN HO.out _⟩, ⟨pw_below_drewN HB.out _⟩⟩
        by_cases h42 : c = 42
        · subst h42
          have e1 : spec_l02Parts.pre k 42 d = some (some d) := by unfold spec_l02Parts.pre; simp
          rw [e1, Option.bind_some] at hO
          have HO2 := Aside0.mk hO
          clear hO e1
          go_wp2
          go_meet
          case rel => exact ⟨d, by rfl, HO2, HO, HB⟩
        by_cases h109 : c = 109
        · subst h109
          have e1 : spec_l02Parts.pre k 109 d = (spec_l02Map.f k d).bind fun b => some (if b = true then some d else none) := by unfold spec_l02Parts.pre; simp
          rw [e1, Option.bind_assoc] at hO
          obtain ⟨b, hb, hO⟩ := Option.bind_eq_some_iff.mp hO
          rw [Option.bind_some] at hO
          have HP := Aside0.mk hb
          clear hb e1
          cases b with
          | true =>
            rw [if_pos rfl] at hO
            have HO2 := Aside0.mk hO
            clear hO
            go_wp2_with (first | (go_at_call 39; refine (spec_l02Map.calls k _ true _ HP.out).mono ?_; rintro e w1 ⟨rfl, m, rfl⟩))
            go_meet
            case rel => exact ⟨d, by rfl, HO2, ⟨Kd.R_drewN HO.out _⟩, ⟨pw_below_drewN HB.out _⟩⟩
          | false =>
            rw [if_neg (by decide)] at hO
            simp only [Option.some.injEq, Prod.mk.injEq] at hO
            obtain ⟨rfl, rfl⟩ := hO
            go_wp2_with (first | (go_at_call 39; refine (spec_l02Map.calls k _ false _ HP.out).mono ?_; rintro e w1 ⟨rfl, m, rfl⟩))
            go_ret2
            exact ⟨_, rfl, Kd.R_nil _ _ _ _ _, pw_below_drewN HB.out _⟩
        by_cases h115 : c = 115
        · subst h115
          have e1 : spec_l02Parts.pre k 115 d = (spec_l02Parts.run k d ⟨#[]⟩).bind fun p => some (some p) := by unfold spec_l02Parts.pre; simp
          rw [e1, Option.bind_assoc] at hO
          obtain ⟨pf, hp, hO⟩ := Option.bind_eq_some_iff.mp hO
          rw [Option.bind_some] at hO
          have HP := Aside0.mk hp
          have HO2 := Aside0.mk hO
          clear hp hO e1
          go_wp2
          go_loopg [8] k (fun kq v8 w' => ∃ (p : ByteArray), v8 = .string p ∧ Aside0 (spec_l02Parts.run kq d p = some pf) ∧ Aside0 (Kd.R Kd.string 9 w' w.heap.size (fun _ => True) u6 out) ∧ Aside0 (Below w.heap.size w w'))
          case atStart => exact ⟨⟨#[]⟩, rfl, HP, HO, HB⟩
          case round =>
            clear HP HO HB
            obtain ⟨p, rfl, HP, HO, HB⟩ := hrel
            cases gk with
            | zero => exact absurd HP.out (by simp [spec_l02Parts.run])
            | succ k1 =>
            have hP := HP.out
            rw [spec_l02Parts.run] at hP
            clear HP
            by_cases hds : d.size < p.size
            · rw [if_pos hds] at hP; cases hP
            · rw [if_neg hds] at hP
              obtain ⟨t, ht, hP⟩ := Option.bind_eq_some_iff.mp hP
              have hsl : ((p.size : Int) ≤ (d.size : Int)) = True := eq_true (by omega)
              have HT := Aside0.mk ht
              have hte := spec_l02Parts.nil_dec t
              clear ht hds
              by_cases ht0 : t.size = 0
              · rw [if_pos ht0] at hP
                rw [decide_eq_true ht0] at hte
                obtain rfl := Option.some.inj hP
                clear ht0 hP
                go_wp2_with (first | (go_at_call 37; refine (spec_l02Text.calls _ t _ HT.out).mono ?_; rintro e w1 ⟨rfl, m, rfl⟩))
                go_meet
                case rel => exact ⟨p, by rfl, HO2, ⟨Kd.R_drewN HO.out _⟩, ⟨pw_below_drewN HB.out _⟩⟩
              · rw [if_neg ht0] at hP
                rw [decide_eq_false ht0] at hte
                by_cases hcat : p.size + t.size ≤ 9223372036854775807
                · rw [if_pos hcat] at hP
                  have HP2 := Aside0.mk hP
                  have hcat1 : (p.size + t.size ≤ 9223372036854775807) = True := eq_true hcat
                  have hcat2 : (9223372036854775807 < p.size + t.size) = False := eq_false (Nat.not_lt.2 hcat)
                  clear hP ht0 hcat
                  go_wp2_with (first | (go_at_call 37; refine (spec_l02Text.calls _ t _ HT.out).mono ?_; rintro e w1 ⟨rfl, m, rfl⟩))
                  go_roundg k1
                  case measure => omega
                  case rel => exact ⟨p ++ t, by rfl, HP2, ⟨by repeat (first | exact HO.out | apply Kd.R_drewN)⟩, ⟨by repeat (first | exact HB.out | apply pw_below_drewN)⟩⟩
                · rw [if_neg hcat] at hP; cases hP
        by_cases h99 : c = 99
        · subst h99
          have e1 : spec_l02Parts.pre k 99 d = (spec_l02Text.f d).bind fun p => if p.size < 2 then some none else if 16 < p.size then some none else (spec_l02Parts.tag k ((bytesOf p).drop 1)).bind fun b => some (if b = true then some d else none) := by unfold spec_l02Parts.pre; simp
          rw [e1, Option.bind_assoc] at hO
          obtain ⟨p, hp, hO⟩ := Option.bind_eq_some_iff.mp hO
          have HP := Aside0.mk hp
          clear hp e1
          by_cases hp2 : p.size < 2
          · rw [if_pos hp2, Option.bind_some] at hO
            simp only [Option.some.injEq, Prod.mk.injEq] at hO
            obtain ⟨rfl, rfl⟩ := hO
            have t1 : ((p.size : Int) < 2) = True := eq_true (by omega)
            have t2 : (p.size < 2) = True := eq_true (by omega)
            clear hp2
            go_wp2_with (first | (go_at_call 37; refine (spec_l02Text.calls _ p _ HP.out).mono ?_; rintro e w1 ⟨rfl, m, rfl⟩))
            go_ret2
            exact ⟨_, rfl, Kd.R_nil _ _ _ _ _, pw_below_drewN HB.out _⟩
          · rw [if_neg hp2] at hO
            by_cases hp16 : 16 < p.size
            · rw [if_pos hp16, Option.bind_some] at hO
              simp only [Option.some.injEq, Prod.mk.injEq] at hO
              obtain ⟨rfl, rfl⟩ := hO
              have t1 : ((p.size : Int) < 2) = False := eq_false (by omega)
              have t2 : (p.size < 2) = False := eq_false (by omega)
              have t3 : (16 < (p.size : Int)) = True := eq_true (by omega)
              have t4 : (16 < p.size) = True := eq_true (by omega)
              clear hp2 hp16
              go_wp2_with (first | (go_at_call 37; refine (spec_l02Text.calls _ p _ HP.out).mono ?_; rintro e w1 ⟨rfl, m, rfl⟩))
              go_ret2
              exact ⟨_, rfl, Kd.R_nil _ _ _ _ _, pw_below_drewN HB.out _⟩
            · rw [if_neg hp16, Option.bind_assoc] at hO
              obtain ⟨b, hb, hO⟩ := Option.bind_eq_some_iff.mp hO
              rw [Option.bind_some] at hO
              have HT := Aside0.mk hb
              have HO2 := Aside0.mk hO
              have HPZ : Aside0 (2 ≤ p.size ∧ p.size ≤ 16) := ⟨by omega⟩
              have t1 : ((p.size : Int) < 2) = False := eq_false (by omega)
              have t2 : (p.size < 2) = False := eq_false (by omega)
              have t3 : (16 < (p.size : Int)) = False := eq_false (by omega)
              have t4 : (16 < p.size) = False := eq_false (by omega)
              clear hb hO hp2 hp16
              go_wp2_with (first | (go_at_call 37; refine (spec_l02Text.calls _ p _ HP.out).mono ?_; rintro e w1 ⟨rfl, m, rfl⟩))
              clear t1 t2 t3 t4
              go_loopg [9] p.size (fun kq v9 w' => ∃ j : Nat, v9 = .int .i64 (j : Int) ∧ Aside0 (kq + j = p.size + 1) ∧ Aside0 (1 ≤ j ∧ j ≤ p.size) ∧ Aside0 (spec_l02Parts.tag k ((bytesOf p).drop j) = some b) ∧ Aside0 (Kd.R Kd.string 9 w' w.heap.size (fun _ => True) u6 out) ∧ Aside0 (Below w.heap.size w w'))
              case atStart => exact ⟨1, rfl, ⟨by have := HPZ.out; omega⟩, ⟨by have := HPZ.out; omega⟩, HT, ⟨Kd.R_drewN HO.out _⟩, ⟨pw_below_drewN HB.out _⟩⟩
              case round =>
                clear HT HO HB
                obtain ⟨j, rfl, HKJ, HJ, HT, HO, HB⟩ := hrel
                have hlb := bytesOf_length p
                by_cases hjp : j < p.size
                · cases gk with
                  | zero => exact absurd HKJ.out (by omega)
                  | succ k1 =>
                  have hT := HT.out
                  have hel : (bytesOf p)[j]'(by omega) = bt p (j : Int) := by
                    rw [← rd_bytesOf]
                    simp [rd, List.getD_eq_getElem?_getD, hlb, hjp]
                  rw [List.drop_eq_getElem_cons (by omega), spec_l02Parts.tag, hel] at hT
                  obtain ⟨bb, hbb, hT⟩ := Option.bind_eq_some_iff.mp hT
                  have HBB := Aside0.mk hbb
                  have q3 : ((j : Int) < (p.size : Int)) = True := eq_true (by omega)
                  have q4 : (j < p.size) = True := eq_true (by omega)
                  have hx4 : ∀ h : j < p.size, ((p[j]'h).toNat : Int) = bt p (j : Int) := fun h => bt_at p (j : Int) h
                  have hov : wrap64 ((j : Int) + 1) = (j : Int) + 1 := by have := HJ.out; have := HPZ.out; unfold wrap64; omega
                  have HJP := Aside0.mk hjp
                  clear HT hbb hel hlb hjp
                  cases bb with
                  | true =>
                    rw [if_pos rfl] at hT
                    have HT := Aside0.mk hT
                    clear hT
                    go_wp2_with (first | (go_at_call 38; refine (spec_l02Alnum.calls _ true _ HBB.out).mono ?_; rintro e w1 ⟨rfl, m, rfl⟩))
                    go_roundg k1
                    case measure => omega
                    case rel => exact ⟨j + 1, by go_num, ⟨by have := HKJ.out; omega⟩, ⟨by have := HJP.out; omega⟩, HT, ⟨Kd.R_drewN HO.out _⟩, ⟨pw_below_drewN HB.out _⟩⟩
                  | false =>
                    rw [if_neg (by decide)] at hT
                    obtain rfl := Option.some.inj hT
                    have hO := HO2.out
                    rw [if_neg (by decide)] at hO
                    simp only [Option.some.injEq, Prod.mk.injEq] at hO
                    obtain ⟨rfl, rfl⟩ := hO
                    clear hT HO2
                    go_wp2_with (first | (go_at_call 38; refine (spec_l02Alnum.calls _ false _ HBB.out).mono ?_; rintro e w1 ⟨rfl, m, rfl⟩))
                    go_ret2
                    exact ⟨_, rfl, Kd.R_nil _ _ _ _ _, pw_below_drewN HB.out _⟩
                · obtain rfl : j = p.size := by have := HJ.out; omega
                  have hT := HT.out
                  rw [List.drop_of_length_le (by omega), spec_l02Parts.tag] at hT
                  obtain rfl := Option.some.inj hT
                  have hO := HO2.out
                  rw [if_pos rfl] at hO
                  have HO3 := Aside0.mk hO
                  clear hO hT HT HO2 hlb hjp
                  go_wp2
                  go_meet
                  case rel => exact ⟨d, by rfl, HO3, HO, HB⟩
        exfalso
        have e1 : spec_l02Parts.pre k c d = none := by unfold spec_l02Parts.pre; simp [h110, h98, h116, h42, h109, h115, h99]
        rw [e1] at hO
        cases hO
      case rest =>
        clear HOO
        obtain ⟨p, rfl, HP, HO3, HB3⟩ := hcut
        have hP := HP.out
        clear HP
        have hpe := spec_l02Parts.nil_dec p
        by_cases hp0 : p.size = 0 ∧ c ≠ 109 ∧ c ≠ 42
        · rw [if_pos hp0] at hP
          simp only [Option.some.injEq, Prod.mk.injEq] at hP
          obtain ⟨rfl, rfl⟩ := hP
          obtain ⟨p0, c1, c2⟩ := hp0
          rw [decide_eq_true p0] at hpe
          have c1b : (c != 109) = true := bne_iff_ne.mpr c1
          have c2b : (c != 42) = true := bne_iff_ne.mpr c2
          clear c1 c2 p0
          go_wp2
          go_ret2
          exact ⟨_, rfl, Kd.R_nil _ _ _ _ _, HB3.out⟩
        · rw [if_neg hp0] at hP
          by_cases hds : d.size < p.size
          · rw [if_pos hds] at hP; cases hP
          · rw [if_neg hds] at hP
            by_cases hol : 8796093022208 ≤ out.length
            · rw [if_pos hol] at hP; cases hP
            · rw [if_neg hol] at hP
              have HP := Aside0.mk hP
              have HOL := Aside0.mk hol
              have hsl : ((p.size : Int) ≤ (d.size : Int)) = True := eq_true (by omega)
              clear hP hol hds
              by_cases hps : p.size = 0
              · rw [decide_eq_true hps] at hpe
                by_cases c1 : c = 109
                · have c1b : (c != 109) = false := by rw [c1]; rfl
                  clear c1 hp0 hps
                  go_wp2_with (first | ((with_reducible refine gate_builtin (b := .append) (xs := #[.tmp 96, .tmp 98]) rfl ?_); (try (refine gate_guard (by rfl) ?_; dsimp only)); at_builtin; refine Kd.R_append Kd.string (w0 := w) w.heap.size rfl (.tmp 96) (.tmp 98) 37 9 (.string ⟨#[]⟩) 16 rfl Tryd.underlying37 info9 rfl (by decide) (by omega) u6 out p [.string p] (fun _ => True) (fun _ => False) rfl rfl ?aP (fun _ hk => hk.elim) ?aF ?aO ?aB ?aS ?aL ?_; (case aP => exact rfl); (case aB => exact HB3.out); (case aF => exact (fun _ _ => trivial)); (case aO => exact HO3.out); (case aS => exact HB3.out.size); (case aL => have := HOL.out; omega); intro v106 w16 ho hb hg hat; have HB4 := Aside0.mk hb; have HO4 := Aside0.mk ho; clear ho hb hg hat))
                  go_roundg (a0.size - i)
                  case measure => have := HII.out; have := HK.out; omega
                  case rel => exact ⟨d.extract p.size d.size, out ++ [p], i + 1, by rfl, by go_num, ⟨by have := HII.out; omega⟩, ⟨by have := HII.out; omega⟩, HP, HO4, HB4⟩
                · have c1b : (c != 109) = true := bne_iff_ne.mpr c1
                  have c2b : (c != 42) = false := bne_eq_false_iff_eq.mpr (by
                    by_cases c2 : c = 42
                    · exact c2
                    · exact absurd ⟨hps, c1, c2⟩ hp0)
                  clear c1 hp0 hps
                  go_wp2_with (first | ((with_reducible refine gate_builtin (b := .append) (xs := #[.tmp 96, .tmp 98]) rfl ?_); (try (refine gate_guard (by rfl) ?_; dsimp only)); at_builtin; refine Kd.R_append Kd.string (w0 := w) w.heap.size rfl (.tmp 96) (.tmp 98) 37 9 (.string ⟨#[]⟩) 16 rfl Tryd.underlying37 info9 rfl (by decide) (by omega) u6 out p [.string p] (fun _ => True) (fun _ => False) rfl rfl ?aP (fun _ hk => hk.elim) ?aF ?aO ?aB ?aS ?aL ?_; (case aP => exact rfl); (case aB => exact HB3.out); (case aF => exact (fun _ _ => trivial)); (case aO => exact HO3.out); (case aS => exact HB3.out.size); (case aL => have := HOL.out; omega); intro v106 w16 ho hb hg hat; have HB4 := Aside0.mk hb; have HO4 := Aside0.mk ho; clear ho hb hg hat))
                  go_roundg (a0.size - i)
                  case measure => have := HII.out; have := HK.out; omega
                  case rel => exact ⟨d.extract p.size d.size, out ++ [p], i + 1, by rfl, by go_num, ⟨by have := HII.out; omega⟩, ⟨by have := HII.out; omega⟩, HP, HO4, HB4⟩
              · rw [decide_eq_false hps] at hpe
                clear hp0 hps
                go_wp2_with (first | ((with_reducible refine gate_builtin (b := .append) (xs := #[.tmp 96, .tmp 98]) rfl ?_); (try (refine gate_guard (by rfl) ?_; dsimp only)); at_builtin; refine Kd.R_append Kd.string (w0 := w) w.heap.size rfl (.tmp 96) (.tmp 98) 37 9 (.string ⟨#[]⟩) 16 rfl Tryd.underlying37 info9 rfl (by decide) (by omega) u6 out p [.string p] (fun _ => True) (fun _ => False) rfl rfl ?aP (fun _ hk => hk.elim) ?aF ?aO ?aB ?aS ?aL ?_; (case aP => exact rfl); (case aB => exact HB3.out); (case aF => exact (fun _ _ => trivial)); (case aO => exact HO3.out); (case aS => exact HB3.out.size); (case aL => have := HOL.out; omega); intro v106 w16 ho hb hg hat; have HB4 := Aside0.mk hb; have HO4 := Aside0.mk ho; clear ho hb hg hat))
                go_roundg (a0.size - i)
                case measure => have := HII.out; have := HK.out; omega
                case rel => exact ⟨d.extract p.size d.size, out ++ [p], i + 1, by rfl, by go_num, ⟨by have := HII.out; omega⟩, ⟨by have := HII.out; omega⟩, HP, HO4, HB4⟩
    · obtain rfl : i = a0.size := by have := HI.out; omega
      have hO := HA.out
      rw [List.drop_of_length_le (by simp), spec_l02Parts.go] at hO
      simp only [Option.some.injEq, Prod.mk.injEq] at hO
      obtain ⟨rfl, rfl⟩ := hO
      clear HA
      go_wp2
      go_ret2
      exact ⟨_, rfl, HO.out, HB.out⟩
theorem spec_l02Parts.run_mono : ∀ (k : Nat) (d p : ByteArray), LeO (spec_l02Parts.run k d p) (spec_l02Parts.run (k + 1) d p) := by
  intro k
  induction k with
  | zero => intro d p; exact LeO.none _
  | succ k ih =>
    intro d p
    rw [spec_l02Parts.run, spec_l02Parts.run]
    refine LeO.ite (LeO.refl _) (LeO.bind (LeO.refl _) (fun t => LeO.ite (LeO.refl _) (LeO.ite (ih _ _) (LeO.refl _))))
theorem spec_l02Parts.tag_mono (K : Nat) : ∀ l : List Int, LeO (spec_l02Parts.tag K l) (spec_l02Parts.tag (K + 1) l) := by
  intro l
  induction l with
  | nil => exact LeO.refl _
  | cons c r ih =>
    rw [spec_l02Parts.tag, spec_l02Parts.tag]
    exact LeO.bind (LeO.refl _) (fun b => LeO.ite ih (LeO.refl _))
theorem spec_l02Parts.pre_mono (K : Nat) (c : Int) (d : ByteArray) : LeO (spec_l02Parts.pre K c d) (spec_l02Parts.pre (K + 1) c d) := by
  unfold spec_l02Parts.pre
  repeat' first
      | (with_reducible exact spec_l02NameAt.mono _ _)
      | (with_reducible exact spec_l02Map.mono _ _)
      | (with_reducible exact spec_l02Parts.run_mono _ _ _)
      | (with_reducible exact spec_l02Parts.tag_mono _ _)
      | (with_reducible exact LeO.refl _)
      | (with_reducible refine LeO.ite ?_ ?_)
      | (with_reducible refine LeO.bind ?_ (fun _ => ?_))
theorem spec_l02Parts.go_mono (K : Nat) : ∀ (l : List UInt8) (d : ByteArray) (out : List ByteArray), LeO (spec_l02Parts.go K l d out) (spec_l02Parts.go (K + 1) l d out) := by
  intro l
  induction l with
  | nil => intro d out; exact LeO.refl _
  | cons c r ih =>
    intro d out
    rw [spec_l02Parts.go, spec_l02Parts.go]
    refine LeO.bind (spec_l02Parts.pre_mono _ _ _) (fun o => ?_)
    cases o with
    | none => exact LeO.refl _
    | some p => exact LeO.ite (LeO.refl _) (LeO.ite (LeO.refl _) (LeO.ite (LeO.refl _) (ih _ _)))
theorem spec_l02Parts.mono : ∀ a0 a1 k, LeO (spec_l02Parts.f k a0 a1) (spec_l02Parts.f (k + 1) a0 a1) := by
  intro a0 a1 k
  unfold spec_l02Parts.f
  exact LeO.ite (LeO.refl _) (spec_l02Parts.go_mono _ _ _ _)

end Go.Proofs.YtbaajohjglhpfaaDoor.F
