/- What spec_FoldName computes, in plain words, for enough rounds. Conditions: bounds on the sizes of its arguments, as each statement says. -/
import Derived.Test.YtpbmnokmpihnjaaFx1060
import Derived.Test.YtpbmnokmpihnjaaBase
import Derived.Test.YtpbmnokmpihnjaaBaseName
import Derived.Test.YtpbmnokmpihnjaaUspecl01Join
import Derived.Test.YtpbmnokmpihnjaaUspecl01Small
import Derived.Test.YtpbmnokmpihnjaaUspecl01Split
namespace Go.Proofs.Ytpbmnokmpihnjaa.Pure
open Go.RowKit Go.Proofs.Ytpbmnokmpihnjaa.F Go.Proofs.Ytpbmnokmpihnjaa.Base Go.Proofs.YtpbmnokmpihnjaaW.PrintWords Go.Proofs.YtpbmnokmpihnjaaW.PrintLast Go.Proofs.YtpbmnokmpihnjaaW.PrintMore
set_option linter.unusedVariables false
set_option linter.unusedSimpArgs false
-- base: BaseName
theorem spec_FoldName_l0 (l : List ByteArray) (hb : (joinL l).length ≤ 1000000) : ∀ (d k i : Nat), i + d = l.length → d + l.length + 1000000 < k → spec_FoldName.l0 k ((l.take i).map foldB ++ l.drop i) (i : Int) = some (join (l.map foldB)) := by
  have hll := joinL_len_ge l
  intro d
  induction d with
  | zero =>
    intro k i hi hk
    obtain ⟨k, rfl⟩ : ∃ m, k = m + 1 := ⟨k - 1, by omega⟩
    obtain rfl : i = l.length := by omega
    have e : (l.take l.length).map foldB ++ l.drop l.length = l.map foldB := by simp
    rw [spec_FoldName.l0, e, if_neg (by simp), spec_l01Join_eq _ (by rw [joinL_len_fold]; omega)]
    simp
  | succ d ih =>
    intro k i hi hk
    obtain ⟨k, rfl⟩ : ∃ m, k = m + 1 := ⟨k - 1, by omega⟩
    have hlen : ((l.take i).map foldB ++ l.drop i).length = l.length := by simp; omega
    have hel : rdOf ByteArray.empty ((l.take i).map foldB ++ l.drop i) (i : Int) = l[i]'(by omega) := by
      have hi' : i < l.length := by omega
      simp [rdOf, List.getD_eq_getElem?_getD, List.getElem?_append_right, Nat.min_eq_left (Nat.le_of_lt hi'), hi']
    have hm : l[i]'(by omega) ∈ l := List.getElem_mem _
    have hsz := mem_len_le hm
    rw [spec_FoldName.l0, if_pos (by omega), if_pos (by omega), hel, spec_l01Small_eq _ (by omega) k (by omega)]
    simp only [Option.bind_some]
    rw [w64 (by omega) (by omega)]
    have e : ((l.take i).map foldB ++ l.drop i).set (i : Int).toNat (foldB (l[i]'(by omega))) = (l.take (i + 1)).map foldB ++ l.drop (i + 1) := by
      rw [Int.toNat_natCast, List.set_append_right _ _ (by simp; omega), List.length_map, List.length_take, Nat.min_eq_left (by omega), Nat.sub_self, List.drop_eq_getElem_cons (by omega), List.set_cons_zero, List.take_succ_eq_append_getElem (by omega), List.map_append, List.append_assoc]
      simp
    rw [e]
    exact ih k (i + 1) (by omega) (by omega)
theorem spec_FoldName_eq (a : ByteArray) (k : Nat) (hk : 1100000 ≤ k) : spec_FoldName.f k a = some (if (names (L a)).isSome = true then foldB a else ⟨#[]⟩) := by
  unfold spec_FoldName.f
  rw [spec_l01Split_eq a k (by omega)]
  cases h : names (L a) with
  | none => simp [res]
  | some ls =>
    obtain ⟨h1, h2, h3⟩ := names_join h
    have hl : (joinL ls).length + 1 ≤ 255 := by rw [h1] at h3; simpa using h3
    have hll := joinL_len_ge ls
    simp only [res, Option.bind_some, if_true, List.nil_append, Option.isSome_some]
    have := spec_FoldName_l0 ls (by omega) ls.length k 0 (by omega) (by omega)
    simp only [List.take_zero, List.map_nil, List.nil_append, List.drop_zero] at this
    rw [show ((0 : Nat) : Int) = 0 from rfl] at this
    rw [this, ← fold_join (mem_size h2), join_names h]

end Go.Proofs.Ytpbmnokmpihnjaa.Pure
