/- What impl_MapTypes computes, in plain words, for enough rounds. Conditions: bounds on the sizes of its arguments, as each statement says. -/
import Derived.Test.YtbaajohjglhpfaaDoorFx1042
import Derived.Test.YtbaajohjglhpfaaDoorBase
import Derived.Test.YtbaajohjglhpfaaDoorBaseMap
namespace Go.Proofs.YtbaajohjglhpfaaDoor.Pure
open Go.RowKit Go.Proofs.YtbaajohjglhpfaaDoor.F Go.Proofs.YtbaajohjglhpfaaDoor.Base Go.Proofs.YtbaajohjglhpfaaDoorW.PrintWords Go.Proofs.YtbaajohjglhpfaaDoorW.PrintLast Go.Proofs.YtbaajohjglhpfaaDoorW.PrintMore
set_option linter.unusedVariables false
set_option linter.unusedSimpArgs false
-- base: BaseMap
theorem impl_MapTypes_l2 (x : ByteArray) (w n : UInt8) (p r : List UInt8) (hx : L x = p ++ w :: n :: r) (hp : p.length ≤ 10000000) (h3 : n.toNat ≤ 32) (h4 : n.toNat ≤ r.length) (last kk : Nat) (hkk : kk < n.toNat) (m : Nat) : ∀ (d j : Nat) (acc : List Int), j + d = 8 → acc.length + d ≤ 100000000 → impl_MapTypes.l2 (d + 1 + m) x acc (last : Int) (p.length : Int) (w.toNat : Int) (n.toNat : Int) (kk : Int) (j : Int) = impl_MapTypes.l1 m x (acc ++ blk w.toNat r (8 * kk + j) d) (last : Int) (p.length : Int) (w.toNat : Int) (n.toNat : Int) ((kk + 1 : Nat) : Int) := by
  have hs := size_L x
  rw [hx] at hs
  simp only [List.length_append, List.length_cons] at hs
  have hw := byte_le w
  intro d
  induction d with
  | zero =>
    intro j acc hj hb
    rw [show 0 + 1 + m = m + 1 from by omega]
    simp only [impl_MapTypes.l2]
    rw [if_neg (by omega), w64 (by omega) (by omega)]
    simp [blk]
  | succ d ih =>
    intro j acc hj hb
    rw [show d + 1 + 1 + m = (d + 1 + m) + 1 from by omega]
    simp only [impl_MapTypes.l2]
    rw [if_pos (by omega)]
    simp (maxSteps := 10000000) (disch := omega) only [w64]
    rw [if_pos (by omega), if_pos (by omega), if_pos (by omega)]
    have b2 : bt x ((p.length : Int) + 2 + (kk : Int)) = ((r.getD kk 0).toNat : Int) := by
      rw [bt_L, hx, show ((p.length : Int) + 2 + (kk : Int)).toNat = p.length + (kk + 2) from by omega, getD_len]
      simp [List.getD_eq_getElem?_getD]
    rw [b2]
    have hbit := bit_iff (r.getD kk 0) (7 - j) (by omega) (7 - (j : Int)) (by omega)
    have e8 : (8 * kk + j) / 8 = kk := by omega
    have e8' : (8 * kk + j) % 8 = j := by omega
    rw [blk]
    by_cases hB : bitAt r (8 * kk + j) = true
    · have hB' : ((r.getD kk 0).toNat / 2 ^ (7 - j)) % 2 = 1 := by unfold bitAt at hB; rw [e8, e8'] at hB; exact of_decide_eq_true hB
      rw [if_pos (hbit.2 hB'), if_pos (by omega), if_pos hB]
      have := ih (j + 1) (acc ++ [256 * (w.toNat : Int) + ((8 * kk + j : Nat) : Int)]) (by omega) (by simp; omega)
      rw [show ((j + 1 : Nat) : Int) = (j : Int) + 1 from by omega, List.append_assoc, show 8 * kk + (j + 1) = 8 * kk + j + 1 from by omega] at this
      rw [← this, show 256 * (w.toNat : Int) + ((8 * kk + j : Nat) : Int) = 256 * (w.toNat : Int) + 8 * (kk : Int) + (j : Int) from by omega]
    · have hB' : ¬ ((r.getD kk 0).toNat / 2 ^ (7 - j)) % 2 = 1 := by unfold bitAt at hB; rw [e8, e8'] at hB; simpa using hB
      rw [if_neg (fun h => hB' (hbit.1 h)), if_neg hB]
      have := ih (j + 1) acc (by omega) (by omega)
      rw [show ((j + 1 : Nat) : Int) = (j : Int) + 1 from by omega, show 8 * kk + (j + 1) = 8 * kk + j + 1 from by omega] at this
      rw [this, List.nil_append]
theorem impl_MapTypes_l1 (x : ByteArray) (w n : UInt8) (p r : List UInt8) (hx : L x = p ++ w :: n :: r) (hp : p.length ≤ 10000000) (h3 : n.toNat ≤ 32) (h4 : n.toNat ≤ r.length) (last : Nat) (m : Nat) : ∀ (d kk : Nat) (acc : List Int), kk + d = n.toNat → acc.length + 8 * d ≤ 100000000 → impl_MapTypes.l1 (10 * d + 1 + m) x acc (last : Int) (p.length : Int) (w.toNat : Int) (n.toNat : Int) (kk : Int) = impl_MapTypes.l0 m x (acc ++ blk w.toNat r (8 * kk) (8 * d)) (last : Int) ((p.length + 2 + n.toNat : Nat) : Int) := by
  intro d
  induction d with
  | zero =>
    intro kk acc hk hb
    rw [show 10 * 0 + 1 + m = m + 1 from by omega]
    simp only [impl_MapTypes.l1]
    rw [if_neg (by omega)]
    simp (maxSteps := 10000000) (disch := omega) only [w64]
    simp only [Nat.mul_zero, blk, List.append_nil]
    rw [show (p.length : Int) + (2 + (n.toNat : Int)) = ((p.length + 2 + n.toNat : Nat) : Int) from by omega]
  | succ d ih =>
    intro kk acc hk hb
    rw [show 10 * (d + 1) + 1 + m = (8 + 1 + (10 * d + 1 + m)) + 1 from by omega]
    simp only [impl_MapTypes.l1]
    rw [if_pos (by omega)]
    have h2 := impl_MapTypes_l2 x w n p r hx hp h3 h4 last kk (by omega) (10 * d + 1 + m) 8 0 acc (by omega) (by omega)
    rw [show ((0 : Nat) : Int) = 0 from rfl] at h2
    have hl := blk_length w.toNat r 8 (8 * kk + 0)
    rw [h2, ih (kk + 1) _ (by omega) (by simp only [List.length_append]; omega), List.append_assoc, show 8 * (d + 1) = 8 + 8 * d from by omega, blk_add, show 8 * (kk + 1) = 8 * kk + 8 from by omega, Nat.add_zero]
theorem impl_MapTypes_l0 (x : ByteArray) (hx0 : x.size ≤ 1048576) : ∀ (N k : Nat) (acc : List Int) (last : Int) (p r : List UInt8), L x = p ++ r → r.length ≤ N → 400 * N < k → acc.length + 8 * r.length ≤ 90000000 → impl_MapTypes.l0 k x acc last (p.length : Int) = some (mres acc (tmap last r)) := by
  intro N
  induction N with
  | zero =>
    intro k acc last p r hx hn hk hb
    obtain ⟨k, rfl⟩ : ∃ m, k = m + 1 := ⟨k - 1, by omega⟩
    obtain rfl : r = [] := List.length_eq_zero_iff.1 (by omega)
    have hs := size_L x
    rw [hx] at hs
    simp only [List.append_nil] at hs
    simp only [impl_MapTypes.l0]
    rw [if_neg (by omega)]
    simp [tmap, mres]
  | succ N ih =>
    intro k acc last p r hx hn hk hb
    obtain ⟨k, rfl⟩ : ∃ m, k = m + 1 := ⟨k - 1, by omega⟩
    have hs := size_L x
    rw [hx] at hs
    simp only [impl_MapTypes.l0]
    match r, hx, hs, hn, hb with
    | [], hx, hs, hn, hb =>
      simp only [List.append_nil] at hs
      rw [if_neg (by omega)]
      simp [tmap, mres]
    | [c], hx, hs, hn, hb =>
      simp only [List.length_append, List.length_cons, List.length_nil] at hs
      rw [if_pos (by omega), w64 (by omega) (by omega), if_pos (by omega)]
      simp [tmap, mres]
    | w :: n :: r, hx, hs, hn, hb =>
      simp only [List.length_append, List.length_cons] at hs hn hb
      have hw := byte_le w
      have hnb := byte_le n
      have b0 : bt x (p.length : Int) = (w.toNat : Int) := bt_mid hx rfl
      have b1 : bt x ((p.length : Int) + 1) = (n.toNat : Int) := bt_mid (p := p ++ [w]) (c := n) (r := r) (by rw [hx]; simp) (by simp)
      rw [if_pos (by omega)]
      simp (maxSteps := 10000000) (disch := omega) only [w64]
      rw [if_neg (by omega), if_pos (by omega), if_pos (by omega), if_pos (by omega), b0, b1]
      rw [tmap]
      obtain ⟨k, rfl⟩ : ∃ m, k = m + 1 := ⟨k - 1, by omega⟩
      simp only [impl_MapTypes.j1, if_true]
      by_cases h1 : (w.toNat : Int) ≤ last
      · rw [if_pos h1, if_pos h1]; rfl
      rw [if_neg h1, if_neg h1]
      by_cases h2 : n.toNat < 1
      · rw [if_pos (by omega), if_pos h2]; rfl
      rw [if_neg (by omega), if_neg h2]
      by_cases h3 : 32 < n.toNat
      · rw [if_pos (by omega), if_pos h3]; rfl
      rw [if_neg (by omega), if_neg h3]
      by_cases h4 : r.length < n.toNat
      · rw [if_pos (by omega), if_pos h4]; rfl
      rw [if_neg (by omega), if_neg h4, if_pos (by omega), if_pos (by omega)]
      have b2 : bt x ((p.length : Int) + 1 + (n.toNat : Int)) = ((r.getD (n.toNat - 1) 0).toNat : Int) := by
        rw [bt_L, hx, show ((p.length : Int) + 1 + (n.toNat : Int)).toNat = p.length + (n.toNat - 1 + 2) from by omega, getD_len]
        simp [List.getD_eq_getElem?_getD]
      rw [b2]
      by_cases h5 : (r.getD (n.toNat - 1) 0).toNat = 0
      · rw [if_pos (by rw [beq_iff_eq]; omega), if_pos h5]; rfl
      rw [if_neg (by rw [beq_iff_eq]; omega), if_neg h5]
      obtain ⟨m, rfl⟩ : ∃ m, k = 10 * n.toNat + 1 + m := ⟨k - (10 * n.toNat + 1), by omega⟩
      have hl1 := impl_MapTypes_l1 x w n p r hx (by omega) (by omega) (by omega) w.toNat m n.toNat 0 acc (by omega) (by omega)
      rw [show ((0 : Nat) : Int) = 0 from rfl] at hl1
      rw [hl1]
      have hbl := blk_length w.toNat r (8 * n.toNat) 0
      have e2 : ((p.length + 2 + n.toNat : Nat) : Int) = ((p ++ w :: n :: r.take n.toNat).length : Int) := by simp [List.length_take]; omega
      rw [e2, ih m _ _ (p ++ w :: n :: r.take n.toNat) (r.drop n.toNat) (by rw [hx]; simp) (by simp; omega) (by omega) (by simp; omega), mres_map]
theorem impl_MapTypes_eq (a : ByteArray) (ha : a.size ≤ 1048576) (k : Nat) (hk : 450000000 ≤ k) : impl_MapTypes.f k a = some (mres [] (tmap (-1) (L a))) := by
  have hs := size_L a
  unfold impl_MapTypes.f
  exact impl_MapTypes_l0 a ha (L a).length k [] (-1) [] (L a) rfl (Nat.le_refl _) (by omega) (by simp; omega)

end Go.Proofs.YtbaajohjglhpfaaDoor.Pure
