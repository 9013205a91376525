/- The pure statement of FnExactMapTypes: what the program's function computes is what the reference computes, at every argument. No condition beyond the statement's own. -/
import Derived.Test.YtelmbgholdnaaaaPFnExactMapTypesx3
import Derived.Test.YtelmbgholdnaaaaBase
import Derived.Test.YtelmbgholdnaaaaBaseMap
namespace Go.Proofs.Ytelmbgholdnaaaa.Pure
open Go.RowKit Go.Proofs.Ytelmbgholdnaaaa.PFnExactMapTypes Go.Proofs.Ytelmbgholdnaaaa.Base Go.Proofs.YtelmbgholdnaaaaW.PrintWords Go.Proofs.YtelmbgholdnaaaaW.PrintLast Go.Proofs.YtelmbgholdnaaaaW.PrintMore
set_option linter.unusedVariables false
set_option linter.unusedSimpArgs false
-- base: BaseMap
theorem spec_l02Map_l0 : ∀ (N k : Nat) (x : ByteArray) (last : Int), x.size ≤ N → N < k → spec_l02Map.l0 k x last = some (tmap last (L x)).isSome := by
  intro N
  induction N with
  | zero =>
    intro k x last hn hk
    obtain ⟨k, rfl⟩ : ∃ m, k = m + 1 := ⟨k - 1, by omega⟩
    have hs := size_L x
    have hx : L x = [] := List.length_eq_zero_iff.1 (by omega)
    simp only [spec_l02Map.l0, toL]
    rw [if_pos hx, hx]
    simp [tmap]
  | succ N ih =>
    intro k x last hn hk
    obtain ⟨k, rfl⟩ : ∃ m, k = m + 1 := ⟨k - 1, by omega⟩
    have hs := size_L x
    simp only [spec_l02Map.l0, toL]
    match hx : L x with
    | [] => rw [if_pos rfl]; simp [tmap]
    | [c] =>
      rw [hx] at hs
      simp only [List.length_cons, List.length_nil] at hs
      rw [if_neg (by simp), if_pos (by omega)]
      simp [tmap]
    | w :: n :: r =>
      rw [hx] at hs
      simp only [List.length_cons] at hs
      have hw := byte_le w
      have hnb := byte_le n
      have b0 : bt x 0 = (w.toNat : Int) := bt_cons hx
      have b1 : bt x 1 = (n.toNat : Int) := bt_mid (p := [w]) hx rfl
      rw [if_neg (by simp), if_neg (by omega), if_pos (by omega), if_pos (by omega), b0, b1]
      simp (maxSteps := 10000000) (disch := omega) only [w64]
      rw [tmap]
      by_cases h1 : (w.toNat : Int) ≤ last
      · rw [if_pos h1, if_pos h1]; rfl
      · rw [if_neg h1, if_neg h1]
        by_cases h2 : n.toNat < 1
        · rw [if_pos (by omega), if_pos h2]; rfl
        · rw [if_neg (by omega), if_neg h2]
          by_cases h3 : 32 < n.toNat
          · rw [if_pos (by omega), if_pos h3]; rfl
          · rw [if_neg (by omega), if_neg h3]
            by_cases h4 : r.length < n.toNat
            · rw [if_pos (by omega), if_pos h4]; rfl
            · rw [if_neg (by omega), if_neg h4, if_pos (by omega), if_pos (by omega)]
              have b2 : bt x ((n.toNat : Int) + 1) = ((r.getD (n.toNat - 1) 0).toNat : Int) := by
                rw [bt_L, hx, show ((n.toNat : Int) + 1).toNat = (n.toNat - 1) + 2 from by omega]
                simp [List.getD_eq_getElem?_getD]
              rw [b2]
              by_cases h5 : (r.getD (n.toNat - 1) 0).toNat = 0
              · rw [if_pos (by omega), if_pos h5]; rfl
              · rw [if_neg (by omega), if_neg h5, if_pos (by omega), if_pos (by omega)]
                have e2 : L (x.extract ((n.toNat : Int) + 2).toNat x.size) = r.drop n.toNat := by
                  rw [L_extract, hx, hs, show ((n.toNat : Int) + 2).toNat = n.toNat + 2 from by omega]
                  simp [List.take_of_length_le]
                rw [ih k _ _ (by rw [size_L, e2]; simp; omega) (by omega), e2]
                cases tmap (w.toNat : Int) (r.drop n.toNat) <;> simp
theorem spec_l02Map_eq (a : ByteArray) (k : Nat) (hk : a.size < k) : spec_l02Map.f k a = some (tmap (-1) (L a)).isSome := by
  unfold spec_l02Map.f
  exact spec_l02Map_l0 a.size k a (-1) (Nat.le_refl _) hk

-- base: BaseMap
theorem spec_MapTypes_l1 (x : ByteArray) (w n : UInt8) (r : List UInt8) (hx : L x = w :: n :: r) (h3 : n.toNat ≤ 32) (h4 : n.toNat ≤ r.length) (m : Nat) : ∀ (d i : Nat) (acc : List Int), i + d = 8 * n.toNat → acc.length + d ≤ 100000000 → spec_MapTypes.l1 (d + 1 + m) acc x (i : Int) = spec_MapTypes.l0 m (acc ++ blk w.toNat r i d) (x.extract ((n.toNat : Int) + 2).toNat x.size) := by
  have hs := size_L x
  rw [hx] at hs
  simp only [List.length_cons] at hs
  have hw := byte_le w
  have b0 : bt x 0 = (w.toNat : Int) := bt_cons hx
  have b1 : bt x 1 = (n.toNat : Int) := bt_mid (p := [w]) hx rfl
  intro d
  induction d with
  | zero =>
    intro i acc hi hb
    rw [show 0 + 1 + m = m + 1 from by omega]
    simp only [spec_MapTypes.l1]
    rw [if_pos (by omega), b1]
    simp (maxSteps := 10000000) (disch := omega) only [w64]
    rw [if_neg (by omega), if_pos (by omega), if_pos (by omega)]
    simp [blk]
  | succ d ih =>
    intro i acc hi hb
    rw [show d + 1 + 1 + m = (d + 1 + m) + 1 from by omega]
    simp only [spec_MapTypes.l1]
    rw [if_pos (by omega), b0, b1, Int.tdiv_eq_ediv_of_nonneg (by omega), Int.tmod_eq_emod_of_nonneg (by omega)]
    simp (maxSteps := 10000000) (disch := omega) only [w64, wrap_u64, Int.emod_eq_of_lt]
    rw [if_pos (by omega), if_pos (by omega), if_pos (by omega), if_pos (by omega)]
    have hlt : i / 8 < r.length := by omega
    have b2 : bt x (2 + (i : Int) / 8) = ((r.getD (i / 8) 0).toNat : Int) := by
      rw [bt_L, hx, show (2 + (i : Int) / 8).toNat = i / 8 + 2 from by omega]
      simp [List.getD_eq_getElem?_getD]
    rw [b2]
    have hbit := bit_iff (r.getD (i / 8) 0) (7 - i % 8) (by omega) (7 - (i : Int) % 8) (by omega)
    rw [blk]
    by_cases hB : bitAt r i = true
    · have hB' : ((r.getD (i / 8) 0).toNat / 2 ^ (7 - i % 8)) % 2 = 1 := by unfold bitAt at hB; exact of_decide_eq_true hB
      rw [if_pos (hbit.2 hB'), if_pos (by omega), if_pos (by omega), if_pos hB]
      have := ih (i + 1) (acc ++ [256 * (w.toNat : Int) + (i : Int)]) (by omega) (by simp; omega)
      rw [show ((i + 1 : Nat) : Int) = (i : Int) + 1 from by omega] at this
      rw [this, List.append_assoc]
    · have hB' : ¬ ((r.getD (i / 8) 0).toNat / 2 ^ (7 - i % 8)) % 2 = 1 := by unfold bitAt at hB; simpa using hB
      rw [if_neg (fun h => hB' (hbit.1 h)), if_neg hB]
      have := ih (i + 1) acc (by omega) (by omega)
      rw [show ((i + 1 : Nat) : Int) = (i : Int) + 1 from by omega] at this
      rw [this, List.nil_append]
theorem spec_MapTypes_l0 : ∀ (N k : Nat) (acc : List Int) (x : ByteArray) (last : Int) (ts : List Int), x.size ≤ N → 300 * N < k → acc.length + 8 * x.size ≤ 90000000 → tmap last (L x) = some ts → spec_MapTypes.l0 k acc x = some (acc ++ ts, 0) := by
  intro N
  induction N with
  | zero =>
    intro k acc x last ts hn hk hb h
    obtain ⟨k, rfl⟩ : ∃ m, k = m + 1 := ⟨k - 1, by omega⟩
    have hs := size_L x
    have hx : L x = [] := List.length_eq_zero_iff.1 (by omega)
    simp only [spec_MapTypes.l0, toL]
    rw [hx] at h
    simp [tmap] at h
    subst h
    rw [if_pos hx]
    simp
  | succ N ih =>
    intro k acc x last ts hn hk hb h
    obtain ⟨k, rfl⟩ : ∃ m, k = m + 1 := ⟨k - 1, by omega⟩
    have hs := size_L x
    simp only [spec_MapTypes.l0, toL]
    match hx : L x with
    | [] =>
      rw [hx] at h
      simp [tmap] at h
      subst h
      rw [if_pos rfl]
      simp
    | [c] =>
      rw [hx] at h
      simp [tmap] at h
    | w :: n :: r =>
      rw [hx] at h hs
      simp only [List.length_cons] at hs
      rw [tmap] at h
      by_cases h1 : (w.toNat : Int) ≤ last
      · rw [if_pos h1] at h; cases h
      rw [if_neg h1] at h
      by_cases h2 : n.toNat < 1
      · rw [if_pos h2] at h; cases h
      rw [if_neg h2] at h
      by_cases h3 : 32 < n.toNat
      · rw [if_pos h3] at h; cases h
      rw [if_neg h3] at h
      by_cases h4 : r.length < n.toNat
      · rw [if_pos h4] at h; cases h
      rw [if_neg h4] at h
      by_cases h5 : (r.getD (n.toNat - 1) 0).toNat = 0
      · rw [if_pos h5] at h; cases h
      rw [if_neg h5] at h
      obtain ⟨t, ht, rfl⟩ := Option.map_eq_some_iff.1 h
      rw [if_neg (by simp)]
      obtain ⟨m, rfl⟩ : ∃ m, k = 8 * n.toNat + 1 + m := ⟨k - (8 * n.toNat + 1), by omega⟩
      have hl1 := spec_MapTypes_l1 x w n r hx (by omega) (by omega) m (8 * n.toNat) 0 acc (by omega) (by omega)
      rw [show ((0 : Nat) : Int) = 0 from rfl] at hl1
      rw [hl1]
      have e2 : L (x.extract ((n.toNat : Int) + 2).toNat x.size) = r.drop n.toNat := by
        rw [L_extract, hx, hs, show ((n.toNat : Int) + 2).toNat = n.toNat + 2 from by omega]
        simp [List.take_of_length_le]
      have e3 : (x.extract ((n.toNat : Int) + 2).toNat x.size).size = r.length - n.toNat := by rw [size_L, e2]; simp
      have hbl := blk_length w.toNat r (8 * n.toNat) 0
      rw [ih m _ _ (w.toNat : Int) t (by omega) (by omega) (by simp; omega) (by rw [e2]; exact ht), List.append_assoc]
theorem spec_MapTypes_eq (a : ByteArray) (ha : a.size ≤ 1048576) (k : Nat) (hk : 400000000 ≤ k) : spec_MapTypes.f k a = some (mres [] (tmap (-1) (L a))) := by
  unfold spec_MapTypes.f
  rw [spec_l02Map_eq a k (by omega)]
  simp only [Option.bind_some]
  cases h : tmap (-1) (L a) with
  | none => simp [mres]
  | some ts =>
    simp only [Option.isSome_some, if_true]
    rw [spec_MapTypes_l0 a.size k [] a (-1) ts (Nat.le_refl _) (by omega) (by simp; omega) h]
    rfl

-- base: BaseMap
theorem impl_MapTypes_l2 (x : ByteArray) (w n : UInt8) (p r : List UInt8) (hx : L x = p ++ w :: n :: r) (hp : p.length ≤ 10000000) (h3 : n.toNat ≤ 32) (h4 : n.toNat ≤ r.length) (last kk : Nat) (hkk : kk < n.toNat) (m : Nat) : ∀ (d j : Nat) (acc : List Int), j + d = 8 → acc.length + d ≤ 100000000 → impl_MapTypes.l2 (d + 1 + m) x acc (last : Int) (p.length : Int) (w.toNat : Int) (n.toNat : Int) (kk : Int) (j : Int) = impl_MapTypes.l1 m x (acc ++ blk w.toNat r (8 * kk + j) d) (last : Int) (p.length : Int) (w.toNat : Int) (n.toNat : Int) ((kk + 1 : Nat) : Int) := by
  have hs := size_L x
  rw [hx] at hs
  simp only [List.length_append, List.length_cons] at hs
  have hw := byte_le w
  intro d
  induction d with
  | zero =>
    intro j acc hj hb
    rw [show 0 + 1 + m = m + 1 from by omega]
    simp only [impl_MapTypes.l2]
    rw [if_neg (by omega), w64 (by omega) (by omega)]
    simp [blk]
  | succ d ih =>
    intro j acc hj hb
    rw [show d + 1 + 1 + m = (d + 1 + m) + 1 from by omega]
    simp only [impl_MapTypes.l2]
    rw [if_pos (by omega)]
    simp (maxSteps := 10000000) (disch := omega) only [w64]
    rw [if_pos (by omega), if_pos (by omega), if_pos (by omega)]
    have b2 : bt x ((p.length : Int) + 2 + (kk : Int)) = ((r.getD kk 0).toNat : Int) := by
      rw [bt_L, hx, show ((p.length : Int) + 2 + (kk : Int)).toNat = p.length + (kk + 2) from by omega, getD_len]
      simp [List.getD_eq_getElem?_getD]
    rw [b2]
    have hbit := bit_iff (r.getD kk 0) (7 - j) (by omega) (7 - (j : Int)) (by omega)
    have e8 : (8 * kk + j) / 8 = kk := by omega
    have e8' : (8 * kk + j) % 8 = j := by omega
    rw [blk]
    by_cases hB : bitAt r (8 * kk + j) = true
    · have hB' : ((r.getD kk 0).toNat / 2 ^ (7 - j)) % 2 = 1 := by unfold bitAt at hB; rw [e8, e8'] at hB; exact of_decide_eq_true hB
      rw [if_pos (hbit.2 hB'), if_pos (by omega), if_pos hB]
      have := ih (j + 1) (acc ++ [256 * (w.toNat : Int) + ((8 * kk + j : Nat) : Int)]) (by omega) (by simp; omega)
      rw [show ((j + 1 : Nat) : Int) = (j : Int) + 1 from by omega, List.append_assoc, show 8 * kk + (j + 1) = 8 * kk + j + 1 from by omega] at this
      rw [← this, show 256 * (w.toNat : Int) + ((8 * kk + j : Nat) : Int) = 256 * (w.toNat : Int) + 8 * (kk : Int) + (j : Int) from by omega]
    · have hB' : ¬ ((r.getD kk 0).toNat / 2 ^ (7 - j)) % 2 = 1 := by unfold bitAt at hB; rw [e8, e8'] at hB; simpa using hB
      rw [if_neg (fun h => hB' (hbit.1 h)), if_neg hB]
      have := ih (j + 1) acc (by omega) (by omega)
      rw [show ((j + 1 : Nat) : Int) = (j : Int) + 1 from by omega, show 8 * kk + (j + 1) = 8 * kk + j + 1 from by omega] at this
      rw [this, List.nil_append]
theorem impl_MapTypes_l1 (x : ByteArray) (w n : UInt8) (p r : List UInt8) (hx : L x = p ++ w :: n :: r) (hp : p.length ≤ 10000000) (h3 : n.toNat ≤ 32) (h4 : n.toNat ≤ r.length) (last : Nat) (m : Nat) : ∀ (d kk : Nat) (acc : List Int), kk + d = n.toNat → acc.length + 8 * d ≤ 100000000 → impl_MapTypes.l1 (10 * d + 1 + m) x acc (last : Int) (p.length : Int) (w.toNat : Int) (n.toNat : Int) (kk : Int) = impl_MapTypes.l0 m x (acc ++ blk w.toNat r (8 * kk) (8 * d)) (last : Int) ((p.length + 2 + n.toNat : Nat) : Int) := by
  intro d
  induction d with
  | zero =>
    intro kk acc hk hb
    rw [show 10 * 0 + 1 + m = m + 1 from by omega]
    simp only [impl_MapTypes.l1]
    rw [if_neg (by omega)]
    simp (maxSteps := 10000000) (disch := omega) only [w64]
    simp only [Nat.mul_zero, blk, List.append_nil]
    rw [show (p.length : Int) + (2 + (n.toNat : Int)) = ((p.length + 2 + n.toNat : Nat) : Int) from by omega]
  | succ d ih =>
    intro kk acc hk hb
    rw [show 10 * (d + 1) + 1 + m = (8 + 1 + (10 * d + 1 + m)) + 1 from by omega]
    simp only [impl_MapTypes.l1]
    rw [if_pos (by omega)]
    have h2 := impl_MapTypes_l2 x w n p r hx hp h3 h4 last kk (by omega) (10 * d + 1 + m) 8 0 acc (by omega) (by omega)
    rw [show ((0 : Nat) : Int) = 0 from rfl] at h2
    have hl := blk_length w.toNat r 8 (8 * kk + 0)
    rw [h2, ih (kk + 1) _ (by omega) (by simp only [List.length_append]; omega), List.append_assoc, show 8 * (d + 1) = 8 + 8 * d from by omega, blk_add, show 8 * (kk + 1) = 8 * kk + 8 from by omega, Nat.add_zero]
theorem impl_MapTypes_l0 (x : ByteArray) (hx0 : x.size ≤ 1048576) : ∀ (N k : Nat) (acc : List Int) (last : Int) (p r : List UInt8), L x = p ++ r → r.length ≤ N → 400 * N < k → acc.length + 8 * r.length ≤ 90000000 → impl_MapTypes.l0 k x acc last (p.length : Int) = some (mres acc (tmap last r)) := by
  intro N
  induction N with
  | zero =>
    intro k acc last p r hx hn hk hb
    obtain ⟨k, rfl⟩ : ∃ m, k = m + 1 := ⟨k - 1, by omega⟩
    obtain rfl : r = [] := List.length_eq_zero_iff.1 (by omega)
    have hs := size_L x
    rw [hx] at hs
    simp only [List.append_nil] at hs
    simp only [impl_MapTypes.l0]
    rw [if_neg (by omega)]
    simp [tmap, mres]
  | succ N ih =>
    intro k acc last p r hx hn hk hb
    obtain ⟨k, rfl⟩ : ∃ m, k = m + 1 := ⟨k - 1, by omega⟩
    have hs := size_L x
    rw [hx] at hs
    simp only [impl_MapTypes.l0]
    match r, hx, hs, hn, hb with
    | [], hx, hs, hn, hb =>
      simp only [List.append_nil] at hs
      rw [if_neg (by omega)]
      simp [tmap, mres]
    | [c], hx, hs, hn, hb =>
      simp only [List.length_append, List.length_cons, List.length_nil] at hs
      rw [if_pos (by omega), w64 (by omega) (by omega), if_pos (by omega)]
      simp [tmap, mres]
    | w :: n :: r, hx, hs, hn, hb =>
      simp only [List.length_append, List.length_cons] at hs hn hb
      have hw := byte_le w
      have hnb := byte_le n
      have b0 : bt x (p.length : Int) = (w.toNat : Int) := bt_mid hx rfl
      have b1 : bt x ((p.length : Int) + 1) = (n.toNat : Int) := bt_mid (p := p ++ [w]) (c := n) (r := r) (by rw [hx]; simp) (by simp)
      rw [if_pos (by omega)]
      simp (maxSteps := 10000000) (disch := omega) only [w64]
      rw [if_neg (by omega), if_pos (by omega), if_pos (by omega), if_pos (by omega), b0, b1]
      rw [tmap]
      obtain ⟨k, rfl⟩ : ∃ m, k = m + 1 := ⟨k - 1, by omega⟩
      simp only [impl_MapTypes.j1, if_true]
      by_cases h1 : (w.toNat : Int) ≤ last
      · rw [if_pos h1, if_pos h1]; rfl
      rw [if_neg h1, if_neg h1]
      by_cases h2 : n.toNat < 1
      · rw [if_pos (by omega), if_pos h2]; rfl
      rw [if_neg (by omega), if_neg h2]
      by_cases h3 : 32 < n.toNat
      · rw [if_pos (by omega), if_pos h3]; rfl
      rw [if_neg (by omega), if_neg h3]
      by_cases h4 : r.length < n.toNat
      · rw [if_pos (by omega), if_pos h4]; rfl
      rw [if_neg (by omega), if_neg h4, if_pos (by omega), if_pos (by omega)]
      have b2 : bt x ((p.length : Int) + 1 + (n.toNat : Int)) = ((r.getD (n.toNat - 1) 0).toNat : Int) := by
        rw [bt_L, hx, show ((p.length : Int) + 1 + (n.toNat : Int)).toNat = p.length + (n.toNat - 1 + 2) from by omega, getD_len]
        simp [List.getD_eq_getElem?_getD]
      rw [b2]
      by_cases h5 : (r.getD (n.toNat - 1) 0).toNat = 0
      · rw [if_pos (by rw [beq_iff_eq]; omega), if_pos h5]; rfl
      rw [if_neg (by rw [beq_iff_eq]; omega), if_neg h5]
      obtain ⟨m, rfl⟩ : ∃ m, k = 10 * n.toNat + 1 + m := ⟨k - (10 * n.toNat + 1), by omega⟩
      have hl1 := impl_MapTypes_l1 x w n p r hx (by omega) (by omega) (by omega) w.toNat m n.toNat 0 acc (by omega) (by omega)
      rw [show ((0 : Nat) : Int) = 0 from rfl] at hl1
      rw [hl1]
      have hbl := blk_length w.toNat r (8 * n.toNat) 0
      have e2 : ((p.length + 2 + n.toNat : Nat) : Int) = ((p ++ w :: n :: r.take n.toNat).length : Int) := by simp [List.length_take]; omega
      rw [e2, ih m _ _ (p ++ w :: n :: r.take n.toNat) (r.drop n.toNat) (by rw [hx]; simp) (by simp; omega) (by omega) (by simp; omega), mres_map]
theorem impl_MapTypes_eq (a : ByteArray) (ha : a.size ≤ 1048576) (k : Nat) (hk : 450000000 ≤ k) : impl_MapTypes.f k a = some (mres [] (tmap (-1) (L a))) := by
  have hs := size_L a
  unfold impl_MapTypes.f
  exact impl_MapTypes_l0 a ha (L a).length k [] (-1) [] (L a) rfl (Nat.le_refl _) (by omega) (by simp; omega)

theorem laws_eqInt64S_l0 (l : List Int) (hl : l.length ≤ 4611686018427387904) : ∀ (d k : Nat) (i : Int), 0 ≤ i → i + d = l.length → d < k → laws_eqInt64S.l0 k l l i = some true := by
  intro d
  induction d with
  | zero =>
    intro k i h0 h1 hk
    obtain ⟨k, rfl⟩ : ∃ m, k = m + 1 := ⟨k - 1, by omega⟩
    simp only [laws_eqInt64S.l0]
    rw [if_neg (by omega)]
  | succ d ih =>
    intro k i h0 h1 hk
    obtain ⟨k, rfl⟩ : ∃ m, k = m + 1 := ⟨k - 1, by omega⟩
    simp only [laws_eqInt64S.l0]
    rw [if_pos (by omega), if_pos h0, if_pos (by omega), if_pos trivial, w64 (by omega) (by omega)]
    exact ih k (i + 1) (by omega) (by omega) (by omega)
theorem laws_eqInt64S_refl (l : List Int) (hl : l.length ≤ 4611686018427387904) (k : Nat) (hk : l.length < k) : laws_eqInt64S.f k l l = some true := by
  unfold laws_eqInt64S.f
  rw [if_pos rfl]
  exact laws_eqInt64S_l0 l hl l.length k 0 (by omega) (by omega) hk

def imarks (n : Nat) (m : Int) : List Int := (List.range n).map fun (j : Nat) => m + (j : Int)
theorem imarks_length (n : Nat) (m : Int) : (imarks n m).length = n := by simp [imarks]
theorem imarks_succ (n : Nat) (m : Int) : imarks (n + 1) m = imarks n m ++ [m + (n : Int)] := by simp [imarks, List.range_succ]
theorem laws_markInt64S_l0 (m : Int) (hm0 : 0 ≤ m) : ∀ (d k i : Nat) (r : List Int), r.length = d → d < k → m + i + d ≤ 1000000000000000 → laws_markInt64S.l0 k (imarks i m ++ r) (m + i) i = some (m + i + d, imarks (i + d) m) := by
  intro d
  induction d with
  | zero =>
    intro k i r hr hk hb
    obtain ⟨k, rfl⟩ : ∃ m, k = m + 1 := ⟨k - 1, by omega⟩
    obtain rfl : r = [] := List.length_eq_zero_iff.1 hr
    simp only [laws_markInt64S.l0, List.append_nil]
    rw [if_neg (by rw [imarks_length]; omega)]
    simp
  | succ d ih =>
    intro k i r hr hk hb
    obtain ⟨k, rfl⟩ : ∃ m, k = m + 1 := ⟨k - 1, by omega⟩
    obtain ⟨c, r, rfl⟩ : ∃ c t, r = c :: t := by cases r with | nil => simp at hr | cons c t => exact ⟨c, t, rfl⟩
    simp only [List.length_cons] at hr
    simp only [laws_markInt64S.l0]
    rw [if_pos (by simp [imarks_length]; omega), if_pos (by omega), w64 (by omega) (by omega), w64 (by omega) (by omega)]
    have e : (imarks i m ++ c :: r).set (i : Int).toNat (m + i) = imarks (i + 1) m ++ r := by
      rw [imarks_succ, Int.toNat_natCast, List.set_append_right _ _ (by rw [imarks_length]; exact Nat.le_refl _), imarks_length]
      simp
    rw [e]
    have := ih k (i + 1) r (by omega) (by omega) (by omega)
    rw [show m + ((i + 1 : Nat) : Int) = m + (i : Int) + 1 from by omega, show ((i + 1 : Nat) : Int) = (i : Int) + 1 from by omega] at this
    rw [this]
    simp only [Option.some.injEq, Prod.mk.injEq]
    exact ⟨by omega, by rw [show i + 1 + d = i + (d + 1) from by omega]⟩
theorem laws_markInt64S_eq (l : List Int) (m : Int) (hm0 : 0 ≤ m) (k : Nat) (hk : l.length < k) (hb : m + l.length ≤ 1000000000000000) : laws_markInt64S.f k l m = some (m + l.length, imarks l.length m) := by
  have := laws_markInt64S_l0 m hm0 l.length k 0 l rfl hk (by omega)
  unfold laws_markInt64S.f
  simpa [imarks] using this

theorem rd_imarks (n : Nat) (m : Int) (i : Nat) (h : i < n) : rd (imarks n m) (i : Int) = m + i := by
  simp [rd, imarks, List.getD_eq_getElem?_getD, h]
theorem laws_heldInt64S_l0 (n : Nat) (m : Int) (hm0 : 0 ≤ m) (hb : m + n ≤ 1000000000000000) : ∀ (d k i : Nat), i + d = n → d < k → laws_heldInt64S.l0 k (imarks n m) (m + i) i = some (m + n) := by
  intro d
  induction d with
  | zero =>
    intro k i hr hk
    obtain ⟨k, rfl⟩ : ∃ m, k = m + 1 := ⟨k - 1, by omega⟩
    simp only [laws_heldInt64S.l0]
    rw [if_neg (by rw [imarks_length]; omega)]
    simp only [Option.some.injEq]
    omega
  | succ d ih =>
    intro k i hr hk
    obtain ⟨k, rfl⟩ : ∃ m, k = m + 1 := ⟨k - 1, by omega⟩
    simp only [laws_heldInt64S.l0]
    rw [if_pos (by rw [imarks_length]; omega), if_pos (by omega), rd_imarks n m i (by omega), if_pos rfl, w64 (by omega) (by omega), w64 (by omega) (by omega)]
    have := ih k (i + 1) (by omega) (by omega)
    rw [show m + ((i + 1 : Nat) : Int) = m + (i : Int) + 1 from by omega, show ((i + 1 : Nat) : Int) = (i : Int) + 1 from by omega] at this
    exact this
theorem laws_heldInt64S_eq (n : Nat) (m : Int) (hm0 : 0 ≤ m) (k : Nat) (hk : n < k) (hb : m + n ≤ 1000000000000000) : laws_heldInt64S.f k (imarks n m) m = some (m + n) := by
  have := laws_heldInt64S_l0 n m hm0 hb n k 0 (by omega) hk
  unfold laws_heldInt64S.f
  simpa using this

theorem FnExactMapTypes : laws_FnExactMapTypes.Pure := by
  intro a _
  have key : ∀ k, 450000000 ≤ k → laws_FnExactMapTypes.f (k + 2) a = some true := by
    intro k hk
    unfold laws_FnExactMapTypes.f
    by_cases h : (a.size : Int) > 1048576
    · rw [if_pos h]
    · rw [if_neg h, spec_MapTypes_eq a (by omega) (k + 2) (by omega), impl_MapTypes_eq a (by omega) (k + 2) (by omega)]
      have hs := size_L a
      have hlen : (mres [] (tmap (-1) (L a))).1.length ≤ 10000000 := by
        cases ht : tmap (-1) (L a) with
        | none => simp [mres]
        | some ts =>
          have := tmap_length _ (L a) (-1) ts (Nat.le_refl _) ht
          simp only [mres, List.nil_append]
          omega
      have himp := impl_MapTypes_eq a (by omega) k (by omega)
      have himp1 := impl_MapTypes_eq a (by omega) (k + 1) (by omega)
      generalize mres [] (tmap (-1) (L a)) = q at hlen himp himp1 ⊢
      obtain ⟨l, c⟩ := q
      dsimp only at hlen
      simp only [Option.bind_some]
      rw [laws_eqInt64S_refl l (by omega) (k + 2) (by omega)]
      simp only [Option.bind_some, if_true, bne_self_eq_false, laws_FnExactMapTypes.j0, Bool.false_eq_true, if_false]
      rw [laws_markInt64S_eq l 1 (by omega) (k + 1) (by omega) (by omega)]
      simp only [Option.bind_some]
      rw [laws_heldInt64S_eq l.length 1 (by omega) (k + 1) (by omega) (by omega)]
      simp only [Option.bind_some]
      rw [if_neg (by omega), himp1]
      simp only [Option.bind_some, if_true]
      rw [laws_eqInt64S_refl l (by omega) (k + 1) (by omega)]
      simp only [Option.bind_some, if_true, bne_self_eq_false, laws_FnExactMapTypes.j1, Bool.false_eq_true, if_false]
      rw [laws_heldInt64S_eq l.length 1 (by omega) k (by omega) (by omega)]
      simp only [Option.bind_some]
      rw [if_neg (by omega), if_pos trivial]
  exact ⟨_, key 450000000 (Nat.le_refl _)⟩

end Go.Proofs.Ytelmbgholdnaaaa.Pure
