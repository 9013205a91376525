/- What impl_DecodeName computes, in plain words, for enough rounds. Conditions: bounds on the sizes of its arguments, as each statement says. -/
import Derived.Test.YtlmapgfmfamgcaaFx1012
import Derived.Test.YtlmapgfmfamgcaaBase
import Derived.Test.YtlmapgfmfamgcaaBaseDec
namespace Go.Proofs.Ytlmapgfmfamgcaa.Pure
open Go.RowKit Go.Proofs.Ytlmapgfmfamgcaa.F Go.Proofs.Ytlmapgfmfamgcaa.Base Go.Proofs.YtlmapgfmfamgcaaW.PrintWords Go.Proofs.YtlmapgfmfamgcaaW.PrintLast Go.Proofs.YtlmapgfmfamgcaaW.PrintMore
set_option linter.unusedVariables false
set_option linter.unusedSimpArgs false
-- base: BaseDec
/-- The bytes of joined labels, as numbers. -/
def outN (ls : List ByteArray) : List Int := (joinL ls).map fun c => (c.toNat : Int)
theorem outN_len (ls : List ByteArray) : (outN ls).length = (joinL ls).length := by simp [outN]
theorem outN_end (ls : List ByteArray) : strOfNums (outN ls ++ [0]) = join ls := by
  apply L_inj
  rw [L_strOfNums, L_join, List.map_append, outN, List.map_map]
  congr 1
  exact (List.map_congr_left fun c _ => by simp).trans (List.map_id _)
theorem outN_snoc (b : List Int) (hb : Bytes b) (ls : List ByteArray) (p : Int) (h0 : 0 ≤ p) (h1 : 0 ≤ rd b p) (h63 : rd b p ≤ 63) (h2 : p + 1 + rd b p ≤ (b.length : Int)) : outN ls ++ ((b.take (p + 1 + rd b p).toNat).drop p.toNat) = outN (ls ++ [lab b p (rd b p)]) := by
  have hlab := lab_size b p (rd b p) h0 h1 h2
  unfold outN
  rw [joinL_snoc, List.map_append, List.map_cons]
  congr 1
  have hp : p.toNat < (b.take (p + 1 + rd b p).toNat).length := by rw [List.length_take]; omega
  rw [List.drop_eq_getElem_cons hp]
  congr 1
  · rw [List.getElem_take, UInt8.toNat_ofNat']
    have : b[p.toNat]'(by rw [List.length_take] at hp; omega) = rd b p := by
      unfold Go.Proofs.YtlmapgfmfamgcaaW.PrintWords.rd
      rw [List.getD_eq_getElem?_getD, List.getElem?_eq_getElem (by rw [List.length_take] at hp; omega)]
      rfl
    rw [this]
    omega
  · unfold lab
    rw [L_strOfNums, show (p + 1).toNat = p.toNat + 1 by omega, List.map_map]
    refine ((List.map_congr_left fun x hx => ?_).trans (List.map_id _)).symm
    have := hb x (List.mem_of_mem_take (List.mem_of_mem_drop hx))
    simp only [Function.comp, id, UInt8.toNat_ofNat']
    omega
theorem impl_DecodeName_l0 (b : List Int) (hb : Bytes b) (hl : b.length ≤ 1048576) : ∀ (m k f : Nat) (p start next : Int) (ls : List ByteArray), 0 ≤ p → p ≤ 1048576 → 0 ≤ start → start ≤ 1048576 → -1 ≤ next → next ≤ 1048600 → (joinL ls).length + 1 ≤ 255 → start + 255 - (joinL ls).length ≤ m → m < k → m < f → impl_DecodeName.l0 k b p start next (outN ls) = some (dn b f p start next ls) := by
  intro m
  induction m with
  | zero => intro k f p start next ls h1 h2 h3 h4 h5 h6 h7 h8; omega
  | succ m ih =>
    intro k f p start next ls h1 h2 h3 h4 h5 h6 h7 h8 hk hf
    obtain ⟨k, rfl⟩ : ∃ m, k = m + 1 := ⟨k - 1, by omega⟩
    obtain ⟨f, rfl⟩ : ∃ m, f = m + 1 := ⟨f - 1, by omega⟩
    have hr := hb.rd p
    have hll := joinL_len_ge ls
    have hol := outN_len ls
    rw [impl_DecodeName.l0, dn]
    by_cases hp : p ≥ (b.length : Int)
    · rw [if_pos hp, if_pos hp]
    · rw [if_neg hp, if_neg hp, if_pos h1, if_pos (by omega), w64 (x := rd b p) (by omega) (by omega)]
      by_cases h0 : rd b p = 0
      · rw [if_pos h0, if_pos h0, outN_end, w64 (x := p + 1) (by omega) (by omega)]
        by_cases hn : next < 0
        · rw [if_pos hn, if_pos hn, if_pos (by omega)]
        · rw [if_neg hn, if_neg hn, if_pos (by omega)]
      · rw [if_neg h0, if_neg h0]
        by_cases h63 : rd b p ≤ 63
        · rw [if_pos h63, if_neg (show ¬ rd b p ≥ 192 by omega), if_neg (show ¬ rd b p > 63 by omega), w64 (x := p + 1) (by omega) (by omega), w64 (x := p + 1 + rd b p) (by omega) (by omega)]
          by_cases hsh : p + 1 + rd b p > (b.length : Int)
          · rw [if_pos hsh, if_pos hsh]
          · have hlab := lab_size b p (rd b p) h1 (by omega) (by omega)
            have hsz := size_L (lab b p (rd b p))
            have hj : ((joinL (ls ++ [lab b p (rd b p)])).length : Int) = ((joinL ls).length : Int) + 1 + rd b p := by
              rw [joinL_snoc, List.length_append, List.length_cons]
              omega
            have hos := outN_len (ls ++ [lab b p (rd b p)])
            have hsn := outN_snoc b hb ls p h1 (by omega) h63 (by omega)
            have hjl : (joinL (ls ++ [lab b p (rd b p)])).length ≤ 400 := by omega
            have hcond : (outN ls).length + ((b.take (p + 1 + rd b p).toNat).drop p.toNat).length < 140737488355328 := by
              have h9 := congrArg List.length hsn
              rw [List.length_append] at h9
              omega
            rw [if_neg hsh, if_neg hsh, if_pos (by omega), if_pos (by omega), if_pos hcond, hsn]
            rw [Option.bind_some]
            rw [w64 (x := ((outN (ls ++ [lab b p (rd b p)])).length : Int) + 1) (by omega) (by omega)]
            by_cases hlg : ((joinL ls).length : Int) + 2 + rd b p > 255
            · rw [if_pos (by omega), if_pos hlg]
            · rw [if_neg (by omega), if_neg hlg, w64 (x := 1 + rd b p) (by omega) (by omega), w64 (by omega) (by omega), show p + (1 + rd b p) = p + 1 + rd b p by omega]
              exact ih k f (p + 1 + rd b p) start next (ls ++ [lab b p (rd b p)]) (by omega) (by omega) h3 h4 h5 h6 (by omega) (by omega) (by omega) (by omega)
        · rw [if_neg h63]
          by_cases h192 : rd b p < 192
          · rw [if_pos h192, if_neg (show ¬ rd b p ≥ 192 by omega), if_pos (show rd b p > 63 by omega)]
          · rw [if_neg h192, if_pos (show rd b p ≥ 192 by omega), w64 (x := p + 1) (by omega) (by omega)]
            by_cases hp1 : p + 1 ≥ (b.length : Int)
            · rw [if_pos hp1, if_pos hp1]
            · have hr2 := hb.rd (p + 1)
              have hoff := off_eq (rd b p) (rd b (p + 1)) (by omega) (by omega) (by omega) (by omega)
              rw [if_neg hp1, if_neg hp1, if_pos (by omega), if_pos (by omega), hoff]
              by_cases hs : (rd b p - 192) * 256 + rd b (p + 1) ≥ start
              · rw [if_pos hs, if_pos hs]
              · rw [if_neg hs, if_neg hs]
                by_cases hn : next < 0
                · rw [if_pos hn, if_pos hn, w64 (x := p + 2) (by omega) (by omega)]
                  exact ih k f _ _ _ ls (by omega) (by omega) (by omega) (by omega) (by omega) (by omega) h7 (by omega) (by omega) (by omega)
                · rw [if_neg hn, if_neg hn]
                  exact ih k f _ _ _ ls (by omega) (by omega) (by omega) (by omega) (by omega) (by omega) h7 (by omega) (by omega) (by omega)
theorem impl_DecodeName_eq (b : List Int) (hb : Bytes b) (hl : b.length ≤ 1048576) (p : Int) (k : Nat) (hk : 1050000 ≤ k) : impl_DecodeName.f k b p = some (decN b p) := by
  obtain ⟨k, rfl⟩ : ∃ m, k = m + 1 := ⟨k - 1, by omega⟩
  unfold impl_DecodeName.f decN
  by_cases h0 : p < 0
  · rw [if_pos h0, if_pos (.inl h0), impl_DecodeName.j0, if_pos rfl]
  · rw [if_neg h0]
    by_cases h1 : p > (b.length : Int)
    · rw [decide_eq_true h1, if_pos (.inr h1), impl_DecodeName.j0, if_pos rfl]
    · rw [decide_eq_false h1, if_neg (by omega), impl_DecodeName.j0, if_neg (by simp)]
      exact impl_DecodeName_l0 b hb hl (p.toNat + 255) k (b.length + 300) p p (-1) [] (by omega) (by omega) (by omega) (by omega) (by omega) (by omega) (by simp [joinL]) (by simp [joinL]; omega) (by omega) (by omega)

end Go.Proofs.Ytlmapgfmfamgcaa.Pure
