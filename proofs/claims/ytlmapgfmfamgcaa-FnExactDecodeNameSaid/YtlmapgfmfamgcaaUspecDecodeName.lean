/- What spec_DecodeName computes, in plain words, for enough rounds. Conditions: bounds on the sizes of its arguments, as each statement says. -/
import Derived.Test.YtlmapgfmfamgcaaFx1011
import Derived.Test.YtlmapgfmfamgcaaBase
import Derived.Test.YtlmapgfmfamgcaaBaseDec
import Derived.Test.YtlmapgfmfamgcaaUspecl01Join
namespace Go.Proofs.Ytlmapgfmfamgcaa.Pure
open Go.RowKit Go.Proofs.Ytlmapgfmfamgcaa.F Go.Proofs.Ytlmapgfmfamgcaa.Base Go.Proofs.YtlmapgfmfamgcaaW.PrintWords Go.Proofs.YtlmapgfmfamgcaaW.PrintLast Go.Proofs.YtlmapgfmfamgcaaW.PrintMore
set_option linter.unusedVariables false
set_option linter.unusedSimpArgs false
-- base: BaseDec
theorem spec_DecodeName_l0 (b : List Int) (hb : Bytes b) (hl : b.length ≤ 1048576) : ∀ (m k f : Nat) (p start next : Int) (ls : List ByteArray), 0 ≤ p → p ≤ 1048576 → 0 ≤ start → start ≤ 1048576 → -1 ≤ next → next ≤ 1048600 → (joinL ls).length + 1 ≤ 255 → start + 255 - (joinL ls).length ≤ m → m < k → m < f → spec_DecodeName.l0 k b p (b.length : Int) ls (((joinL ls).length : Int) + 1) next start = some (dn b f p start next ls) := by
  intro m
  induction m with
  | zero => intro k f p start next ls h1 h2 h3 h4 h5 h6 h7 h8; omega
  | succ m ih =>
    intro k f p start next ls h1 h2 h3 h4 h5 h6 h7 h8 hk hf
    obtain ⟨k, rfl⟩ : ∃ m, k = m + 1 := ⟨k - 1, by omega⟩
    obtain ⟨f, rfl⟩ : ∃ m, f = m + 1 := ⟨f - 1, by omega⟩
    have hr := hb.rd p
    have hll := joinL_len_ge ls
    rw [spec_DecodeName.l0, dn]
    by_cases hp : p ≥ (b.length : Int)
    · rw [if_pos hp, if_pos hp]
    · rw [if_neg hp, if_neg hp, if_pos h1, if_pos (by omega), w64 (x := rd b p) (by omega) (by omega)]
      by_cases h0 : rd b p = 0
      · rw [if_pos h0, if_pos h0, spec_l01Join_eq ls (by omega), w64 (x := p + 1) (by omega) (by omega)]
        by_cases hn : next < 0
        · rw [if_pos hn, if_pos hn]; rfl
        · rw [if_neg hn, if_neg hn]; rfl
      · rw [if_neg h0, if_neg h0]
        by_cases h192 : rd b p ≥ 192
        · rw [if_pos h192, if_pos h192, w64 (x := p + 1) (by omega) (by omega)]
          by_cases hp1 : p + 1 ≥ (b.length : Int)
          · rw [if_pos hp1, if_pos hp1]
          · have hr2 := hb.rd (p + 1)
            rw [if_neg hp1, if_neg hp1, if_pos (by omega), if_pos (by omega), w64 (x := rd b p - 192) (by omega) (by omega), w64 (x := (rd b p - 192) * 256) (by omega) (by omega), w64 (x := rd b (p + 1)) (by omega) (by omega), w64 (x := (rd b p - 192) * 256 + rd b (p + 1)) (by omega) (by omega)]
            by_cases hs : (rd b p - 192) * 256 + rd b (p + 1) ≥ start
            · rw [if_pos hs, if_pos hs]
            · rw [if_neg hs, if_neg hs]
              by_cases hn : next < 0
              · rw [if_pos hn, if_pos hn, w64 (x := p + 2) (by omega) (by omega)]
                exact ih k f _ _ _ ls (by omega) (by omega) (by omega) (by omega) (by omega) (by omega) h7 (by omega) (by omega) (by omega)
              · rw [if_neg hn, if_neg hn]
                exact ih k f _ _ _ ls (by omega) (by omega) (by omega) (by omega) (by omega) (by omega) h7 (by omega) (by omega) (by omega)
        · rw [if_neg h192, if_neg h192]
          by_cases h63 : rd b p > 63
          · rw [if_pos h63, if_pos h63]
          · rw [if_neg h63, if_neg h63, w64 (x := p + 1) (by omega) (by omega), w64 (x := p + 1 + rd b p) (by omega) (by omega)]
            by_cases hsh : p + 1 + rd b p > (b.length : Int)
            · rw [if_pos hsh, if_pos hsh]
            · rw [if_neg hsh, if_neg hsh, w64 (x := ((joinL ls).length : Int) + 1 + 1) (by omega) (by omega), w64 (x := ((joinL ls).length : Int) + 1 + 1 + rd b p) (by omega) (by omega)]
              by_cases hlg : ((joinL ls).length : Int) + 2 + rd b p > 255
              · rw [if_pos (by omega), if_pos hlg]
              · have hlab := lab_size b p (rd b p) h1 (by omega) (by omega)
                have hsz := size_L (lab b p (rd b p))
                have hj : ((joinL (ls ++ [lab b p (rd b p)])).length : Int) = ((joinL ls).length : Int) + 1 + rd b p := by
                  rw [joinL_snoc, List.length_append, List.length_cons]
                  omega
                rw [if_neg (by omega), if_neg hlg, if_pos (by omega), if_pos (by omega), if_pos (by omega), if_pos (by omega)]
                have := ih k f (p + 1 + rd b p) start next (ls ++ [lab b p (rd b p)]) (by omega) (by omega) h3 h4 h5 h6 (by omega) (by omega) (by omega) (by omega)
                rw [hj] at this
                rw [show ((joinL ls).length : Int) + 1 + 1 + rd b p = ((joinL ls).length : Int) + 1 + rd b p + 1 by omega]
                exact this
theorem spec_DecodeName_eq (b : List Int) (hb : Bytes b) (hl : b.length ≤ 1048576) (p : Int) (k : Nat) (hk : 1050000 ≤ k) : spec_DecodeName.f k b p = some (decN b p) := by
  obtain ⟨k, rfl⟩ : ∃ m, k = m + 1 := ⟨k - 1, by omega⟩
  unfold spec_DecodeName.f decN
  by_cases h0 : p < 0
  · rw [if_pos h0, if_pos (.inl h0), spec_DecodeName.j0, if_pos rfl]
  · rw [if_neg h0]
    by_cases h1 : p > (b.length : Int)
    · rw [decide_eq_true h1, if_pos (.inr h1), spec_DecodeName.j0, if_pos rfl]
    · rw [decide_eq_false h1, if_neg (by omega), spec_DecodeName.j0, if_neg (by simp)]
      have := spec_DecodeName_l0 b hb hl (p.toNat + 255) k (b.length + 300) p p (-1) [] (by omega) (by omega) (by omega) (by omega) (by omega) (by omega) (by simp [joinL]) (by simp [joinL]; omega) (by omega) (by omega)
      simpa [joinL] using this

end Go.Proofs.Ytlmapgfmfamgcaa.Pure
