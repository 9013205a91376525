/- The pure statement of FnExactSerialLess: what the program's function computes is what the reference computes, at every argument. No condition beyond the statement's own. -/
import Derived.Test.YtelmbgholdnaaaaPFnExactSerialLessx1
import Derived.Test.YtelmbgholdnaaaaBase
namespace Go.Proofs.Ytelmbgholdnaaaa.Pure
open Go.RowKit Go.Proofs.Ytelmbgholdnaaaa.PFnExactSerialLess Go.Proofs.Ytelmbgholdnaaaa.Base Go.Proofs.YtelmbgholdnaaaaW.PrintWords Go.Proofs.YtelmbgholdnaaaaW.PrintLast Go.Proofs.YtelmbgholdnaaaaW.PrintMore
set_option linter.unusedVariables false
set_option linter.unusedSimpArgs false

theorem and_low (x : Int) : Go.bits .and .i64 x 4294967295 = x % 4294967296 := by
  have h1 : (4294967295 : Int) = ((2 ^ 32 - 1 : Nat) : Int) := by decide
  have h2 : (2 ^ 32 - 1 : Nat) % 2 ^ 64 = 2 ^ 32 - 1 := by decide
  have hx : 0 ≤ x % 18446744073709551616 := by omega
  obtain ⟨n, hn⟩ := Int.eq_ofNat_of_zero_le hx
  have e1 : (BitVec.ofInt 64 x).toNat = n := by
    rw [BitVec.toNat_ofInt]
    have : ((2 ^ 64 : Nat) : Int) = 18446744073709551616 := by decide
    rw [this, hn]; rfl
  have e2 : (BitVec.ofInt 64 (4294967295 : Int)).toNat = 2 ^ 32 - 1 := by decide
  have e3 : (n &&& (2 ^ 32 - 1)) = n % 2 ^ 32 := Nat.and_two_pow_sub_one_eq_mod n 32
  show Go.IntKind.i64.wrap (((BitVec.ofInt 64 x &&& BitVec.ofInt 64 (4294967295 : Int)).toNat : Nat) : Int) = _
  rw [BitVec.toNat_and, e1, e2, e3, Go.IntKind.wrap_i64]
  omega
theorem FnExactSerialLess : laws_FnExactSerialLess.Pure := by
  intro a b _ _
  unfold laws_FnExactSerialLess.f spec_SerialLess.f impl_SerialLess.f impl_serialOk.f impl_within.f spec_l04In.f
  by_cases ha : a ≥ 0
  · by_cases ha2 : a ≤ 4294967295
    · by_cases hb : b ≥ 0
      · by_cases hb2 : b ≤ 4294967295
        · rw [w64 (x := b - a) (by omega) (by omega), w64 (by omega) (by omega), and_low, Int.tmod_eq_emod_of_nonneg (by omega), Int.add_emod_right]
          simp [ha, ha2, hb, hb2]
          by_cases h : 1 ≤ (b - a) % 4294967296 <;> simp [h]
        · simp [ha, ha2, hb, hb2]
      · simp [ha, ha2, hb]
    · simp [ha, ha2]
  · simp [ha]

end Go.Proofs.Ytelmbgholdnaaaa.Pure
