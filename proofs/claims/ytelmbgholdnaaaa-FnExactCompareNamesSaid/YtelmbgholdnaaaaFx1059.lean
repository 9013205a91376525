-- Written by a program of this session (wip/myprint.py, over the kit's print). Not trusted: Lean checks it.
import Derived.Test.YtelmbgholdnaaaaFx0
namespace Go.Proofs.Ytelmbgholdnaaaa.F
open Go Go.Shelf Go.RowKit Go.Proofs.YtelmbgholdnaaaaW.PrintWords Go.Proofs.YtelmbgholdnaaaaW.PrintLast Go.Proofs.YtelmbgholdnaaaaW.PrintMore
attribute [local go_sem] max2_int min2_int max_two min_two max_three min_three max_four min_four   -- for this text's walks alone
set_option linter.unusedVariables false
set_option linter.unusedSimpArgs false

/-! ### strings_Compare: function 59 -/
def cmp_ren : Go.Shelf.Ren := ⟨fun | 106 => 59 | 213 => 64 | 265 => 66 | n => n, fun | 9 => 9 | 3 => 3 | n => n, fun | n => n⟩
theorem cmp_lays : Go.Proofs.Lays.n106 Try.prog cmp_ren := {
  mixed := by kernel_rfl
  f106 := Try.func59.trans (congrArg some (by kernel_rfl))
  f213 := Try.func64.trans (congrArg some (by kernel_rfl))
  f265 := Try.func66.trans (congrArg some (by kernel_rfl))
  t3 := Try.underlying3
  a3 := Try.isAgg3
  z3 := Try.sizeOf3
  v3 := Try.zeroValue3
  t9 := Try.underlying9
  a9 := Try.isAgg9
  z9 := Try.sizeOf9
  v9 := Try.zeroValue9 }
def strings_Compare.f (a0 : ByteArray) (a1 : ByteArray) : Option (Int) := some (Lib.compareBytes a0.data.toList a1.data.toList)
theorem strings_Compare.calls (a0 : ByteArray) (a1 : ByteArray) (r : Int) (w : World) (h : strings_Compare.f a0 a1 = some r) :
    Calls Try.prog 59 #[.string a0, .string a1] w fun e w' => e = .returned (.int .i64 r) ∧ Drawn0 w w' := by
  obtain rfl := Option.some.inj h
  exact (Any.strings_Compare cmp_lays a0 a1 w).mono fun e w' ⟨he, hw⟩ => ⟨he, 0, by rw [hw]; rfl⟩

end Go.Proofs.Ytelmbgholdnaaaa.F
