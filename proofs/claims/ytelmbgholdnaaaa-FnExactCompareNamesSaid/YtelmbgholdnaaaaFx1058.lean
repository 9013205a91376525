-- Written by a program of this session (wip/myprint.py, over the kit's print). Not trusted: Lean checks it.
import Derived.Test.YtelmbgholdnaaaaFx0
namespace Go.Proofs.Ytelmbgholdnaaaa.F
open Go Go.Shelf Go.RowKit Go.Proofs.YtelmbgholdnaaaaW.PrintWords Go.Proofs.YtelmbgholdnaaaaW.PrintLast Go.Proofs.YtelmbgholdnaaaaW.PrintMore
attribute [local go_sem] max2_int min2_int max_two min_two max_three min_three max_four min_four   -- for this text's walks alone
set_option linter.unusedVariables false
set_option linter.unusedSimpArgs false

/-! ### spec_l01Order: function 58 -/
theorem ord_less : ∀ (x y : List UInt8), Op.bytesLess x y = decide (Lib.compareBytes x y = -1)
  | [], [] => by simp [Op.bytesLess, Lib.compareBytes]
  | [], _ :: _ => by simp [Op.bytesLess, Lib.compareBytes]
  | _ :: _, [] => by simp [Op.bytesLess, Lib.compareBytes]
  | a :: x, b :: y => by
    have ih := ord_less x y
    unfold Op.bytesLess Lib.compareBytes
    by_cases h1 : a < b
    · simp [h1]
    · by_cases h2 : b < a
      · have : a ≠ b := fun e => by subst e; exact h1 h2
        simp [h1, h2, this]
      · have : a = b := UInt8.le_antisymm (UInt8.not_lt.1 h2) (UInt8.not_lt.1 h1)
        subst this
        simp [h1, ih]
theorem ord_eq : ∀ (x y : List UInt8), (x == y) = decide (Lib.compareBytes x y = 0)
  | [], [] => by simp [Lib.compareBytes]
  | [], _ :: _ => by simp [Lib.compareBytes]
  | _ :: _, [] => by simp [Lib.compareBytes]
  | a :: x, b :: y => by
    have ih := ord_eq x y
    unfold Lib.compareBytes
    by_cases h1 : a < b
    · have : a ≠ b := fun e => by subst e; exact UInt8.lt_irrefl a h1
      simp [h1, this]
    · by_cases h2 : b < a
      · have : a ≠ b := fun e => by subst e; exact h1 h2
        simp [h1, h2, this]
      · have : a = b := UInt8.le_antisymm (UInt8.not_lt.1 h2) (UInt8.not_lt.1 h1)
        subst this
        simp only [List.cons_beq_cons, beq_self_eq_true, Bool.true_and, h1, if_false]
        exact ih
theorem ord_cases : ∀ (x y : List UInt8), Lib.compareBytes x y = -1 ∨ Lib.compareBytes x y = 0 ∨ Lib.compareBytes x y = 1
  | [], [] => by simp [Lib.compareBytes]
  | [], _ :: _ => by simp [Lib.compareBytes]
  | _ :: _, [] => by simp [Lib.compareBytes]
  | a :: x, b :: y => by
    have ih := ord_cases x y
    unfold Lib.compareBytes
    by_cases h1 : a < b
    · simp [h1]
    · by_cases h2 : b < a
      · simp [h1, h2]
      · simpa [h1, h2] using ih
def spec_l01Order.f (a0 : ByteArray) (a1 : ByteArray) : Option (Int) := some (Lib.compareBytes a0.data.toList a1.data.toList)
set_option maxRecDepth 100000 in
theorem spec_l01Order.calls (a0 : ByteArray) (a1 : ByteArray) (r : Int) (w : World) (h : spec_l01Order.f a0 a1 = some r) :
    Calls Try.prog 58 #[.string a0, .string a1] w fun e w' => e = .returned (.int .i64 r) ∧ Drawn0 w w' := by
  obtain rfl := Option.some.inj h
  clear h
  have hg : ∀ (t : TypeId) (a b : ByteArray), binOp .gtr t (.string a) (.string b) = pure (.bool !(Op.bytesLess a.toList b.toList || a.toList == b.toList)) := fun t a b => by simp [binOp, Op.stringOp]
  have hl := ord_less a0.data.toList a1.data.toList
  have he := ord_eq a0.data.toList a1.data.toList
  have hc := ord_cases a0.data.toList a1.data.toList
  rw [← Lib.toList_data, ← Lib.toList_data] at hl he hc ⊢
  generalize Lib.compareBytes a0.toList a1.toList = c at *
  rcases hc with rfl | rfl | rfl
  · have hl' : Op.bytesLess a0.toList a1.toList = true := by rw [hl]; rfl
    clear hl he
    go_enter Try.func58, Try.ntmps58
    go_wp2
    go_ret
    exact ⟨rfl, 0, rfl⟩
  · have hl' : Op.bytesLess a0.toList a1.toList = false := by rw [hl]; rfl
    have he' : (a0.toList == a1.toList) = true := by rw [he]; rfl
    clear hl he
    go_enter Try.func58, Try.ntmps58
    go_wp2
    go_ret
    exact ⟨rfl, 0, rfl⟩
  · have hl' : Op.bytesLess a0.toList a1.toList = false := by rw [hl]; rfl
    have he' : (a0.toList == a1.toList) = false := by rw [he]; rfl
    clear hl he
    go_enter Try.func58, Try.ntmps58
    go_wp2
    go_ret
    exact ⟨rfl, 0, rfl⟩

end Go.Proofs.Ytelmbgholdnaaaa.F
