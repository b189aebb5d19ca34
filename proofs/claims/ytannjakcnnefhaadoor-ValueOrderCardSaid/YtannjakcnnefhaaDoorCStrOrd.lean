import Derived.Laws.Strings
set_option linter.unusedVariables false
set_option linter.unusedSimpArgs false
set_option linter.unusedVariables false
namespace Go.Proofs.YtannjakcnnefhaaDoor
open Go
theorem less_flip : ∀ a b : List UInt8, (Op.bytesLess a b || a == b) = !(Op.bytesLess b a)
  | [], [] => by simp [Op.bytesLess]
  | [], b :: y => by simp [Op.bytesLess]
  | a :: x, [] => by simp [Op.bytesLess]
  | a :: x, b :: y => by
    have ih := less_flip x y
    rw [Op.bytesLess, Op.bytesLess]
    by_cases h1 : a < b
    · have h2 : ¬ b < a := fun h => by rw [UInt8.lt_iff_toNat_lt] at h1 h; omega
      have h3 : (b == a) = false := beq_eq_false_iff_ne.2 fun h => by rw [h, UInt8.lt_iff_toNat_lt] at h1; omega
      simp [h1, h2, h3]
    · by_cases h2 : b < a
      · have h3 : (a == b) = false := beq_eq_false_iff_ne.2 fun h => by rw [h, UInt8.lt_iff_toNat_lt] at h2; omega
        have h4 : ¬ a = b := fun h => by simp [h] at h3
        simp [h1, h2, h3, h4]
      · obtain rfl : a = b := UInt8.toNat_inj.1 (by rw [UInt8.lt_iff_toNat_lt] at h1 h2; omega)
        simpa [h1] using ih
theorem str_geq {t : TypeId} {a b : ByteArray} : binOp .geq t (.string a) (.string b) = pure (.bool !(Op.bytesLess a.toList b.toList)) := by simp [binOp, Op.stringOp]
theorem str_leq {t : TypeId} {a b : ByteArray} : binOp .leq t (.string a) (.string b) = pure (.bool !(Op.bytesLess b.toList a.toList)) := by
  rw [← less_flip]
  simp [binOp, Op.stringOp]
theorem str_gtr {t : TypeId} {a b : ByteArray} : binOp .gtr t (.string a) (.string b) = pure (.bool (Op.bytesLess b.toList a.toList)) := by
  have h := less_flip a.toList b.toList
  have h2 : Op.bytesLess b.toList a.toList = !(Op.bytesLess a.toList b.toList || a.toList == b.toList) := by rw [h, Bool.not_not]
  rw [h2]
  simp [binOp, Op.stringOp]
theorem less_irrefl (a : List UInt8) : Op.bytesLess a a = false := by
  have h := less_flip a a
  simp at h
  exact h
end Go.Proofs.YtannjakcnnefhaaDoor
