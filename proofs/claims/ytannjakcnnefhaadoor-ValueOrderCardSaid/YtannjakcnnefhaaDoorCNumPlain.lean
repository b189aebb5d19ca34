import Derived.Lib.ItoaMem
set_option linter.unusedVariables false
set_option linter.unusedSimpArgs false
set_option linter.unusedVariables false
namespace Go.Proofs.YtannjakcnnefhaaDoor.Num
open Go Go.Lib
/-- The digits of n, the least first to come off, ahead of s. -/
def numL (u : Nat) : List UInt8 := if u = 0 then [] else decDigits u
theorem numL_step {u : Nat} (h : u ≠ 0) : numL (u / 10) ++ [UInt8.ofNat (48 + u % 10)] = numL u := by
  unfold numL
  rw [if_neg h]
  by_cases c : u < 10
  · rw [if_pos (by omega), decDigits_one c]
    simp [Nat.mod_eq_of_lt c]
  · rw [if_neg (by omega)]
    conv => rhs; rw [decDigits, dif_neg c]
theorem itoa_eq {n : Int} (h : n ≠ 0) : itoa n = (if n < 0 then [45] else []) ++ numL n.natAbs := by
  unfold numL
  rw [if_neg (show ¬ n.natAbs = 0 by omega)]
  by_cases c : n < 0
  · rw [if_pos c]
    have : n = -((n.natAbs : Nat) : Int) := by omega
    conv => lhs; rw [this]
    rw [itoa_neg _ (by omega)]
    rfl
  · rw [if_neg c]
    have : n = ((n.natAbs : Nat) : Int) := by omega
    conv => lhs; rw [this]
    rw [itoa_nonneg]
    rfl
end Go.Proofs.YtannjakcnnefhaaDoor.Num
