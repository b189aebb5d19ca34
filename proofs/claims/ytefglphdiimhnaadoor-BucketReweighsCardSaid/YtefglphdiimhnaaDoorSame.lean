import Derived.Test.YtefglphdiimhnaaDoorP0
set_option linter.unusedVariables false
set_option linter.unusedSimpArgs false
namespace Go.Proofs.YtefglphdiimhnaaDoor.Plain
open Go Go.RowKit Go.Proofs.YtefglphdiimhnaaDoor.Q Go.Proofs.YtefglphdiimhnaaDoorW.PrintWords Go.Proofs.YtefglphdiimhnaaDoorW.PrintLast Go.Proofs.YtefglphdiimhnaaDoorW.PrintMore
theorem same_l0 (a : List S69) : ∀ (j i k : Nat), i + j = a.length → a.length ≤ 1000 → j + 1 ≤ k → flagstoneref6_SameRanges.l0 k a a (i : Int) = some true := by
  intro j
  induction j with
  | zero =>
    intro i k h hl hk
    obtain ⟨k, rfl⟩ : ∃ k', k = k' + 1 := ⟨k - 1, by omega⟩
    unfold flagstoneref6_SameRanges.l0
    rw [if_neg (by omega)]
  | succ j ih =>
    intro i k h hl hk
    obtain ⟨k, rfl⟩ : ∃ k', k = k' + 1 := ⟨k - 1, by omega⟩
    have hw : wrap64 ((i : Int) + 1) = ((i + 1 : Nat) : Int) := by rw [w64 (by omega) (by omega)]; omega
    unfold flagstoneref6_SameRanges.l0
    rw [if_pos (by omega), if_pos (by omega), if_pos (by omega), hw, if_neg (by simp)]
    exact ih (i + 1) k (by omega) hl (by omega)
theorem same_any {a : List S69} {k : Nat} (h : a.length ≤ 1000) (hk : a.length + 1 ≤ k) : flagstoneref6_SameRanges.f k a a = some true := by
  unfold flagstoneref6_SameRanges.f
  rw [if_pos rfl]
  exact same_l0 a a.length 0 k (by omega) h hk
end Go.Proofs.YtefglphdiimhnaaDoor.Plain
