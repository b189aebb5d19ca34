import Derived.Test.YtefglphdiimhnaaDoorPC0
set_option linter.unusedVariables false
set_option linter.unusedSimpArgs false
namespace Go.Proofs.YtefglphdiimhnaaDoor.Plain
open Go Go.RowKit Go.Proofs.YtefglphdiimhnaaDoor.Q Go.Proofs.YtefglphdiimhnaaDoorW.PrintWords Go.Proofs.YtefglphdiimhnaaDoorW.PrintLast Go.Proofs.YtefglphdiimhnaaDoorW.PrintMore
theorem pick_l0 {x : Int} : ∀ (rs pre : List S69) (k : Nat), rs.length + 1 ≤ k → pre.length + rs.length ≤ 9223372036854775806 →
    bucket_Pick.l0 k x (pre ++ rs) ((pre ++ rs).length : Int) (pre.length : Int) = some (pickI rs x) := by
  intro rs
  induction rs with
  | nil =>
    intro pre k hk hl
    obtain ⟨k, rfl⟩ : ∃ k', k = k' + 1 := ⟨k - 1, by omega⟩
    unfold bucket_Pick.l0
    rw [if_neg (by simp)]
    rfl
  | cons r rs ih =>
    intro pre k hk hl
    obtain ⟨k, rfl⟩ : ∃ k', k = k' + 1 := ⟨k - 1, by simp at hk; omega⟩
    have hw : wrap64 ((pre.length : Int) + 1) = ((pre ++ [r]).length : Int) := by simp at hl; rw [w64 (by omega) (by omega)]; simp
    have e : pre ++ r :: rs = (pre ++ [r]) ++ rs := by simp
    have ih2 := ih (pre ++ [r]) k (by simp at hk; omega) (by simp at hl ⊢; omega)
    rw [← e] at ih2
    unfold bucket_Pick.l0
    rw [if_pos (by simp; omega), if_pos (by omega), if_pos (by simp; omega), rdT_mid, hw, pickI_cons]
    by_cases c1 : r.f0 ≤ x
    · rw [if_pos c1]
      by_cases c2 : x < r.f1
      · rw [if_pos c2, if_pos (by unfold inI; simp [c1, c2])]
      · rw [if_neg c2, if_neg (by unfold inI; simp [c2])]
        exact ih2
    · rw [if_neg c1, if_neg (by unfold inI; simp [c1])]
      exact ih2
theorem pick_ok {x : Int} {L : List S69} {k : Nat} (hk : L.length + 1 ≤ k) (hl : L.length ≤ 9223372036854775806) : bucket_Pick.f k L x = some (pickI L x) := by
  unfold bucket_Pick.f
  exact pick_l0 L [] k hk (by simpa using hl)
theorem mod_ok {x : Int} (h : -9223372036854775808 ≤ x) (h2 : x ≤ 9223372036854775807) : ∃ b : Nat, flagstonedraw_Mod.f x 10000 = some (b : Int) ∧ b < 10000 := by
  unfold flagstonedraw_Mod.f
  rw [if_neg (by omega)]
  have h3 : Int.tmod x 10000 < 10000 := Int.tmod_lt_of_pos _ (by omega)
  have h4 : -10000 < Int.tmod x 10000 := by
    have := Int.lt_tmod_of_pos x (show (0 : Int) < 10000 by omega)
    omega
  by_cases c : Int.tmod x 10000 < 0
  · rw [if_pos c, w64 (by omega) (by omega)]
    exact ⟨(Int.tmod x 10000 + 10000).toNat, by rw [Int.toNat_of_nonneg (by omega)], by omega⟩
  · rw [if_neg c]
    exact ⟨(Int.tmod x 10000).toNat, by rw [Int.toNat_of_nonneg (by omega)], by omega⟩
end Go.Proofs.YtefglphdiimhnaaDoor.Plain
