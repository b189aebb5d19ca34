import Derived.Test.YtefglphdiimhnaaDoorPR
import Derived.Test.YtefglphdiimhnaaDoorPK
import Derived.Test.YtefglphdiimhnaaDoorPS
set_option linter.unusedVariables false
set_option linter.unusedSimpArgs false
namespace Go.Proofs.YtefglphdiimhnaaDoor.Plain
open Go Go.RowKit Go.Proofs.YtefglphdiimhnaaDoor.Q Go.Proofs.YtefglphdiimhnaaDoorW.PrintWords Go.Proofs.YtefglphdiimhnaaDoorW.PrintLast Go.Proofs.YtefglphdiimhnaaDoorW.PrintMore
theorem refpick_l0 {x : Int} : ∀ (rs pre : List S69) (k : Nat), rs.length + 1 ≤ k → pre.length + rs.length ≤ 9223372036854775806 →
    flagstoneref13_Pick.l0 k (pre ++ rs) x (pre.length : Int) = some (pickI rs x) := by
  intro rs
  induction rs with
  | nil =>
    intro pre k hk hl
    obtain ⟨k, rfl⟩ : ∃ k', k = k' + 1 := ⟨k - 1, by omega⟩
    unfold flagstoneref13_Pick.l0
    rw [if_neg (by simp)]
    rfl
  | cons r rs ih =>
    intro pre k hk hl
    obtain ⟨k, rfl⟩ : ∃ k', k = k' + 1 := ⟨k - 1, by simp at hk; omega⟩
    have hw : wrap64 ((pre.length : Int) + 1) = ((pre ++ [r]).length : Int) := by simp at hl; rw [w64 (by omega) (by omega)]; simp
    have e : pre ++ r :: rs = (pre ++ [r]) ++ rs := by simp
    have ih2 := ih (pre ++ [r]) k (by simp at hk; omega) (by simp at hl ⊢; omega)
    rw [← e] at ih2
    unfold flagstoneref13_Pick.l0
    rw [if_pos (by simp; omega), if_pos (by omega), rdT_mid, hw, pickI_cons]
    by_cases c1 : r.f0 ≤ x
    · rw [if_pos c1]
      by_cases c2 : x < r.f1
      · rw [if_pos c2, if_pos (by unfold inI; simp [c1, c2])]
      · rw [if_neg c2, if_neg (by unfold inI; simp [c2])]
        exact ih2
    · rw [if_neg c1, if_neg (by unfold inI; simp [c1])]
      exact ih2
theorem refpick_ok {x : Int} {L : List S69} {k : Nat} (hk : L.length + 1 ≤ k) (hl : L.length ≤ 9223372036854775806) : flagstoneref13_Pick.f k L x = some (pickI L x) := by
  unfold flagstoneref13_Pick.f
  exact refpick_l0 L [] k hk (by simpa using hl)
theorem pick_both {L : List S69} {k : Nat} (x : Int) (hk : L.length + 1 ≤ k) (hl : L.length ≤ 1000) : ∃ p, bucket_Pick.f k L x = some p ∧ flagstoneref13_Pick.f k L x = some p :=
  ⟨_, pick_ok hk (by omega), refpick_ok hk (by omega)⟩
theorem weights_both {L : List S69} {k : Nat} (n : Int) (hL : L.length ≤ 1000) (hk : L.length * 10002 + 10001 ≤ k) : ∃ C, bucket_Weights.f L n = some C ∧ flagstoneref13_Weights.f k L n = some C ∧ C.length ≤ 1000 := by
  have hm : (min (max n 0) 8).toNat = (mx 0 (mn n 8)).toNat := by unfold mx mn; repeat' split <;> omega
  have hb : (mx 0 (mn n 8)).toNat ≤ 8 := by unfold mx mn; repeat' split <;> omega
  obtain ⟨N, hN⟩ : ∃ N : Nat, N = 10000 := ⟨_, rfl⟩
  have hp : (paintL L).length = N := by rw [hN]; simp [paintL]
  have hr := refweights_ok (n := n) (by omega : L.length ≤ 9223372036854775807) hk
  refine ⟨_, rfl, ?_, ?_⟩
  · rw [hr, hm]
  · rw [hm, ← hN, wcount_len _ _ _ (by omega)]; omega
end Go.Proofs.YtefglphdiimhnaaDoor.Plain
