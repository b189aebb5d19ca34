import Derived.Test.YtefglphdiimhnaaDoorPD0
set_option linter.unusedVariables false
set_option linter.unusedSimpArgs false
namespace Go.Proofs.YtefglphdiimhnaaDoor.Plain
open Go Go.RowKit Go.Proofs.YtefglphdiimhnaaDoor.Q Go.Proofs.YtefglphdiimhnaaDoorW.PrintWords Go.Proofs.YtefglphdiimhnaaDoorW.PrintLast Go.Proofs.YtefglphdiimhnaaDoorW.PrintMore

def cap : Nat → Int
  | 0 => 10000
  | n + 1 => cap n + 10000
theorem cap_le {n : Nat} (h : n ≤ 8) : cap n ≤ 100000 := by
  rcases n with _ | _ | _ | _ | _ | _ | _ | _ | _ | n
  all_goals first | omega | decide
theorem check_over : ∀ (rs pre : List Int) (k : Nat) (s : Int), 10000 < s → s ≤ cap pre.length → rs.length + 1 ≤ k → pre.length + rs.length ≤ 8 →
    bucket_check.l0 k s (pre ++ rs) ((pre ++ rs).length : Int) (pre.length : Int) = some 3 := by
  intro rs
  induction rs with
  | nil =>
    intro pre k s h h2 hk hl
    obtain ⟨k, rfl⟩ : ∃ k', k = k' + 1 := ⟨k - 1, by omega⟩
    unfold bucket_check.l0
    rw [if_neg (by simp), if_neg (by omega)]
  | cons r rs ih =>
    intro pre k s h h2 hk hl
    obtain ⟨k, rfl⟩ : ∃ k', k = k' + 1 := ⟨k - 1, by simp at hk; omega⟩
    have hl2 : pre.length + (rs.length + 1) ≤ 8 := hl
    have hw : wrap64 ((pre.length : Int) + 1) = ((pre ++ [r]).length : Int) := by rw [w64 (by omega) (by omega)]; simp
    have hc := cap_le (n := pre.length) (by omega)
    unfold bucket_check.l0
    rw [if_pos (by simp; omega), if_pos (by omega), if_pos (by simp; omega), rd_mid]
    by_cases c1 : r < 0
    · rw [if_pos c1]
    · rw [if_neg c1]
      by_cases c2 : r > 10000
      · rw [if_pos c2]
      · have hw2 : wrap64 (s + r) = s + r := w64 (by omega) (by omega)
        rw [if_neg c2, hw, hw2]
        have e : pre ++ r :: rs = (pre ++ [r]) ++ rs := by simp
        rw [e]
        refine ih (pre ++ [r]) k (s + r) (by omega) ?_ (by simp at hk; omega) (by simp; omega)
        rw [List.length_append]
        show s + r ≤ cap pre.length + 10000
        omega
theorem check_both : ∀ (rs pre : List Int) (k : Nat) (s : Int), 0 ≤ s → s ≤ 10000 → rs.length + 1 ≤ k → pre.length + rs.length ≤ 8 → 
    ∃ e, bucket_check.l0 k s (pre ++ rs) ((pre ++ rs).length : Int) (pre.length : Int) = some e ∧ flagstoneref13_weights.l0 k (pre ++ rs) (10000 - s) (pre.length : Int) = some e ∧ (e = 0 → (∀ x ∈ rs, 0 ≤ x) ∧ s + sumL rs = 10000) := by
  intro rs
  induction rs with
  | nil =>
    intro pre k s h h2 hk hl
    obtain ⟨k, rfl⟩ : ∃ k', k = k' + 1 := ⟨k - 1, by omega⟩
    have A : bucket_check.l0 (k + 1) s (pre ++ []) ((pre ++ []).length : Int) (pre.length : Int) = if s = 10000 then some 0 else some 3 := by
      unfold bucket_check.l0
      rw [if_neg (by simp)]
    have B : flagstoneref13_weights.l0 (k + 1) (pre ++ []) (10000 - s) (pre.length : Int) = if 10000 - s = 0 then some 0 else some 3 := by
      unfold flagstoneref13_weights.l0
      rw [if_neg (by simp)]
    rw [A, B]
    by_cases c : s = 10000
    · rw [if_pos c, if_pos (by omega)]
      exact ⟨0, rfl, rfl, fun _ => ⟨by simp, by simp [sumL]; exact c⟩⟩
    · rw [if_neg c, if_neg (by omega)]
      exact ⟨3, rfl, rfl, fun h => by omega⟩
  | cons r rs ih =>
    intro pre k s h h2 hk hl
    obtain ⟨k, rfl⟩ : ∃ k', k = k' + 1 := ⟨k - 1, by simp at hk; omega⟩
    have hl2 : pre.length + (rs.length + 1) ≤ 8 := hl
    have hk2 : rs.length + 1 ≤ k := by simp at hk; omega
    have hw : wrap64 ((pre.length : Int) + 1) = ((pre ++ [r]).length : Int) := by rw [w64 (by omega) (by omega)]; simp
    have e : pre ++ r :: rs = (pre ++ [r]) ++ rs := by simp
    have A : bucket_check.l0 (k + 1) s (pre ++ r :: rs) ((pre ++ r :: rs).length : Int) (pre.length : Int) = if r < 0 then some 3 else if r > 10000 then some 3 else bucket_check.l0 k (wrap64 (s + r)) (pre ++ r :: rs) ((pre ++ r :: rs).length : Int) (wrap64 ((pre.length : Int) + 1)) := by
      show (if _ then _ else _) = _
      rw [if_pos (by simp; omega), if_pos (by omega), if_pos (by simp; omega), rd_mid]
    have B : flagstoneref13_weights.l0 (k + 1) (pre ++ r :: rs) (10000 - s) (pre.length : Int) = if r < 0 then some 3 else if r > 10000 - s then some 3 else flagstoneref13_weights.l0 k (pre ++ r :: rs) (wrap64 (10000 - s - r)) (wrap64 ((pre.length : Int) + 1)) := by
      show (if _ then _ else _) = _
      rw [if_pos (by simp; omega), if_pos (by omega), rd_mid]
    rw [A, B]
    clear A B
    by_cases c1 : r < 0
    · rw [if_pos c1, if_pos c1]
      exact ⟨3, rfl, rfl, fun h => by omega⟩
    · rw [if_neg c1, if_neg c1]
      by_cases c2 : r > 10000
      · rw [if_pos c2, if_pos (by omega)]
        exact ⟨3, rfl, rfl, fun h => by omega⟩
      · have hw2 : wrap64 (s + r) = s + r := w64 (by omega) (by omega)
        rw [if_neg c2, hw, hw2]
        by_cases c3 : r > 10000 - s
        · rw [if_pos c3, e, check_over rs (pre ++ [r]) k (s + r) (by omega) ?_ hk2 (by simp; omega)]
          · exact ⟨3, rfl, rfl, fun h => by omega⟩
          · rw [List.length_append]
            have : 10000 ≤ cap pre.length := by
              have : ∀ n, 10000 ≤ cap n := by
                intro n
                induction n with
                | zero => exact Int.le_refl _
                | succ n ih => show 10000 ≤ cap n + 10000; omega
              exact this _
            show s + r ≤ cap pre.length + 10000
            omega
        · have hw3 : wrap64 (10000 - s - r) = 10000 - (s + r) := by rw [w64 (by omega) (by omega)]; omega
          rw [if_neg c3, hw3, e]
          obtain ⟨e', g1, g2, g3⟩ := ih (pre ++ [r]) k (s + r) (by omega) (by omega) hk2 (by simp; omega)
          refine ⟨e', g1, g2, fun h => ⟨fun x hx => ?_, ?_⟩⟩
          · rcases List.mem_cons.1 hx with q | q
            · omega
            · exact (g3 h).1 x q
          · have := (g3 h).2
            rw [sumL_cons]
            omega
theorem check_any {xs : List Int} {k : Nat} (hk : 10 ≤ k) : ∃ e, bucket_check.f k xs = some e ∧ flagstoneref13_weights.f k xs = some e ∧ (e = 0 → xs.length ≤ 8 ∧ okW (xs.length : Int) xs) := by
  unfold bucket_check.f flagstoneref13_weights.f
  by_cases c : (xs.length : Int) > 8
  · rw [if_pos c, if_pos c]
    exact ⟨5, rfl, rfl, fun h => by omega⟩
  · rw [if_neg c, if_neg c]
    obtain ⟨e, g1, g2, g3⟩ := check_both xs [] k 0 (by omega) (by omega) (by omega) (by simp; omega)
    exact ⟨e, g1, g2, fun h => ⟨by omega, rfl, (g3 h).1, by have := (g3 h).2; omega⟩⟩

/-! ### The split out of weights -/
end Go.Proofs.YtefglphdiimhnaaDoor.Plain
