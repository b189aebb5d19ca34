import Derived.Test.YtefglphdiimhnaaDoorP0
set_option linter.unusedVariables false
set_option linter.unusedSimpArgs false
namespace Go.Proofs.YtefglphdiimhnaaDoor.Plain
open Go Go.RowKit Go.Proofs.YtefglphdiimhnaaDoor.Q Go.Proofs.YtefglphdiimhnaaDoorW.PrintWords Go.Proofs.YtefglphdiimhnaaDoorW.PrintLast Go.Proofs.YtefglphdiimhnaaDoorW.PrintMore
theorem weights2_l0 {n : Int} {bs : List Int} (hn : 1 ≤ n) (h8 : n ≤ 16) : ∀ (m k : Nat) (a : List Int) (x6 x7 p : Int), x7 + m + 1 = n → (a.length : Int) = x7 → m + 1 ≤ k → CV bs p → (∀ x ∈ a, 0 ≤ x) → 0 ≤ x6 → sumL a + x6 = 10000 → 
    ∃ W p', flagstonelaw13_weights.l0 k n (a ++ List.replicate (m + 1) 0) x6 x7 bs p = some (W, p') ∧ okW n W ∧ CV bs p' := by
  intro m
  induction m with
  | zero =>
    intro k a x6 x7 p hx ha hk hc hpos h6 hs
    obtain ⟨k, rfl⟩ : ∃ k', k = k' + 1 := ⟨k - 1, by omega⟩
    have w1 : wrap64 (n - 1) = n - 1 := w64 (by omega) (by omega)
    unfold flagstonelaw13_weights.l0
    rw [w1, if_neg (by omega), if_pos (by omega), if_pos (by simp; omega)]
    have hi : (n - 1).toNat = a.length := by omega
    refine ⟨_, _, rfl, ?_, hc⟩
    rw [hi]
    have : (a ++ List.replicate (0 + 1) (0 : Int)).set a.length x6 = a ++ [x6] := by simp [List.set_append]
    rw [this]
    refine ⟨by simp; omega, ?_, ?_⟩
    · intro x hx
      rcases List.mem_append.1 hx with h | h
      · exact hpos x h
      · obtain rfl := List.mem_singleton.1 h
        exact h6
    · rw [sumL_append]
      simp [sumL_cons, sumL] at hs ⊢
      omega
  | succ m ih =>
    intro k a x6 x7 p hx ha hk hc hpos h6 hs
    obtain ⟨k, rfl⟩ : ∃ k', k = k' + 1 := ⟨k - 1, by omega⟩
    have hx6 : x6 ≤ 10000 := by
      have : 0 ≤ sumL a := by
        clear hs ha ih
        induction a with
        | nil => simp [sumL]
        | cons y a ih => rw [sumL_cons]; have := ih (fun x hx => hpos x (by simp [hx])); have := hpos y (by simp); omega
      omega
    have w1 : wrap64 (n - 1) = n - 1 := w64 (by omega) (by omega)
    have w2 : wrap64 (x6 + 1) = x6 + 1 := w64 (by omega) (by omega)
    have w3 : wrap64 (x7 + 1) = x7 + 1 := w64 (by omega) (by omega)
    obtain ⟨v, p1, e1, a1, b1, c1⟩ := wide_ok hc (n := x6 + 1) (by omega)
    obtain ⟨u, p2, e2, a2, b2, c2⟩ := next_ok c1 (n := 3) (by omega)
    have hi : x7.toNat = a.length := by omega
    have hset : ∀ y : Int, (a ++ List.replicate (m + 1 + 1) (0 : Int)).set a.length y = (a ++ [y]) ++ List.replicate (m + 1) 0 := by
      intro y
      rw [List.replicate_succ]
      simp [List.set_append]
    have hset2 : ∀ y z : Int, ((a ++ [y]) ++ List.replicate (m + 1) (0 : Int)).set a.length z = (a ++ [z]) ++ List.replicate (m + 1) 0 := by
      intro y z
      simp [List.set_append]
    have hrd : ∀ y : Int, rd ((a ++ [y]) ++ List.replicate (m + 1) (0 : Int)) x7 = y := by
      intro y
      unfold rd
      rw [hi]
      simp
    have hstep : ∀ y : Int, 0 ≤ y → y ≤ x6 → ∃ W p', flagstonelaw13_weights.l0 k n ((a ++ [y]) ++ List.replicate (m + 1) 0) (wrap64 (x6 - y)) (x7 + 1) bs p2 = some (W, p') ∧ okW n W ∧ CV bs p' := by
      intro y hy0 hy1
      have w4 : wrap64 (x6 - y) = x6 - y := w64 (by omega) (by omega)
      rw [w4]
      refine ih k (a ++ [y]) (x6 - y) (x7 + 1) p2 (by omega) (by simp; omega) (by omega) c2 ?_ (by omega) ?_
      · intro x hx
        rcases List.mem_append.1 hx with h | h
        · exact hpos x h
        · obtain rfl := List.mem_singleton.1 h
          exact hy0
      · rw [sumL_append]
        simp [sumL_cons, sumL] at hs ⊢
        omega
    unfold flagstonelaw13_weights.l0
    rw [w1, w2, w3, if_pos (by omega), e1, Option.bind_some, if_pos (by omega), if_pos (by simp; omega), hi, hset, Option.bind_some, e2, Option.bind_some]
    by_cases hu : u = 1
    · rw [if_pos hu, hset2, Option.bind_some, hrd]
      exact hstep 0 (by omega) h6
    · rw [if_neg hu, hrd]
      exact hstep v a1 (by omega)

theorem weights2_ok {n p : Int} {bs : List Int} {k : Nat} (hk : 17 ≤ k) (hc : CV bs p) (hn : 1 ≤ n) (h8 : n ≤ 16) : ∃ W p', flagstonelaw13_weights.f k bs p n = some (W, p') ∧ okW n W ∧ CV bs p' := by
  unfold flagstonelaw13_weights.f
  rw [if_pos (by omega), if_pos (by omega)]
  obtain ⟨m, hm⟩ : ∃ m : Nat, n.toNat = m + 1 := ⟨n.toNat - 1, by omega⟩
  rw [hm]
  exact weights2_l0 hn h8 m k [] 10000 0 p (by omega) (by simp) (by omega) hc (by simp) (by omega) (by simp [sumL])
end Go.Proofs.YtefglphdiimhnaaDoor.Plain
