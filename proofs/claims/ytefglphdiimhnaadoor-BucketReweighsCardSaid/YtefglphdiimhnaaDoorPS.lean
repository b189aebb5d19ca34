import Derived.Test.YtefglphdiimhnaaDoorP0
set_option linter.unusedVariables false
set_option linter.unusedSimpArgs false
namespace Go.Proofs.YtefglphdiimhnaaDoor.Plain
open Go Go.RowKit Go.Proofs.YtefglphdiimhnaaDoor.Q Go.Proofs.YtefglphdiimhnaaDoorW.PrintWords Go.Proofs.YtefglphdiimhnaaDoorW.PrintLast Go.Proofs.YtefglphdiimhnaaDoorW.PrintMore
theorem turn_ok {v n la : Int} (hv : 0 ≤ v) (hvn : v < n) (hn1 : 1 ≤ n) (h8 : n ≤ 8) (hla : la = 0 ∨ 1 < n) (hb : 0 ≤ la ∧ la ≤ n) :
    (wrap64 (1 + v) = la → wrap64 (1 + Int.tmod (wrap64 (1 + v)) n) ≠ la ∧ 1 ≤ wrap64 (1 + Int.tmod (wrap64 (1 + v)) n) ∧ wrap64 (1 + Int.tmod (wrap64 (1 + v)) n) ≤ n) ∧ (1 ≤ wrap64 (1 + v) ∧ wrap64 (1 + v) ≤ n) := by
  have e1 : wrap64 (1 + v) = 1 + v := w64 (by omega) (by omega)
  rw [e1]
  have t0 : 0 ≤ Int.tmod (1 + v) n := Int.tmod_nonneg _ (by omega)
  have t1 : Int.tmod (1 + v) n < n := Int.tmod_lt_of_pos _ (by omega)
  have e2 : wrap64 (1 + Int.tmod (1 + v) n) = 1 + Int.tmod (1 + v) n := w64 (by omega) (by omega)
  rw [e2]
  refine ⟨fun h => ⟨fun h2 => ?_, by omega, by omega⟩, by omega, by omega⟩
  have t3 : Int.tmod (1 + v) n = v := by omega
  by_cases hc : 1 + v < n
  · rw [Int.tmod_eq_of_lt (by omega) hc] at t3
    omega
  · have : 1 + v = n := by omega
    rw [this, Int.tmod_self] at t3
    omega

theorem split_fin {n fr la x8 p : Int} {L : List S69} {bs : List Int} (k : Nat) (hc : CV bs p) (hn : 1 ≤ n) (h8 : n ≤ 8) (hla : la = 0 ∨ 1 < n) (hlb : 0 ≤ la ∧ la ≤ n) (hf : 0 ≤ fr ∧ fr < 10000) (hL : L.length ≤ 100) :
    ∃ rest p', flagstonedraw_Codes_Split.j1 (k + 1) n L fr la x8 false bs p = some (L ++ rest, p') ∧ okS n fr la rest ∧ rest.length ≤ 1 ∧ CV bs p' := by
  obtain ⟨v, p1, e1, a1, b1, c1⟩ := next_ok hc (n := n) (by omega)
  obtain ⟨t1, t2, t3⟩ := turn_ok a1 b1 hn h8 hla hlb
  unfold flagstonedraw_Codes_Split.j1
  rw [if_neg (by decide), e1, Option.bind_some]
  by_cases hv : wrap64 (1 + v) = la
  · rw [if_pos hv, if_neg (by omega), if_pos (by omega)]
    obtain ⟨t4, t5, t6⟩ := t1 hv
    exact ⟨_, _, rfl, ⟨rfl, hf.1, hf.2, by simp, t4, t5, t6, rfl⟩, by simp, c1⟩
  · rw [if_neg hv, if_pos (by omega)]
    exact ⟨_, _, rfl, ⟨rfl, hf.1, hf.2, by simp, hv, t2, t3, rfl⟩, by simp, c1⟩

theorem split_l0 {n : Int} {bs : List Int} (hn : 1 ≤ n) (h8 : n ≤ 8) : ∀ (m k : Nat) (L : List S69) (fr la x8 p : Int), x8 + m = 4 → 0 ≤ x8 → 2 * m + 3 ≤ k → CV bs p → (la = 0 ∨ 1 < n) → (0 ≤ la ∧ la ≤ n) → (0 ≤ fr ∧ fr < 10000) → L.length + m ≤ 100 →
    ∃ rest p', flagstonedraw_Codes_Split.l0 k n L fr la x8 bs p = some (L ++ rest, p') ∧ okS n fr la rest ∧ rest.length ≤ m + 1 ∧ CV bs p' := by
  intro m
  induction m with
  | zero =>
    intro k L fr la x8 p hx hx0 hk hc hla hlb hf hL
    obtain ⟨k, rfl⟩ : ∃ k', k = k' + 2 := ⟨k - 2, by omega⟩
    obtain ⟨v, p1, e1, a1, b1, c1⟩ := next_ok hc (n := 4) (by omega)
    unfold flagstonedraw_Codes_Split.l0
    rw [e1, Option.bind_some, if_neg (show ¬ x8 < v by omega)]
    exact split_fin k c1 hn h8 hla hlb hf (by omega)
  | succ m ih =>
    intro k L fr la x8 p hx hx0 hk hc hla hlb hf hL
    obtain ⟨k, rfl⟩ : ∃ k', k = k' + 2 := ⟨k - 2, by omega⟩
    obtain ⟨v, p1, e1, a1, b1, c1⟩ := next_ok hc (n := 4) (by omega)
    unfold flagstonedraw_Codes_Split.l0
    rw [e1, Option.bind_some]
    by_cases hxv : x8 < v
    · rw [if_pos hxv]
      by_cases hn1 : n > 1
      · rw [decide_eq_true hn1]
        unfold flagstonedraw_Codes_Split.j1
        obtain ⟨w, p2, e2, a2, b2, c2⟩ := wide_ok c1 (n := 5000) (by omega)
        obtain ⟨u, p3, e3, a3, b3, c3⟩ := next_ok c2 (n := n) (by omega)
        obtain ⟨t1, t2, t3⟩ := turn_ok a3 b3 hn h8 hla hlb
        obtain ⟨u4, p4, e4, a4, b4, c4⟩ := next_ok c3 (n := n) (by omega)
        obtain ⟨q1, q2, q3⟩ := turn_ok a4 b4 hn h8 hla hlb
        have w1 : wrap64 (fr + 1) = fr + 1 := w64 (by omega) (by omega)
        have w2 : wrap64 (fr + 1 + w) = fr + 1 + w := w64 (by omega) (by omega)
        have w3 : wrap64 (x8 + 1) = x8 + 1 := w64 (by omega) (by omega)
        rw [if_pos rfl, e2, Option.bind_some, e3, Option.bind_some, w1, w2, w3]
        have hfin : ∀ g : Nat, ∃ rest p', (if wrap64 (1 + u4) = la then (if n = 0 then none else if L.length < 5864062014805 then some (L ++ [⟨fr, 10000, wrap64 (1 + Int.tmod (wrap64 (1 + u4)) n)⟩], p4) else none) else if L.length < 5864062014805 then some (L ++ [⟨fr, 10000, wrap64 (1 + u4)⟩], p4) else none) = some (L ++ rest, p') ∧ okS n fr la rest ∧ rest.length ≤ g + 1 ∧ CV bs p' := by
          intro g
          by_cases hv : wrap64 (1 + u4) = la
          · rw [if_pos hv, if_neg (by omega), if_pos (by omega)]
            obtain ⟨t4, t5, t6⟩ := q1 hv
            exact ⟨_, _, rfl, ⟨rfl, hf.1, hf.2, by simp, t4, t5, t6, rfl⟩, by simp, c4⟩
          · rw [if_neg hv, if_pos (by omega)]
            exact ⟨_, _, rfl, ⟨rfl, hf.1, hf.2, by simp, hv, q2, q3, rfl⟩, by simp, c4⟩
        have hrec : ∀ z : Int, z ≠ la → 1 ≤ z → z ≤ n → fr + 1 + w < 10000 → ∃ rest p', flagstonedraw_Codes_Split.l0 k n (L ++ [⟨fr, fr + 1 + w, z⟩]) (fr + 1 + w) z (x8 + 1) bs p3 = some (L ++ rest, p') ∧ okS n fr la rest ∧ rest.length ≤ m + 1 + 1 ∧ CV bs p' := by
          intro z z1 z2 z3 hto
          obtain ⟨rest, p', g1, g2, g3, g4⟩ := ih k (L ++ [⟨fr, fr + 1 + w, z⟩]) (fr + 1 + w) z (x8 + 1) p3 (by omega) (by omega) (by omega) c3 (.inr hn1) ⟨by omega, z3⟩ ⟨by omega, hto⟩ (by simp; omega)
          refine ⟨⟨fr, fr + 1 + w, z⟩ :: rest, p', by rw [g1]; simp, ⟨rfl, hf.1, by show fr < fr + 1 + w; omega, by show fr + 1 + w ≤ 10000; omega, z1, z2, z3, g2⟩, by simp; omega, g4⟩
        by_cases hv : wrap64 (1 + u) = la
        · rw [if_pos hv, if_neg (show ¬ n = 0 by omega)]
          obtain ⟨t4, t5, t6⟩ := t1 hv
          by_cases hto : fr + 1 + w ≥ 10000
          · rw [if_pos hto, e4, Option.bind_some]
            have hf2 := hfin (m + 1)
            rw [if_neg (show ¬ n = 0 by omega)] at hf2
            exact hf2
          · rw [if_neg hto, if_pos (show L.length < 5864062014805 by omega)]
            exact hrec _ t4 t5 t6 (by omega)
        · rw [if_neg hv]
          by_cases hto : fr + 1 + w ≥ 10000
          · rw [if_pos hto, e4, Option.bind_some]
            exact hfin _
          · rw [if_neg hto, if_pos (show L.length < 5864062014805 by omega)]
            exact hrec _ hv t2 t3 (by omega)
      · rw [decide_eq_false hn1]
        obtain ⟨rest, p', g1, g2, g3, g4⟩ := split_fin (x8 := x8) k c1 hn h8 hla hlb hf (L := L) (by omega)
        exact ⟨rest, p', g1, g2, by omega, g4⟩
    · rw [if_neg hxv]
      obtain ⟨rest, p', g1, g2, g3, g4⟩ := split_fin (x8 := x8) k c1 hn h8 hla hlb hf (L := L) (by omega)
      exact ⟨rest, p', g1, g2, by omega, g4⟩

theorem split_ok {n p : Int} {bs : List Int} {k : Nat} (hk : 11 ≤ k) (hc : CV bs p) (hn : 1 ≤ n) (h8 : n ≤ 8) : ∃ L p', flagstonedraw_Codes_Split.f k bs p n = some (L, p') ∧ okS n 0 0 L ∧ L.length ≤ 5 ∧ CV bs p' := by
  obtain ⟨rest, p', g1, g2, g3, g4⟩ := split_l0 hn h8 4 k [] 0 0 0 p rfl (by omega) (by omega) hc (.inl rfl) ⟨by omega, by omega⟩ ⟨by omega, by omega⟩ (by simp)
  exact ⟨rest, p', by unfold flagstonedraw_Codes_Split.f; simpa using g1, g2, g3, g4⟩
end Go.Proofs.YtefglphdiimhnaaDoor.Plain
