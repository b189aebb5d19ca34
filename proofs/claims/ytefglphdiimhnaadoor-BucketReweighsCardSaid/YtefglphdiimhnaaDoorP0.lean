import Derived.Test.YtefglphdiimhnaaDoorQ
set_option linter.unusedVariables false
set_option linter.unusedSimpArgs false
namespace Go.Proofs.YtefglphdiimhnaaDoor.Plain
open Go Go.RowKit Go.Proofs.YtefglphdiimhnaaDoor.Q Go.Proofs.YtefglphdiimhnaaDoorW.PrintWords Go.Proofs.YtefglphdiimhnaaDoorW.PrintLast Go.Proofs.YtefglphdiimhnaaDoorW.PrintMore
theorem w64 {n : Int} (h : -9223372036854775808 ≤ n) (h2 : n ≤ 9223372036854775807) : wrap64 n = n := by unfold wrap64; omega
/-- The codes that are left: at most a thousand bytes, and a place among them. -/
def CV (bs : List Int) (p : Int) : Prop := bs.length ≤ 1000 ∧ 0 ≤ p ∧ p ≤ (bs.length : Int) ∧ ∀ x ∈ bs, 0 ≤ x ∧ x < 256

theorem new_okm {l : List Int} (m : Int) (h0 : 0 ≤ m) (h1 : m ≤ 1000) (h : ∀ x ∈ l, 0 ≤ x ∧ x < 256) : ∃ bs, flagstonedraw_New.f l m = some (bs, 0) ∧ CV bs 0 := by
  unfold flagstonedraw_New.f
  by_cases c : (l.length : Int) > m
  · rw [if_pos c, if_pos h0, if_pos (by omega)]
    refine ⟨_, rfl, ?_, by omega, by omega, fun x hx => h x (List.mem_of_mem_take hx)⟩
    rw [List.length_take]
    omega
  · rw [if_neg c]
    exact ⟨_, rfl, by omega, by omega, by omega, h⟩
theorem new_ok {l : List Int} (h : ∀ x ∈ l, 0 ≤ x ∧ x < 256) : ∃ bs, flagstonedraw_New.f l 40 = some (bs, 0) ∧ CV bs 0 := new_okm 40 (by omega) (by omega) h

theorem rd_mem {bs : List Int} {p : Int} (h0 : 0 ≤ p) (h : p < bs.length) : rd bs p ∈ bs := by
  unfold rd
  rw [List.getD_eq_getElem?_getD, List.getElem?_eq_getElem (by omega)]
  simp

theorem next_ok {bs : List Int} {p n : Int} (h : CV bs p) (hn : 0 < n) : ∃ v p', flagstonedraw_Codes_Next.f bs p n = some (v, p') ∧ 0 ≤ v ∧ v < n ∧ CV bs p' := by
  obtain ⟨h1, h2, h3, h4⟩ := h
  unfold flagstonedraw_Codes_Next.f flagstonedraw_Codes_Left.f
  simp only [Option.bind_some]
  by_cases hp : p < (bs.length : Int)
  · have e1 : wrap64 (p + 1) = p + 1 := w64 (by omega) (by omega)
    have e2 : wrap64 (p + 1 - 1) = p := by rw [w64 (by omega) (by omega)]; omega
    have hx := h4 _ (rd_mem h2 hp)
    have e3 : wrap64 (rd bs p) = rd bs p := w64 (by omega) (by omega)
    rw [if_pos (decide_eq_true hp), e1, e2, if_pos h2, if_pos hp, if_neg (by omega), e3]
    exact ⟨_, _, rfl, Int.tmod_nonneg _ hx.1, Int.tmod_lt_of_pos _ hn, h1, by omega, by omega, h4⟩
  · rw [if_neg (by simpa using hp)]
    exact ⟨_, _, rfl, by omega, hn, h1, h2, h3, h4⟩

theorem wide_ok {bs : List Int} {p n : Int} (h : CV bs p) (hn : 0 < n) : ∃ v p', flagstonedraw_Codes_Wide.f bs p n = some (v, p') ∧ 0 ≤ v ∧ v < n ∧ CV bs p' := by
  obtain ⟨v1, p1, e1, a1, b1, c1⟩ := next_ok h (n := 256) (by omega)
  obtain ⟨v2, p2, e2, a2, b2, c2⟩ := next_ok c1 (n := 256) (by omega)
  unfold flagstonedraw_Codes_Wide.f
  rw [e1, Option.bind_some, e2, Option.bind_some, if_neg (by omega)]
  have e3 : wrap64 (256 * v1) = 256 * v1 := w64 (by omega) (by omega)
  have e4 : wrap64 (256 * v1 + v2) = 256 * v1 + v2 := w64 (by omega) (by omega)
  refine ⟨_, _, rfl, ?_, Int.tmod_lt_of_pos _ hn, c2⟩
  show 0 ≤ Int.tmod (wrap64 (wrap64 (256 * v1) + v2)) n
  rw [e3, e4]
  exact Int.tmod_nonneg _ (by omega)

/-- A split that covers: ranges side by side from 'from' to the end, neighbours differ, each variation is one of n. -/
def okS (n : Int) : Int → Int → List S69 → Prop
  | fr, _, [] => fr = 10000
  | fr, la, r :: rs => r.f0 = fr ∧ 0 ≤ fr ∧ r.f0 < r.f1 ∧ r.f1 ≤ 10000 ∧ r.f2 ≠ la ∧ 1 ≤ r.f2 ∧ r.f2 ≤ n ∧ okS n r.f1 r.f2 rs

/-- Shares: so many parts, none below nothing, together all of it. -/
def sumL (l : List Int) : Int := l.foldr (· + ·) 0
def okW (n : Int) (l : List Int) : Prop := (l.length : Int) = n ∧ (∀ x ∈ l, 0 ≤ x) ∧ sumL l = 10000
theorem sumL_cons (x : Int) (l : List Int) : sumL (x :: l) = x + sumL l := rfl
theorem sumL_append (l m : List Int) : sumL (l ++ m) = sumL l + sumL m := by
  induction l with
  | nil => simp [sumL]
  | cons x l ih => rw [List.cons_append, sumL_cons, sumL_cons, ih]; omega

theorem sumL_nn : ∀ {a : List Int}, (∀ x ∈ a, 0 ≤ x) → 0 ≤ sumL a
  | [], _ => by simp [sumL]
  | y :: a, h => by have := sumL_nn (a := a) (fun x hx => h x (by simp [hx])); have := h y (by simp); rw [sumL_cons]; omega
end Go.Proofs.YtefglphdiimhnaaDoor.Plain
