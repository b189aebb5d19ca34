import Derived.Test.YtefglphdiimhnaaDoorQ
set_option linter.unusedVariables false
set_option linter.unusedSimpArgs false
namespace Go.Proofs.YtefglphdiimhnaaDoor.Plain
open Go Go.RowKit Go.Proofs.YtefglphdiimhnaaDoor.Q Go.Proofs.YtefglphdiimhnaaDoorW.PrintWords Go.Proofs.YtefglphdiimhnaaDoorW.PrintLast Go.Proofs.YtefglphdiimhnaaDoorW.PrintMore
theorem w64 {n : Int} (h : -9223372036854775808 ≤ n) (h2 : n ≤ 9223372036854775807) : wrap64 n = n := by unfold wrap64; omega
/-- The codes that are left: at most a thousand bytes, and a place among them. -/
def CV (bs : List Int) (p : Int) : Prop := bs.length ≤ 1000 ∧ 0 ≤ p ∧ p ≤ (bs.length : Int) ∧ ∀ x ∈ bs, 0 ≤ x ∧ x < 256

theorem new_okm {l : List Int} (m : Int) (h0 : 0 ≤ m) (h1 : m ≤ 1000) (h : ∀ x ∈ l, 0 ≤ x ∧ x < 256) : ∃ bs, flagstonedraw_New.f l m = some (bs, 0) ∧ CV bs 0 := by
  unfold flagstonedraw_New.f
  by_cases c : (l.length : Int) > m
  · rw [if_pos c, if_pos h0, if_pos (by omega)]
    refine ⟨_, rfl, ?_, by omega, by omega, fun x hx => h x (List.mem_of_mem_take hx)⟩
    rw [List.length_take]
    omega
  · rw [if_neg c]
    exact ⟨_, rfl, by omega, by omega, by omega, h⟩
theorem rd_mem {bs : List Int} {p : Int} (h0 : 0 ≤ p) (h : p < bs.length) : rd bs p ∈ bs := by
  unfold rd
  rw [List.getD_eq_getElem?_getD, List.getElem?_eq_getElem (by omega)]
  simp

theorem next_ok {bs : List Int} {p n : Int} (h : CV bs p) (hn : 0 < n) : ∃ v p', flagstonedraw_Codes_Next.f bs p n = some (v, p') ∧ 0 ≤ v ∧ v < n ∧ CV bs p' := by
  obtain ⟨h1, h2, h3, h4⟩ := h
  unfold flagstonedraw_Codes_Next.f flagstonedraw_Codes_Left.f
  simp only [Option.bind_some]
  by_cases hp : p < (bs.length : Int)
  · have e1 : wrap64 (p + 1) = p + 1 := w64 (by omega) (by omega)
    have e2 : wrap64 (p + 1 - 1) = p := by rw [w64 (by omega) (by omega)]; omega
    have hx := h4 _ (rd_mem h2 hp)
    have e3 : wrap64 (rd bs p) = rd bs p := w64 (by omega) (by omega)
    rw [if_pos (decide_eq_true hp), e1, e2, if_pos h2, if_pos hp, if_neg (by omega), e3]
    exact ⟨_, _, rfl, Int.tmod_nonneg _ hx.1, Int.tmod_lt_of_pos _ hn, h1, by omega, by omega, h4⟩
  · rw [if_neg (by simpa using hp)]
    exact ⟨_, _, rfl, by omega, hn, h1, h2, h3, h4⟩
end Go.Proofs.YtefglphdiimhnaaDoor.Plain
