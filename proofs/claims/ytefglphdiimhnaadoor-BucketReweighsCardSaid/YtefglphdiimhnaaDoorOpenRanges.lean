import Derived.Test.YtefglphdiimhnaaDoorQ0
import Derived.Test.YtefglphdiimhnaaDoorOpen
set_option linter.unusedVariables false
namespace Go.Proofs.YtefglphdiimhnaaDoor.Q
open Go Go.RowKit Go.Proofs.YtefglphdiimhnaaDoorW.PrintWords
/-- Ranges whose cells are known, as a row that is read. -/
theorem C_triples {w : World} {a : Addr} {len m : Nat} {X Y Z : Nat → Int} (hlm : len ≤ m) (hl : len ≤ 9223372036854775807)
    (h : ∀ i, i < m → (w.cell? (a.add (i * 3)) = some (.int .i64 (X i)) ∧ w.cell? (a.add (i * 3 + 1)) = some (.int .i64 (Y i)) ∧ w.cell? (a.add (i * 3 + 2)) = some (.int .i64 (Z i)))) :
    Kd.C k69 w (some a) ((List.range len).map fun i => (⟨X i, Y i, Z i⟩ : S69)).length ((List.range len).map fun i => (⟨X i, Y i, Z i⟩ : S69)) := by
  refine ⟨rfl, by simpa using hl, fun _ => ⟨a, rfl, fun j p hj => ?_⟩⟩
  have hlt : j < len := by
    have := (List.getElem?_eq_some_iff.1 hj).1
    simpa using this
  obtain rfl : (⟨X j, Y j, Z j⟩ : S69) = p := by
    rw [List.getElem?_map, List.getElem?_range hlt] at hj
    exact Option.some.inj hj
  refine ⟨[.int .i64 (X j), .int .i64 (Y j), .int .i64 (Z j)], rfl, k69_mk w ⟨X j, Y j, Z j⟩, fun i u hu => ?_⟩
  obtain ⟨h0, h1, h2⟩ := h j (by omega)
  have e3 : k69.sz = 3 := rfl
  rw [e3]
  rcases i with _ | _ | _ | i
  · obtain rfl := Option.some.inj hu; exact h0
  · obtain rfl := Option.some.inj hu; exact h1
  · obtain rfl := Option.some.inj hu; exact h2
  · simp at hu
/-- A slice of ranges that came in, opened as a row that is read. -/
theorem open_ranges {W : World} {a : Option Addr} {len cap : Nat}
    (h : ([Value.slice a len cap] = [.slice none 0 0]) ∨ ∃ (x : Addr) (l c m : Nat) (X Y Z : Nat → Int), [Value.slice a len cap] = [.slice (some x) l c] ∧ l ≤ m ∧ l ≤ c ∧ c ≤ maxLen ∧
      ∀ i, i < m → (W.cell? (x.add (i * 3)) = some (.int .i64 (X i)) ∧ W.cell? (x.add (i * 3 + 1)) = some (.int .i64 (Y i)) ∧ W.cell? (x.add (i * 3 + 2)) = some (.int .i64 (Z i)))) :
    ∃ zs : List S69, len = zs.length ∧ Kd.C k69 W a zs.length zs ∧ zs.length ≤ cap := by
  rcases h with h | ⟨x, l, c, m, X, Y, Z, h, hlm, hlc, hcm, hc⟩
  · simp at h
    obtain ⟨rfl, rfl, rfl⟩ := h
    exact ⟨[], rfl, Kd.C_nil _ _, by simp⟩
  · simp at h
    obtain ⟨rfl, rfl, rfl⟩ := h
    unfold maxLen at hcm
    exact ⟨_, by simp, C_triples hlm (by omega) hc, by simpa using hlc⟩
end Go.Proofs.YtefglphdiimhnaaDoor.Q
