import Derived.Lib.SmallJoins
import Derived.SliceStrings
import Derived.OpenShut
import Derived.ProofKit
import Derived.Test.YtefglphdiimhnaaDoorWMore
set_option linter.unusedVariables false
namespace Go.Proofs.YtefglphdiimhnaaDoor.Laid
open Go Go.ChangeShapes Go.WideShapes Go.RowKit Go.Joins Go.Deep Go.Proofs.YtefglphdiimhnaaDoorW.PrintWords
/-- What was there, as what may be shared: its blocks are elder. -/
theorem V_of_C {α : Type} {d : Kd α} (hd : Kd.Heap d) {e base : Nat} {w : World} {A : Option Addr} {c : Nat} {xs : List α} (h : d.C w A xs.length xs) (hc : xs.length ≤ c) : Kd.V d e w base (fun k => k < w.heap.size) (.slice A xs.length c) xs :=
  Kd.V_mk hc (fun W' hW => hd.C (fun k hk => hW k hk hk) h)
/-- A slice of texts that came in, as a row that is read. -/
theorem strs_row {H : Type} {enc : TypeId × Value → H} {P : Program} {w : World} {base : Nat} {sp : Nat → Bool} {held : Bool} {t e : TypeId} {fuel : Nat} {v : Value} {x : DataW H × List MemPlace} (ht : P.underlying t = some (.slice e)) (he : P.underlying e = some .string) (hc : P.cellsOf e = 1)
    (h : DataW.trod enc P w base sp held fuel t [v] = some x) : ∃ (A : Option Addr) (c : Nat) (zs : List ByteArray), v = .slice A zs.length c ∧ zs.length ≤ c ∧ Kd.C Kd.string w A zs.length zs ∧ (∀ s ∈ zs, s.size ≤ maxLen) := by
  rcases open_strings ht he hc h with ⟨hcs, _⟩ | ⟨a, len, cap, ss, hcs, _, hl, hm, hss, hx, hcell, hmax⟩
  · have : v = .slice none 0 0 := by simpa using hcs
    exact ⟨none, 0, [], this, by simp, Kd.C_nil _ _, by simp⟩
  · have hv : v = .slice (some a) len cap := by simpa using hcs
    have hle : len ≤ ss.length := by rw [hss]; split <;> omega
    have hlen : (ss.take len).length = len := by rw [List.length_take]; omega
    refine ⟨some a, cap, ss.take len, by rw [hlen]; exact hv, by omega, ⟨rfl, by unfold maxLen at hm; omega, fun _ => ⟨a, rfl, fun j s hj => ?_⟩⟩, fun s hs => hmax s (List.mem_of_mem_take hs)⟩
    have hjl : j < len := by have := (List.getElem?_eq_some_iff.1 hj).1; omega
    refine ⟨[.string s], rfl, rfl, fun k u hk => ?_⟩
    rcases k with _ | k
    · obtain rfl := Option.some.inj hk
      have h1 := hcell j (by omega)
      have h2 : ss.getD j ByteArray.empty = s := by
        rw [List.getElem?_take, if_pos hjl] at hj
        rw [List.getD_eq_getElem?_getD, hj]
        rfl
      rw [h2] at h1
      show w.cell? (a.add (j * 1 + 0)) = _
      rw [Nat.mul_one, Nat.add_zero]
      exact h1
    · simp at hk
/-- A value that came in by value: kind, number, text, list. -/
theorem open_value {H : Type} {enc : TypeId × Value → H} {P : Program} {w : World} {base : Nat} {sp : Nat → Bool} {held : Bool} {r : Reach} {b0 : Nat} {t u : TypeId} {f0 f1 f2 f3 : Field} {v : Value} {d : DataW H} {p : List MemPlace}
    (hs : P.underlying t = some (.struct #[f0, f1, f2, f3])) (hone : oneCellFields P #[f0, f1, f2, f3] = true) (hC : P.cellsOf t = 4)
    (k0 : P.underlying f0.type = some (.int .i64)) (k1 : P.underlying f1.type = some (.int .i64)) (k2 : P.underlying f2.type = some .string) (k3 : P.underlying f3.type = some (.slice u)) (ku : P.underlying u = some .string) (hcu : P.cellsOf u = 1)
    (hv : Value.okWide P w r b0 t v) (h : DataW.Trod enc P w base sp held t v d p) :
    ∃ (a b : Int) (s : ByteArray) (A : Option Addr) (c : Nat) (l : List ByteArray), v = .agg #[.int .i64 a, .int .i64 b, .string s, .slice A l.length c] ∧ (Lit.int .i64 a).wf = true ∧ (Lit.int .i64 b).wf = true ∧ s.size ≤ maxLen ∧ l.length ≤ c ∧ Kd.C Kd.string w A l.length l ∧ (∀ s ∈ l, s.size ≤ maxLen) := by
  obtain ⟨v0, v1, v2, v3, y0, y1, y2, y3, n, rfl, _, _, t0, t1, t2, t3⟩ := open_agg4 hs hone hC hv h
  obtain ⟨a, ha, _, wa⟩ := DataW.trod_int k0 t0
  obtain ⟨b, hb, _, wb⟩ := DataW.trod_int k1 t1
  obtain ⟨s, hss, _, ws⟩ := DataW.trod_string k2 t2
  obtain ⟨A, c, l, rfl, hl, hC', hm⟩ := strs_row k3 ku hcu t3
  obtain rfl : v0 = .int .i64 a := by simpa using ha
  obtain rfl : v1 = .int .i64 b := by simpa using hb
  obtain rfl : v2 = .string s := by simpa using hss
  exact ⟨a, b, s, A, c, l, rfl, wa, wb, ws, hl, hC', hm⟩
end Go.Proofs.YtefglphdiimhnaaDoor.Laid
