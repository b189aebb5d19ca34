import Derived.Deep.Slices
import Derived.Deep.Strs
import Derived.ProofKit
import Derived.OpenShut
namespace Go.Proofs.Fstn
open Go Go.ChangeShapes Go.WideShapes Go.Deep
theorem addr_twice (a : Addr) (i j : Nat) : (a.add i).add j = a.add (i + j) := by
  unfold Addr.add
  by_cases hi : i = 0 <;> by_cases hj : j = 0 <;> simp [hi, hj, Nat.add_assoc]
section
variable {H : Type} {enc : TypeId × Value → H} {P : Program} {w : World} {base : Nat} {spare : Nat → Bool} {held : Bool}
/-- A slice of structs of three whole numbers, opened at every index. -/
theorem open_triples {t e : TypeId} {f0 f1 f2 : Field} {k : IntKind} {fuel : Nat} {cs : List Value} {x : DataW H × List MemPlace} (ht : P.underlying t = some (.slice e)) (he : P.underlying e = some (.struct #[f0, f1, f2]))
    (k0 : P.underlying f0.type = some (.int k)) (k1 : P.underlying f1.type = some (.int k)) (k2 : P.underlying f2.type = some (.int k))
    (o : f0.offset = 0 ∧ f1.offset = 1 ∧ f2.offset = 2) (hs : P.cellsOf f0.type = 1 ∧ P.cellsOf f1.type = 1 ∧ P.cellsOf f2.type = 1) (hc : P.cellsOf e = 3)
    (h : DataW.trod enc P w base spare held fuel t cs = some x) :
    (cs = [.slice none 0 0] ∧ x = (.nil, [])) ∨
    ∃ (a : Addr) (len cap m : Nat) (X Y Z : Nat → Int), cs = [.slice (some a) len cap] ∧ base ≤ a.block ∧ len ≤ cap ∧ cap ≤ maxLen ∧ m = (if spare a.block then cap else len) ∧
      x.1 = .slice ((List.range len).map fun i => .agg [.lit (.int k (X i)), .lit (.int k (Y i)), .lit (.int k (Z i))]) ((List.range (m - len)).map fun j => .agg [.lit (.int k (X (len + j))), .lit (.int k (Y (len + j))), .lit (.int k (Z (len + j)))]) ∧
      ∀ i, i < m → (w.cell? (a.add (i * 3)) = some (.int k (X i)) ∧ w.cell? (a.add (i * 3 + 1)) = some (.int k (Y i)) ∧ w.cell? (a.add (i * 3 + 2)) = some (.int k (Z i))) ∧
        (Lit.int k (X i)).wf = true ∧ (Lit.int k (Y i)).wf = true ∧ (Lit.int k (Z i)).wf = true := by
  rcases open_slice ht h with h0 | ⟨a, len, cap, m, n, D, Pl, rfl, hb, hl, hm, hmm, rfl, hx⟩
  · exact Or.inl h0
  right
  have each : ∀ i, i < m → ∃ r : Int × Int × Int, D i = .agg [.lit (.int k r.1), .lit (.int k r.2.1), .lit (.int k r.2.2)] ∧ (w.cell? (a.add (i * 3)) = some (.int k r.1) ∧ w.cell? (a.add (i * 3 + 1)) = some (.int k r.2.1) ∧ w.cell? (a.add (i * 3 + 2)) = some (.int k r.2.2)) ∧
        (Lit.int k r.1).wf = true ∧ (Lit.int k r.2.1).wf = true ∧ (Lit.int k r.2.2).wf = true := fun i hi => by
    obtain ⟨cs', hcs, ht'⟩ := hx i hi
    rw [hc] at hcs
    obtain ⟨hb', hlen, hcell⟩ := World.cells?_some hcs
    obtain ⟨y0, y1, y2, n', hE, _, g0, g1, g2⟩ := trod_struct3 he ht'
    rw [o.1, hs.1] at g0
    rw [o.2.1, hs.2.1] at g1
    rw [o.2.2, hs.2.2] at g2
    match cs', hlen with
    | [c0, c1, c2], _ =>
      obtain ⟨r0, e0, rfl, v0⟩ := DataW.trod_int k0 g0
      obtain ⟨r1, e1, rfl, v1⟩ := DataW.trod_int k1 g1
      obtain ⟨r2, e2, rfl, v2⟩ := DataW.trod_int k2 g2
      simp only [List.drop_zero, List.take_succ_cons, List.take_zero, List.cons.injEq, and_true, List.drop_succ_cons] at e0 e1 e2
      subst e0 e1 e2
      refine ⟨(r0, r1, r2), by simpa using congrArg Prod.fst hE, ⟨?_, ?_, ?_⟩, v0, v1, v2⟩
      · have := hcell 0 (by omega)
        rw [addr_twice] at this
        simpa using this
      · have := hcell 1 (by omega)
        rw [addr_twice] at this
        simpa using this
      · have := hcell 2 (by omega)
        rw [addr_twice] at this
        simpa using this
  obtain ⟨R, hR⟩ := choose_lt each
  refine ⟨a, len, cap, m, fun i => (R i).1, fun i => (R i).2.1, fun i => (R i).2.2, rfl, hb, hl, hm, hmm, ?_, fun i hi => (hR i hi).2⟩
  have hlm : len ≤ m := by rw [hmm]; split <;> omega
  show DataW.slice _ _ = _
  rw [List.map_congr_left (fun i hi => (hR i (by have := List.mem_range.1 hi; omega)).1), List.map_congr_left (fun j hj => (hR (len + j) (by have := List.mem_range.1 hj; omega)).1)]
end
end Go.Proofs.Fstn
