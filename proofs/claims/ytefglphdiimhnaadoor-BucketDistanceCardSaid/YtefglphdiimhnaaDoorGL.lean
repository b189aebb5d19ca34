import Derived.Test.YtefglphdiimhnaaDoorProg
import Derived.WalkKit
import Derived.Below
namespace Go.Proofs.YtefglphdiimhnaaDoor
open Go.RowKit
/-- What the package-level variables hold: the split over two halves. -/
def GL (w : World) : Prop := ∃ ad c, w.cell? ⟨0, 0, none⟩ = some (.slice (some ad) 2 c) ∧ 2 ≤ c ∧ ∀ i, i < 6 → w.cell? (ad.add i) = some (.int .i64 (([0, 5000, 1, 5000, 10000, 2] : List Int).getD i 0))
theorem GL.below {w w1 : World} (h : GL w) (hb : Below w.heap.size w w1) : GL w1 := by
  obtain ⟨ad, c, h1, h2, h3⟩ := h
  exact ⟨ad, c, (hb.cell (World.block_lt_of_cell? w _ h1)).trans h1, h2, fun i hi => (hb.cell (World.block_lt_of_cell? w _ (h3 i hi))).trans (h3 i hi)⟩
end Go.Proofs.YtefglphdiimhnaaDoor
