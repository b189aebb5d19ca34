import Derived.Test.YtefglphdiimhnaaDoorRows
import Derived.Test.YtefglphdiimhnaaDoorGL
import Derived.Test.YtefglphdiimhnaaDoorOpen
import Derived.ProofKit
import Derived.LaidMore
import Derived.OpenShut
import Derived.Stop.Joined
namespace Go.Proofs.YtefglphdiimhnaaDoor
open Go Go.ChangeShapes Go.WideShapes Go.ChangeAt Go.RowKit Go.Proofs.Fstn
set_option maxRecDepth 100000
theorem own : ownKnob Tryd.prog.godebug = none := by kernel_rfl
theorem gHalves : Tryd.prog.globalNamed "flagstone/flagstonelaw13.halves" = some 0 := by kernel_rfl
theorem tHalves : (Tryd.prog.globals[0]?).map (·.type) = some 22 := by kernel_rfl
def laidL : List (String × DataW Unit) := [("flagstone/flagstonelaw13.halves", Rows.laid_flagstone_flagstonelaw13_halves)]
/-- What the condition gives the walks: the two halves. -/
theorem of_laid {W : World} (h : laidMetH Tryd.prog laidL W) : GL W := by
  rw [MakeChecks.laidMetH_plain _ _ _ (by kernel_rfl)] at h
  obtain ⟨ps, ⟨g0, t0, cs0, f0, p0, q0, hg0, ht0, hv0, hd0, _, _⟩, _, _⟩ := h
  obtain rfl := Option.some.inj (gHalves.symm.trans hg0)
  obtain rfl := Option.some.inj (tHalves.symm.trans ht0)
  rcases open_triples Tryd.underlying22 Tryd.underlying69 Tryd.underlying3 Tryd.underlying3 Tryd.underlying3 ⟨rfl, rfl, rfl⟩ ⟨by kernel_rfl, by kernel_rfl, by kernel_rfl⟩ (by kernel_rfl) hd0 with ⟨_, hx⟩ | ⟨a, len, cap, m, X, Y, Z, hcs, _, hl, _, hm, hx, hr⟩
  · simp [Rows.laid_flagstone_flagstonelaw13_halves] at hx
  · have hlm : len ≤ m := by rw [hm]; split <;> omega
    have hx1 : Rows.laid_flagstone_flagstonelaw13_halves = DataW.slice ((List.range len).map fun i => DataW.agg [.lit (.int .i64 (X i)), .lit (.int .i64 (Y i)), .lit (.int .i64 (Z i))]) ((List.range (m - len)).map fun j => DataW.agg [.lit (.int .i64 (X (len + j))), .lit (.int .i64 (Y (len + j))), .lit (.int .i64 (Z (len + j)))]) := hx
    unfold Rows.laid_flagstone_flagstonelaw13_halves at hx1
    injection hx1 with e1 e2
    have hlen : len = 2 := by simpa using (congrArg List.length e1).symm
    subst hlen
    have hr0 := hr 0 (by omega)
    have hr1 := hr 1 (by omega)
    simp only [List.range, List.range.loop, List.map_cons, List.map_nil, List.cons.injEq, DataW.agg.injEq, DataW.lit.injEq, Lit.int.injEq, and_true, true_and] at e1
    obtain ⟨⟨x0, y0, z0⟩, x1, y1, z1⟩ := e1
    rw [← x0, ← y0, ← z0] at hr0
    rw [← x1, ← y1, ← z1] at hr1
    refine ⟨a, cap, ?_, hl, fun i hi => ?_⟩
    · have := World.var?_cell hg0 hv0 0
      rw [Array.eq_one_of_toList hcs] at this
      simpa using this
    · obtain ⟨⟨a0, a1, a2⟩, _⟩ := hr0
      obtain ⟨⟨b0, b1, b2⟩, _⟩ := hr1
      rcases i with _ | _ | _ | _ | _ | _ | i
      · exact a0
      · exact a1
      · exact a2
      · exact b0
      · exact b1
      · exact b2
      · omega
/-- The door's own heap meets the condition: three closed facts. -/
theorem door_met (os : Os) (args : Array Value) : laidMetH Tryd.prog laidL ((World.doorLaid Tryd.prog 400 os).forCall (fun _ _ => 0) ⟨#[], args, []⟩).memory :=
  laidMetH_of_parts3 (fuel := 8) (laidMet_of_run' 8 (by kernel_rfl) (by kernel_rfl)) (by kernel_rfl) (by kernel_rfl)
end Go.Proofs.YtefglphdiimhnaaDoor
