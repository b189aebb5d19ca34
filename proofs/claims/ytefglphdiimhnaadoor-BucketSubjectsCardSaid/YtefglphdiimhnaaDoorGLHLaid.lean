import Derived.Test.YtefglphdiimhnaaDoorRows
import Derived.Test.YtefglphdiimhnaaDoorOpenLaid
import Derived.Test.YtefglphdiimhnaaDoorGLH
import Derived.Test.YtefglphdiimhnaaDoorOpen
import Derived.ProofKit
import Derived.LaidMore
import Derived.OpenShut
import Derived.Stop.Joined
import Derived.Lib.LaidTab
import Derived.Lib.ItoaNum
set_option linter.unusedVariables false
namespace Go.Proofs.YtefglphdiimhnaaDoor
open Go Go.ChangeShapes Go.WideShapes Go.ChangeAt Go.RowKit Go.Proofs.Fstn
set_option maxRecDepth 100000
theorem own : ownKnob Tryd.prog.godebug = none := by kernel_rfl
def laidL : List (String × DataW Unit) := [("math/bits.deBruijn32tab", Rows.laid_math_bits_deBruijn32tab), ("math/bits.deBruijn64tab", Rows.laid_math_bits_deBruijn64tab), ("internal/strconv.uint64pow10", Rows.laid_internal_strconv_uint64pow10), ("flagstone/flagstonedraw.texts", Rows.laid_flagstone_flagstonedraw_texts), ("flagstone/flagstonedraw.versions", Rows.laid_flagstone_flagstonedraw_versions), ("flagstone/flagstonedraw.lists", Rows.laid_flagstone_flagstonedraw_lists), ("flagstone/flagstonelaw13.halves", Rows.laid_flagstone_flagstonelaw13_halves)]
theorem gN_uint64pow10 : Tryd.prog.globalNamed "internal/strconv.uint64pow10" = some 4 := by kernel_rfl
theorem gN_texts : Tryd.prog.globalNamed "flagstone/flagstonedraw.texts" = some 3 := by kernel_rfl
theorem gN_versions : Tryd.prog.globalNamed "flagstone/flagstonedraw.versions" = some 1 := by kernel_rfl
theorem gN_lists : Tryd.prog.globalNamed "flagstone/flagstonedraw.lists" = some 2 := by kernel_rfl
theorem gN_halves : Tryd.prog.globalNamed "flagstone/flagstonelaw13.halves" = some 0 := by kernel_rfl
theorem halves_of {W : World} {cs0 : Array Value} {f0 : Nat} {p0 : List MemPlace} {sp : Nat → Bool} {hh : Bool} {enc : TypeId × Value → Unit} (hv : W.var? Tryd.prog "flagstone/flagstonelaw13.halves" = some cs0)
    (hd : DataW.trod enc Tryd.prog W 0 sp hh f0 22 cs0.toList = some (Rows.laid_flagstone_flagstonelaw13_halves, p0)) : ∃ ad c, W.cell? ⟨0, 0, none⟩ = some (.slice (some ad) 2 c) ∧ 2 ≤ c ∧ ∀ i, i < 6 → W.cell? (ad.add i) = some (.int .i64 (([0, 5000, 1, 5000, 10000, 2] : List Int).getD i 0)) := by
  rcases open_triples Tryd.underlying22 Tryd.underlying69 Tryd.underlying3 Tryd.underlying3 Tryd.underlying3 ⟨rfl, rfl, rfl⟩ ⟨by kernel_rfl, by kernel_rfl, by kernel_rfl⟩ (by kernel_rfl) hd with ⟨_, hx⟩ | ⟨a, len, cap, m, X, Y, Z, hcs, _, hl, _, hm, hx, hr⟩
  · simp [Rows.laid_flagstone_flagstonelaw13_halves] at hx
  · have hlm : len ≤ m := by rw [hm]; split <;> omega
    have hx1 : Rows.laid_flagstone_flagstonelaw13_halves = DataW.slice ((List.range len).map fun i => DataW.agg [.lit (.int .i64 (X i)), .lit (.int .i64 (Y i)), .lit (.int .i64 (Z i))]) ((List.range (m - len)).map fun j => DataW.agg [.lit (.int .i64 (X (len + j))), .lit (.int .i64 (Y (len + j))), .lit (.int .i64 (Z (len + j)))]) := hx
    unfold Rows.laid_flagstone_flagstonelaw13_halves at hx1
    injection hx1 with e1 e2
    have hlen : len = 2 := by simpa using (congrArg List.length e1).symm
    subst hlen
    have hr0 := hr 0 (by omega)
    have hr1 := hr 1 (by omega)
    simp only [List.range, List.range.loop, List.map_cons, List.map_nil, List.cons.injEq, DataW.agg.injEq, DataW.lit.injEq, Lit.int.injEq, and_true, true_and] at e1
    obtain ⟨⟨x0, y0, z0⟩, x1, y1, z1⟩ := e1
    rw [← x0, ← y0, ← z0] at hr0
    rw [← x1, ← y1, ← z1] at hr1
    refine ⟨a, cap, ?_, hl, fun i hi => ?_⟩
    · have := World.var?_cell gN_halves hv 0
      rw [Array.eq_one_of_toList hcs] at this
      simpa using this
    · obtain ⟨⟨a0, a1, a2⟩, _⟩ := hr0
      obtain ⟨⟨b0, b1, b2⟩, _⟩ := hr1
      rcases i with _ | _ | _ | _ | _ | _ | i
      · exact a0
      · exact a1
      · exact a2
      · exact b0
      · exact b1
      · exact b2
      · omega
theorem of_laid {W : World} (h : laidMetH Tryd.prog laidL W) : GL W := by
  rw [MakeChecks.laidMetH_plain _ _ _ (by kernel_rfl)] at h
  obtain ⟨ps, h, -, -⟩ := h
  obtain ⟨g0, t0, cs0, f0, p0, q0, hg0, ht0, hv0, hd0, h, _⟩ := h
  obtain ⟨g1, t1, cs1, f1, p1, q1, hg1, ht1, hv1, hd1, h, _⟩ := h
  obtain ⟨g2, t2, cs2, f2, p2, q2, hg2, ht2, hv2, hd2, h, _⟩ := h
  obtain ⟨g3, t3, cs3, f3, p3, q3, hg3, ht3, hv3, hd3, h, _⟩ := h
  obtain ⟨g4, t4, cs4, f4, p4, q4, hg4, ht4, hv4, hd4, h, _⟩ := h
  obtain ⟨g5, t5, cs5, f5, p5, q5, hg5, ht5, hv5, hd5, h, _⟩ := h
  obtain ⟨g6, t6, cs6, f6, p6, q6, hg6, ht6, hv6, hd6, h, _⟩ := h
  obtain rfl := Option.some.inj (gN_uint64pow10.symm.trans hg2)
  obtain rfl := Option.some.inj (gN_texts.symm.trans hg3)
  obtain rfl := Option.some.inj (gN_versions.symm.trans hg4)
  obtain rfl := Option.some.inj (gN_lists.symm.trans hg5)
  obtain rfl := Option.some.inj (gN_halves.symm.trans hg6)
  obtain rfl := Option.some.inj ((show (Tryd.prog.globals[4]?).map (·.type) = some 125 by kernel_rfl).symm.trans ht2)
  have F_uint64pow10 : Pow10At W := by
    have h1 := Lib.cells_of_tab (k := .u64) (zs := Lib.pow10Tab) Tryd.underlying125 Tryd.underlying81 (by kernel_rfl) (by kernel_rfl) hd2
    unfold Pow10At
    rw [hv2]
    refine congrArg some ?_
    rw [← Array.toList_inj, h1]
    rfl
  obtain rfl := Option.some.inj ((show (Tryd.prog.globals[3]?).map (·.type) = some 103 by kernel_rfl).symm.trans ht3)
  have F_texts : Laid.StrsAt W 3 textsL := fun i hi => by
    have := Laid.strs_of_agg (l := textsL) Tryd.underlying103 Tryd.underlying9 (by kernel_rfl) (show DataW.trod _ _ _ _ _ _ _ _ _ = some (DataW.agg (textsL.map fun s => .lit (.string s.data.toList)), _) from hd3) i hi
    rw [World.var?_cell gN_texts hv3 i, ← this, Array.getElem?_toList]
  obtain rfl := Option.some.inj ((show (Tryd.prog.globals[1]?).map (·.type) = some 92 by kernel_rfl).symm.trans ht4)
  have F_versions : Laid.StrsAt W 1 versionsL := fun i hi => by
    have := Laid.strs_of_agg (l := versionsL) Tryd.underlying92 Tryd.underlying9 (by kernel_rfl) (show DataW.trod _ _ _ _ _ _ _ _ _ = some (DataW.agg (versionsL.map fun s => .lit (.string s.data.toList)), _) from hd4) i hi
    rw [World.var?_cell gN_versions hv4 i, ← this, Array.getElem?_toList]
  obtain rfl := Option.some.inj ((show (Tryd.prog.globals[2]?).map (·.type) = some 93 by kernel_rfl).symm.trans ht5)
  have F_lists : Laid.ListsAt W 2 listsL := fun i hi => by
    obtain ⟨A, c, h1, h2, h3⟩ := Laid.lists_of_agg (l := listsL) Tryd.underlying93 Tryd.underlying47 Tryd.underlying9 (by kernel_rfl) (by kernel_rfl) (show DataW.trod _ _ _ _ _ _ _ _ _ = some (DataW.agg (listsL.map fun ss => .slice (ss.map fun s => .lit (.string s.data.toList)) []), _) from hd5) i hi
    exact ⟨A, c, by rw [World.var?_cell gN_lists hv5 i, ← h1, Array.getElem?_toList], h2, h3⟩
  obtain rfl := Option.some.inj ((show (Tryd.prog.globals[0]?).map (·.type) = some 22 by kernel_rfl).symm.trans ht6)
  have F_halves := halves_of hv6 hd6
  exact ⟨F_uint64pow10, F_texts, F_versions, F_lists, F_halves⟩
/-- The door's own heap meets the condition: closed facts. -/
theorem door_met (os : Os) (args : Array Value) : laidMetH Tryd.prog laidL ((World.doorLaid Tryd.prog 400 os).forCall (fun _ _ => 0) ⟨#[], args, []⟩).memory :=
  laidMetH_of_parts3 (fuel := 8) (laidMet_of_run' 8 (by kernel_rfl) (by kernel_rfl)) (by kernel_rfl) (by kernel_rfl)
end Go.Proofs.YtefglphdiimhnaaDoor
