import Derived.Test.YtannjakcnnefhaaDoorRows
import Derived.Lay
import Derived.Test.YtannjakcnnefhaaDoorCOpenLaid
import Derived.Test.YtannjakcnnefhaaDoorCGL
import Derived.ProofKit
import Derived.LaidMore
import Derived.OpenShut
import Derived.Stop.Joined
import Derived.Lib.LaidU8T
import Derived.Test.YtannjakcnnefhaaDoorCShelf
import Derived.Lib.LaidTab
import Derived.Lib.ItoaNum
set_option linter.unusedVariables false
set_option linter.unusedSimpArgs false
set_option linter.unusedVariables false
namespace Go.Proofs.YtannjakcnnefhaaDoor
open Go Go.ChangeShapes Go.WideShapes Go.ChangeAt Go.RowKit
set_option maxRecDepth 100000
theorem own : ownKnob Tryd.prog.godebug = none := by kernel_rfl
def laidL : List (String × DataW Unit) := [("math/bits.deBruijn32tab", Rows.laid_math_bits_deBruijn32tab), ("math/bits.deBruijn64tab", Rows.laid_math_bits_deBruijn64tab), ("internal/strconv.uint64pow10", Rows.laid_internal_strconv_uint64pow10), ("unicode/utf8.acceptRanges", Rows.laid_unicode_utf8_acceptRanges), ("flagstone/flagstonedraw.texts", Rows.laid_flagstone_flagstonedraw_texts), ("flagstone/flagstonedraw.versions", Rows.laid_flagstone_flagstonedraw_versions), ("flagstone/flagstonedraw.lists", Rows.laid_flagstone_flagstonedraw_lists), ("strconv.ErrRange", Rows.laid_strconv_ErrRange), ("strconv.ErrSyntax", Rows.laid_strconv_ErrSyntax), ("unicode/utf8.first", Rows.laid_unicode_utf8_first)]
theorem gN_uint64pow10 : Tryd.prog.globalNamed "internal/strconv.uint64pow10" = some 9 := by kernel_rfl
theorem gN_texts : Tryd.prog.globalNamed "flagstone/flagstonedraw.texts" = some 3 := by kernel_rfl
theorem gN_versions : Tryd.prog.globalNamed "flagstone/flagstonedraw.versions" = some 0 := by kernel_rfl
theorem gN_lists : Tryd.prog.globalNamed "flagstone/flagstonedraw.lists" = some 1 := by kernel_rfl
theorem gN_ErrRange : Tryd.prog.globalNamed "strconv.ErrRange" = some 8 := by kernel_rfl
theorem gN_ErrSyntax : Tryd.prog.globalNamed "strconv.ErrSyntax" = some 7 := by kernel_rfl
theorem of_laid {W : World} (h : laidMetH Tryd.prog laidL W) : GL W := by
  rw [MakeChecks.laidMetH_plain _ _ _ (by kernel_rfl)] at h
  obtain ⟨ps, h, -, -⟩ := h
  obtain ⟨g0, t0, cs0, f0, p0, q0, hg0, ht0, hv0, hd0, h, _⟩ := h
  obtain ⟨g1, t1, cs1, f1, p1, q1, hg1, ht1, hv1, hd1, h, _⟩ := h
  obtain ⟨g2, t2, cs2, f2, p2, q2, hg2, ht2, hv2, hd2, h, _⟩ := h
  obtain ⟨g3, t3, cs3, f3, p3, q3, hg3, ht3, hv3, hd3, h, _⟩ := h
  obtain ⟨g4, t4, cs4, f4, p4, q4, hg4, ht4, hv4, hd4, h, _⟩ := h
  obtain ⟨g5, t5, cs5, f5, p5, q5, hg5, ht5, hv5, hd5, h, _⟩ := h
  obtain ⟨g6, t6, cs6, f6, p6, q6, hg6, ht6, hv6, hd6, h, _⟩ := h
  obtain ⟨g7, t7, cs7, f7, p7, q7, hg7, ht7, hv7, hd7, h, _⟩ := h
  obtain ⟨g8, t8, cs8, f8, p8, q8, hg8, ht8, hv8, hd8, h, _⟩ := h
  obtain ⟨g9, t9, cs9, f9, p9, q9, hg9, ht9, hv9, hd9, h, _⟩ := h
  obtain rfl := Option.some.inj (gN_uint64pow10.symm.trans hg2)
  obtain rfl := Option.some.inj (gN_texts.symm.trans hg4)
  obtain rfl := Option.some.inj (gN_versions.symm.trans hg5)
  obtain rfl := Option.some.inj (gN_lists.symm.trans hg6)
  obtain rfl := Option.some.inj (gN_ErrRange.symm.trans hg7)
  obtain rfl := Option.some.inj (gN_ErrSyntax.symm.trans hg8)
  obtain rfl := Option.some.inj ((show (Tryd.prog.globals[9]?).map (·.type) = some 121 by kernel_rfl).symm.trans ht2)
  have F_uint64pow10 : Pow10At W := by
    have h1 := Lib.cells_of_tab (k := .u64) (zs := Lib.pow10Tab) Tryd.underlying121 Tryd.underlying99 (by kernel_rfl) (by kernel_rfl) hd2
    unfold Pow10At
    rw [hv2]
    refine congrArg some ?_
    rw [← Array.toList_inj, h1]
    rfl
  obtain rfl := Option.some.inj ((show (Tryd.prog.globals[3]?).map (·.type) = some 71 by kernel_rfl).symm.trans ht4)
  have F_texts : Laid.StrsAt W 3 textsL := fun i hi => by
    have := Laid.strs_of_agg (l := textsL) Tryd.underlying71 Tryd.underlying9 (by kernel_rfl) (show DataW.trod _ _ _ _ _ _ _ _ _ = some (DataW.agg (textsL.map fun s => .lit (.string s.data.toList)), _) from hd4) i hi
    rw [World.var?_cell gN_texts hv4 i, ← this, Array.getElem?_toList]
  obtain rfl := Option.some.inj ((show (Tryd.prog.globals[0]?).map (·.type) = some 57 by kernel_rfl).symm.trans ht5)
  have F_versions : Laid.StrsAt W 0 versionsL := fun i hi => by
    have := Laid.strs_of_agg (l := versionsL) Tryd.underlying57 Tryd.underlying9 (by kernel_rfl) (show DataW.trod _ _ _ _ _ _ _ _ _ = some (DataW.agg (versionsL.map fun s => .lit (.string s.data.toList)), _) from hd5) i hi
    rw [World.var?_cell gN_versions hv5 i, ← this, Array.getElem?_toList]
  obtain rfl := Option.some.inj ((show (Tryd.prog.globals[1]?).map (·.type) = some 58 by kernel_rfl).symm.trans ht6)
  have F_lists : Laid.ListsAt W 1 listsL := fun i hi => by
    obtain ⟨A, c, h1, h2, h3⟩ := Laid.lists_of_agg (l := listsL) Tryd.underlying58 Tryd.underlying29 Tryd.underlying9 (by kernel_rfl) (by kernel_rfl) (show DataW.trod _ _ _ _ _ _ _ _ _ = some (DataW.agg (listsL.map fun ss => .slice (ss.map fun s => .lit (.string s.data.toList)) []), _) from hd6) i hi
    exact ⟨A, c, by rw [World.var?_cell gN_lists hv6 i, ← h1, Array.getElem?_toList], h2, h3⟩
  obtain rfl := Option.some.inj ((show (Tryd.prog.globals[8]?).map (·.type) = some 76 by kernel_rfl).symm.trans ht7)
  have F_ErrRange : AnErr W 8 := by
    obtain ⟨v, hcs, hev⟩ := err_of_trod Tryd.underlying76 hd7
    refine ⟨v, ?_, hev⟩
    have := World.var?_cell gN_ErrRange hv7 0
    rw [this, ← Array.getElem?_toList, hcs]
    rfl
  obtain rfl := Option.some.inj ((show (Tryd.prog.globals[7]?).map (·.type) = some 76 by kernel_rfl).symm.trans ht8)
  have F_ErrSyntax : AnErr W 7 := by
    obtain ⟨v, hcs, hev⟩ := err_of_trod Tryd.underlying76 hd8
    refine ⟨v, ?_, hev⟩
    have := World.var?_cell gN_ErrSyntax hv8 0
    rw [this, ← Array.getElem?_toList, hcs]
    rfl
  have F_utf8 : Lib.Utf8Tabs 4 5 W := utf8Tabs_of_readsT (U8Types.of196 Tryd.lays196) ⟨by kernel_rfl, by kernel_rfl, by kernel_rfl, by kernel_rfl, by kernel_rfl, by kernel_rfl, by kernel_rfl⟩ ⟨_, _, _, _, _, hg9, ht9, hv9, hd9⟩ ⟨_, _, _, _, _, hg3, ht3, hv3, hd3⟩
  exact ⟨F_uint64pow10, F_texts, F_versions, F_lists, F_ErrRange, F_ErrSyntax, F_utf8⟩
/-- A heap with the variables laid meets the condition: closed facts. -/
theorem door_met (os : Os) (args : Array Value) : laidMetH Tryd.prog laidL ((World.laidAll Tryd.prog os laidL).forCall (fun _ _ => 0) ⟨#[], args, []⟩).memory := by
  rw [MakeChecks.laidMetH_plain _ _ _ (by kernel_rfl)]
  exact laidMet_laidAll _ (by kernel_rfl) (by kernel_rfl)
end Go.Proofs.YtannjakcnnefhaaDoor
