/-
  DERIVED. GIVEN WITH THE SEED: THE PROGRAM's TIES (one call each: nine closed facts by the kernel) AND EACH ROW's TIE, after the 31st guide's Derived/Test/Toyas{Tie, Card}.lean. No idea stands in it: it is a product of the set-up. Laid BY PROGRAM, IN A SANDBOX (cutbox-door.mjs). By AI agents, Wed Nov 11 2026. No macro, syntax, notation, axiom, sorry.
-/
import Derived.Test.YtefglphdiimhnaaDoorRows
import Derived.LaidByTextLater
import Derived.SevenTiedAt
import Derived.LaidSub
import Derived.LaidOnce
namespace Go.Proofs.YtefglphdiimhnaaDoor
open Go
set_option maxRecDepth 100000
theorem seatTie1 : Tryd.prog.laidByTextLater [("math/bits.deBruijn32tab", Rows.laid_math_bits_deBruijn32tab), ("math/bits.deBruijn64tab", Rows.laid_math_bits_deBruijn64tab), ("internal/strconv.uint64pow10", Rows.laid_internal_strconv_uint64pow10), ("flagstone/flagstonedraw.texts", Rows.laid_flagstone_flagstonedraw_texts), ("flagstone/flagstonedraw.versions", Rows.laid_flagstone_flagstonedraw_versions), ("flagstone/flagstonedraw.lists", Rows.laid_flagstone_flagstonedraw_lists), ("flagstone/flagstonelaw13.halves", Rows.laid_flagstone_flagstonelaw13_halves)] [.data, .data, .data, .data, .data, .widerDeep, .widerDeep] true :=
  Program.laidByTextLater_by_one 51 8 65 (by kernel_rfl) (by kernel_rfl) (by kernel_rfl) (by kernel_rfl) (by kernel_rfl) (by kernel_rfl) (fun _ _ => by kernel_rfl)
theorem noOwnUnsafe : Tryd.pinned.checked.prog.headLifts.contains "ownunsafe" = false := by kernel_rfl
theorem tie : Tryd.prog.laidByTextLater [("flagstone/flagstonelaw13.halves", Rows.laid_flagstone_flagstonelaw13_halves)] [.widerDeep] true :=
  Program.laidByTextLater.sub seatTie1 ["flagstone/flagstonelaw13.halves"] (by kernel_rfl) (by kernel_rfl)
theorem bucketReweighs_row_tie : Rows.bucketReweighsRow.laidByTextAt .later Tryd.pinned [.widerDeep] true :=
  OpenClaim.laidByTextAt_later rfl rfl tie noOwnUnsafe
theorem bucketPicks_row_tie : Rows.bucketPicksRow.laidByTextAt .later Tryd.pinned [.widerDeep] true :=
  OpenClaim.laidByTextAt_later rfl rfl tie noOwnUnsafe
theorem bucketDistance_row_tie : Rows.bucketDistanceRow.laidByTextAt .later Tryd.pinned [.widerDeep] true :=
  OpenClaim.laidByTextAt_later rfl rfl tie noOwnUnsafe
theorem bucketWeights_row_tie : Rows.bucketWeightsRow.laidByTextAt .later Tryd.pinned [.widerDeep] true :=
  OpenClaim.laidByTextAt_later rfl rfl tie noOwnUnsafe
theorem bucketLeast_row_tie : Rows.bucketLeastRow.laidByTextAt .later Tryd.pinned [.widerDeep] true :=
  OpenClaim.laidByTextAt_later rfl rfl tie noOwnUnsafe
theorem tie2 : Tryd.prog.laidByTextLater [("math/bits.deBruijn32tab", Rows.laid_math_bits_deBruijn32tab), ("math/bits.deBruijn64tab", Rows.laid_math_bits_deBruijn64tab), ("internal/strconv.uint64pow10", Rows.laid_internal_strconv_uint64pow10), ("flagstone/flagstonedraw.texts", Rows.laid_flagstone_flagstonedraw_texts), ("flagstone/flagstonedraw.versions", Rows.laid_flagstone_flagstonedraw_versions), ("flagstone/flagstonedraw.lists", Rows.laid_flagstone_flagstonedraw_lists), ("flagstone/flagstonelaw13.halves", Rows.laid_flagstone_flagstonelaw13_halves)] [.data, .data, .data, .data, .data, .widerDeep, .widerDeep] true :=
  Program.laidByTextLater.sub seatTie1 ["math/bits.deBruijn32tab", "math/bits.deBruijn64tab", "internal/strconv.uint64pow10", "flagstone/flagstonedraw.texts", "flagstone/flagstonedraw.versions", "flagstone/flagstonedraw.lists", "flagstone/flagstonelaw13.halves"] (by kernel_rfl) (by kernel_rfl)
theorem bucketHashes_row_tie : Rows.bucketHashesRow.laidByTextAt .later Tryd.pinned [.data, .data, .data, .data, .data, .widerDeep, .widerDeep] true :=
  OpenClaim.laidByTextAt_later rfl rfl tie2 noOwnUnsafe
theorem bucketSubjects_row_tie : Rows.bucketSubjectsRow.laidByTextAt .later Tryd.pinned [.data, .data, .data, .data, .data, .widerDeep, .widerDeep] true :=
  OpenClaim.laidByTextAt_later rfl rfl tie2 noOwnUnsafe
theorem bucketReweighsUpto_row_tie : Rows.bucketReweighsUptoRow.laidByTextAt .later Tryd.pinned [.widerDeep] true :=
  OpenClaim.laidByTextAt_later rfl rfl tie noOwnUnsafe
theorem bucketPicksUpto_row_tie : Rows.bucketPicksUptoRow.laidByTextAt .later Tryd.pinned [.widerDeep] true :=
  OpenClaim.laidByTextAt_later rfl rfl tie noOwnUnsafe
theorem bucketDistanceUpto_row_tie : Rows.bucketDistanceUptoRow.laidByTextAt .later Tryd.pinned [.widerDeep] true :=
  OpenClaim.laidByTextAt_later rfl rfl tie noOwnUnsafe
theorem bucketWeightsUpto_row_tie : Rows.bucketWeightsUptoRow.laidByTextAt .later Tryd.pinned [.widerDeep] true :=
  OpenClaim.laidByTextAt_later rfl rfl tie noOwnUnsafe
theorem bucketLeastUpto_row_tie : Rows.bucketLeastUptoRow.laidByTextAt .later Tryd.pinned [.widerDeep] true :=
  OpenClaim.laidByTextAt_later rfl rfl tie noOwnUnsafe
theorem bucketHashesUpto_row_tie : Rows.bucketHashesUptoRow.laidByTextAt .later Tryd.pinned [.data, .data, .data, .data, .data, .widerDeep, .widerDeep] true :=
  OpenClaim.laidByTextAt_later rfl rfl tie2 noOwnUnsafe
theorem bucketSubjectsUpto_row_tie : Rows.bucketSubjectsUptoRow.laidByTextAt .later Tryd.pinned [.data, .data, .data, .data, .data, .widerDeep, .widerDeep] true :=
  OpenClaim.laidByTextAt_later rfl rfl tie2 noOwnUnsafe
end Go.Proofs.YtefglphdiimhnaaDoor
