/-
  PROVED HERE: BucketDistance: how many buckets differ between any lists of ranges, that it is a distance, and that no split with the new weights is nearer than Reweigh's: the law returns true at every input.
  Conditions: the card's own: the package-level variable 'halves' holds what the program's text lays there; what the arguments reach is of a size that a machine can hold.
-/
import Derived.Test.YtefglphdiimhnaaDoorRowDistance
import Derived.Test.YtefglphdiimhnaaDoorCards
import Derived.SevenTiedAt
namespace Go.Proofs.YtefglphdiimhnaaDoor
open Go
theorem bucketDistance_holds : Rows.BucketDistanceCardSaid :=
  Claim7.holds_tied_plain_at .later [] [.widerDeep] true (true, "27375a9f36e626bc40107f245a20ff78879ee2deee744738d90e57c0ce3cd8d8") false
    (bucketDistance.over) (fun _ h => by cases h) (by kernel_rfl) (fun _ h => by cases h) bucketDistance_row_tie rfl ⟨rfl, rfl⟩ (by kernel_rfl) rfl
    (fun f fn hf hfn => by
      obtain rfl : f = 5 := Option.some.inj ((show Tryd.prog.funcNamed "flagstone/flagstonelaw13.BucketDistance" = some 5 by kernel_rfl).symm.trans hf) |>.symm
      obtain rfl : fn = Tryd.f5 := (Option.some.inj (Tryd.func5.symm.trans hfn)).symm
      exact ⟨by kernel_rfl, fun j t ht => by
        rw [Tryd.params5] at ht
        have hm : t ∈ [22, 24, 24, 24] := by simpa using Array.mem_of_getElem? ht
        have hall : ([22, 24, 24, 24].all fun u => !Tryd.prog.wantsStandIn u) = true := by kernel_rfl
        exact (show Tryd.prog.wantsStandIn t = false by simpa using List.all_eq_true.1 hall t hm)⟩)
    (by kernel_rfl)
end Go.Proofs.YtefglphdiimhnaaDoor
