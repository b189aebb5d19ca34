/-
  PROVED HERE: BucketSubjects: the bucket of any subject by any of its attributes, or that it has none: the law returns true at every input.
  Conditions: the card's own: the package-level variables that the law reads hold what the program's text lays there; what the arguments reach is of a size that a machine can hold.
-/
import Derived.Test.YtefglphdiimhnaaDoorRowSubjects
import Derived.Test.YtefglphdiimhnaaDoorCards
import Derived.SevenTiedAt
namespace Go.Proofs.YtefglphdiimhnaaDoor
open Go
theorem bucketSubjects_holds : Rows.BucketSubjectsCardSaid :=
  Claim7.holds_tied_plain_at .later [] [.data, .data, .data, .data, .data, .widerDeep, .widerDeep] true (true, "27375a9f36e626bc40107f245a20ff78879ee2deee744738d90e57c0ce3cd8d8") false
    (bucketSubjects.over) (fun _ h => by cases h) (by kernel_rfl) (fun _ h => by cases h) bucketSubjects_row_tie rfl ⟨rfl, rfl⟩ (by kernel_rfl) rfl
    (fun f fn hf hfn => by
      obtain rfl : f = 9 := Option.some.inj ((show Tryd.prog.funcNamed "flagstone/flagstonelaw13.BucketSubjects" = some 9 by kernel_rfl).symm.trans hf) |>.symm
      obtain rfl : fn = Tryd.f9 := (Option.some.inj (Tryd.func9.symm.trans hfn)).symm
      exact ⟨by kernel_rfl, fun j t ht => by
        rw [Tryd.params9] at ht
        have hm : t ∈ [24, 58, 9, 9, 9] := by simpa using Array.mem_of_getElem? ht
        have hall : ([24, 58, 9, 9, 9].all fun u => !Tryd.prog.wantsStandIn u) = true := by kernel_rfl
        exact (show Tryd.prog.wantsStandIn t = false by simpa using List.all_eq_true.1 hall t hm)⟩)
    (by kernel_rfl)
end Go.Proofs.YtefglphdiimhnaaDoor
