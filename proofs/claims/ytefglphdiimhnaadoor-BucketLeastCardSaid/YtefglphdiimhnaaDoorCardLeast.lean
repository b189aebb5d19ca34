import Derived.Test.YtefglphdiimhnaaDoorRowLeast
import Derived.Test.YtefglphdiimhnaaDoorCards
import Derived.SevenTiedAt
namespace Go.Proofs.YtefglphdiimhnaaDoor
open Go
theorem bucketLeast_card (P : Q.flagstonelaw13_BucketLeast.Pure) : Rows.BucketLeastCardSaid :=
  Claim7.holds_tied_plain_at .later [] [.widerDeep] true (true, "27375a9f36e626bc40107f245a20ff78879ee2deee744738d90e57c0ce3cd8d8") false
    (bucketLeast.over P) (fun _ h => by cases h) (by kernel_rfl) (fun _ h => by cases h) bucketLeast_row_tie rfl ⟨rfl, rfl⟩ (by kernel_rfl) rfl
    (fun f fn hf hfn => by
      obtain rfl : f = 7 := Option.some.inj ((show Tryd.prog.funcNamed "flagstone/flagstonelaw13.BucketLeast" = some 7 by kernel_rfl).symm.trans hf) |>.symm
      obtain rfl : fn = Tryd.f7 := (Option.some.inj (Tryd.func7.symm.trans hfn)).symm
      exact ⟨by kernel_rfl, fun j t ht => by
        rw [Tryd.params7] at ht
        have hm : t ∈ [24, 3] := by simpa using Array.mem_of_getElem? ht
        have hall : ([24, 3].all fun u => !Tryd.prog.wantsStandIn u) = true := by kernel_rfl
        exact (show Tryd.prog.wantsStandIn t = false by simpa using List.all_eq_true.1 hall t hm)⟩)
    (by kernel_rfl)
end Go.Proofs.YtefglphdiimhnaaDoor
