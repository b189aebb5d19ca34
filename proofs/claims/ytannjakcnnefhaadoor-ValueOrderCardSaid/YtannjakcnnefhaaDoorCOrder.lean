/-
  PROVED HERE: Compare is a total order on the valid values of one kind: the law returns true at every input.
-/
import Derived.Test.YtannjakcnnefhaaDoorCRowOrder
import Derived.Test.YtannjakcnnefhaaDoorCards
import Derived.SevenTiedAt
set_option linter.unusedVariables false
set_option linter.unusedSimpArgs false
namespace Go.Proofs.YtannjakcnnefhaaDoor
open Go
theorem valueOrder_holds : Rows.ValueOrderCardSaid :=
  Claim7.holds_tied_plain_at .later [] [.data, .data, .data, .data, .data, .data, .widerDeep, .sentinel, .sentinel, .pinned] true (true, "69f9f92eb64e4ba8e9014f216f66c01ccb5732e7ec2f3047bb225244719707ea") true
    (valueOrder.over) (fun _ h => by cases h) (by kernel_rfl) (fun _ h => by cases h) valueOrder_row_tie rfl ⟨rfl, rfl⟩ (by kernel_rfl) rfl
    (fun f fn hf hfn => by
      obtain rfl : f = 4 := Option.some.inj ((show Tryd.prog.funcNamed "flagstone/flagstonelaw3.ValueOrder" = some 4 by kernel_rfl).symm.trans hf) |>.symm
      obtain rfl : fn = Tryd.f4 := (Option.some.inj (Tryd.func4.symm.trans hfn)).symm
      exact ⟨by kernel_rfl, fun j t ht => by
        rw [Tryd.params4] at ht
        have hm : t ∈ [3, 34, 3, 3, 3] := by simpa using Array.mem_of_getElem? ht
        have hall : ([3, 34, 3, 3, 3].all fun u => !Tryd.prog.wantsStandIn u) = true := by kernel_rfl
        exact (show Tryd.prog.wantsStandIn t = false by simpa using List.all_eq_true.1 hall t hm)⟩)
    (by kernel_rfl)
end Go.Proofs.YtannjakcnnefhaaDoor
