/-
  PROVED HERE: how any two values compare, or the error: the law returns true at every input.
-/
import Derived.Test.YtannjakcnnefhaaGreatDoorCRowCompares
import Derived.Test.YtannjakcnnefhaaGreatDoorCards
import Derived.SevenTiedAt
set_option linter.unusedVariables false
set_option linter.unusedSimpArgs false
namespace Go.Proofs.YtannjakcnnefhaaGreatDoor
open Go
theorem valueCompares_holds : Rows.ValueComparesCardSaid :=
  Claim7.holds_tied_plain_at .later [] [.data, .data, .data, .data, .data, .data, .widerDeep, .sentinel, .sentinel, .pinned] true (true, "0676e98a0f17de96a0f1a5a547ccc431d245eb6b05dd25c9db6e0042fe6a9556") true
    (valueCompares.over) (fun _ h => by cases h) (by kernel_rfl) (fun _ h => by cases h) valueCompares_row_tie rfl ⟨rfl, rfl⟩ (by kernel_rfl) rfl
    (fun f fn hf hfn => by
      obtain rfl : f = 6 := Option.some.inj ((show Tryz.prog.funcNamed "flagstone/flagstonelaw3.ValueCompares" = some 6 by kernel_rfl).symm.trans hf) |>.symm
      obtain rfl : fn = Tryz.f6 := (Option.some.inj (Tryz.func6.symm.trans hfn)).symm
      exact ⟨by kernel_rfl, fun j t ht => by
        rw [Tryz.params6] at ht
        have hm : t ∈ [24, 24, 25] := by simpa using Array.mem_of_getElem? ht
        have hall : ([24, 24, 25].all fun u => !Tryz.prog.wantsStandIn u) = true := by kernel_rfl
        exact (show Tryz.prog.wantsStandIn t = false by simpa using List.all_eq_true.1 hall t hm)⟩)
    (by kernel_rfl)
end Go.Proofs.YtannjakcnnefhaaGreatDoor
