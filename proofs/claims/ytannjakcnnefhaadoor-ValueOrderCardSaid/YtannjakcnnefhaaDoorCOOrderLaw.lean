import Derived.Test.YtannjakcnnefhaaDoorCOPLawOrder
set_option linter.unusedVariables false
set_option linter.unusedSimpArgs false
set_option linter.unusedVariables false
namespace Go.Proofs.YtannjakcnnefhaaDoor.O
open Go Go.RowKit Go.Proofs.YtannjakcnnefhaaDoor Go.Proofs.YtannjakcnnefhaaDoorW.PrintWords
theorem order_law (a0 : Int) (A1 : Option Addr) (c1 : Nat) (l1 : List Int) (a2 a3 a4 : Int) (w : World) (hr1 : Kd.C (Kd.int .u8) w A1 l1.length l1) (hc1 : l1.length ≤ c1) (hl1 : ∀ x ∈ l1, 0 ≤ x ∧ x < 256) (hGL : GL w) :
    Calls Tryd.prog 4 #[.int .i64 a0, .slice A1 l1.length c1, .int .i64 a2, .int .i64 a3, .int .i64 a4] w fun e w' => e = .returned (.bool true) ∧ Below w.heap.size w w' :=
  flagstonelaw3_ValueOrder.calls 5000 a0 A1 c1 l1 a2 a3 a4 true w hr1 hc1 hGL (order_true a0 l1 a2 a3 a4 hl1) rfl
end Go.Proofs.YtannjakcnnefhaaDoor.O
