import Derived.Lib.SmallJoins
import Derived.SliceStrings
import Derived.OpenShut
import Derived.ProofKit
import Derived.Test.YtefglphdiimhnaaDoorWMore
set_option linter.unusedVariables false
namespace Go.Proofs.YtefglphdiimhnaaDoor.Laid
open Go Go.ChangeShapes Go.WideShapes Go.RowKit Go.Joins Go.Deep Go.Proofs.YtefglphdiimhnaaDoorW.PrintWords
/-- What was there, as what may be shared: its blocks are elder. -/
theorem V_of_C {α : Type} {d : Kd α} (hd : Kd.Heap d) {e base : Nat} {w : World} {A : Option Addr} {c : Nat} {xs : List α} (h : d.C w A xs.length xs) (hc : xs.length ≤ c) : Kd.V d e w base (fun k => k < w.heap.size) (.slice A xs.length c) xs :=
  Kd.V_mk hc (fun W' hW => hd.C (fun k hk => hW k hk hk) h)
end Go.Proofs.YtefglphdiimhnaaDoor.Laid
