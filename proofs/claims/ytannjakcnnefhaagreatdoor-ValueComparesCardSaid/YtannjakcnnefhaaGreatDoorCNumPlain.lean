import Derived.Lib.ItoaMem
set_option linter.unusedVariables false
set_option linter.unusedSimpArgs false
set_option linter.unusedVariables false
namespace Go.Proofs.YtannjakcnnefhaaGreatDoor.Num
open Go Go.Lib
/-- The digits of n, the least first to come off, ahead of s. -/
def numL (u : Nat) : List UInt8 := if u = 0 then [] else decDigits u
end Go.Proofs.YtannjakcnnefhaaGreatDoor.Num
