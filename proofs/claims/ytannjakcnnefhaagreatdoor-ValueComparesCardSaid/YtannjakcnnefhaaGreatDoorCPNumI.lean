import Derived.Test.YtannjakcnnefhaaGreatDoorCPNum
import Derived.Lib.ItoaMem
set_option linter.unusedVariables false
set_option linter.unusedSimpArgs false
set_option linter.unusedVariables false
namespace Go.Proofs.YtannjakcnnefhaaGreatDoor
open Go
end Go.Proofs.YtannjakcnnefhaaGreatDoor
