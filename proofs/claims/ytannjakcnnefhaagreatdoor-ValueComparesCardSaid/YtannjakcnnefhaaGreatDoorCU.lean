import Derived.Test.YtannjakcnnefhaaGreatDoorCU0
import Derived.Test.YtannjakcnnefhaaGreatDoorCU1
import Derived.Test.YtannjakcnnefhaaGreatDoorCU2
import Derived.Test.YtannjakcnnefhaaGreatDoorCU3
import Derived.Test.YtannjakcnnefhaaGreatDoorCU4
import Derived.Test.YtannjakcnnefhaaGreatDoorCU5
import Derived.Test.YtannjakcnnefhaaGreatDoorCU6
import Derived.Test.YtannjakcnnefhaaGreatDoorCU7
import Derived.Test.YtannjakcnnefhaaGreatDoorCU8
import Derived.Test.YtannjakcnnefhaaGreatDoorCU9
-- printed by wip/hp.py (the session's driver of the print, with hand-proved contracts)
namespace Go.Proofs.YtannjakcnnefhaaGreatDoor.U
open Go.RowKit Go.Proofs.YtannjakcnnefhaaGreatDoorW.PrintWords Go.Proofs.YtannjakcnnefhaaGreatDoorW.PrintLast Go.Proofs.YtannjakcnnefhaaGreatDoorW.PrintMore
attribute [local go_sem] max2_int min2_int max_two min_two max_three min_three max_four min_four   -- for this text's walks alone
set_option linter.unusedVariables false
set_option linter.unusedSimpArgs false

end Go.Proofs.YtannjakcnnefhaaGreatDoor.U
