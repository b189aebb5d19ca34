import Derived.Test.YtannjakcnnefhaaGreatDoorKV0
import Derived.Test.YtannjakcnnefhaaGreatDoorKV1
import Derived.Test.YtannjakcnnefhaaGreatDoorKV2
import Derived.Test.YtannjakcnnefhaaGreatDoorKV3
import Derived.Test.YtannjakcnnefhaaGreatDoorKV4
import Derived.Test.YtannjakcnnefhaaGreatDoorKV5
import Derived.Test.YtannjakcnnefhaaGreatDoorKV6
import Derived.Test.YtannjakcnnefhaaGreatDoorKV7
import Derived.Test.YtannjakcnnefhaaGreatDoorKV8
import Derived.Test.YtannjakcnnefhaaGreatDoorKV9
-- printed by wip/hp.py (the session's driver of the print, with hand-proved contracts)
namespace Go.Proofs.YtannjakcnnefhaaGreatDoor.V
open Go.RowKit Go.Proofs.YtannjakcnnefhaaGreatDoorW.PrintWords Go.Proofs.YtannjakcnnefhaaGreatDoorW.PrintLast Go.Proofs.YtannjakcnnefhaaGreatDoorW.PrintMore
attribute [local go_sem] max2_int min2_int max_two min_two max_three min_three max_four min_four   -- for this text's walks alone
set_option linter.unusedVariables false
set_option linter.unusedSimpArgs false

end Go.Proofs.YtannjakcnnefhaaGreatDoor.V
