import Derived.Test.YtannjakcnnefhaaDoorCO0
import Derived.Test.YtannjakcnnefhaaDoorCO1
import Derived.Test.YtannjakcnnefhaaDoorCO2
import Derived.Test.YtannjakcnnefhaaDoorCO3
import Derived.Test.YtannjakcnnefhaaDoorCO4
import Derived.Test.YtannjakcnnefhaaDoorCO5
import Derived.Test.YtannjakcnnefhaaDoorCO6
-- printed by wip/hp.py (the session's driver of the print, with hand-proved contracts)
namespace Go.Proofs.YtannjakcnnefhaaDoor.O
open Go.RowKit Go.Proofs.YtannjakcnnefhaaDoorW.PrintWords Go.Proofs.YtannjakcnnefhaaDoorW.PrintLast Go.Proofs.YtannjakcnnefhaaDoorW.PrintMore
attribute [local go_sem] max2_int min2_int max_two min_two max_three min_three max_four min_four   -- for this text's walks alone
set_option linter.unusedVariables false
set_option linter.unusedSimpArgs false

end Go.Proofs.YtannjakcnnefhaaDoor.O
