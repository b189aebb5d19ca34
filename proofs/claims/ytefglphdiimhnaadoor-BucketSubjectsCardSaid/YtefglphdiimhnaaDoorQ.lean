-- printed by wip/hp.py (the session's driver of the print, with hand-proved contracts)
import Derived.Test.YtefglphdiimhnaaDoorQ0
import Derived.Test.YtefglphdiimhnaaDoorQ1
import Derived.Test.YtefglphdiimhnaaDoorQ2
import Derived.Test.YtefglphdiimhnaaDoorQ3
import Derived.Test.YtefglphdiimhnaaDoorQ4
import Derived.Test.YtefglphdiimhnaaDoorQ5
import Derived.Test.YtefglphdiimhnaaDoorQ6
import Derived.Test.YtefglphdiimhnaaDoorQ7
import Derived.Test.YtefglphdiimhnaaDoorQ8
import Derived.Test.YtefglphdiimhnaaDoorQ9
import Derived.Test.YtefglphdiimhnaaDoorQ10
import Derived.Test.YtefglphdiimhnaaDoorQ11
import Derived.Test.YtefglphdiimhnaaDoorQ12
namespace Go.Proofs.YtefglphdiimhnaaDoor.Q
open Go.RowKit Go.Proofs.YtefglphdiimhnaaDoorW.PrintWords Go.Proofs.YtefglphdiimhnaaDoorW.PrintLast Go.Proofs.YtefglphdiimhnaaDoorW.PrintMore
attribute [local go_sem] max2_int min2_int max_two min_two max_three min_three max_four min_four   -- for this text's walks alone
set_option linter.unusedVariables false
set_option linter.unusedSimpArgs false

end Go.Proofs.YtefglphdiimhnaaDoor.Q
