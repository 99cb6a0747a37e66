-- Written by a program of ours for this claim (wip/tools/inj.py over the kit's print.py): Lean checks it.
import Derived.Test.YtdaoiacniclnnaaDoorIAx0
import Derived.Test.YtdaoiacniclnnaaDoorIAx1
import Derived.Test.YtdaoiacniclnnaaDoorIAx2
import Derived.Test.YtdaoiacniclnnaaDoorIAx3
import Derived.Test.YtdaoiacniclnnaaDoorIAx4
import Derived.Test.YtdaoiacniclnnaaDoorIAx5
import Derived.Test.YtdaoiacniclnnaaDoorIAx6
import Derived.Test.YtdaoiacniclnnaaDoorIAx7
import Derived.Test.YtdaoiacniclnnaaDoorIAx8
import Derived.Test.YtdaoiacniclnnaaDoorIAx9
namespace Go.Proofs.YtdaoiacniclnnaaDoor.IA
open Go.RowKit Go.Proofs.YtdaoiacniclnnaaDoorW.PrintWords Go.Proofs.YtdaoiacniclnnaaDoorW.PrintLast Go.Proofs.YtdaoiacniclnnaaDoorW.PrintMore
attribute [local go_sem] max2_int min2_int max_two min_two max_three min_three max_four min_four   -- for this text's walks alone
set_option linter.unusedVariables false
set_option linter.unusedSimpArgs false

end Go.Proofs.YtdaoiacniclnnaaDoor.IA
