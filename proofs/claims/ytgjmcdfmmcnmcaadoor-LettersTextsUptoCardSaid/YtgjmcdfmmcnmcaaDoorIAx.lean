-- Written by a program of ours for this claim (wip/tools/inj.py over the kit's print.py): Lean checks it.
import Derived.Test.YtgjmcdfmmcnmcaaDoorIAx0
import Derived.Test.YtgjmcdfmmcnmcaaDoorIAx1
import Derived.Test.YtgjmcdfmmcnmcaaDoorIAx2
import Derived.Test.YtgjmcdfmmcnmcaaDoorIAx3
import Derived.Test.YtgjmcdfmmcnmcaaDoorIAx4
import Derived.Test.YtgjmcdfmmcnmcaaDoorIAx5
import Derived.Test.YtgjmcdfmmcnmcaaDoorIAx6
import Derived.Test.YtgjmcdfmmcnmcaaDoorIAx7
import Derived.Test.YtgjmcdfmmcnmcaaDoorIAx8
import Derived.Test.YtgjmcdfmmcnmcaaDoorIAx9
namespace Go.Proofs.YtgjmcdfmmcnmcaaDoor.IA
open Go.RowKit Go.Proofs.YtgjmcdfmmcnmcaaDoorW.PrintWords Go.Proofs.YtgjmcdfmmcnmcaaDoorW.PrintLast Go.Proofs.YtgjmcdfmmcnmcaaDoorW.PrintMore
attribute [local go_sem] max2_int min2_int max_two min_two max_three min_three max_four min_four   -- for this text's walks alone
set_option linter.unusedVariables false
set_option linter.unusedSimpArgs false

end Go.Proofs.YtgjmcdfmmcnmcaaDoor.IA
