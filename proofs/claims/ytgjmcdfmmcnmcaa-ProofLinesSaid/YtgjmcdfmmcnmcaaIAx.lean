-- Written by a program of ours for this claim (wip/tools/inj.py over the kit's print.py): Lean checks it.
import Derived.Test.YtgjmcdfmmcnmcaaIAx0
import Derived.Test.YtgjmcdfmmcnmcaaIAx1
import Derived.Test.YtgjmcdfmmcnmcaaIAx2
import Derived.Test.YtgjmcdfmmcnmcaaIAx3
import Derived.Test.YtgjmcdfmmcnmcaaIAx4
import Derived.Test.YtgjmcdfmmcnmcaaIAx5
import Derived.Test.YtgjmcdfmmcnmcaaIAx6
import Derived.Test.YtgjmcdfmmcnmcaaIAx7
import Derived.Test.YtgjmcdfmmcnmcaaIAx8
import Derived.Test.YtgjmcdfmmcnmcaaIAx9
namespace Go.Proofs.Ytgjmcdfmmcnmcaa.IA
open Go.RowKit Go.Proofs.YtgjmcdfmmcnmcaaW.PrintWords Go.Proofs.YtgjmcdfmmcnmcaaW.PrintLast Go.Proofs.YtgjmcdfmmcnmcaaW.PrintMore
attribute [local go_sem] max2_int min2_int max_two min_two max_three min_three max_four min_four   -- for this text's walks alone
set_option linter.unusedVariables false
set_option linter.unusedSimpArgs false

end Go.Proofs.Ytgjmcdfmmcnmcaa.IA
