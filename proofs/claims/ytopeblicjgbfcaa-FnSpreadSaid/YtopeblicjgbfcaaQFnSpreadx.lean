-- Written for this claim by this session's own driver (wip/xprint.py).
import Derived.Test.YtopeblicjgbfcaaQFnSpreadx0
import Derived.Test.YtopeblicjgbfcaaQFnSpreadx1
import Derived.Test.YtopeblicjgbfcaaQFnSpreadx2
import Derived.Test.YtopeblicjgbfcaaQFnSpreadx3
import Derived.Test.YtopeblicjgbfcaaQFnSpreadx4
import Derived.Test.YtopeblicjgbfcaaQFnSpreadx5
namespace Go.Proofs.Ytopeblicjgbfcaa.QFnSpread
open Go.RowKit Go.Proofs.YtopeblicjgbfcaaW.PrintWords Go.Proofs.YtopeblicjgbfcaaW.PrintLast Go.Proofs.YtopeblicjgbfcaaW.PrintMore
attribute [local go_sem] max2_int min2_int max_two min_two max_three min_three max_four min_four   -- for this text's walks alone
set_option linter.unusedVariables false
set_option linter.unusedSimpArgs false

end Go.Proofs.Ytopeblicjgbfcaa.QFnSpread
