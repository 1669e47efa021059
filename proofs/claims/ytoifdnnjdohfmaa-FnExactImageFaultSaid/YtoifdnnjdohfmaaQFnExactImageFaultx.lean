-- Written for this claim by this session's own driver (wip/xprint.py).
import Derived.Test.YtoifdnnjdohfmaaQFnExactImageFaultx0
import Derived.Test.YtoifdnnjdohfmaaQFnExactImageFaultx1
import Derived.Test.YtoifdnnjdohfmaaQFnExactImageFaultx2
import Derived.Test.YtoifdnnjdohfmaaQFnExactImageFaultx3
import Derived.Test.YtoifdnnjdohfmaaQFnExactImageFaultx4
import Derived.Test.YtoifdnnjdohfmaaQFnExactImageFaultx5
import Derived.Test.YtoifdnnjdohfmaaQFnExactImageFaultx6
import Derived.Test.YtoifdnnjdohfmaaQFnExactImageFaultx7
namespace Go.Proofs.Ytoifdnnjdohfmaa.QFnExactImageFault
open Go.RowKit Go.Proofs.YtoifdnnjdohfmaaW.PrintWords Go.Proofs.YtoifdnnjdohfmaaW.PrintLast Go.Proofs.YtoifdnnjdohfmaaW.PrintMore
attribute [local go_sem] max2_int min2_int max_two min_two max_three min_three max_four min_four   -- for this text's walks alone
set_option linter.unusedVariables false
set_option linter.unusedSimpArgs false

end Go.Proofs.Ytoifdnnjdohfmaa.QFnExactImageFault
