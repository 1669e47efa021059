-- Written for this claim by this session's own driver (wip/xprint.py).
import Derived.Test.YtoifdnnjdohfmaaQFnExactPackImagex0
import Derived.Test.YtoifdnnjdohfmaaQFnExactPackImagex1
import Derived.Test.YtoifdnnjdohfmaaQFnExactPackImagex2
import Derived.Test.YtoifdnnjdohfmaaQFnExactPackImagex3
import Derived.Test.YtoifdnnjdohfmaaQFnExactPackImagex4
import Derived.Test.YtoifdnnjdohfmaaQFnExactPackImagex5
import Derived.Test.YtoifdnnjdohfmaaQFnExactPackImagex6
import Derived.Test.YtoifdnnjdohfmaaQFnExactPackImagex7
import Derived.Test.YtoifdnnjdohfmaaQFnExactPackImagex8
import Derived.Test.YtoifdnnjdohfmaaQFnExactPackImagex9
import Derived.Test.YtoifdnnjdohfmaaQFnExactPackImagex10
namespace Go.Proofs.Ytoifdnnjdohfmaa.QFnExactPackImage
open Go.RowKit Go.Proofs.YtoifdnnjdohfmaaW.PrintWords Go.Proofs.YtoifdnnjdohfmaaW.PrintLast Go.Proofs.YtoifdnnjdohfmaaW.PrintMore
attribute [local go_sem] max2_int min2_int max_two min_two max_three min_three max_four min_four   -- for this text's walks alone
set_option linter.unusedVariables false
set_option linter.unusedSimpArgs false

end Go.Proofs.Ytoifdnnjdohfmaa.QFnExactPackImage
