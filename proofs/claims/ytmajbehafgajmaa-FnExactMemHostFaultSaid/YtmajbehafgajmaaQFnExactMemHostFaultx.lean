-- Written for this claim by this session's own driver (wip/xprint.py).
import Derived.Test.YtmajbehafgajmaaQFnExactMemHostFaultx0
import Derived.Test.YtmajbehafgajmaaQFnExactMemHostFaultx1
import Derived.Test.YtmajbehafgajmaaQFnExactMemHostFaultx2
import Derived.Test.YtmajbehafgajmaaQFnExactMemHostFaultx3
import Derived.Test.YtmajbehafgajmaaQFnExactMemHostFaultx4
import Derived.Test.YtmajbehafgajmaaQFnExactMemHostFaultx5
import Derived.Test.YtmajbehafgajmaaQFnExactMemHostFaultx6
import Derived.Test.YtmajbehafgajmaaQFnExactMemHostFaultx7
import Derived.Test.YtmajbehafgajmaaQFnExactMemHostFaultx8
import Derived.Test.YtmajbehafgajmaaQFnExactMemHostFaultx9
import Derived.Test.YtmajbehafgajmaaQFnExactMemHostFaultx10
namespace Go.Proofs.Ytmajbehafgajmaa.QFnExactMemHostFault
open Go.RowKit Go.Proofs.YtmajbehafgajmaaW.PrintWords Go.Proofs.YtmajbehafgajmaaW.PrintLast Go.Proofs.YtmajbehafgajmaaW.PrintMore
attribute [local go_sem] max2_int min2_int max_two min_two max_three min_three max_four min_four   -- for this text's walks alone
set_option linter.unusedVariables false
set_option linter.unusedSimpArgs false

end Go.Proofs.Ytmajbehafgajmaa.QFnExactMemHostFault
