-- Written for this claim by this session's own driver (wip/xprint.py).
import Derived.Test.YtmajbehafgajmaaQFnExactChainFaultx0
import Derived.Test.YtmajbehafgajmaaQFnExactChainFaultx1
import Derived.Test.YtmajbehafgajmaaQFnExactChainFaultx2
import Derived.Test.YtmajbehafgajmaaQFnExactChainFaultx3
import Derived.Test.YtmajbehafgajmaaQFnExactChainFaultx4
import Derived.Test.YtmajbehafgajmaaQFnExactChainFaultx5
import Derived.Test.YtmajbehafgajmaaQFnExactChainFaultx6
import Derived.Test.YtmajbehafgajmaaQFnExactChainFaultx7
import Derived.Test.YtmajbehafgajmaaQFnExactChainFaultx8
import Derived.Test.YtmajbehafgajmaaQFnExactChainFaultx9
namespace Go.Proofs.Ytmajbehafgajmaa.QFnExactChainFault
open Go.RowKit Go.Proofs.YtmajbehafgajmaaW.PrintWords Go.Proofs.YtmajbehafgajmaaW.PrintLast Go.Proofs.YtmajbehafgajmaaW.PrintMore
attribute [local go_sem] max2_int min2_int max_two min_two max_three min_three max_four min_four   -- for this text's walks alone
set_option linter.unusedVariables false
set_option linter.unusedSimpArgs false

end Go.Proofs.Ytmajbehafgajmaa.QFnExactChainFault
