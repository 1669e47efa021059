-- Written for this claim by this session's own driver (wip/xprint.py).
import Derived.Test.YtmajbehafgajmaaQFnExactRaiseLinex0
import Derived.Test.YtmajbehafgajmaaQFnExactRaiseLinex1
import Derived.Test.YtmajbehafgajmaaQFnExactRaiseLinex2
import Derived.Test.YtmajbehafgajmaaQFnExactRaiseLinex3
import Derived.Test.YtmajbehafgajmaaQFnExactRaiseLinex4
import Derived.Test.YtmajbehafgajmaaQFnExactRaiseLinex5
import Derived.Test.YtmajbehafgajmaaQFnExactRaiseLinex6
import Derived.Test.YtmajbehafgajmaaQFnExactRaiseLinex7
import Derived.Test.YtmajbehafgajmaaQFnExactRaiseLinex8
import Derived.Test.YtmajbehafgajmaaQFnExactRaiseLinex9
namespace Go.Proofs.Ytmajbehafgajmaa.QFnExactRaiseLine
open Go.RowKit Go.Proofs.YtmajbehafgajmaaW.PrintWords Go.Proofs.YtmajbehafgajmaaW.PrintLast Go.Proofs.YtmajbehafgajmaaW.PrintMore
attribute [local go_sem] max2_int min2_int max_two min_two max_three min_three max_four min_four   -- for this text's walks alone
set_option linter.unusedVariables false
set_option linter.unusedSimpArgs false

end Go.Proofs.Ytmajbehafgajmaa.QFnExactRaiseLine
