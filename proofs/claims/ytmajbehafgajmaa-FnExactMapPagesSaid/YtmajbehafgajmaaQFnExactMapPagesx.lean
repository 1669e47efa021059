-- Written for this claim by this session's own driver (wip/xprint.py).
import Derived.Test.YtmajbehafgajmaaQFnExactMapPagesx0
import Derived.Test.YtmajbehafgajmaaQFnExactMapPagesx1
import Derived.Test.YtmajbehafgajmaaQFnExactMapPagesx2
import Derived.Test.YtmajbehafgajmaaQFnExactMapPagesx3
import Derived.Test.YtmajbehafgajmaaQFnExactMapPagesx4
import Derived.Test.YtmajbehafgajmaaQFnExactMapPagesx5
import Derived.Test.YtmajbehafgajmaaQFnExactMapPagesx6
import Derived.Test.YtmajbehafgajmaaQFnExactMapPagesx7
import Derived.Test.YtmajbehafgajmaaQFnExactMapPagesx8
namespace Go.Proofs.Ytmajbehafgajmaa.QFnExactMapPages
open Go.RowKit Go.Proofs.YtmajbehafgajmaaW.PrintWords Go.Proofs.YtmajbehafgajmaaW.PrintLast Go.Proofs.YtmajbehafgajmaaW.PrintMore
attribute [local go_sem] max2_int min2_int max_two min_two max_three min_three max_four min_four   -- for this text's walks alone
set_option linter.unusedVariables false
set_option linter.unusedSimpArgs false

end Go.Proofs.Ytmajbehafgajmaa.QFnExactMapPages
