-- Written for this claim by this session's own driver (wip/xprint.py).
import Derived.Test.YtofmibbadbmlfaaQFnExactSecondsOfx0
import Derived.Test.YtofmibbadbmlfaaQFnExactSecondsOfx1
import Derived.Test.YtofmibbadbmlfaaQFnExactSecondsOfx2
import Derived.Test.YtofmibbadbmlfaaQFnExactSecondsOfx3
namespace Go.Proofs.Ytofmibbadbmlfaa.QFnExactSecondsOf
open Go.RowKit Go.Proofs.YtofmibbadbmlfaaW.PrintWords Go.Proofs.YtofmibbadbmlfaaW.PrintLast Go.Proofs.YtofmibbadbmlfaaW.PrintMore
attribute [local go_sem] max2_int min2_int max_two min_two max_three min_three max_four min_four   -- for this text's walks alone
set_option linter.unusedVariables false
set_option linter.unusedSimpArgs false

end Go.Proofs.Ytofmibbadbmlfaa.QFnExactSecondsOf
