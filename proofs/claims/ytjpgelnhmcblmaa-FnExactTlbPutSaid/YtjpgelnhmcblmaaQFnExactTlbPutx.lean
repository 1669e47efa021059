-- Written for this claim by this session's own driver (wip/xprint.py).
import Derived.Test.YtjpgelnhmcblmaaQFnExactTlbPutx0
import Derived.Test.YtjpgelnhmcblmaaQFnExactTlbPutx1
import Derived.Test.YtjpgelnhmcblmaaQFnExactTlbPutx2
import Derived.Test.YtjpgelnhmcblmaaQFnExactTlbPutx3
import Derived.Test.YtjpgelnhmcblmaaQFnExactTlbPutx4
import Derived.Test.YtjpgelnhmcblmaaQFnExactTlbPutx5
import Derived.Test.YtjpgelnhmcblmaaQFnExactTlbPutx6
namespace Go.Proofs.Ytjpgelnhmcblmaa.QFnExactTlbPut
open Go.RowKit Go.Proofs.YtjpgelnhmcblmaaW.PrintWords Go.Proofs.YtjpgelnhmcblmaaW.PrintLast Go.Proofs.YtjpgelnhmcblmaaW.PrintMore
attribute [local go_sem] max2_int min2_int max_two min_two max_three min_three max_four min_four   -- for this text's walks alone
set_option linter.unusedVariables false
set_option linter.unusedSimpArgs false

end Go.Proofs.Ytjpgelnhmcblmaa.QFnExactTlbPut
