-- Written for this claim by this session's own driver (wip/xprint.py).
import Derived.Test.YtcpbnhhpeljpjaaQFnBitSetsx0
import Derived.Test.YtcpbnhhpeljpjaaQFnBitSetsx1
import Derived.Test.YtcpbnhhpeljpjaaQFnBitSetsx2
import Derived.Test.YtcpbnhhpeljpjaaQFnBitSetsx3
namespace Go.Proofs.Ytcpbnhhpeljpjaa.QFnBitSets
open Go.RowKit Go.Proofs.YtcpbnhhpeljpjaaW.PrintWords Go.Proofs.YtcpbnhhpeljpjaaW.PrintLast Go.Proofs.YtcpbnhhpeljpjaaW.PrintMore
attribute [local go_sem] max2_int min2_int max_two min_two max_three min_three max_four min_four   -- for this text's walks alone
set_option linter.unusedVariables false
set_option linter.unusedSimpArgs false

end Go.Proofs.Ytcpbnhhpeljpjaa.QFnBitSets
