-- Written for this claim by this session's own driver (wip/xprint.py).
import Derived.Test.YtpcpjkbjadgoiaaQFnExactCryptDiskx0
import Derived.Test.YtpcpjkbjadgoiaaQFnExactCryptDiskx1
import Derived.Test.YtpcpjkbjadgoiaaQFnExactCryptDiskx2
namespace Go.Proofs.Ytpcpjkbjadgoiaa.QFnExactCryptDisk
open Go.RowKit Go.Proofs.YtpcpjkbjadgoiaaW.PrintWords Go.Proofs.YtpcpjkbjadgoiaaW.PrintLast Go.Proofs.YtpcpjkbjadgoiaaW.PrintMore
attribute [local go_sem] max2_int min2_int max_two min_two max_three min_three max_four min_four   -- for this text's walks alone
set_option linter.unusedVariables false
set_option linter.unusedSimpArgs false

end Go.Proofs.Ytpcpjkbjadgoiaa.QFnExactCryptDisk
