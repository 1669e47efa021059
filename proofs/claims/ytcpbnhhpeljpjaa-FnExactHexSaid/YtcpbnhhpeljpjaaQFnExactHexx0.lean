-- Written for this claim by this session's own driver (wip/xprint.py).
import Derived.Test.YtcpbnhhpeljpjaaProg
import Derived.Below
import Derived.Deep.Draws
import Derived.Deep.AppendLies
import Derived.Maps.AppendAt
import Derived.OwnWalk
import Derived.Laws.BytesArg
import Derived.Laws.MakeOwn
import Derived.Laws.OwnMore
import Derived.Deep.OwnRows
import Derived.Tactics
import Derived.Lib.ConvBytes
import Derived.Laws.Slices
import Derived.WalkKit
import Derived.KernelRfl
import Derived.RowKit3
import Derived.Deep.LoopGhost
import Derived.Deep.QuietTactic
import Derived.BigQuiet
import Derived.WideLaws
import Derived.Deep.DeepCutAuto
import Derived.Deep.CutBlock
import Derived.Deep.RegionHeld3
import Derived.Laws.Rows
import Derived.Lib.AppendStr
import Derived.ArgAppend
import Derived.Laws.IdiomCopy
import Derived.OrdersHeld
import Derived.Laws.BitsLemmas
import Derived.RowKit
import Derived.Shelf.Abstract
import Derived.Test.YtcpbnhhpeljpjaaPl
import Derived.Test.YtcpbnhhpeljpjaaSh
import Derived.Test.YtcpbnhhpeljpjaaWWords
import Derived.Test.YtcpbnhhpeljpjaaWLast
import Derived.Test.YtcpbnhhpeljpjaaWTab
import Derived.Test.YtcpbnhhpeljpjaaWFour
import Derived.Test.YtcpbnhhpeljpjaaWQPut
import Derived.Test.YtcpbnhhpeljpjaaWApart
import Derived.Test.YtcpbnhhpeljpjaaWArr
import Derived.Test.YtcpbnhhpeljpjaaWZeros
import Derived.Test.YtcpbnhhpeljpjaaWFoot
import Derived.Test.YtcpbnhhpeljpjaaWKept
import Derived.Test.YtcpbnhhpeljpjaaWShare
import Derived.Test.YtcpbnhhpeljpjaaWN
import Derived.Test.YtcpbnhhpeljpjaaWFootNe
import Derived.Test.YtcpbnhhpeljpjaaWAt
import Derived.Test.YtcpbnhhpeljpjaaWEqStruct
import Derived.Test.YtcpbnhhpeljpjaaWRepsOne
import Derived.Test.YtcpbnhhpeljpjaaWInv
import Derived.Test.YtcpbnhhpeljpjaaWInvWords
import Derived.Test.YtcpbnhhpeljpjaaWGuard
import Derived.Test.YtcpbnhhpeljpjaaWNEv
import Derived.Test.YtcpbnhhpeljpjaaWMore
namespace Go.Proofs.Ytcpbnhhpeljpjaa.QFnExactHex
open Go.RowKit Go.Proofs.YtcpbnhhpeljpjaaW.PrintWords Go.Proofs.YtcpbnhhpeljpjaaW.PrintLast Go.Proofs.YtcpbnhhpeljpjaaW.PrintMore
attribute [local go_sem] max2_int min2_int max_two min_two max_three min_three max_four min_four   -- for this text's walks alone
set_option linter.unusedVariables false
set_option linter.unusedSimpArgs false



def errW : Option Int → Value
  | none => .nilIface
  | some c => .iface 0 (.int .i64 c)
theorem errW_none : errW none = .nilIface := rfl
theorem errW_some (c : Int) : errW (some c) = .iface 0 (.int .i64 c) := rfl

theorem info5 : (Try.prog.info? 5).map (fun i => (i.zero, i.size, i.bytes)) = some (some (.int .u8 0), 1, 1) := by kernel_rfl
-- the values' own types

end Go.Proofs.Ytcpbnhhpeljpjaa.QFnExactHex
