-- Written for this claim by this session's own driver (wip/xprint.py).
import Derived.Test.YtofmibbadbmlfaaProg
import Derived.Below
import Derived.Deep.Draws
import Derived.Deep.AppendLies
import Derived.Maps.AppendAt
import Derived.OwnWalk
import Derived.Laws.BytesArg
import Derived.Laws.MakeOwn
import Derived.Laws.OwnMore
import Derived.Deep.OwnRows
import Derived.Tactics
import Derived.Lib.ConvBytes
import Derived.Laws.Slices
import Derived.WalkKit
import Derived.KernelRfl
import Derived.RowKit3
import Derived.Deep.LoopGhost
import Derived.Deep.QuietTactic
import Derived.BigQuiet
import Derived.WideLaws
import Derived.Deep.DeepCutAuto
import Derived.Deep.CutBlock
import Derived.Deep.RegionHeld3
import Derived.Laws.Rows
import Derived.Lib.AppendStr
import Derived.ArgAppend
import Derived.Laws.IdiomCopy
import Derived.OrdersHeld
import Derived.Laws.BitsLemmas
import Derived.RowKit
import Derived.Test.YtofmibbadbmlfaaWWords
import Derived.Test.YtofmibbadbmlfaaWLast
import Derived.Test.YtofmibbadbmlfaaWTab
import Derived.Test.YtofmibbadbmlfaaWFour
import Derived.Test.YtofmibbadbmlfaaWQPut
import Derived.Test.YtofmibbadbmlfaaWApart
import Derived.Test.YtofmibbadbmlfaaWArr
import Derived.Test.YtofmibbadbmlfaaWZeros
import Derived.Test.YtofmibbadbmlfaaWFoot
import Derived.Test.YtofmibbadbmlfaaWKept
import Derived.Test.YtofmibbadbmlfaaWShare
import Derived.Test.YtofmibbadbmlfaaWN
import Derived.Test.YtofmibbadbmlfaaWFootNe
import Derived.Test.YtofmibbadbmlfaaWAt
import Derived.Test.YtofmibbadbmlfaaWEqStruct
import Derived.Test.YtofmibbadbmlfaaWRepsOne
import Derived.Test.YtofmibbadbmlfaaWInv
import Derived.Test.YtofmibbadbmlfaaWInvWords
import Derived.Test.YtofmibbadbmlfaaWGuard
import Derived.Test.YtofmibbadbmlfaaWNEv
import Derived.Test.YtofmibbadbmlfaaWMore
namespace Go.Proofs.Ytofmibbadbmlfaa.QFnExactSecondsOf
open Go.RowKit Go.Proofs.YtofmibbadbmlfaaW.PrintWords Go.Proofs.YtofmibbadbmlfaaW.PrintLast Go.Proofs.YtofmibbadbmlfaaW.PrintMore
attribute [local go_sem] max2_int min2_int max_two min_two max_three min_three max_four min_four   -- for this text's walks alone
set_option linter.unusedVariables false
set_option linter.unusedSimpArgs false



def errW : Option Int → Value
  | none => .nilIface
  | some c => .iface 0 (.int .i64 c)
theorem errW_none : errW none = .nilIface := rfl
theorem errW_some (c : Int) : errW (some c) = .iface 0 (.int .i64 c) := rfl

theorem info2 : (Try.prog.info? 2).map (fun i => (i.zero, i.size, i.bytes)) = some (some (.int .i64 0), 1, 8) := by kernel_rfl
-- the values' own types

end Go.Proofs.Ytofmibbadbmlfaa.QFnExactSecondsOf
