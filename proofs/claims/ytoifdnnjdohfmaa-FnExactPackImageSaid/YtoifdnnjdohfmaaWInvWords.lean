-- Words of the kit's print, cut by this session's own program (wip/shake.py) to what this claim uses.
import Derived.Test.YtoifdnnjdohfmaaWInv
import Derived.Test.YtoifdnnjdohfmaaWFootNe
namespace Go.Proofs.YtoifdnnjdohfmaaW.PrintWords
open Go.RowKit
end Go.Proofs.YtoifdnnjdohfmaaW.PrintWords
namespace Go.Proofs.YtoifdnnjdohfmaaW.PrintLast
section
variable {ops : Array Oper} {a : Act} {o og : Oper} {g : Nat} {t : Tmp} {u : Bool}
end
end Go.Proofs.YtoifdnnjdohfmaaW.PrintLast
