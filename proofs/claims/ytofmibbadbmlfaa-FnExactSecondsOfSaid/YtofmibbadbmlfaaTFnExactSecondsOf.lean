-- Written for this claim by this session's own driver (wip/xprint.py, wip/xrow.py).
import Derived.Test.YtofmibbadbmlfaaQFnExactSecondsOfx
import Derived.Test.YtofmibbadbmlfaaOp
namespace Go.Proofs.Ytofmibbadbmlfaa.QFnExactSecondsOf
open Go.RowKit Go.Proofs.YtofmibbadbmlfaaW.PrintWords Go.Proofs.YtofmibbadbmlfaaW.PrintLast Go.Proofs.Ytofmibbadbmlfaa.Op
/-- What is left to prove of the law. -/
def laws_FnExactSecondsOf.Pure : Prop := ∀ (a0_0 : Int) (a0_1 : Int) (a0_2 : Int) (a0_3 : Int), (Lit.int .i64 a0_0).wf = true → (Lit.int .i64 a0_1).wf = true → (Lit.int .i64 a0_2).wf = true → (Lit.int .i64 a0_3).wf = true → ∃ k, laws_FnExactSecondsOf.f k a0_0 a0_1 a0_2 a0_3 = some true
end Go.Proofs.Ytofmibbadbmlfaa.QFnExactSecondsOf
