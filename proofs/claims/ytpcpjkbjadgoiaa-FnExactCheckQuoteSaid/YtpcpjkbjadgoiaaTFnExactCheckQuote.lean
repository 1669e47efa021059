-- Written for this claim by this session's own driver (wip/xprint.py, wip/xrow.py).
import Derived.Test.YtpcpjkbjadgoiaaQFnExactCheckQuotex
import Derived.Test.YtpcpjkbjadgoiaaOp
namespace Go.Proofs.Ytpcpjkbjadgoiaa.QFnExactCheckQuote
open Go.RowKit Go.Proofs.YtpcpjkbjadgoiaaW.PrintWords Go.Proofs.YtpcpjkbjadgoiaaW.PrintLast Go.Proofs.Ytpcpjkbjadgoiaa.Op
/-- What is left to prove of the law. -/
def laws_FnExactCheckQuote.Pure : Prop := ∀ (a0 : Int) (a1 : ByteArray) (l2 : List Int) (a3_0 : Int) (a3_1 : Int), (Lit.int .i64 a0).wf = true → a1.size ≤ 9223372036854775807 → (l2.length ≤ 9223372036854775807 ∧ ∀ x_ : Int, x_ ∈ l2 → (Lit.int .i64 x_).wf = true) → (Lit.int .i64 a3_0).wf = true → (Lit.int .i64 a3_1).wf = true → ∃ k, laws_FnExactCheckQuote.f k a0 a1 l2 a3_0 a3_1 = some true
end Go.Proofs.Ytpcpjkbjadgoiaa.QFnExactCheckQuote
