-- Written for this claim by this session's own driver (wip/xprint.py, wip/xrow.py).
import Derived.Test.YtmajbehafgajmaaQFnExactMapPagesx
import Derived.Test.YtmajbehafgajmaaOp
namespace Go.Proofs.Ytmajbehafgajmaa.QFnExactMapPages
open Go.RowKit Go.Proofs.YtmajbehafgajmaaW.PrintWords Go.Proofs.YtmajbehafgajmaaW.PrintLast Go.Proofs.Ytmajbehafgajmaa.Op
def Q126 (x : S126) : Prop := (Lit.int .i64 x.f0).wf = true ∧ (Lit.int .i64 x.f1).wf = true ∧ (Lit.int .i64 x.f2).wf = true ∧ True
theorem op126 : Opens Try.prog k126 Q126 126 := by
  have h := opens_struct (P := Try.prog) (t := 126) Try.underlying126 (β := S126) (fun x => (x.f0, x.f1, x.f2, x.f3)) (fun p => ⟨p.1, p.2.1, p.2.2.1, p.2.2.2⟩) (fun _ => rfl) (ts := [2, 2, 2, 4]) rfl (by kernel_rfl) (by kernel_rfl) (opensF_cons (opens_int Try.underlying2 (by kernel_rfl) : Opens Try.prog (Kd.int .i64) (fun n => (Lit.int .i64 n).wf = true) 2) (opensF_cons (opens_int Try.underlying2 (by kernel_rfl) : Opens Try.prog (Kd.int .i64) (fun n => (Lit.int .i64 n).wf = true) 2) (opensF_cons (opens_int Try.underlying2 (by kernel_rfl) : Opens Try.prog (Kd.int .i64) (fun n => (Lit.int .i64 n).wf = true) 2) (opensF_one (opens_bool Try.underlying4 (by kernel_rfl) : Opens Try.prog Kd.bool (fun _ => True) 4)))))
  exact h

/-- What is left to prove of the law. -/
def laws_FnExactMapPages.Pure : Prop := ∀ (a0 : ByteArray) (a1 : Int) (l2 : List (S126)) (l3 : List Int), a0.size ≤ 9223372036854775807 → (Lit.int .i64 a1).wf = true → (l2.length ≤ 9223372036854775807 ∧ ∀ x_ : S126, x_ ∈ l2 → Q126 x_) → (l3.length ≤ 9223372036854775807 ∧ ∀ x_ : Int, x_ ∈ l3 → (Lit.int .i64 x_).wf = true) → ∃ k, laws_FnExactMapPages.f k a0 a1 l2 l3 = some true
end Go.Proofs.Ytmajbehafgajmaa.QFnExactMapPages
