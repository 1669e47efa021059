-- Written for this claim by this session's own driver (wip/xprint.py, wip/xrow.py).
import Derived.Test.YtjpgelnhmcblmaaQFnExactSpreadBufsx
import Derived.Test.YtjpgelnhmcblmaaOp
namespace Go.Proofs.Ytjpgelnhmcblmaa.QFnExactSpreadBufs
open Go.RowKit Go.Proofs.YtjpgelnhmcblmaaW.PrintWords Go.Proofs.YtjpgelnhmcblmaaW.PrintLast Go.Proofs.Ytjpgelnhmcblmaa.Op
def Q126 (x : S126) : Prop := (Lit.int .i64 x.f0).wf = true ∧ (Lit.int .i64 x.f1).wf = true ∧ True
theorem op126 : Opens Try.prog k126 Q126 126 := by
  have h := opens_struct (P := Try.prog) (t := 126) Try.underlying126 (β := S126) (fun x => (x.f0, x.f1, x.f2)) (fun p => ⟨p.1, p.2.1, p.2.2⟩) (fun _ => rfl) (ts := [2, 2, 4]) rfl (by kernel_rfl) (by kernel_rfl) (opensF_cons (opens_int Try.underlying2 (by kernel_rfl) : Opens Try.prog (Kd.int .i64) (fun n => (Lit.int .i64 n).wf = true) 2) (opensF_cons (opens_int Try.underlying2 (by kernel_rfl) : Opens Try.prog (Kd.int .i64) (fun n => (Lit.int .i64 n).wf = true) 2) (opensF_one (opens_bool Try.underlying4 (by kernel_rfl) : Opens Try.prog Kd.bool (fun _ => True) 4))))
  exact h

/-- What is left to prove of the law. -/
def laws_FnExactSpreadBufs.Pure : Prop := ∀ (a0 : ByteArray) (l1 : List (S126)) (a2 : ByteArray), a0.size ≤ 9223372036854775807 → (l1.length ≤ 9223372036854775807 ∧ ∀ x_ : S126, x_ ∈ l1 → Q126 x_) → a2.size ≤ 9223372036854775807 → ∃ k, laws_FnExactSpreadBufs.f k a0 l1 a2 = some true
end Go.Proofs.Ytjpgelnhmcblmaa.QFnExactSpreadBufs
