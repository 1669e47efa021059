-- Written for this claim by this session's own driver (wip/xprint.py, wip/xrow.py).
import Derived.Test.YtjpgelnhmcblmaaQFnExactTlbPutx
import Derived.Test.YtjpgelnhmcblmaaOp
namespace Go.Proofs.Ytjpgelnhmcblmaa.QFnExactTlbPut
open Go.RowKit Go.Proofs.YtjpgelnhmcblmaaW.PrintWords Go.Proofs.YtjpgelnhmcblmaaW.PrintLast Go.Proofs.Ytjpgelnhmcblmaa.Op
def Q97 (x : S97) : Prop := (Lit.int .i64 x.f0).wf = true ∧ (Lit.int .i64 x.f1).wf = true ∧ (Lit.int .i64 x.f2).wf = true ∧ (Lit.int .i64 x.f3).wf = true ∧ True
theorem op97 : Opens Try.prog k97 Q97 97 := by
  have h := opens_struct (P := Try.prog) (t := 97) Try.underlying97 (β := S97) (fun x => (x.f0, x.f1, x.f2, x.f3, x.f4)) (fun p => ⟨p.1, p.2.1, p.2.2.1, p.2.2.2.1, p.2.2.2.2⟩) (fun _ => rfl) (ts := [2, 2, 2, 2, 4]) rfl (by kernel_rfl) (by kernel_rfl) (opensF_cons (opens_int Try.underlying2 (by kernel_rfl) : Opens Try.prog (Kd.int .i64) (fun n => (Lit.int .i64 n).wf = true) 2) (opensF_cons (opens_int Try.underlying2 (by kernel_rfl) : Opens Try.prog (Kd.int .i64) (fun n => (Lit.int .i64 n).wf = true) 2) (opensF_cons (opens_int Try.underlying2 (by kernel_rfl) : Opens Try.prog (Kd.int .i64) (fun n => (Lit.int .i64 n).wf = true) 2) (opensF_cons (opens_int Try.underlying2 (by kernel_rfl) : Opens Try.prog (Kd.int .i64) (fun n => (Lit.int .i64 n).wf = true) 2) (opensF_one (opens_bool Try.underlying4 (by kernel_rfl) : Opens Try.prog Kd.bool (fun _ => True) 4))))))
  exact h

/-- What is left to prove of the law. -/
def laws_FnExactTlbPut.Pure : Prop := ∀ (l0_0 : List (S97)) (a0_1 : Int) (a1_0 : Int) (a1_1 : Int) (a1_2 : Int) (a1_3 : Int) (a1_4 : Bool), (l0_0.length ≤ 9223372036854775807 ∧ ∀ x_ : S97, x_ ∈ l0_0 → Q97 x_) → (Lit.int .i64 a0_1).wf = true → (Lit.int .i64 a1_0).wf = true → (Lit.int .i64 a1_1).wf = true → (Lit.int .i64 a1_2).wf = true → (Lit.int .i64 a1_3).wf = true → True → ∃ k, laws_FnExactTlbPut.f k l0_0 a0_1 a1_0 a1_1 a1_2 a1_3 a1_4 = some true
end Go.Proofs.Ytjpgelnhmcblmaa.QFnExactTlbPut
