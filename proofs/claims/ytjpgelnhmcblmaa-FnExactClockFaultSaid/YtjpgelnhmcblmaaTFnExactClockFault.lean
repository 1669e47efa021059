-- Written for this claim by this session's own driver (wip/xprint.py, wip/xrow.py).
import Derived.Test.YtjpgelnhmcblmaaQFnExactClockFaultx
import Derived.Test.YtjpgelnhmcblmaaOp
namespace Go.Proofs.Ytjpgelnhmcblmaa.QFnExactClockFault
open Go.RowKit Go.Proofs.YtjpgelnhmcblmaaW.PrintWords Go.Proofs.YtjpgelnhmcblmaaW.PrintLast Go.Proofs.Ytjpgelnhmcblmaa.Op
def Q168 (x : S168) : Prop := (Lit.int .i64 x.f0).wf = true ∧ (Lit.int .i64 x.f1).wf = true ∧ (Lit.int .i64 x.f2).wf = true
theorem op168 : Opens Try.prog k168 Q168 168 := by
  have h := opens_struct (P := Try.prog) (t := 168) Try.underlying168 (β := S168) (fun x => (x.f0, x.f1, x.f2)) (fun p => ⟨p.1, p.2.1, p.2.2⟩) (fun _ => rfl) (ts := [2, 2, 2]) rfl (by kernel_rfl) (by kernel_rfl) (opensF_cons (opens_int Try.underlying2 (by kernel_rfl) : Opens Try.prog (Kd.int .i64) (fun n => (Lit.int .i64 n).wf = true) 2) (opensF_cons (opens_int Try.underlying2 (by kernel_rfl) : Opens Try.prog (Kd.int .i64) (fun n => (Lit.int .i64 n).wf = true) 2) (opensF_one (opens_int Try.underlying2 (by kernel_rfl) : Opens Try.prog (Kd.int .i64) (fun n => (Lit.int .i64 n).wf = true) 2))))
  exact h

/-- What is left to prove of the law. -/
def laws_FnExactClockFault.Pure : Prop := ∀ (a0_0 : Int) (a0_1 : Int) (a0_2 : Int) (a0_3 : Int) (a0_4 : Int) (a0_5 : Bool) (l0_6 : List (S168)), (Lit.int .i64 a0_0).wf = true → (Lit.int .i64 a0_1).wf = true → (Lit.int .i64 a0_2).wf = true → (Lit.int .i64 a0_3).wf = true → (Lit.int .i64 a0_4).wf = true → True → (l0_6.length ≤ 9223372036854775807 ∧ ∀ x_ : S168, x_ ∈ l0_6 → Q168 x_) → ∃ k, laws_FnExactClockFault.f k a0_0 a0_1 a0_2 a0_3 a0_4 a0_5 l0_6 = some true
end Go.Proofs.Ytjpgelnhmcblmaa.QFnExactClockFault
