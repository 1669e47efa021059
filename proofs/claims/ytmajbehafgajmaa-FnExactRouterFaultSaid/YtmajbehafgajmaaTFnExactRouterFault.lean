-- Written for this claim by this session's own driver (wip/xprint.py, wip/xrow.py).
import Derived.Test.YtmajbehafgajmaaQFnExactRouterFaultx
import Derived.Test.YtmajbehafgajmaaOp
namespace Go.Proofs.Ytmajbehafgajmaa.QFnExactRouterFault
open Go.RowKit Go.Proofs.YtmajbehafgajmaaW.PrintWords Go.Proofs.YtmajbehafgajmaaW.PrintLast Go.Proofs.Ytmajbehafgajmaa.Op
def Q169 (x : S169) : Prop := (Lit.int .i64 x.f0).wf = true ∧ (Lit.int .i64 x.f1).wf = true ∧ (Lit.int .i64 x.f2).wf = true ∧ (Lit.int .i64 x.f3).wf = true
theorem op169 : Opens Try.prog k169 Q169 169 := by
  have h := opens_struct (P := Try.prog) (t := 169) Try.underlying169 (β := S169) (fun x => (x.f0, x.f1, x.f2, x.f3)) (fun p => ⟨p.1, p.2.1, p.2.2.1, p.2.2.2⟩) (fun _ => rfl) (ts := [2, 2, 2, 2]) rfl (by kernel_rfl) (by kernel_rfl) (opensF_cons (opens_int Try.underlying2 (by kernel_rfl) : Opens Try.prog (Kd.int .i64) (fun n => (Lit.int .i64 n).wf = true) 2) (opensF_cons (opens_int Try.underlying2 (by kernel_rfl) : Opens Try.prog (Kd.int .i64) (fun n => (Lit.int .i64 n).wf = true) 2) (opensF_cons (opens_int Try.underlying2 (by kernel_rfl) : Opens Try.prog (Kd.int .i64) (fun n => (Lit.int .i64 n).wf = true) 2) (opensF_one (opens_int Try.underlying2 (by kernel_rfl) : Opens Try.prog (Kd.int .i64) (fun n => (Lit.int .i64 n).wf = true) 2)))))
  exact h

def Q164 (x : S164) : Prop := (Lit.int .i64 x.f0).wf = true ∧ (x.f1.length ≤ 9223372036854775807 ∧ ∀ x_ : Int, x_ ∈ x.f1 → (Lit.int .i64 x_).wf = true) ∧ (x.f2.length ≤ 9223372036854775807 ∧ ∀ x_ : Int, x_ ∈ x.f2 → (Lit.int .i64 x_).wf = true)
theorem op164 : Opens Try.prog k164 Q164 164 := by
  have h := opens_struct (P := Try.prog) (t := 164) Try.underlying164 (β := S164) (fun x => (x.f0, x.f1, x.f2)) (fun p => ⟨p.1, p.2.1, p.2.2⟩) (fun _ => rfl) (ts := [2, 50, 50]) rfl (by kernel_rfl) (by kernel_rfl) (opensF_cons (opens_int Try.underlying2 (by kernel_rfl) : Opens Try.prog (Kd.int .i64) (fun n => (Lit.int .i64 n).wf = true) 2) (opensF_cons (opens_slice Try.underlying50 (by kernel_rfl) (opens_int Try.underlying2 (by kernel_rfl) : Opens Try.prog (Kd.int .i64) (fun n => (Lit.int .i64 n).wf = true) 2)) (opensF_one (opens_slice Try.underlying50 (by kernel_rfl) (opens_int Try.underlying2 (by kernel_rfl) : Opens Try.prog (Kd.int .i64) (fun n => (Lit.int .i64 n).wf = true) 2)))))
  exact h

def Q166 (x : S166) : Prop := (Lit.int .i64 x.f0).wf = true ∧ (Lit.int .i64 x.f1).wf = true ∧ True ∧ True ∧ True
theorem op166 : Opens Try.prog k166 Q166 166 := by
  have h := opens_struct (P := Try.prog) (t := 166) Try.underlying166 (β := S166) (fun x => (x.f0, x.f1, x.f2, x.f3, x.f4)) (fun p => ⟨p.1, p.2.1, p.2.2.1, p.2.2.2.1, p.2.2.2.2⟩) (fun _ => rfl) (ts := [2, 2, 4, 4, 4]) rfl (by kernel_rfl) (by kernel_rfl) (opensF_cons (opens_int Try.underlying2 (by kernel_rfl) : Opens Try.prog (Kd.int .i64) (fun n => (Lit.int .i64 n).wf = true) 2) (opensF_cons (opens_int Try.underlying2 (by kernel_rfl) : Opens Try.prog (Kd.int .i64) (fun n => (Lit.int .i64 n).wf = true) 2) (opensF_cons (opens_bool Try.underlying4 (by kernel_rfl) : Opens Try.prog Kd.bool (fun _ => True) 4) (opensF_cons (opens_bool Try.underlying4 (by kernel_rfl) : Opens Try.prog Kd.bool (fun _ => True) 4) (opensF_one (opens_bool Try.underlying4 (by kernel_rfl) : Opens Try.prog Kd.bool (fun _ => True) 4))))))
  exact h

/-- What is left to prove of the law. -/
def laws_FnExactRouterFault.Pure : Prop := ∀ (l0_0 : List (S166)) (l0_1 : List (S164)) (l0_2 : List (S169)), (l0_0.length ≤ 9223372036854775807 ∧ ∀ x_ : S166, x_ ∈ l0_0 → Q166 x_) → (l0_1.length ≤ 9223372036854775807 ∧ ∀ x_ : S164, x_ ∈ l0_1 → Q164 x_) → (l0_2.length ≤ 9223372036854775807 ∧ ∀ x_ : S169, x_ ∈ l0_2 → Q169 x_) → ∃ k, laws_FnExactRouterFault.f k l0_0 l0_1 l0_2 = some true
end Go.Proofs.Ytmajbehafgajmaa.QFnExactRouterFault
