-- Written for this claim by this session's own driver (wip/xprint.py, wip/xrow.py).
import Derived.Test.YtpcpjkbjadgoiaaQFnExactMeasurex
import Derived.Test.YtpcpjkbjadgoiaaOp
namespace Go.Proofs.Ytpcpjkbjadgoiaa.QFnExactMeasure
open Go.RowKit Go.Proofs.YtpcpjkbjadgoiaaW.PrintWords Go.Proofs.YtpcpjkbjadgoiaaW.PrintLast Go.Proofs.Ytpcpjkbjadgoiaa.Op
def Q61 (x : S61) : Prop := (Lit.int .i64 x.f0).wf = true ∧ x.f1.size ≤ 9223372036854775807
theorem op61 : Opens Try.prog k61 Q61 61 := by
  have h := opens_struct (P := Try.prog) (t := 61) Try.underlying61 (β := S61) (fun x => (x.f0, x.f1)) (fun p => ⟨p.1, p.2⟩) (fun _ => rfl) (ts := [2, 9]) rfl (by kernel_rfl) (by kernel_rfl) (opensF_cons (opens_int Try.underlying2 (by kernel_rfl) : Opens Try.prog (Kd.int .i64) (fun n => (Lit.int .i64 n).wf = true) 2) (opensF_one (opens_string Try.underlying9 (by kernel_rfl) : Opens Try.prog Kd.string (fun s => s.size ≤ 9223372036854775807) 9)))
  exact h

/-- What is left to prove of the law. -/
def laws_FnExactMeasure.Pure : Prop := ∀ (l0 : List Int) (l1 : List (S61)), (l0.length ≤ 9223372036854775807 ∧ ∀ x_ : Int, x_ ∈ l0 → (Lit.int .i64 x_).wf = true) → (l1.length ≤ 9223372036854775807 ∧ ∀ x_ : S61, x_ ∈ l1 → Q61 x_) → ∃ k, laws_FnExactMeasure.f k l0 l1 = some true
end Go.Proofs.Ytpcpjkbjadgoiaa.QFnExactMeasure
