-- Written for this claim by this session's own driver (wip/xprint.py, wip/xrow.py).
import Derived.Test.YtmajbehafgajmaaQFnExactChainFaultx
import Derived.Test.YtmajbehafgajmaaOp
namespace Go.Proofs.Ytmajbehafgajmaa.QFnExactChainFault
open Go.RowKit Go.Proofs.YtmajbehafgajmaaW.PrintWords Go.Proofs.YtmajbehafgajmaaW.PrintLast Go.Proofs.Ytmajbehafgajmaa.Op
def Q213 (x : S213) : Prop := x.f0.size ≤ 9223372036854775807 ∧ (x.f1.length ≤ 9223372036854775807 ∧ ∀ x_ : Int, x_ ∈ x.f1 → (Lit.int .i64 x_).wf = true)
theorem op213 : Opens Try.prog k213 Q213 213 := by
  have h := opens_struct (P := Try.prog) (t := 213) Try.underlying213 (β := S213) (fun x => (x.f0, x.f1)) (fun p => ⟨p.1, p.2⟩) (fun _ => rfl) (ts := [9, 50]) rfl (by kernel_rfl) (by kernel_rfl) (opensF_cons (opens_string Try.underlying9 (by kernel_rfl) : Opens Try.prog Kd.string (fun s => s.size ≤ 9223372036854775807) 9) (opensF_one (opens_slice Try.underlying50 (by kernel_rfl) (opens_int Try.underlying2 (by kernel_rfl) : Opens Try.prog (Kd.int .i64) (fun n => (Lit.int .i64 n).wf = true) 2))))
  exact h

def Q144 (x : S144) : Prop := x.f0.size ≤ 9223372036854775807 ∧ x.f1.size ≤ 9223372036854775807 ∧ (x.f2.length ≤ 9223372036854775807 ∧ ∀ x_ : Int, x_ ∈ x.f2 → (Lit.int .i64 x_).wf = true) ∧ (x.f3.length ≤ 9223372036854775807 ∧ ∀ x_ : ByteArray, x_ ∈ x.f3 → x_.size ≤ 9223372036854775807) ∧ (x.f4.length ≤ 9223372036854775807 ∧ ∀ x_ : S213, x_ ∈ x.f4 → Q213 x_)
theorem op144 : Opens Try.prog k144 Q144 144 := by
  have h := opens_struct (P := Try.prog) (t := 144) Try.underlying144 (β := S144) (fun x => (x.f0, x.f1, x.f2, x.f3, x.f4)) (fun p => ⟨p.1, p.2.1, p.2.2.1, p.2.2.2.1, p.2.2.2.2⟩) (fun _ => rfl) (ts := [9, 9, 50, 22, 142]) rfl (by kernel_rfl) (by kernel_rfl) (opensF_cons (opens_string Try.underlying9 (by kernel_rfl) : Opens Try.prog Kd.string (fun s => s.size ≤ 9223372036854775807) 9) (opensF_cons (opens_string Try.underlying9 (by kernel_rfl) : Opens Try.prog Kd.string (fun s => s.size ≤ 9223372036854775807) 9) (opensF_cons (opens_slice Try.underlying50 (by kernel_rfl) (opens_int Try.underlying2 (by kernel_rfl) : Opens Try.prog (Kd.int .i64) (fun n => (Lit.int .i64 n).wf = true) 2)) (opensF_cons (opens_slice Try.underlying22 (by kernel_rfl) (opens_string Try.underlying9 (by kernel_rfl) : Opens Try.prog Kd.string (fun s => s.size ≤ 9223372036854775807) 9)) (opensF_one (opens_slice Try.underlying142 (by kernel_rfl) op213))))))
  exact h

/-- What is left to prove of the law. -/
def laws_FnExactChainFault.Pure : Prop := ∀ (l0 : List (S144)), (l0.length ≤ 9223372036854775807 ∧ ∀ x_ : S144, x_ ∈ l0 → Q144 x_) → ∃ k, laws_FnExactChainFault.f k l0 = some true
end Go.Proofs.Ytmajbehafgajmaa.QFnExactChainFault
