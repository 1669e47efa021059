-- Written for this claim by this session's own driver (wip/xprint.py, wip/xrow.py).
import Derived.Test.YtjpgelnhmcblmaaQFnExactVolumeFaultx
import Derived.Test.YtjpgelnhmcblmaaOp
namespace Go.Proofs.Ytjpgelnhmcblmaa.QFnExactVolumeFault
open Go.RowKit Go.Proofs.YtjpgelnhmcblmaaW.PrintWords Go.Proofs.YtjpgelnhmcblmaaW.PrintLast Go.Proofs.Ytjpgelnhmcblmaa.Op
def Q163 (x : S163) : Prop := (Lit.int .i64 x.f0).wf = true ∧ x.f1.size ≤ 9223372036854775807 ∧ x.f2.size ≤ 9223372036854775807
theorem op163 : Opens Try.prog k163 Q163 163 := by
  have h := opens_struct (P := Try.prog) (t := 163) Try.underlying163 (β := S163) (fun x => (x.f0, x.f1, x.f2)) (fun p => ⟨p.1, p.2.1, p.2.2⟩) (fun _ => rfl) (ts := [2, 9, 9]) rfl (by kernel_rfl) (by kernel_rfl) (opensF_cons (opens_int Try.underlying2 (by kernel_rfl) : Opens Try.prog (Kd.int .i64) (fun n => (Lit.int .i64 n).wf = true) 2) (opensF_cons (opens_string Try.underlying9 (by kernel_rfl) : Opens Try.prog Kd.string (fun s => s.size ≤ 9223372036854775807) 9) (opensF_one (opens_string Try.underlying9 (by kernel_rfl) : Opens Try.prog Kd.string (fun s => s.size ≤ 9223372036854775807) 9))))
  exact h

/-- What is left to prove of the law. -/
def laws_FnExactVolumeFault.Pure : Prop := ∀ (l0_0 : List (S163)) (a0_1 : ByteArray), (l0_0.length ≤ 9223372036854775807 ∧ ∀ x_ : S163, x_ ∈ l0_0 → Q163 x_) → a0_1.size ≤ 9223372036854775807 → ∃ k, laws_FnExactVolumeFault.f k l0_0 a0_1 = some true
end Go.Proofs.Ytjpgelnhmcblmaa.QFnExactVolumeFault
