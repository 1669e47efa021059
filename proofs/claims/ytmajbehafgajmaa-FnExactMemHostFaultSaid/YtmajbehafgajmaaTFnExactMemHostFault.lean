-- Written for this claim by this session's own driver (wip/xprint.py, wip/xrow.py).
import Derived.Test.YtmajbehafgajmaaQFnExactMemHostFaultx
import Derived.Test.YtmajbehafgajmaaOp
namespace Go.Proofs.Ytmajbehafgajmaa.QFnExactMemHostFault
open Go.RowKit Go.Proofs.YtmajbehafgajmaaW.PrintWords Go.Proofs.YtmajbehafgajmaaW.PrintLast Go.Proofs.Ytmajbehafgajmaa.Op
def Q218 (x : S218) : Prop := (Lit.int .i64 x.f0).wf = true ∧ (Lit.int .i64 x.f1).wf = true ∧ (Lit.int .i64 x.f2).wf = true
theorem op218 : Opens Try.prog k218 Q218 218 := by
  have h := opens_struct (P := Try.prog) (t := 218) Try.underlying218 (β := S218) (fun x => (x.f0, x.f1, x.f2)) (fun p => ⟨p.1, p.2.1, p.2.2⟩) (fun _ => rfl) (ts := [2, 2, 2]) rfl (by kernel_rfl) (by kernel_rfl) (opensF_cons (opens_int Try.underlying2 (by kernel_rfl) : Opens Try.prog (Kd.int .i64) (fun n => (Lit.int .i64 n).wf = true) 2) (opensF_cons (opens_int Try.underlying2 (by kernel_rfl) : Opens Try.prog (Kd.int .i64) (fun n => (Lit.int .i64 n).wf = true) 2) (opensF_one (opens_int Try.underlying2 (by kernel_rfl) : Opens Try.prog (Kd.int .i64) (fun n => (Lit.int .i64 n).wf = true) 2))))
  exact h

def Q155 (x : S155) : Prop := (x.f0.length ≤ 9223372036854775807 ∧ ∀ x_ : S218, x_ ∈ x.f0 → Q218 x_) ∧ x.f1.size ≤ 9223372036854775807 ∧ (x.f2.length ≤ 9223372036854775807 ∧ ∀ x_ : Int, x_ ∈ x.f2 → (Lit.int .i64 x_).wf = true)
theorem op155 : Opens Try.prog k155 Q155 155 := by
  have h := opens_struct (P := Try.prog) (t := 155) Try.underlying155 (β := S155) (fun x => (x.f0, x.f1, x.f2)) (fun p => ⟨p.1, p.2.1, p.2.2⟩) (fun _ => rfl) (ts := [153, 9, 50]) rfl (by kernel_rfl) (by kernel_rfl) (opensF_cons (opens_slice Try.underlying153 (by kernel_rfl) op218) (opensF_cons (opens_string Try.underlying9 (by kernel_rfl) : Opens Try.prog Kd.string (fun s => s.size ≤ 9223372036854775807) 9) (opensF_one (opens_slice Try.underlying50 (by kernel_rfl) (opens_int Try.underlying2 (by kernel_rfl) : Opens Try.prog (Kd.int .i64) (fun n => (Lit.int .i64 n).wf = true) 2)))))
  exact h

/-- What is left to prove of the law. -/
def laws_FnExactMemHostFault.Pure : Prop := ∀ (l0_0 : List ByteArray) (l0_1 : List ByteArray) (l0_2 : List (S155)) (a0_3 : Int), (l0_0.length ≤ 9223372036854775807 ∧ ∀ x_ : ByteArray, x_ ∈ l0_0 → x_.size ≤ 9223372036854775807) → (l0_1.length ≤ 9223372036854775807 ∧ ∀ x_ : ByteArray, x_ ∈ l0_1 → x_.size ≤ 9223372036854775807) → (l0_2.length ≤ 9223372036854775807 ∧ ∀ x_ : S155, x_ ∈ l0_2 → Q155 x_) → (Lit.int .i64 a0_3).wf = true → ∃ k, laws_FnExactMemHostFault.f k l0_0 l0_1 l0_2 a0_3 = some true
end Go.Proofs.Ytmajbehafgajmaa.QFnExactMemHostFault
