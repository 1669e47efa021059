-- Written for this claim by this session's own driver (wip/xprint.py, wip/xrow.py).
import Derived.Test.YtjpgelnhmcblmaaQFnExactMachineFaultx
import Derived.Test.YtjpgelnhmcblmaaOp
namespace Go.Proofs.Ytjpgelnhmcblmaa.QFnExactMachineFault
open Go.RowKit Go.Proofs.YtjpgelnhmcblmaaW.PrintWords Go.Proofs.YtjpgelnhmcblmaaW.PrintLast Go.Proofs.Ytjpgelnhmcblmaa.Op
def Q186 (x : S186) : Prop := (Lit.int .i64 x.f0).wf = true ∧ (Lit.int .i64 x.f1).wf = true
theorem op186 : Opens Try.prog k186 Q186 186 := by
  have h := opens_struct (P := Try.prog) (t := 186) Try.underlying186 (β := S186) (fun x => (x.f0, x.f1)) (fun p => ⟨p.1, p.2⟩) (fun _ => rfl) (ts := [2, 2]) rfl (by kernel_rfl) (by kernel_rfl) (opensF_cons (opens_int Try.underlying2 (by kernel_rfl) : Opens Try.prog (Kd.int .i64) (fun n => (Lit.int .i64 n).wf = true) 2) (opensF_one (opens_int Try.underlying2 (by kernel_rfl) : Opens Try.prog (Kd.int .i64) (fun n => (Lit.int .i64 n).wf = true) 2)))
  exact h

/-- What is left to prove of the law. -/
def laws_FnExactMachineFault.Pure : Prop := ∀ (a0_0 : Int) (l0_1 : List Int) (a0_2 : Int) (l0_3 : List Int) (l0_4 : List Int) (a0_5 : ByteArray) (a0_6 : Int) (a0_7 : Int) (a0_8 : Int) (l0_9 : List (S186)) (l0_10 : List (S186)) (a0_11 : Int), (Lit.int .i64 a0_0).wf = true → (l0_1.length ≤ 9223372036854775807 ∧ ∀ x_ : Int, x_ ∈ l0_1 → (Lit.int .i64 x_).wf = true) → (Lit.int .i64 a0_2).wf = true → (l0_3.length ≤ 9223372036854775807 ∧ ∀ x_ : Int, x_ ∈ l0_3 → (Lit.int .i64 x_).wf = true) → (l0_4.length ≤ 9223372036854775807 ∧ ∀ x_ : Int, x_ ∈ l0_4 → (Lit.int .i64 x_).wf = true) → a0_5.size ≤ 9223372036854775807 → (Lit.int .i64 a0_6).wf = true → (Lit.int .i64 a0_7).wf = true → (Lit.int .i64 a0_8).wf = true → (l0_9.length ≤ 9223372036854775807 ∧ ∀ x_ : S186, x_ ∈ l0_9 → Q186 x_) → (l0_10.length ≤ 9223372036854775807 ∧ ∀ x_ : S186, x_ ∈ l0_10 → Q186 x_) → (Lit.int .i64 a0_11).wf = true → ∃ k, laws_FnExactMachineFault.f k a0_0 l0_1 a0_2 l0_3 l0_4 a0_5 a0_6 a0_7 a0_8 l0_9 l0_10 a0_11 = some true
end Go.Proofs.Ytjpgelnhmcblmaa.QFnExactMachineFault
