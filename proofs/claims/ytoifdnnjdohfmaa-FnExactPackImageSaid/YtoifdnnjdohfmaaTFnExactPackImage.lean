-- Written for this claim by this session's own driver (wip/xprint.py, wip/xrow.py).
import Derived.Test.YtoifdnnjdohfmaaQFnExactPackImagex
import Derived.Test.YtoifdnnjdohfmaaOp
namespace Go.Proofs.Ytoifdnnjdohfmaa.QFnExactPackImage
open Go.RowKit Go.Proofs.YtoifdnnjdohfmaaW.PrintWords Go.Proofs.YtoifdnnjdohfmaaW.PrintLast Go.Proofs.Ytoifdnnjdohfmaa.Op
def Q71 (x : S71) : Prop := x.f0.size ≤ 9223372036854775807 ∧ (x.f1.length ≤ 9223372036854775807 ∧ ∀ x_ : Int, x_ ∈ x.f1 → (Lit.int .i64 x_).wf = true)
theorem op71 : Opens Try.prog k71 Q71 71 := by
  have h := opens_struct (P := Try.prog) (t := 71) Try.underlying71 (β := S71) (fun x => (x.f0, x.f1)) (fun p => ⟨p.1, p.2⟩) (fun _ => rfl) (ts := [9, 22]) rfl (by kernel_rfl) (by kernel_rfl) (opensF_cons (opens_string Try.underlying9 (by kernel_rfl) : Opens Try.prog Kd.string (fun s => s.size ≤ 9223372036854775807) 9) (opensF_one (opens_slice Try.underlying22 (by kernel_rfl) (opens_int Try.underlying2 (by kernel_rfl) : Opens Try.prog (Kd.int .i64) (fun n => (Lit.int .i64 n).wf = true) 2))))
  exact h

/-- What is left to prove of the law. -/
def laws_FnExactPackImage.Pure : Prop := ∀ (a0_0 : ByteArray) (a0_1 : ByteArray) (l0_2 : List Int) (l0_3 : List ByteArray) (l0_4 : List (S71)), a0_0.size ≤ 9223372036854775807 → a0_1.size ≤ 9223372036854775807 → (l0_2.length ≤ 9223372036854775807 ∧ ∀ x_ : Int, x_ ∈ l0_2 → (Lit.int .i64 x_).wf = true) → (l0_3.length ≤ 9223372036854775807 ∧ ∀ x_ : ByteArray, x_ ∈ l0_3 → x_.size ≤ 9223372036854775807) → (l0_4.length ≤ 9223372036854775807 ∧ ∀ x_ : S71, x_ ∈ l0_4 → Q71 x_) → ∃ k, laws_FnExactPackImage.f k a0_0 a0_1 l0_2 l0_3 l0_4 = some true
end Go.Proofs.Ytoifdnnjdohfmaa.QFnExactPackImage
