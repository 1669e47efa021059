-- Written for this claim by this session's own driver (wip/xprint.py, wip/xrow.py).
import Derived.Test.YtmajbehafgajmaaQFnExactRaiseLinex
import Derived.Test.YtmajbehafgajmaaOp
namespace Go.Proofs.Ytmajbehafgajmaa.QFnExactRaiseLine
open Go.RowKit Go.Proofs.YtmajbehafgajmaaW.PrintWords Go.Proofs.YtmajbehafgajmaaW.PrintLast Go.Proofs.Ytmajbehafgajmaa.Op
def Q187 (x : S187) : Prop := (Lit.int .i64 x.f0).wf = true ∧ (Lit.int .i64 x.f1).wf = true
theorem op187 : Opens Try.prog k187 Q187 187 := by
  have h := opens_struct (P := Try.prog) (t := 187) Try.underlying187 (β := S187) (fun x => (x.f0, x.f1)) (fun p => ⟨p.1, p.2⟩) (fun _ => rfl) (ts := [2, 2]) rfl (by kernel_rfl) (by kernel_rfl) (opensF_cons (opens_int Try.underlying2 (by kernel_rfl) : Opens Try.prog (Kd.int .i64) (fun n => (Lit.int .i64 n).wf = true) 2) (opensF_one (opens_int Try.underlying2 (by kernel_rfl) : Opens Try.prog (Kd.int .i64) (fun n => (Lit.int .i64 n).wf = true) 2)))
  exact h

/-- What is left to prove of the law. -/
def laws_FnExactRaiseLine.Pure : Prop := ∀ (a0_0 : Int) (l0_1 : List Int) (a0_2 : Int) (l0_3 : List Int) (l0_4 : List Int) (a0_5 : ByteArray) (a0_6 : Int) (a0_7 : Int) (a0_8 : Int) (l0_9 : List (S187)) (l0_10 : List (S187)) (a0_11 : Int) (a1 : Int), (Lit.int .i64 a0_0).wf = true → (l0_1.length ≤ 9223372036854775807 ∧ ∀ x_ : Int, x_ ∈ l0_1 → (Lit.int .i64 x_).wf = true) → (Lit.int .i64 a0_2).wf = true → (l0_3.length ≤ 9223372036854775807 ∧ ∀ x_ : Int, x_ ∈ l0_3 → (Lit.int .i64 x_).wf = true) → (l0_4.length ≤ 9223372036854775807 ∧ ∀ x_ : Int, x_ ∈ l0_4 → (Lit.int .i64 x_).wf = true) → a0_5.size ≤ 9223372036854775807 → (Lit.int .i64 a0_6).wf = true → (Lit.int .i64 a0_7).wf = true → (Lit.int .i64 a0_8).wf = true → (l0_9.length ≤ 9223372036854775807 ∧ ∀ x_ : S187, x_ ∈ l0_9 → Q187 x_) → (l0_10.length ≤ 9223372036854775807 ∧ ∀ x_ : S187, x_ ∈ l0_10 → Q187 x_) → (Lit.int .i64 a0_11).wf = true → (Lit.int .i64 a1).wf = true → ∃ k, laws_FnExactRaiseLine.f k a0_0 l0_1 a0_2 l0_3 l0_4 a0_5 a0_6 a0_7 a0_8 l0_9 l0_10 a0_11 a1 = some true
end Go.Proofs.Ytmajbehafgajmaa.QFnExactRaiseLine
