-- Written for this claim by this session's own driver (wip/xprint.py, wip/xrow.py).
import Derived.Test.YtpcpjkbjadgoiaaRows
import Derived.Test.YtpcpjkbjadgoiaaQFnExactMeasurex
import Derived.Test.YtpcpjkbjadgoiaaTFnExactMeasure
import Derived.Test.YtpcpjkbjadgoiaaPureFnExactMeasure
import Derived.WalkKit
import Derived.ProofKit
import Derived.OpenShut
import Derived.ShutString
import Derived.ChangeOld
import Derived.Below
import Derived.SizedLaws
namespace Go.Proofs.Ytpcpjkbjadgoiaa.fnExactMeasure
open Go.ChangeShapes Go.WideShapes Go.ChangeAt Go.RowKit Go.Proofs.YtpcpjkbjadgoiaaW.PrintWords Go.Proofs.Ytpcpjkbjadgoiaa.Op Go.Proofs.Ytpcpjkbjadgoiaa.QFnExactMeasure
open Go.ChangeMaps (open_string shut_string)
set_option linter.unusedVariables false
theorem own : ownKnob Try.prog.godebug = none := by kernel_rfl
theorem laidOut : laidOutB Try.prog = true := by kernel_rfl
set_option maxRecDepth 100000 in
set_option maxHeartbeats 4000000 in
theorem lifted (os : Os) (started : os.Started) (H : Type) (enc : TypeId × Value → H) :
    ReturnsInHanded {} Try.checked os 5 .any (Rows.fnExactMeasureSpec.pre6 enc Try.prog Try.f5 Rows.fnExactMeasureRow.domain false) (Rows.fnExactMeasureSpec.post enc Try.prog Try.f5 false true false false) := by
  refine returnsInHanded_of_change_sized (C := Try.checked) own started (by kernel_rfl) Try.func5
    (ChangeSpec.witness6 (enc := enc) (C := Try.checked) false ⟨#[], #[.slice none 0 0, .slice none 0 0], []⟩ 8 (by kernel_rfl) (by kernel_rfl) (by kernel_rfl) (by kernel_rfl)) ?_
  intro W base args ds gs before hval0 hW hcnd hsz0 _
  have hval : ∀ (j : Nat) t v, Try.f5.params[j]? = some t → args[j]? = some v → Value.okWide Try.prog W .any base t v := hval0
  have hW' := hW
  obtain ⟨p, q, hA0, hV, rfl, hfz, hnd⟩ := hW
  have hA : DataW.TrodAll enc Try.prog W 0 (fun _ => true) true Try.f5.params.toList args.toList ds p := hA0
  rw [Try.params5] at hA hval
  obtain ⟨v0, vs0, d0, ds0, p0, q0, hargs, rfl, rfl, h0, r0⟩ := trodAll_cons hA
  obtain ⟨v1, vs1, d1, ds1, p1, q1, rfl, rfl, rfl, h1, r1⟩ := trodAll_cons r0
  obtain ⟨rfl, rfl, rfl⟩ := trodAll_nil r1
  obtain rfl : args = #[v0, v1] := by cases args; simp_all
  obtain ⟨rfl, rfl⟩ := trodVars_none hV
  obtain ⟨a0_, n0_, m0_, rfl⟩ := okWide_slice Try.underlying26 (hval 0 26 v0 rfl rfl)
  obtain ⟨fu0, hf0⟩ := h0
  have lt0 : ∀ x ∈ p0, x.block < W.heap.size := DataW.trod_lt fu0 _ _ _ hf0
  have k0 : DataW.Trod enc Try.prog W 0 (fun _ => true) true 26 (.slice a0_ n0_ m0_) d0 p0 := ⟨fu0, hf0⟩
  obtain ⟨l0, ⟨A0, c0, e0, C0, R0⟩, w0⟩ := (opens_slice Try.underlying26 (by kernel_rfl) (opens_int Try.underlying2 (by kernel_rfl) : Opens Try.prog (Kd.int .i64) (fun n => (Lit.int .i64 n).wf = true) 2)).2 H enc W 0 (fun _ => true) true fu0 _ _ hf0
  obtain ⟨rfl, rfl, rfl⟩ : a0_ = A0 ∧ n0_ = l0.length ∧ m0_ = c0 := by simpa [Value.cells] using e0
  obtain ⟨a1_, n1_, m1_, rfl⟩ := okWide_slice Try.underlying27 (hval 1 27 v1 rfl rfl)
  obtain ⟨fu1, hf1⟩ := h1
  have lt1 : ∀ x ∈ p1, x.block < W.heap.size := DataW.trod_lt fu1 _ _ _ hf1
  have k1 : DataW.Trod enc Try.prog W 0 (fun _ => true) true 27 (.slice a1_ n1_ m1_) d1 p1 := ⟨fu1, hf1⟩
  obtain ⟨l1, ⟨A1, c1, e1, C1, R1⟩, w1⟩ := (opens_slice Try.underlying27 (by kernel_rfl) op61).2 H enc W 0 (fun _ => true) true fu1 _ _ hf1
  obtain ⟨rfl, rfl, rfl⟩ : a1_ = A1 ∧ n1_ = l1.length ∧ m1_ = c1 := by simpa [Value.cells] using e1
  clear hA0 hval0 hsz0
  obtain ⟨k, hk⟩ := Pure.FnExactMeasure l0 l1 w0 w1
  refine (laws_FnExactMeasure.calls k _ _ l0 _ _ l1 true W R0 C0 R1 C1 hk).mono fun e W' ⟨he, bel⟩ => ?_
  subst he
  exact ⟨_, rfl, _, _, _, [], _, [], hW', trodAll_mk1 (shut_bool Try.underlying4 _), (trodAll_cons_mk (Below.trod laidOut (by kernel_rfl) (of_decide_eq_true (by kernel_rfl)) k0 bel lt0) (trodAll_cons_mk (Below.trod laidOut (by kernel_rfl) (of_decide_eq_true (by kernel_rfl)) k1 bel lt1) trodAll_mk0)), rfl, bel.frame _, fun h => by cases h⟩
theorem over : Rows.fnExactMeasureRow.holds Try.pinned (OpenSpec.ofChange Rows.fnExactMeasureSpec) :=
  OpenClaim.holds_of_wide 5 Try.f5 rfl rfl rfl rfl rfl rfl rfl ⟨rfl, rfl, rfl, rfl, rfl⟩ rfl rfl rfl rfl rfl (by kernel_rfl) Try.func5 (by kernel_rfl)
    (of_decide_eq_true (by kernel_rfl)) (by unfold Func.isWrapper; first | (rw [if_pos (by decide +kernel)]; kernel_rfl) | (rw [if_neg (by decide +kernel)]; exact ⟨rfl, rfl⟩))
    (fun os started H enc _ => lifted os started H enc)
theorem proved : Rows.FnExactMeasureSaid := over
end Go.Proofs.Ytpcpjkbjadgoiaa.fnExactMeasure
namespace Go.Proofs.Ytpcpjkbjadgoiaa
/-- The row, under a short name, for the claim. -/
theorem fnExactMeasure_holds : Rows.FnExactMeasureSaid := fnExactMeasure.proved
end Go.Proofs.Ytpcpjkbjadgoiaa
