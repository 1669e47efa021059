-- Written for this claim by this session's own driver (wip/xprint.py, wip/xrow.py).
import Derived.Test.YtmajbehafgajmaaRows
import Derived.Test.YtmajbehafgajmaaQFnExactChainFaultx
import Derived.Test.YtmajbehafgajmaaTFnExactChainFault
import Derived.Test.YtmajbehafgajmaaPureFnExactChainFault
import Derived.WalkKit
import Derived.ProofKit
import Derived.OpenShut
import Derived.ShutString
import Derived.ChangeOld
import Derived.Below
import Derived.SizedLaws
namespace Go.Proofs.Ytmajbehafgajmaa.fnExactChainFault
open Go.ChangeShapes Go.WideShapes Go.ChangeAt Go.RowKit Go.Proofs.YtmajbehafgajmaaW.PrintWords Go.Proofs.Ytmajbehafgajmaa.Op Go.Proofs.Ytmajbehafgajmaa.QFnExactChainFault
open Go.ChangeMaps (open_string shut_string)
set_option linter.unusedVariables false
theorem own : ownKnob Try.prog.godebug = none := by kernel_rfl
theorem laidOut : laidOutB Try.prog = true := by kernel_rfl
set_option maxRecDepth 100000 in
set_option maxHeartbeats 4000000 in
theorem lifted (os : Os) (started : os.Started) (H : Type) (enc : TypeId × Value → H) :
    ReturnsInHanded {} Try.checked os 7 .any (Rows.fnExactChainFaultSpec.pre6 enc Try.prog Try.f7 Rows.fnExactChainFaultRow.domain false) (Rows.fnExactChainFaultSpec.post enc Try.prog Try.f7 false true false false) := by
  refine returnsInHanded_of_change_sized (C := Try.checked) own started (by kernel_rfl) Try.func7
    (ChangeSpec.witness6 (enc := enc) (C := Try.checked) false ⟨#[], #[.slice none 0 0], []⟩ 8 (by kernel_rfl) (by kernel_rfl) (by kernel_rfl) (by kernel_rfl)) ?_
  intro W base args ds gs before hval0 hW hcnd hsz0 _
  have hval : ∀ (j : Nat) t v, Try.f7.params[j]? = some t → args[j]? = some v → Value.okWide Try.prog W .any base t v := hval0
  have hW' := hW
  obtain ⟨p, q, hA0, hV, rfl, hfz, hnd⟩ := hW
  have hA : DataW.TrodAll enc Try.prog W 0 (fun _ => true) true Try.f7.params.toList args.toList ds p := hA0
  rw [Try.params7] at hA hval
  obtain ⟨v0, vs0, d0, ds0, p0, q0, hargs, rfl, rfl, h0, r0⟩ := trodAll_cons hA
  obtain ⟨rfl, rfl, rfl⟩ := trodAll_nil r0
  obtain rfl : args = #[v0] := by cases args; simp_all
  obtain ⟨rfl, rfl⟩ := trodVars_none hV
  obtain ⟨a0_, n0_, m0_, rfl⟩ := okWide_slice Try.underlying77 (hval 0 77 v0 rfl rfl)
  obtain ⟨fu0, hf0⟩ := h0
  have lt0 : ∀ x ∈ p0, x.block < W.heap.size := DataW.trod_lt fu0 _ _ _ hf0
  have k0 : DataW.Trod enc Try.prog W 0 (fun _ => true) true 77 (.slice a0_ n0_ m0_) d0 p0 := ⟨fu0, hf0⟩
  obtain ⟨l0, ⟨A0, c0, e0, C0, R0⟩, w0⟩ := (opens_slice Try.underlying77 (by kernel_rfl) op144).2 H enc W 0 (fun _ => true) true fu0 _ _ hf0
  obtain ⟨rfl, rfl, rfl⟩ : a0_ = A0 ∧ n0_ = l0.length ∧ m0_ = c0 := by simpa [Value.cells] using e0
  clear hA0 hval0 hsz0
  obtain ⟨k, hk⟩ := Pure.FnExactChainFault l0 w0
  refine (laws_FnExactChainFault.calls k _ _ l0 true W R0 C0 hk).mono fun e W' ⟨he, bel⟩ => ?_
  subst he
  exact ⟨_, rfl, _, _, _, [], _, [], hW', trodAll_mk1 (shut_bool Try.underlying4 _), (trodAll_cons_mk (Below.trod laidOut (by kernel_rfl) (of_decide_eq_true (by kernel_rfl)) k0 bel lt0) trodAll_mk0), rfl, bel.frame _, fun h => by cases h⟩
theorem over : Rows.fnExactChainFaultRow.holds Try.pinned (OpenSpec.ofChange Rows.fnExactChainFaultSpec) :=
  OpenClaim.holds_of_wide 7 Try.f7 rfl rfl rfl rfl rfl rfl rfl ⟨rfl, rfl, rfl, rfl, rfl⟩ rfl rfl rfl rfl rfl (by kernel_rfl) Try.func7 (by kernel_rfl)
    (of_decide_eq_true (by kernel_rfl)) (by unfold Func.isWrapper; first | (rw [if_pos (by decide +kernel)]; kernel_rfl) | (rw [if_neg (by decide +kernel)]; exact ⟨rfl, rfl⟩))
    (fun os started H enc _ => lifted os started H enc)
theorem proved : Rows.FnExactChainFaultSaid := over
end Go.Proofs.Ytmajbehafgajmaa.fnExactChainFault
namespace Go.Proofs.Ytmajbehafgajmaa
/-- The row, under a short name, for the claim. -/
theorem fnExactChainFault_holds : Rows.FnExactChainFaultSaid := fnExactChainFault.proved
end Go.Proofs.Ytmajbehafgajmaa
