-- Written for this claim by this session's own driver (wip/xprint.py, wip/xrow.py).
import Derived.Test.YtmajbehafgajmaaRows
import Derived.Test.YtmajbehafgajmaaQFnExactRouterFaultx
import Derived.Test.YtmajbehafgajmaaTFnExactRouterFault
import Derived.Test.YtmajbehafgajmaaPureFnExactRouterFault
import Derived.WalkKit
import Derived.ProofKit
import Derived.OpenShut
import Derived.ShutString
import Derived.ChangeOld
import Derived.Below
import Derived.SizedLaws
namespace Go.Proofs.Ytmajbehafgajmaa.fnExactRouterFault
open Go.ChangeShapes Go.WideShapes Go.ChangeAt Go.RowKit Go.Proofs.YtmajbehafgajmaaW.PrintWords Go.Proofs.Ytmajbehafgajmaa.Op Go.Proofs.Ytmajbehafgajmaa.QFnExactRouterFault
open Go.ChangeMaps (open_string shut_string)
set_option linter.unusedVariables false
theorem own : ownKnob Try.prog.godebug = none := by kernel_rfl
theorem laidOut : laidOutB Try.prog = true := by kernel_rfl
set_option maxRecDepth 100000 in
set_option maxHeartbeats 4000000 in
theorem lifted (os : Os) (started : os.Started) (H : Type) (enc : TypeId × Value → H) :
    ReturnsInHanded {} Try.checked os 4 .any (Rows.fnExactRouterFaultSpec.pre6 enc Try.prog Try.f4 Rows.fnExactRouterFaultRow.domain false) (Rows.fnExactRouterFaultSpec.post enc Try.prog Try.f4 false true false false) := by
  refine returnsInHanded_of_change_sized (C := Try.checked) own started (by kernel_rfl) Try.func4
    (ChangeSpec.witness6 (enc := enc) (C := Try.checked) false ⟨#[], #[.agg #[.slice none 0 0, .slice none 0 0, .slice none 0 0]], []⟩ 8 (by kernel_rfl) (by kernel_rfl) (by kernel_rfl) (by kernel_rfl)) ?_
  intro W base args ds gs before hval0 hW hcnd hsz0 _
  have hval : ∀ (j : Nat) t v, Try.f4.params[j]? = some t → args[j]? = some v → Value.okWide Try.prog W .any base t v := hval0
  have hW' := hW
  obtain ⟨p, q, hA0, hV, rfl, hfz, hnd⟩ := hW
  have hA : DataW.TrodAll enc Try.prog W 0 (fun _ => true) true Try.f4.params.toList args.toList ds p := hA0
  rw [Try.params4] at hA hval
  obtain ⟨v0, vs0, d0, ds0, p0, q0, hargs, rfl, rfl, h0, r0⟩ := trodAll_cons hA
  obtain ⟨rfl, rfl, rfl⟩ := trodAll_nil r0
  obtain rfl : args = #[v0] := by cases args; simp_all
  obtain ⟨rfl, rfl⟩ := trodVars_none hV
  obtain ⟨cs0, rfl, _⟩ := okWide_struct Try.underlying38 (hval 0 38 v0 rfl rfl)
  obtain ⟨fu0, hf0⟩ := h0
  have lt0 : ∀ x ∈ p0, x.block < W.heap.size := DataW.trod_lt fu0 _ _ _ hf0
  have k0 : DataW.Trod enc Try.prog W 0 (fun _ => true) true 38 (.agg cs0) d0 p0 := ⟨fu0, hf0⟩
  obtain ⟨x0, hK0, hQ0⟩ := (opens_struct (P := Try.prog) (t := 38) Try.underlying38 (fun x => x) (fun x => x) (fun _ => rfl) (ts := [34, 35, 36]) rfl (by kernel_rfl) (by kernel_rfl) (opensF_cons (opens_slice Try.underlying34 (by kernel_rfl) op166) (opensF_cons (opens_slice Try.underlying35 (by kernel_rfl) op164) (opensF_one (opens_slice Try.underlying36 (by kernel_rfl) op169))))).2 H enc W 0 (fun _ => true) true fu0 _ _ hf0
  obtain ⟨l0_0, l0_1, l0_2⟩ := x0
  obtain ⟨_, _, e0_0, ⟨A0_0, c0_0, rfl, C0_0, R0_0⟩, ⟨_, _, e0_1, ⟨A0_1, c0_1, rfl, C0_1, R0_1⟩, ⟨A0_2, c0_2, rfl, C0_2, R0_2⟩⟩⟩ := hK0
  obtain ⟨w0_0, w0_1, w0_2⟩ := hQ0
  obtain rfl : cs0 = #[.slice A0_0 l0_0.length c0_0, .slice A0_1 l0_1.length c0_1, .slice A0_2 l0_2.length c0_2] := by
    have e_ : cs0.toList = _ := e0_0
    cases cs0; simpa [e0_1] using e_
  clear hA0 hval0 hsz0
  obtain ⟨k, hk⟩ := Pure.FnExactRouterFault l0_0 l0_1 l0_2 w0_0 w0_1 w0_2
  refine (laws_FnExactRouterFault.calls k _ _ l0_0 _ _ l0_1 _ _ l0_2 true W R0_0 C0_0 R0_1 C0_1 R0_2 C0_2 hk).mono fun e W' ⟨he, bel⟩ => ?_
  subst he
  exact ⟨_, rfl, _, _, _, [], _, [], hW', trodAll_mk1 (shut_bool Try.underlying4 _), (trodAll_cons_mk (Below.trod laidOut (by kernel_rfl) (of_decide_eq_true (by kernel_rfl)) k0 bel lt0) trodAll_mk0), rfl, bel.frame _, fun h => by cases h⟩
theorem over : Rows.fnExactRouterFaultRow.holds Try.pinned (OpenSpec.ofChange Rows.fnExactRouterFaultSpec) :=
  OpenClaim.holds_of_wide 4 Try.f4 rfl rfl rfl rfl rfl rfl rfl ⟨rfl, rfl, rfl, rfl, rfl⟩ rfl rfl rfl rfl rfl (by kernel_rfl) Try.func4 (by kernel_rfl)
    (of_decide_eq_true (by kernel_rfl)) (by unfold Func.isWrapper; first | (rw [if_pos (by decide +kernel)]; kernel_rfl) | (rw [if_neg (by decide +kernel)]; exact ⟨rfl, rfl⟩))
    (fun os started H enc _ => lifted os started H enc)
theorem proved : Rows.FnExactRouterFaultSaid := over
end Go.Proofs.Ytmajbehafgajmaa.fnExactRouterFault
namespace Go.Proofs.Ytmajbehafgajmaa
/-- The row, under a short name, for the claim. -/
theorem fnExactRouterFault_holds : Rows.FnExactRouterFaultSaid := fnExactRouterFault.proved
end Go.Proofs.Ytmajbehafgajmaa
