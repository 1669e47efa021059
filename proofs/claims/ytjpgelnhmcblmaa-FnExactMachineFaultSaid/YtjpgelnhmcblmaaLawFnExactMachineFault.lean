-- Written for this claim by this session's own driver (wip/xprint.py, wip/xrow.py).
import Derived.Test.YtjpgelnhmcblmaaRows
import Derived.Test.YtjpgelnhmcblmaaQFnExactMachineFaultx
import Derived.Test.YtjpgelnhmcblmaaTFnExactMachineFault
import Derived.Test.YtjpgelnhmcblmaaPureFnExactMachineFault
import Derived.WalkKit
import Derived.ProofKit
import Derived.OpenShut
import Derived.ShutString
import Derived.ChangeOld
import Derived.Below
import Derived.SizedLaws
namespace Go.Proofs.Ytjpgelnhmcblmaa.fnExactMachineFault
open Go.ChangeShapes Go.WideShapes Go.ChangeAt Go.RowKit Go.Proofs.YtjpgelnhmcblmaaW.PrintWords Go.Proofs.Ytjpgelnhmcblmaa.Op Go.Proofs.Ytjpgelnhmcblmaa.QFnExactMachineFault
open Go.ChangeMaps (open_string shut_string)
set_option linter.unusedVariables false
theorem own : ownKnob Try.prog.godebug = none := by kernel_rfl
theorem laidOut : laidOutB Try.prog = true := by kernel_rfl
set_option maxRecDepth 100000 in
set_option maxHeartbeats 4000000 in
theorem lifted (os : Os) (started : os.Started) (H : Type) (enc : TypeId × Value → H) :
    ReturnsInHanded {} Try.checked os 13 .any (Rows.fnExactMachineFaultSpec.pre6 enc Try.prog Try.f13 Rows.fnExactMachineFaultRow.domain false) (Rows.fnExactMachineFaultSpec.post enc Try.prog Try.f13 false true false false) := by
  refine returnsInHanded_of_change_sized (C := Try.checked) own started (by kernel_rfl) Try.func13
    (ChangeSpec.witness6 (enc := enc) (C := Try.checked) false ⟨#[], #[.agg #[.int .i64 0, .slice none 0 0, .int .i64 0, .slice none 0 0, .slice none 0 0, .string ByteArray.empty, .int .i64 0, .int .i64 0, .int .i64 0, .slice none 0 0, .slice none 0 0, .int .i64 0]], []⟩ 8 (by kernel_rfl) (by kernel_rfl) (by kernel_rfl) (by kernel_rfl)) ?_
  intro W base args ds gs before hval0 hW hcnd hsz0 _
  have hval : ∀ (j : Nat) t v, Try.f13.params[j]? = some t → args[j]? = some v → Value.okWide Try.prog W .any base t v := hval0
  have hW' := hW
  obtain ⟨p, q, hA0, hV, rfl, hfz, hnd⟩ := hW
  have hA : DataW.TrodAll enc Try.prog W 0 (fun _ => true) true Try.f13.params.toList args.toList ds p := hA0
  rw [Try.params13] at hA hval
  obtain ⟨v0, vs0, d0, ds0, p0, q0, hargs, rfl, rfl, h0, r0⟩ := trodAll_cons hA
  obtain ⟨rfl, rfl, rfl⟩ := trodAll_nil r0
  obtain rfl : args = #[v0] := by cases args; simp_all
  obtain ⟨rfl, rfl⟩ := trodVars_none hV
  obtain ⟨cs0, rfl, _⟩ := okWide_struct Try.underlying91 (hval 0 91 v0 rfl rfl)
  obtain ⟨fu0, hf0⟩ := h0
  have lt0 : ∀ x ∈ p0, x.block < W.heap.size := DataW.trod_lt fu0 _ _ _ hf0
  have k0 : DataW.Trod enc Try.prog W 0 (fun _ => true) true 91 (.agg cs0) d0 p0 := ⟨fu0, hf0⟩
  obtain ⟨x0, hK0, hQ0⟩ := (opens_struct (P := Try.prog) (t := 91) Try.underlying91 (fun x => x) (fun x => x) (fun _ => rfl) (ts := [2, 22, 2, 22, 22, 9, 2, 2, 2, 89, 89, 2]) rfl (by kernel_rfl) (by kernel_rfl) (opensF_cons (opens_int Try.underlying2 (by kernel_rfl) : Opens Try.prog (Kd.int .i64) (fun n => (Lit.int .i64 n).wf = true) 2) (opensF_cons (opens_slice Try.underlying22 (by kernel_rfl) (opens_int Try.underlying2 (by kernel_rfl) : Opens Try.prog (Kd.int .i64) (fun n => (Lit.int .i64 n).wf = true) 2)) (opensF_cons (opens_int Try.underlying2 (by kernel_rfl) : Opens Try.prog (Kd.int .i64) (fun n => (Lit.int .i64 n).wf = true) 2) (opensF_cons (opens_slice Try.underlying22 (by kernel_rfl) (opens_int Try.underlying2 (by kernel_rfl) : Opens Try.prog (Kd.int .i64) (fun n => (Lit.int .i64 n).wf = true) 2)) (opensF_cons (opens_slice Try.underlying22 (by kernel_rfl) (opens_int Try.underlying2 (by kernel_rfl) : Opens Try.prog (Kd.int .i64) (fun n => (Lit.int .i64 n).wf = true) 2)) (opensF_cons (opens_string Try.underlying9 (by kernel_rfl) : Opens Try.prog Kd.string (fun s => s.size ≤ 9223372036854775807) 9) (opensF_cons (opens_int Try.underlying2 (by kernel_rfl) : Opens Try.prog (Kd.int .i64) (fun n => (Lit.int .i64 n).wf = true) 2) (opensF_cons (opens_int Try.underlying2 (by kernel_rfl) : Opens Try.prog (Kd.int .i64) (fun n => (Lit.int .i64 n).wf = true) 2) (opensF_cons (opens_int Try.underlying2 (by kernel_rfl) : Opens Try.prog (Kd.int .i64) (fun n => (Lit.int .i64 n).wf = true) 2) (opensF_cons (opens_slice Try.underlying89 (by kernel_rfl) op186) (opensF_cons (opens_slice Try.underlying89 (by kernel_rfl) op186) (opensF_one (opens_int Try.underlying2 (by kernel_rfl) : Opens Try.prog (Kd.int .i64) (fun n => (Lit.int .i64 n).wf = true) 2)))))))))))))).2 H enc W 0 (fun _ => true) true fu0 _ _ hf0
  obtain ⟨a0_0, l0_1, a0_2, l0_3, l0_4, a0_5, a0_6, a0_7, a0_8, l0_9, l0_10, a0_11⟩ := x0
  obtain ⟨_, _, e0_0, rfl, ⟨_, _, e0_1, ⟨A0_1, c0_1, rfl, C0_1, R0_1⟩, ⟨_, _, e0_2, rfl, ⟨_, _, e0_3, ⟨A0_3, c0_3, rfl, C0_3, R0_3⟩, ⟨_, _, e0_4, ⟨A0_4, c0_4, rfl, C0_4, R0_4⟩, ⟨_, _, e0_5, rfl, ⟨_, _, e0_6, rfl, ⟨_, _, e0_7, rfl, ⟨_, _, e0_8, rfl, ⟨_, _, e0_9, ⟨A0_9, c0_9, rfl, C0_9, R0_9⟩, ⟨_, _, e0_10, ⟨A0_10, c0_10, rfl, C0_10, R0_10⟩, rfl⟩⟩⟩⟩⟩⟩⟩⟩⟩⟩⟩ := hK0
  obtain ⟨w0_0, w0_1, w0_2, w0_3, w0_4, w0_5, w0_6, w0_7, w0_8, w0_9, w0_10, w0_11⟩ := hQ0
  obtain rfl : cs0 = #[.int .i64 a0_0, .slice A0_1 l0_1.length c0_1, .int .i64 a0_2, .slice A0_3 l0_3.length c0_3, .slice A0_4 l0_4.length c0_4, .string a0_5, .int .i64 a0_6, .int .i64 a0_7, .int .i64 a0_8, .slice A0_9 l0_9.length c0_9, .slice A0_10 l0_10.length c0_10, .int .i64 a0_11] := by
    have e_ : cs0.toList = _ := e0_0
    cases cs0; simpa [e0_1, e0_2, e0_3, e0_4, e0_5, e0_6, e0_7, e0_8, e0_9, e0_10] using e_
  clear hA0 hval0 hsz0
  obtain ⟨k, hk⟩ := Pure.FnExactMachineFault a0_0 l0_1 a0_2 l0_3 l0_4 a0_5 a0_6 a0_7 a0_8 l0_9 l0_10 a0_11 w0_0 w0_1 w0_2 w0_3 w0_4 w0_5 w0_6 w0_7 w0_8 w0_9 w0_10 w0_11
  refine (laws_FnExactMachineFault.calls k a0_0 _ _ l0_1 a0_2 _ _ l0_3 _ _ l0_4 a0_5 a0_6 a0_7 a0_8 _ _ l0_9 _ _ l0_10 a0_11 true W R0_1 C0_1 R0_3 C0_3 R0_4 C0_4 R0_9 C0_9 R0_10 C0_10 hk).mono fun e W' ⟨he, bel⟩ => ?_
  subst he
  exact ⟨_, rfl, _, _, _, [], _, [], hW', trodAll_mk1 (shut_bool Try.underlying4 _), (trodAll_cons_mk (Below.trod laidOut (by kernel_rfl) (of_decide_eq_true (by kernel_rfl)) k0 bel lt0) trodAll_mk0), rfl, bel.frame _, fun h => by cases h⟩
theorem over : Rows.fnExactMachineFaultRow.holds Try.pinned (OpenSpec.ofChange Rows.fnExactMachineFaultSpec) :=
  OpenClaim.holds_of_wide 13 Try.f13 rfl rfl rfl rfl rfl rfl rfl ⟨rfl, rfl, rfl, rfl, rfl⟩ rfl rfl rfl rfl rfl (by kernel_rfl) Try.func13 (by kernel_rfl)
    (of_decide_eq_true (by kernel_rfl)) (by unfold Func.isWrapper; first | (rw [if_pos (by decide +kernel)]; kernel_rfl) | (rw [if_neg (by decide +kernel)]; exact ⟨rfl, rfl⟩))
    (fun os started H enc _ => lifted os started H enc)
theorem proved : Rows.FnExactMachineFaultSaid := over
end Go.Proofs.Ytjpgelnhmcblmaa.fnExactMachineFault
namespace Go.Proofs.Ytjpgelnhmcblmaa
/-- The row, under a short name, for the claim. -/
theorem fnExactMachineFault_holds : Rows.FnExactMachineFaultSaid := fnExactMachineFault.proved
end Go.Proofs.Ytjpgelnhmcblmaa
