-- Written for this claim by this session's own driver (wip/xprint.py, wip/xrow.py).
import Derived.Test.YtjpgelnhmcblmaaRows
import Derived.Test.YtjpgelnhmcblmaaQFnExactTlbPutx
import Derived.Test.YtjpgelnhmcblmaaTFnExactTlbPut
import Derived.Test.YtjpgelnhmcblmaaPureFnExactTlbPut
import Derived.WalkKit
import Derived.ProofKit
import Derived.OpenShut
import Derived.ShutString
import Derived.ChangeOld
import Derived.Below
import Derived.SizedLaws
namespace Go.Proofs.Ytjpgelnhmcblmaa.fnExactTlbPut
open Go.ChangeShapes Go.WideShapes Go.ChangeAt Go.RowKit Go.Proofs.YtjpgelnhmcblmaaW.PrintWords Go.Proofs.Ytjpgelnhmcblmaa.Op Go.Proofs.Ytjpgelnhmcblmaa.QFnExactTlbPut
open Go.ChangeMaps (open_string shut_string)
set_option linter.unusedVariables false
theorem own : ownKnob Try.prog.godebug = none := by kernel_rfl
theorem laidOut : laidOutB Try.prog = true := by kernel_rfl
set_option maxRecDepth 100000 in
set_option maxHeartbeats 4000000 in
theorem lifted (os : Os) (started : os.Started) (H : Type) (enc : TypeId × Value → H) :
    ReturnsInHanded {} Try.checked os 14 .any (Rows.fnExactTlbPutSpec.pre6 enc Try.prog Try.f14 Rows.fnExactTlbPutRow.domain false) (Rows.fnExactTlbPutSpec.post enc Try.prog Try.f14 false true false false) := by
  refine returnsInHanded_of_change_sized (C := Try.checked) own started (by kernel_rfl) Try.func14
    (ChangeSpec.witness6 (enc := enc) (C := Try.checked) false ⟨#[], #[.agg #[.slice none 0 0, .int .i64 0], .agg #[.int .i64 0, .int .i64 0, .int .i64 0, .int .i64 0, .bool false]], []⟩ 8 (by kernel_rfl) (by kernel_rfl) (by kernel_rfl) (by kernel_rfl)) ?_
  intro W base args ds gs before hval0 hW hcnd hsz0 _
  have hval : ∀ (j : Nat) t v, Try.f14.params[j]? = some t → args[j]? = some v → Value.okWide Try.prog W .any base t v := hval0
  have hW' := hW
  obtain ⟨p, q, hA0, hV, rfl, hfz, hnd⟩ := hW
  have hA : DataW.TrodAll enc Try.prog W 0 (fun _ => true) true Try.f14.params.toList args.toList ds p := hA0
  rw [Try.params14] at hA hval
  obtain ⟨v0, vs0, d0, ds0, p0, q0, hargs, rfl, rfl, h0, r0⟩ := trodAll_cons hA
  obtain ⟨v1, vs1, d1, ds1, p1, q1, rfl, rfl, rfl, h1, r1⟩ := trodAll_cons r0
  obtain ⟨rfl, rfl, rfl⟩ := trodAll_nil r1
  obtain rfl : args = #[v0, v1] := by cases args; simp_all
  obtain ⟨rfl, rfl⟩ := trodVars_none hV
  obtain ⟨cs0, rfl, _⟩ := okWide_struct Try.underlying60 (hval 0 60 v0 rfl rfl)
  obtain ⟨fu0, hf0⟩ := h0
  have lt0 : ∀ x ∈ p0, x.block < W.heap.size := DataW.trod_lt fu0 _ _ _ hf0
  have k0 : DataW.Trod enc Try.prog W 0 (fun _ => true) true 60 (.agg cs0) d0 p0 := ⟨fu0, hf0⟩
  obtain ⟨x0, hK0, hQ0⟩ := (opens_struct (P := Try.prog) (t := 60) Try.underlying60 (fun x => x) (fun x => x) (fun _ => rfl) (ts := [58, 2]) rfl (by kernel_rfl) (by kernel_rfl) (opensF_cons (opens_slice Try.underlying58 (by kernel_rfl) op97) (opensF_one (opens_int Try.underlying2 (by kernel_rfl) : Opens Try.prog (Kd.int .i64) (fun n => (Lit.int .i64 n).wf = true) 2)))).2 H enc W 0 (fun _ => true) true fu0 _ _ hf0
  obtain ⟨l0_0, a0_1⟩ := x0
  obtain ⟨_, _, e0_0, ⟨A0_0, c0_0, rfl, C0_0, R0_0⟩, rfl⟩ := hK0
  obtain ⟨w0_0, w0_1⟩ := hQ0
  obtain rfl : cs0 = #[.slice A0_0 l0_0.length c0_0, .int .i64 a0_1] := by
    have e_ : cs0.toList = _ := e0_0
    cases cs0; simpa using e_
  obtain ⟨cs1, rfl, _⟩ := okWide_struct Try.underlying97 (hval 1 97 v1 rfl rfl)
  obtain ⟨fu1, hf1⟩ := h1
  have lt1 : ∀ x ∈ p1, x.block < W.heap.size := DataW.trod_lt fu1 _ _ _ hf1
  have k1 : DataW.Trod enc Try.prog W 0 (fun _ => true) true 97 (.agg cs1) d1 p1 := ⟨fu1, hf1⟩
  obtain ⟨x1, hK1, hQ1⟩ := (opens_struct (P := Try.prog) (t := 97) Try.underlying97 (fun x => x) (fun x => x) (fun _ => rfl) (ts := [2, 2, 2, 2, 4]) rfl (by kernel_rfl) (by kernel_rfl) (opensF_cons (opens_int Try.underlying2 (by kernel_rfl) : Opens Try.prog (Kd.int .i64) (fun n => (Lit.int .i64 n).wf = true) 2) (opensF_cons (opens_int Try.underlying2 (by kernel_rfl) : Opens Try.prog (Kd.int .i64) (fun n => (Lit.int .i64 n).wf = true) 2) (opensF_cons (opens_int Try.underlying2 (by kernel_rfl) : Opens Try.prog (Kd.int .i64) (fun n => (Lit.int .i64 n).wf = true) 2) (opensF_cons (opens_int Try.underlying2 (by kernel_rfl) : Opens Try.prog (Kd.int .i64) (fun n => (Lit.int .i64 n).wf = true) 2) (opensF_one (opens_bool Try.underlying4 (by kernel_rfl) : Opens Try.prog Kd.bool (fun _ => True) 4))))))).2 H enc W 0 (fun _ => true) true fu1 _ _ hf1
  obtain ⟨a1_0, a1_1, a1_2, a1_3, a1_4⟩ := x1
  obtain ⟨_, _, e1_0, rfl, ⟨_, _, e1_1, rfl, ⟨_, _, e1_2, rfl, ⟨_, _, e1_3, rfl, rfl⟩⟩⟩⟩ := hK1
  obtain ⟨w1_0, w1_1, w1_2, w1_3, w1_4⟩ := hQ1
  obtain rfl : cs1 = #[.int .i64 a1_0, .int .i64 a1_1, .int .i64 a1_2, .int .i64 a1_3, .bool a1_4] := by
    have e_ : cs1.toList = _ := e1_0
    cases cs1; simpa [e1_1, e1_2, e1_3] using e_
  clear hA0 hval0 hsz0
  obtain ⟨k, hk⟩ := Pure.FnExactTlbPut l0_0 a0_1 a1_0 a1_1 a1_2 a1_3 a1_4 w0_0 w0_1 w1_0 w1_1 w1_2 w1_3 w1_4
  refine (laws_FnExactTlbPut.calls k _ _ l0_0 a0_1 a1_0 a1_1 a1_2 a1_3 a1_4 true W R0_0 C0_0 hk).mono fun e W' ⟨he, bel⟩ => ?_
  subst he
  exact ⟨_, rfl, _, _, _, [], _, [], hW', trodAll_mk1 (shut_bool Try.underlying4 _), (trodAll_cons_mk (Below.trod laidOut (by kernel_rfl) (of_decide_eq_true (by kernel_rfl)) k0 bel lt0) (trodAll_cons_mk (Below.trod laidOut (by kernel_rfl) (of_decide_eq_true (by kernel_rfl)) k1 bel lt1) trodAll_mk0)), rfl, bel.frame _, fun h => by cases h⟩
theorem over : Rows.fnExactTlbPutRow.holds Try.pinned (OpenSpec.ofChange Rows.fnExactTlbPutSpec) :=
  OpenClaim.holds_of_wide 14 Try.f14 rfl rfl rfl rfl rfl rfl rfl ⟨rfl, rfl, rfl, rfl, rfl⟩ rfl rfl rfl rfl rfl (by kernel_rfl) Try.func14 (by kernel_rfl)
    (of_decide_eq_true (by kernel_rfl)) (by unfold Func.isWrapper; first | (rw [if_pos (by decide +kernel)]; kernel_rfl) | (rw [if_neg (by decide +kernel)]; exact ⟨rfl, rfl⟩))
    (fun os started H enc _ => lifted os started H enc)
theorem proved : Rows.FnExactTlbPutSaid := over
end Go.Proofs.Ytjpgelnhmcblmaa.fnExactTlbPut
namespace Go.Proofs.Ytjpgelnhmcblmaa
/-- The row, under a short name, for the claim. -/
theorem fnExactTlbPut_holds : Rows.FnExactTlbPutSaid := fnExactTlbPut.proved
end Go.Proofs.Ytjpgelnhmcblmaa
