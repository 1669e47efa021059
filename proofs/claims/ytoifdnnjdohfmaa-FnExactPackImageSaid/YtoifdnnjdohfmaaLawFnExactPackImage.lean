-- Written for this claim by this session's own driver (wip/xprint.py, wip/xrow.py).
import Derived.Test.YtoifdnnjdohfmaaRows
import Derived.Test.YtoifdnnjdohfmaaQFnExactPackImagex
import Derived.Test.YtoifdnnjdohfmaaTFnExactPackImage
import Derived.Test.YtoifdnnjdohfmaaPureFnExactPackImage
import Derived.WalkKit
import Derived.ProofKit
import Derived.OpenShut
import Derived.ShutString
import Derived.ChangeOld
import Derived.Below
import Derived.SizedLaws
namespace Go.Proofs.Ytoifdnnjdohfmaa.fnExactPackImage
open Go.ChangeShapes Go.WideShapes Go.ChangeAt Go.RowKit Go.Proofs.YtoifdnnjdohfmaaW.PrintWords Go.Proofs.Ytoifdnnjdohfmaa.Op Go.Proofs.Ytoifdnnjdohfmaa.QFnExactPackImage
open Go.ChangeMaps (open_string shut_string)
set_option linter.unusedVariables false
theorem own : ownKnob Try.prog.godebug = none := by kernel_rfl
theorem laidOut : laidOutB Try.prog = true := by kernel_rfl
set_option maxRecDepth 100000 in
set_option maxHeartbeats 4000000 in
theorem lifted (os : Os) (started : os.Started) (H : Type) (enc : TypeId × Value → H) :
    ReturnsInHanded {} Try.checked os 4 .any (Rows.fnExactPackImageSpec.pre6 enc Try.prog Try.f4 Rows.fnExactPackImageRow.domain false) (Rows.fnExactPackImageSpec.post enc Try.prog Try.f4 false true false false) := by
  refine returnsInHanded_of_change_sized (C := Try.checked) own started (by kernel_rfl) Try.func4
    (ChangeSpec.witness6 (enc := enc) (C := Try.checked) false ⟨#[], #[.agg #[.string ByteArray.empty, .string ByteArray.empty, .slice none 0 0, .slice none 0 0, .slice none 0 0]], []⟩ 8 (by kernel_rfl) (by kernel_rfl) (by kernel_rfl) (by kernel_rfl)) ?_
  intro W base args ds gs before hval0 hW hcnd hsz0 _
  have hval : ∀ (j : Nat) t v, Try.f4.params[j]? = some t → args[j]? = some v → Value.okWide Try.prog W .any base t v := hval0
  have hW' := hW
  obtain ⟨p, q, hA0, hV, rfl, hfz, hnd⟩ := hW
  have hA : DataW.TrodAll enc Try.prog W 0 (fun _ => true) true Try.f4.params.toList args.toList ds p := hA0
  rw [Try.params4] at hA hval
  obtain ⟨v0, vs0, d0, ds0, p0, q0, hargs, rfl, rfl, h0, r0⟩ := trodAll_cons hA
  obtain ⟨rfl, rfl, rfl⟩ := trodAll_nil r0
  obtain rfl : args = #[v0] := by cases args; simp_all
  obtain ⟨rfl, rfl⟩ := trodVars_none hV
  obtain ⟨cs0, rfl, _⟩ := okWide_struct Try.underlying26 (hval 0 26 v0 rfl rfl)
  obtain ⟨fu0, hf0⟩ := h0
  have lt0 : ∀ x ∈ p0, x.block < W.heap.size := DataW.trod_lt fu0 _ _ _ hf0
  have k0 : DataW.Trod enc Try.prog W 0 (fun _ => true) true 26 (.agg cs0) d0 p0 := ⟨fu0, hf0⟩
  obtain ⟨x0, hK0, hQ0⟩ := (opens_struct (P := Try.prog) (t := 26) Try.underlying26 (fun x => x) (fun x => x) (fun _ => rfl) (ts := [9, 9, 22, 23, 24]) rfl (by kernel_rfl) (by kernel_rfl) (opensF_cons (opens_string Try.underlying9 (by kernel_rfl) : Opens Try.prog Kd.string (fun s => s.size ≤ 9223372036854775807) 9) (opensF_cons (opens_string Try.underlying9 (by kernel_rfl) : Opens Try.prog Kd.string (fun s => s.size ≤ 9223372036854775807) 9) (opensF_cons (opens_slice Try.underlying22 (by kernel_rfl) (opens_int Try.underlying2 (by kernel_rfl) : Opens Try.prog (Kd.int .i64) (fun n => (Lit.int .i64 n).wf = true) 2)) (opensF_cons (opens_slice Try.underlying23 (by kernel_rfl) (opens_string Try.underlying9 (by kernel_rfl) : Opens Try.prog Kd.string (fun s => s.size ≤ 9223372036854775807) 9)) (opensF_one (opens_slice Try.underlying24 (by kernel_rfl) op71))))))).2 H enc W 0 (fun _ => true) true fu0 _ _ hf0
  obtain ⟨a0_0, a0_1, l0_2, l0_3, l0_4⟩ := x0
  obtain ⟨_, _, e0_0, rfl, ⟨_, _, e0_1, rfl, ⟨_, _, e0_2, ⟨A0_2, c0_2, rfl, C0_2, R0_2⟩, ⟨_, _, e0_3, ⟨A0_3, c0_3, rfl, C0_3, R0_3⟩, ⟨A0_4, c0_4, rfl, C0_4, R0_4⟩⟩⟩⟩⟩ := hK0
  obtain ⟨w0_0, w0_1, w0_2, w0_3, w0_4⟩ := hQ0
  obtain rfl : cs0 = #[.string a0_0, .string a0_1, .slice A0_2 l0_2.length c0_2, .slice A0_3 l0_3.length c0_3, .slice A0_4 l0_4.length c0_4] := by
    have e_ : cs0.toList = _ := e0_0
    cases cs0; simpa [e0_1, e0_2, e0_3] using e_
  clear hA0 hval0 hsz0
  obtain ⟨k, hk⟩ := Pure.FnExactPackImage a0_0 a0_1 l0_2 l0_3 l0_4 w0_0 w0_1 w0_2 w0_3 w0_4
  refine (laws_FnExactPackImage.calls k a0_0 a0_1 _ _ l0_2 _ _ l0_3 _ _ l0_4 true W R0_2 C0_2 R0_3 C0_3 R0_4 C0_4 hk).mono fun e W' ⟨he, bel⟩ => ?_
  subst he
  exact ⟨_, rfl, _, _, _, [], _, [], hW', trodAll_mk1 (shut_bool Try.underlying4 _), (trodAll_cons_mk (Below.trod laidOut (by kernel_rfl) (of_decide_eq_true (by kernel_rfl)) k0 bel lt0) trodAll_mk0), rfl, bel.frame _, fun h => by cases h⟩
theorem over : Rows.fnExactPackImageRow.holds Try.pinned (OpenSpec.ofChange Rows.fnExactPackImageSpec) :=
  OpenClaim.holds_of_wide 4 Try.f4 rfl rfl rfl rfl rfl rfl rfl ⟨rfl, rfl, rfl, rfl, rfl⟩ rfl rfl rfl rfl rfl (by kernel_rfl) Try.func4 (by kernel_rfl)
    (of_decide_eq_true (by kernel_rfl)) (by unfold Func.isWrapper; first | (rw [if_pos (by decide +kernel)]; kernel_rfl) | (rw [if_neg (by decide +kernel)]; exact ⟨rfl, rfl⟩))
    (fun os started H enc _ => lifted os started H enc)
theorem proved : Rows.FnExactPackImageSaid := over
end Go.Proofs.Ytoifdnnjdohfmaa.fnExactPackImage
namespace Go.Proofs.Ytoifdnnjdohfmaa
/-- The row, under a short name, for the claim. -/
theorem fnExactPackImage_holds : Rows.FnExactPackImageSaid := fnExactPackImage.proved
end Go.Proofs.Ytoifdnnjdohfmaa
