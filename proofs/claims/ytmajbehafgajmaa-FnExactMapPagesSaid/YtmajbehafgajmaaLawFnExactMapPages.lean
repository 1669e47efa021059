-- Written for this claim by this session's own driver (wip/xprint.py, wip/xrow.py).
import Derived.Test.YtmajbehafgajmaaRows
import Derived.Test.YtmajbehafgajmaaQFnExactMapPagesx
import Derived.Test.YtmajbehafgajmaaTFnExactMapPages
import Derived.Test.YtmajbehafgajmaaPureFnExactMapPages
import Derived.WalkKit
import Derived.ProofKit
import Derived.OpenShut
import Derived.ShutString
import Derived.ChangeOld
import Derived.Below
import Derived.SizedLaws
namespace Go.Proofs.Ytmajbehafgajmaa.fnExactMapPages
open Go.ChangeShapes Go.WideShapes Go.ChangeAt Go.RowKit Go.Proofs.YtmajbehafgajmaaW.PrintWords Go.Proofs.Ytmajbehafgajmaa.Op Go.Proofs.Ytmajbehafgajmaa.QFnExactMapPages
open Go.ChangeMaps (open_string shut_string)
set_option linter.unusedVariables false
theorem own : ownKnob Try.prog.godebug = none := by kernel_rfl
theorem laidOut : laidOutB Try.prog = true := by kernel_rfl
set_option maxRecDepth 100000 in
set_option maxHeartbeats 4000000 in
theorem lifted (os : Os) (started : os.Started) (H : Type) (enc : TypeId × Value → H) :
    ReturnsInHanded {} Try.checked os 5 .any (Rows.fnExactMapPagesSpec.pre6 enc Try.prog Try.f5 Rows.fnExactMapPagesRow.domain false) (Rows.fnExactMapPagesSpec.post enc Try.prog Try.f5 false true false false) := by
  refine returnsInHanded_of_change_sized (C := Try.checked) own started (by kernel_rfl) Try.func5
    (ChangeSpec.witness6 (enc := enc) (C := Try.checked) false ⟨#[], #[.string ByteArray.empty, .int .i64 0, .slice none 0 0, .slice none 0 0], []⟩ 8 (by kernel_rfl) (by kernel_rfl) (by kernel_rfl) (by kernel_rfl)) ?_
  intro W base args ds gs before hval0 hW hcnd hsz0 _
  have hval : ∀ (j : Nat) t v, Try.f5.params[j]? = some t → args[j]? = some v → Value.okWide Try.prog W .any base t v := hval0
  have hW' := hW
  obtain ⟨p, q, hA0, hV, rfl, hfz, hnd⟩ := hW
  have hA : DataW.TrodAll enc Try.prog W 0 (fun _ => true) true Try.f5.params.toList args.toList ds p := hA0
  rw [Try.params5] at hA hval
  obtain ⟨v0, vs0, d0, ds0, p0, q0, hargs, rfl, rfl, h0, r0⟩ := trodAll_cons hA
  obtain ⟨v1, vs1, d1, ds1, p1, q1, rfl, rfl, rfl, h1, r1⟩ := trodAll_cons r0
  obtain ⟨v2, vs2, d2, ds2, p2, q2, rfl, rfl, rfl, h2, r2⟩ := trodAll_cons r1
  obtain ⟨v3, vs3, d3, ds3, p3, q3, rfl, rfl, rfl, h3, r3⟩ := trodAll_cons r2
  obtain ⟨rfl, rfl, rfl⟩ := trodAll_nil r3
  obtain rfl : args = #[v0, v1, v2, v3] := by cases args; simp_all
  obtain ⟨rfl, rfl⟩ := trodVars_none hV
  obtain ⟨a0, rfl, rfl, rfl, y0⟩ := open_string Try.underlying9 (hval 0 9 v0 rfl rfl) h0
  have w0 : a0.size ≤ 9223372036854775807 := by have := y0; unfold maxLen at this; exact this
  obtain ⟨a1, rfl, rfl, rfl, w1⟩ := open_int Try.underlying2 (hval 1 2 v1 rfl rfl) h1
  obtain ⟨a2_, n2_, m2_, rfl⟩ := okWide_slice Try.underlying49 (hval 2 49 v2 rfl rfl)
  obtain ⟨fu2, hf2⟩ := h2
  have lt2 : ∀ x ∈ p2, x.block < W.heap.size := DataW.trod_lt fu2 _ _ _ hf2
  have k2 : DataW.Trod enc Try.prog W 0 (fun _ => true) true 49 (.slice a2_ n2_ m2_) d2 p2 := ⟨fu2, hf2⟩
  obtain ⟨l2, ⟨A2, c2, e2, C2, R2⟩, w2⟩ := (opens_slice Try.underlying49 (by kernel_rfl) op126).2 H enc W 0 (fun _ => true) true fu2 _ _ hf2
  obtain ⟨rfl, rfl, rfl⟩ : a2_ = A2 ∧ n2_ = l2.length ∧ m2_ = c2 := by simpa [Value.cells] using e2
  obtain ⟨a3_, n3_, m3_, rfl⟩ := okWide_slice Try.underlying50 (hval 3 50 v3 rfl rfl)
  obtain ⟨fu3, hf3⟩ := h3
  have lt3 : ∀ x ∈ p3, x.block < W.heap.size := DataW.trod_lt fu3 _ _ _ hf3
  have k3 : DataW.Trod enc Try.prog W 0 (fun _ => true) true 50 (.slice a3_ n3_ m3_) d3 p3 := ⟨fu3, hf3⟩
  obtain ⟨l3, ⟨A3, c3, e3, C3, R3⟩, w3⟩ := (opens_slice Try.underlying50 (by kernel_rfl) (opens_int Try.underlying2 (by kernel_rfl) : Opens Try.prog (Kd.int .i64) (fun n => (Lit.int .i64 n).wf = true) 2)).2 H enc W 0 (fun _ => true) true fu3 _ _ hf3
  obtain ⟨rfl, rfl, rfl⟩ : a3_ = A3 ∧ n3_ = l3.length ∧ m3_ = c3 := by simpa [Value.cells] using e3
  clear hA0 hval0 hsz0
  obtain ⟨k, hk⟩ := Pure.FnExactMapPages a0 a1 l2 l3 w0 w1 w2 w3
  refine (laws_FnExactMapPages.calls k a0 a1 _ _ l2 _ _ l3 true W R2 C2 R3 C3 hk).mono fun e W' ⟨he, bel⟩ => ?_
  subst he
  exact ⟨_, rfl, _, _, _, [], _, [], hW', trodAll_mk1 (shut_bool Try.underlying4 _), (trodAll_cons_mk (shut_string Try.underlying9 y0) (trodAll_cons_mk (shut_int Try.underlying2 w1) (trodAll_cons_mk (Below.trod laidOut (by kernel_rfl) (of_decide_eq_true (by kernel_rfl)) k2 bel lt2) (trodAll_cons_mk (Below.trod laidOut (by kernel_rfl) (of_decide_eq_true (by kernel_rfl)) k3 bel lt3) trodAll_mk0)))), rfl, bel.frame _, fun h => by cases h⟩
theorem over : Rows.fnExactMapPagesRow.holds Try.pinned (OpenSpec.ofChange Rows.fnExactMapPagesSpec) :=
  OpenClaim.holds_of_wide 5 Try.f5 rfl rfl rfl rfl rfl rfl rfl ⟨rfl, rfl, rfl, rfl, rfl⟩ rfl rfl rfl rfl rfl (by kernel_rfl) Try.func5 (by kernel_rfl)
    (of_decide_eq_true (by kernel_rfl)) (by unfold Func.isWrapper; first | (rw [if_pos (by decide +kernel)]; kernel_rfl) | (rw [if_neg (by decide +kernel)]; exact ⟨rfl, rfl⟩))
    (fun os started H enc _ => lifted os started H enc)
theorem proved : Rows.FnExactMapPagesSaid := over
end Go.Proofs.Ytmajbehafgajmaa.fnExactMapPages
namespace Go.Proofs.Ytmajbehafgajmaa
/-- The row, under a short name, for the claim. -/
theorem fnExactMapPages_holds : Rows.FnExactMapPagesSaid := fnExactMapPages.proved
end Go.Proofs.Ytmajbehafgajmaa
