-- Written for this claim by this session's own driver (wip/xprint.py, wip/xrow.py).
import Derived.Test.YtjpgelnhmcblmaaRows
import Derived.Test.YtjpgelnhmcblmaaQFnExactSpreadBufsx
import Derived.Test.YtjpgelnhmcblmaaTFnExactSpreadBufs
import Derived.Test.YtjpgelnhmcblmaaPureFnExactSpreadBufs
import Derived.WalkKit
import Derived.ProofKit
import Derived.OpenShut
import Derived.ShutString
import Derived.ChangeOld
import Derived.Below
import Derived.SizedLaws
namespace Go.Proofs.Ytjpgelnhmcblmaa.fnExactSpreadBufs
open Go.ChangeShapes Go.WideShapes Go.ChangeAt Go.RowKit Go.Proofs.YtjpgelnhmcblmaaW.PrintWords Go.Proofs.Ytjpgelnhmcblmaa.Op Go.Proofs.Ytjpgelnhmcblmaa.QFnExactSpreadBufs
open Go.ChangeMaps (open_string shut_string)
set_option linter.unusedVariables false
theorem own : ownKnob Try.prog.godebug = none := by kernel_rfl
theorem laidOut : laidOutB Try.prog = true := by kernel_rfl
set_option maxRecDepth 100000 in
set_option maxHeartbeats 4000000 in
theorem lifted (os : Os) (started : os.Started) (H : Type) (enc : TypeId × Value → H) :
    ReturnsInHanded {} Try.checked os 9 .any (Rows.fnExactSpreadBufsSpec.pre6 enc Try.prog Try.f9 Rows.fnExactSpreadBufsRow.domain false) (Rows.fnExactSpreadBufsSpec.post enc Try.prog Try.f9 false true false false) := by
  refine returnsInHanded_of_change_sized (C := Try.checked) own started (by kernel_rfl) Try.func9
    (ChangeSpec.witness6 (enc := enc) (C := Try.checked) false ⟨#[], #[.string ByteArray.empty, .slice none 0 0, .string ByteArray.empty], []⟩ 8 (by kernel_rfl) (by kernel_rfl) (by kernel_rfl) (by kernel_rfl)) ?_
  intro W base args ds gs before hval0 hW hcnd hsz0 _
  have hval : ∀ (j : Nat) t v, Try.f9.params[j]? = some t → args[j]? = some v → Value.okWide Try.prog W .any base t v := hval0
  have hW' := hW
  obtain ⟨p, q, hA0, hV, rfl, hfz, hnd⟩ := hW
  have hA : DataW.TrodAll enc Try.prog W 0 (fun _ => true) true Try.f9.params.toList args.toList ds p := hA0
  rw [Try.params9] at hA hval
  obtain ⟨v0, vs0, d0, ds0, p0, q0, hargs, rfl, rfl, h0, r0⟩ := trodAll_cons hA
  obtain ⟨v1, vs1, d1, ds1, p1, q1, rfl, rfl, rfl, h1, r1⟩ := trodAll_cons r0
  obtain ⟨v2, vs2, d2, ds2, p2, q2, rfl, rfl, rfl, h2, r2⟩ := trodAll_cons r1
  obtain ⟨rfl, rfl, rfl⟩ := trodAll_nil r2
  obtain rfl : args = #[v0, v1, v2] := by cases args; simp_all
  obtain ⟨rfl, rfl⟩ := trodVars_none hV
  obtain ⟨a0, rfl, rfl, rfl, y0⟩ := open_string Try.underlying9 (hval 0 9 v0 rfl rfl) h0
  have w0 : a0.size ≤ 9223372036854775807 := by have := y0; unfold maxLen at this; exact this
  obtain ⟨a1_, n1_, m1_, rfl⟩ := okWide_slice Try.underlying51 (hval 1 51 v1 rfl rfl)
  obtain ⟨fu1, hf1⟩ := h1
  have lt1 : ∀ x ∈ p1, x.block < W.heap.size := DataW.trod_lt fu1 _ _ _ hf1
  have k1 : DataW.Trod enc Try.prog W 0 (fun _ => true) true 51 (.slice a1_ n1_ m1_) d1 p1 := ⟨fu1, hf1⟩
  obtain ⟨l1, ⟨A1, c1, e1, C1, R1⟩, w1⟩ := (opens_slice Try.underlying51 (by kernel_rfl) op126).2 H enc W 0 (fun _ => true) true fu1 _ _ hf1
  obtain ⟨rfl, rfl, rfl⟩ : a1_ = A1 ∧ n1_ = l1.length ∧ m1_ = c1 := by simpa [Value.cells] using e1
  obtain ⟨a2, rfl, rfl, rfl, y2⟩ := open_string Try.underlying9 (hval 2 9 v2 rfl rfl) h2
  have w2 : a2.size ≤ 9223372036854775807 := by have := y2; unfold maxLen at this; exact this
  clear hA0 hval0 hsz0
  obtain ⟨k, hk⟩ := Pure.FnExactSpreadBufs a0 l1 a2 w0 w1 w2
  refine (laws_FnExactSpreadBufs.calls k a0 _ _ l1 a2 true W R1 C1 hk).mono fun e W' ⟨he, bel⟩ => ?_
  subst he
  exact ⟨_, rfl, _, _, _, [], _, [], hW', trodAll_mk1 (shut_bool Try.underlying4 _), (trodAll_cons_mk (shut_string Try.underlying9 y0) (trodAll_cons_mk (Below.trod laidOut (by kernel_rfl) (of_decide_eq_true (by kernel_rfl)) k1 bel lt1) (trodAll_cons_mk (shut_string Try.underlying9 y2) trodAll_mk0))), rfl, bel.frame _, fun h => by cases h⟩
theorem over : Rows.fnExactSpreadBufsRow.holds Try.pinned (OpenSpec.ofChange Rows.fnExactSpreadBufsSpec) :=
  OpenClaim.holds_of_wide 9 Try.f9 rfl rfl rfl rfl rfl rfl rfl ⟨rfl, rfl, rfl, rfl, rfl⟩ rfl rfl rfl rfl rfl (by kernel_rfl) Try.func9 (by kernel_rfl)
    (of_decide_eq_true (by kernel_rfl)) (by unfold Func.isWrapper; first | (rw [if_pos (by decide +kernel)]; kernel_rfl) | (rw [if_neg (by decide +kernel)]; exact ⟨rfl, rfl⟩))
    (fun os started H enc _ => lifted os started H enc)
theorem proved : Rows.FnExactSpreadBufsSaid := over
end Go.Proofs.Ytjpgelnhmcblmaa.fnExactSpreadBufs
namespace Go.Proofs.Ytjpgelnhmcblmaa
/-- The row, under a short name, for the claim. -/
theorem fnExactSpreadBufs_holds : Rows.FnExactSpreadBufsSaid := fnExactSpreadBufs.proved
end Go.Proofs.Ytjpgelnhmcblmaa
