-- Written for this claim by this session's own driver (wip/xprint.py, wip/xrow.py).
import Derived.Test.YtpcpjkbjadgoiaaRows
import Derived.Test.YtpcpjkbjadgoiaaQFnExactCheckQuotex
import Derived.Test.YtpcpjkbjadgoiaaTFnExactCheckQuote
import Derived.Test.YtpcpjkbjadgoiaaPureFnExactCheckQuote
import Derived.WalkKit
import Derived.ProofKit
import Derived.OpenShut
import Derived.ShutString
import Derived.ChangeOld
import Derived.Below
import Derived.SizedLaws
namespace Go.Proofs.Ytpcpjkbjadgoiaa.fnExactCheckQuote
open Go.ChangeShapes Go.WideShapes Go.ChangeAt Go.RowKit Go.Proofs.YtpcpjkbjadgoiaaW.PrintWords Go.Proofs.Ytpcpjkbjadgoiaa.Op Go.Proofs.Ytpcpjkbjadgoiaa.QFnExactCheckQuote
open Go.ChangeMaps (open_string shut_string)
set_option linter.unusedVariables false
theorem own : ownKnob Try.prog.godebug = none := by kernel_rfl
theorem laidOut : laidOutB Try.prog = true := by kernel_rfl
set_option maxRecDepth 100000 in
set_option maxHeartbeats 4000000 in
theorem lifted (os : Os) (started : os.Started) (H : Type) (enc : TypeId × Value → H) :
    ReturnsInHanded {} Try.checked os 6 .any (Rows.fnExactCheckQuoteSpec.pre6 enc Try.prog Try.f6 Rows.fnExactCheckQuoteRow.domain false) (Rows.fnExactCheckQuoteSpec.post enc Try.prog Try.f6 false true false false) := by
  refine returnsInHanded_of_change_sized (C := Try.checked) own started (by kernel_rfl) Try.func6
    (ChangeSpec.witness6 (enc := enc) (C := Try.checked) false ⟨#[], #[.int .i64 0, .string ByteArray.empty, .slice none 0 0, .agg #[.int .i64 0, .int .i64 0]], []⟩ 8 (by kernel_rfl) (by kernel_rfl) (by kernel_rfl) (by kernel_rfl)) ?_
  intro W base args ds gs before hval0 hW hcnd hsz0 _
  have hval : ∀ (j : Nat) t v, Try.f6.params[j]? = some t → args[j]? = some v → Value.okWide Try.prog W .any base t v := hval0
  have hW' := hW
  obtain ⟨p, q, hA0, hV, rfl, hfz, hnd⟩ := hW
  have hA : DataW.TrodAll enc Try.prog W 0 (fun _ => true) true Try.f6.params.toList args.toList ds p := hA0
  rw [Try.params6] at hA hval
  obtain ⟨v0, vs0, d0, ds0, p0, q0, hargs, rfl, rfl, h0, r0⟩ := trodAll_cons hA
  obtain ⟨v1, vs1, d1, ds1, p1, q1, rfl, rfl, rfl, h1, r1⟩ := trodAll_cons r0
  obtain ⟨v2, vs2, d2, ds2, p2, q2, rfl, rfl, rfl, h2, r2⟩ := trodAll_cons r1
  obtain ⟨v3, vs3, d3, ds3, p3, q3, rfl, rfl, rfl, h3, r3⟩ := trodAll_cons r2
  obtain ⟨rfl, rfl, rfl⟩ := trodAll_nil r3
  obtain rfl : args = #[v0, v1, v2, v3] := by cases args; simp_all
  obtain ⟨rfl, rfl⟩ := trodVars_none hV
  obtain ⟨a0, rfl, rfl, rfl, w0⟩ := open_int Try.underlying2 (hval 0 2 v0 rfl rfl) h0
  obtain ⟨a1, rfl, rfl, rfl, y1⟩ := open_string Try.underlying9 (hval 1 9 v1 rfl rfl) h1
  have w1 : a1.size ≤ 9223372036854775807 := by have := y1; unfold maxLen at this; exact this
  obtain ⟨a2_, n2_, m2_, rfl⟩ := okWide_slice Try.underlying26 (hval 2 26 v2 rfl rfl)
  obtain ⟨fu2, hf2⟩ := h2
  have lt2 : ∀ x ∈ p2, x.block < W.heap.size := DataW.trod_lt fu2 _ _ _ hf2
  have k2 : DataW.Trod enc Try.prog W 0 (fun _ => true) true 26 (.slice a2_ n2_ m2_) d2 p2 := ⟨fu2, hf2⟩
  obtain ⟨l2, ⟨A2, c2, e2, C2, R2⟩, w2⟩ := (opens_slice Try.underlying26 (by kernel_rfl) (opens_int Try.underlying2 (by kernel_rfl) : Opens Try.prog (Kd.int .i64) (fun n => (Lit.int .i64 n).wf = true) 2)).2 H enc W 0 (fun _ => true) true fu2 _ _ hf2
  obtain ⟨rfl, rfl, rfl⟩ : a2_ = A2 ∧ n2_ = l2.length ∧ m2_ = c2 := by simpa [Value.cells] using e2
  obtain ⟨cs3, rfl, _⟩ := okWide_struct Try.underlying39 (hval 3 39 v3 rfl rfl)
  obtain ⟨fu3, hf3⟩ := h3
  have lt3 : ∀ x ∈ p3, x.block < W.heap.size := DataW.trod_lt fu3 _ _ _ hf3
  have k3 : DataW.Trod enc Try.prog W 0 (fun _ => true) true 39 (.agg cs3) d3 p3 := ⟨fu3, hf3⟩
  obtain ⟨x3, hK3, hQ3⟩ := (opens_struct (P := Try.prog) (t := 39) Try.underlying39 (fun x => x) (fun x => x) (fun _ => rfl) (ts := [2, 2]) rfl (by kernel_rfl) (by kernel_rfl) (opensF_cons (opens_int Try.underlying2 (by kernel_rfl) : Opens Try.prog (Kd.int .i64) (fun n => (Lit.int .i64 n).wf = true) 2) (opensF_one (opens_int Try.underlying2 (by kernel_rfl) : Opens Try.prog (Kd.int .i64) (fun n => (Lit.int .i64 n).wf = true) 2)))).2 H enc W 0 (fun _ => true) true fu3 _ _ hf3
  obtain ⟨a3_0, a3_1⟩ := x3
  obtain ⟨_, _, e3_0, rfl, rfl⟩ := hK3
  obtain ⟨w3_0, w3_1⟩ := hQ3
  obtain rfl : cs3 = #[.int .i64 a3_0, .int .i64 a3_1] := by
    have e_ : cs3.toList = _ := e3_0
    cases cs3; simpa using e_
  clear hA0 hval0 hsz0
  obtain ⟨k, hk⟩ := Pure.FnExactCheckQuote a0 a1 l2 a3_0 a3_1 w0 w1 w2 w3_0 w3_1
  refine (laws_FnExactCheckQuote.calls k a0 a1 _ _ l2 a3_0 a3_1 true W R2 C2 hk).mono fun e W' ⟨he, bel⟩ => ?_
  subst he
  exact ⟨_, rfl, _, _, _, [], _, [], hW', trodAll_mk1 (shut_bool Try.underlying4 _), (trodAll_cons_mk (shut_int Try.underlying2 w0) (trodAll_cons_mk (shut_string Try.underlying9 y1) (trodAll_cons_mk (Below.trod laidOut (by kernel_rfl) (of_decide_eq_true (by kernel_rfl)) k2 bel lt2) (trodAll_cons_mk (Below.trod laidOut (by kernel_rfl) (of_decide_eq_true (by kernel_rfl)) k3 bel lt3) trodAll_mk0)))), rfl, bel.frame _, fun h => by cases h⟩
theorem over : Rows.fnExactCheckQuoteRow.holds Try.pinned (OpenSpec.ofChange Rows.fnExactCheckQuoteSpec) :=
  OpenClaim.holds_of_wide 6 Try.f6 rfl rfl rfl rfl rfl rfl rfl ⟨rfl, rfl, rfl, rfl, rfl⟩ rfl rfl rfl rfl rfl (by kernel_rfl) Try.func6 (by kernel_rfl)
    (of_decide_eq_true (by kernel_rfl)) (by unfold Func.isWrapper; first | (rw [if_pos (by decide +kernel)]; kernel_rfl) | (rw [if_neg (by decide +kernel)]; exact ⟨rfl, rfl⟩))
    (fun os started H enc _ => lifted os started H enc)
theorem proved : Rows.FnExactCheckQuoteSaid := over
end Go.Proofs.Ytpcpjkbjadgoiaa.fnExactCheckQuote
namespace Go.Proofs.Ytpcpjkbjadgoiaa
/-- The row, under a short name, for the claim. -/
theorem fnExactCheckQuote_holds : Rows.FnExactCheckQuoteSaid := fnExactCheckQuote.proved
end Go.Proofs.Ytpcpjkbjadgoiaa
