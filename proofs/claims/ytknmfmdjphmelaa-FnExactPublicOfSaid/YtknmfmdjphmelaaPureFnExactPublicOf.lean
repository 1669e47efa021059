/- The program's PublicOf returns what the reference's returns, for all arguments. Conditions: none. -/
import Derived.Test.YtknmfmdjphmelaaPFnExactPublicOfx1
import Derived.Test.YtknmfmdjphmelaaPl
set_option linter.unusedVariables false
set_option linter.unusedSimpArgs false
namespace Go.Proofs.Ytknmfmdjphmelaa.Pure
open Go.RowKit Go.Proofs.Ytknmfmdjphmelaa.PFnExactPublicOf Go.Proofs.YtknmfmdjphmelaaW.PrintWords Go.Proofs.YtknmfmdjphmelaaW.PrintLast Go.Proofs.Ytknmfmdjphmelaa.Pl
theorem spec_l15Power_ends (d : Nat) : ∀ (a n out : Int), 0 ≤ n → n < 2 ^ d → n ≤ 9223372036854775807 → ∃ r, Ev (fun k => spec_l15Power.l0 k a n out) r ∧ Ev (fun k => impl_ypower.l0 k a n out) r := by
  induction d with
  | zero =>
    intro a n out h0 h1 _
    have h : ¬ n > 0 := by simp at h1; omega
    exact ⟨out, Ev.step (f := fun _ => some out) (fun k => by simp only [spec_l15Power.l0]; rw [if_neg h]) (Ev.now _), Ev.step (f := fun _ => some out) (fun k => by simp only [impl_ypower.l0]; rw [if_neg h]) (Ev.now _)⟩
  | succ d ih =>
    intro a n out h0 h1 h2
    by_cases h : n > 0
    · have hd : n / 2 < 2 ^ d := by rw [Int.pow_succ] at h1; omega
      have hw : wrap64 (Int.tdiv n 2) = n / 2 := by rw [tdiv_nn h0, w64 (by omega) (by omega)]
      have hm : Int.tmod n 2 = n % 2 := tmod_nn h0
      have ha : bits .and .i64 n 1 = n % 2 := and1 n
      by_cases hb : n % 2 = 1
      · obtain ⟨r, r1, r2⟩ := ih (Int.tmod (wrap64 (a * a)) 2147482763) (n / 2) (Int.tmod (wrap64 (out * a)) 2147482763) (by omega) hd (by omega)
        exact ⟨r, Ev.step (fun k => by simp only [spec_l15Power.l0]; rw [if_pos h, hm, if_pos hb, hw]) r1, Ev.step (fun k => by simp only [impl_ypower.l0]; rw [if_pos h, ha, if_pos hb]) r2⟩
      · obtain ⟨r, r1, r2⟩ := ih (Int.tmod (wrap64 (a * a)) 2147482763) (n / 2) out (by omega) hd (by omega)
        exact ⟨r, Ev.step (fun k => by simp only [spec_l15Power.l0]; rw [if_pos h, hm, if_neg hb, hw]) r1, Ev.step (fun k => by simp only [impl_ypower.l0]; rw [if_pos h, ha, if_neg hb]) r2⟩
    · exact ⟨out, Ev.step (f := fun _ => some out) (fun k => by simp only [spec_l15Power.l0]; rw [if_neg h]) (Ev.now _), Ev.step (f := fun _ => some out) (fun k => by simp only [impl_ypower.l0]; rw [if_neg h]) (Ev.now _)⟩

theorem FnExactPublicOf : laws_FnExactPublicOf.Pure := by
  intro s hs
  obtain ⟨hs0, hs1⟩ := wf64 hs
  by_cases h1 : s < 1
  · refine ⟨0, ?_⟩
    unfold laws_FnExactPublicOf.f spec_PublicOf.f impl_PublicOf.f impl_ysecretOk.f impl_yin.f
    rw [if_pos h1, if_neg (by omega)]; rfl
  · by_cases h2 : s ≥ 1073741381
    · refine ⟨0, ?_⟩
      unfold laws_FnExactPublicOf.f spec_PublicOf.f impl_PublicOf.f impl_ysecretOk.f impl_yin.f
      rw [if_neg h1, if_pos h2, if_pos (by omega), decide_eq_false (by omega)]; rfl
    · obtain ⟨r, r1, r2⟩ := spec_l15Power_ends 62 4 s 1 (by omega) (by omega) (by omega)
      refine Ev.rounds (r := true) ?_
      refine Ev.congr (f := fun k => (spec_l15Power.l0 k 4 s 1).bind fun t => (impl_ypower.l0 k 4 s 1).bind fun u => if u = t then some true else some false) (fun k => ?_) ?_
      · unfold laws_FnExactPublicOf.f spec_PublicOf.f impl_PublicOf.f impl_ysecretOk.f impl_yin.f spec_l15Power.f impl_ypower.f
        rw [if_neg h1, if_neg h2, if_pos (by omega), decide_eq_true (by omega), show Int.tmod 4 2147482763 = 4 from by decide]
        simp only [Option.bind_some, if_true, Option.bind_assoc]
      · refine Ev.bind r1 (Ev.bind r2 ?_)
        rw [if_pos rfl]; exact Ev.now _

end Go.Proofs.Ytknmfmdjphmelaa.Pure
