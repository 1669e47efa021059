/- The program's Mix returns what the reference's returns, for all arguments. Conditions: none. -/
import Derived.Test.YtofmibbadbmlfaaPFnExactMixx
import Derived.Test.YtofmibbadbmlfaaPl
set_option linter.unusedVariables false
set_option linter.unusedSimpArgs false
namespace Go.Proofs.Ytofmibbadbmlfaa.Pure
open Go.RowKit Go.Proofs.Ytofmibbadbmlfaa.PFnExactMix Go.Proofs.YtofmibbadbmlfaaW.PrintWords Go.Proofs.YtofmibbadbmlfaaW.PrintLast Go.Proofs.Ytofmibbadbmlfaa.Pl Go.Proofs.YtofmibbadbmlfaaW.PrintMore
theorem impl_ybig_end (k : Nat) (s : ByteArray) (hk : 2 ≤ k) : impl_ybig.f k [s] = some (decide ((s.size : Int) > 65536)) := by
  obtain ⟨k, rfl⟩ : ∃ m, k = m + 1 + 1 := ⟨k - 2, by omega⟩
  unfold impl_ybig.f
  simp only [impl_ybig.l0]
  have e0 : rdOf ByteArray.empty [s] 0 = s := rfl
  have e1 : (([s] : List ByteArray).length : Int) = 1 := rfl
  have e2 : wrap64 (0 + 1) = 1 := by unfold wrap64; omega
  rw [e0, e1, e2, if_pos (by decide), if_pos (by decide), if_pos (by decide)]
  by_cases h : (s.size : Int) > 65536
  · rw [if_pos h, decide_eq_true h]
  · rw [if_neg h, decide_eq_false h, if_neg (by decide)]
theorem impl_ybig_ev (s : ByteArray) : Ev (fun k => impl_ybig.f k [s]) (decide ((s.size : Int) > 65536)) := ⟨2, fun k hk => impl_ybig_end k s hk⟩

/-- One step of the checksum, as the machine reckons it. -/
def mixStep (x b : Int) : Int := Int.tmod (wrap64 ((wrap64 ((wrap64 (x * 65599)) + (wrap64 b))) + 1)) 2147483629
def mixEnd (x : Int) : Int := Int.tmod (wrap64 ((wrap64 (x * 40503)) + 77)) 2147483629
def mixFrom (s : ByteArray) (x : Int) : Nat → Int
  | 0 => x
  | n + 1 => mixStep (mixFrom s x n) (bt s n)
/-- The checksum of a text. -/
def mixOf (s : ByteArray) (seed : Int) : Int := mixEnd (mixFrom s (seed % 2147483629 + 1) s.size)

theorem spec_l01Mod_eq (a m : Int) (hm : 0 < m) (hm1 : m ≤ 4611686018427387904) : spec_l01Mod.f a m = some (a % m) := by
  unfold spec_l01Mod.f; rw [if_neg (by omega)]; exact go_mod a m hm hm1

theorem spec_mix_ends (s : ByteArray) (hs : (s.size : Int) ≤ 140737488351232) (x : Int) (d : Nat) : ∀ i : Nat, i + d = s.size → Ev (fun k => spec_Mix.l0 k s (mixFrom s x i) i) (mixEnd (mixFrom s x s.size)) := by
  induction d with
  | zero =>
    intro i hi
    obtain rfl : i = s.size := by omega
    exact Ev.step (f := fun _ => some (mixEnd (mixFrom s x s.size))) (fun k => by simp only [spec_Mix.l0]; rw [if_neg (by omega)]; rfl) (Ev.now _)
  | succ d ih =>
    intro i hi
    refine Ev.step (fun k => ?_) (ih (i + 1) (by omega))
    simp only [spec_Mix.l0]
    rw [if_pos (by omega), if_pos (by omega), w64 (a := (i : Int) + 1) (by omega) (by omega)]
    have e1 : ((i : Int) + 1) = ((i + 1 : Nat) : Int) := by omega
    rw [e1]; rfl
theorem spec_Mix_ev (s : ByteArray) (seed : Int) (hs : (s.size : Int) ≤ 65536) : Ev (fun k => spec_Mix.f k s seed) (mixOf s seed) := by
  have h0 := Int.emod_nonneg seed (show (2147483629:Int) ≠ 0 by decide)
  have h1 := Int.emod_lt_of_pos seed (show (0:Int) < 2147483629 by decide)
  refine Ev.congr (f := fun k => spec_Mix.l0 k s (mixFrom s (seed % 2147483629 + 1) 0) (0 : Nat)) (fun k => ?_) (spec_mix_ends s (by omega) _ s.size 0 (by omega))
  unfold spec_Mix.f
  rw [if_neg (by omega), spec_l01Mod_eq _ _ (by omega) (by omega)]
  simp only [Option.bind_some]
  rw [w64 (by omega) (by omega)]; rfl

theorem impl_mix_ends (s : ByteArray) (hs : (s.size : Int) ≤ 140737488351232) (x : Int) (d : Nat) : ∀ i : Nat, i + d = s.size → Ev (fun k => impl_ymix.l0 k s (mixFrom s x i) s.size i) (mixEnd (mixFrom s x s.size)) := by
  induction d with
  | zero =>
    intro i hi
    obtain rfl : i = s.size := by omega
    exact Ev.step (f := fun _ => some (mixEnd (mixFrom s x s.size))) (fun k => by simp only [impl_ymix.l0]; rw [if_neg (by omega)]; rfl) (Ev.now _)
  | succ d ih =>
    intro i hi
    refine Ev.step (fun k => ?_) (ih (i + 1) (by omega))
    simp only [impl_ymix.l0]
    rw [if_pos (by omega), if_pos (by omega), if_pos (by omega), w64 (a := (i : Int) + 1) (by omega) (by omega)]
    have e1 : ((i : Int) + 1) = ((i + 1 : Nat) : Int) := by omega
    rw [e1]; rfl
theorem impl_ymod_eq (a m : Int) (hm : 0 < m) (hm1 : m ≤ 4611686018427387904) : impl_ymod.f a m = some (a % m) := by
  unfold impl_ymod.f; rw [if_neg (by omega)]; exact go_mod a m hm hm1
theorem impl_ymix_ev (s : ByteArray) (seed : Int) (hs : (s.size : Int) ≤ 140737488351232) : Ev (fun k => impl_ymix.f k s seed) (mixOf s seed) := by
  have h0 := Int.emod_nonneg seed (show (2147483629:Int) ≠ 0 by decide)
  have h1 := Int.emod_lt_of_pos seed (show (0:Int) < 2147483629 by decide)
  refine Ev.congr (f := fun k => impl_ymix.l0 k s (mixFrom s (seed % 2147483629 + 1) 0) s.size (0 : Nat)) (fun k => ?_) (impl_mix_ends s hs _ s.size 0 (by omega))
  unfold impl_ymix.f
  rw [impl_ymod_eq _ _ (by omega) (by omega)]
  simp only [Option.bind_some]
  rw [w64 (by omega) (by omega)]; rfl

theorem FnExactMix : laws_FnExactMix.Pure := by
  intro s seed _ _
  refine Ev.rounds (r := true) ?_
  by_cases h0 : (s.size : Int) > 1048576
  · exact Ev.congr (fun k => by unfold laws_FnExactMix.f; rw [if_pos h0]) (Ev.now _)
  · have key : ∀ v : Int, Ev (fun k => spec_Mix.f k s seed) v → Ev (fun k => impl_Mix.f k s seed) v → Ev (fun k => laws_FnExactMix.f k s seed) true := by
      intro v h1 h2
      refine Ev.congr (fun k => by unfold laws_FnExactMix.f; rw [if_neg h0]) (Ev.bind h1 (Ev.bind h2 ?_))
      rw [if_pos rfl]; exact Ev.now _
    by_cases hs : (s.size : Int) ≤ 65536
    · refine key _ (spec_Mix_ev s seed hs) ?_
      refine Ev.congr (fun k => rfl) (Ev.bind (impl_ybig_ev s) ?_)
      rw [decide_eq_false (by omega)]
      simp only [Bool.false_eq_true, if_false]
      exact Ev.bind (f := fun _ t => some t) (impl_ymix_ev s seed (by omega)) (Ev.now _)
    · refine key 0 (Ev.congr (fun k => by unfold spec_Mix.f; rw [if_pos (by omega)]) (Ev.now _)) ?_
      refine Ev.congr (fun k => rfl) (Ev.bind (impl_ybig_ev s) ?_)
      rw [decide_eq_true (by omega)]
      simp only [if_true]
      exact Ev.now _

end Go.Proofs.Ytofmibbadbmlfaa.Pure
