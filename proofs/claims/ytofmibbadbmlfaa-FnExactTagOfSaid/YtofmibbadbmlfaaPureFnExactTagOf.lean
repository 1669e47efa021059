/- The program's TagOf returns what the reference's returns, for all arguments. Conditions: none. -/
import Derived.Test.YtofmibbadbmlfaaQFnExactTagOfx
import Derived.Test.YtofmibbadbmlfaaPl
set_option linter.unusedVariables false
set_option linter.unusedSimpArgs false
namespace Go.Proofs.Ytofmibbadbmlfaa.Pure
open Go.RowKit Go.Proofs.Ytofmibbadbmlfaa.QFnExactTagOf Go.Proofs.YtofmibbadbmlfaaW.PrintWords Go.Proofs.YtofmibbadbmlfaaW.PrintLast Go.Proofs.Ytofmibbadbmlfaa.Pl Go.Proofs.YtofmibbadbmlfaaW.PrintMore
theorem spec_l01Mod_eq (a m : Int) (hm : 0 < m) (hm1 : m ≤ 4611686018427387904) : spec_l01Mod.f a m = some (a % m) := by
  unfold spec_l01Mod.f; rw [if_neg (by omega)]; exact go_mod a m hm hm1
theorem spec_Word_eq (a : Int) : spec_Word.f a = some (a % 4294967296) := by
  unfold spec_Word.f; rw [spec_l01Mod_eq _ _ (by omega) (by omega)]; rfl

/-- One step of the checksum, as the machine reckons it. -/
def mixStep (x b : Int) : Int := Int.tmod (wrap64 ((wrap64 ((wrap64 (x * 65599)) + (wrap64 b))) + 1)) 2147483629
def mixEnd (x : Int) : Int := Int.tmod (wrap64 ((wrap64 (x * 40503)) + 77)) 2147483629
def mixFrom (s : ByteArray) (x : Int) : Nat → Int
  | 0 => x
  | n + 1 => mixStep (mixFrom s x n) (bt s n)
/-- The checksum of a text. -/
def mixOf (s : ByteArray) (seed : Int) : Int := mixEnd (mixFrom s (seed % 2147483629 + 1) s.size)

theorem spec_mix_ends (s : ByteArray) (hs : (s.size : Int) ≤ 140737488351232) (x : Int) (d : Nat) : ∀ i : Nat, i + d = s.size → Ev (fun k => spec_Mix.l0 k s (mixFrom s x i) i) (mixEnd (mixFrom s x s.size)) := by
  induction d with
  | zero =>
    intro i hi
    obtain rfl : i = s.size := by omega
    exact Ev.step (f := fun _ => some (mixEnd (mixFrom s x s.size))) (fun k => by simp only [spec_Mix.l0]; rw [if_neg (by omega)]; rfl) (Ev.now _)
  | succ d ih =>
    intro i hi
    refine Ev.step (fun k => ?_) (ih (i + 1) (by omega))
    simp only [spec_Mix.l0]
    rw [if_pos (by omega), if_pos (by omega), w64 (a := (i : Int) + 1) (by omega) (by omega)]
    have e1 : ((i : Int) + 1) = ((i + 1 : Nat) : Int) := by omega
    rw [e1]; rfl
theorem spec_Mix_ev (s : ByteArray) (seed : Int) (hs : (s.size : Int) ≤ 65536) : Ev (fun k => spec_Mix.f k s seed) (mixOf s seed) := by
  have h0 := Int.emod_nonneg seed (show (2147483629:Int) ≠ 0 by decide)
  have h1 := Int.emod_lt_of_pos seed (show (0:Int) < 2147483629 by decide)
  refine Ev.congr (f := fun k => spec_Mix.l0 k s (mixFrom s (seed % 2147483629 + 1) 0) (0 : Nat)) (fun k => ?_) (spec_mix_ends s (by omega) _ s.size 0 (by omega))
  unfold spec_Mix.f
  rw [if_neg (by omega), spec_l01Mod_eq _ _ (by omega) (by omega)]
  simp only [Option.bind_some]
  rw [w64 (by omega) (by omega)]; rfl

theorem impl_mix_ends (s : ByteArray) (hs : (s.size : Int) ≤ 140737488351232) (x : Int) (d : Nat) : ∀ i : Nat, i + d = s.size → Ev (fun k => impl_ymix.l0 k s (mixFrom s x i) s.size i) (mixEnd (mixFrom s x s.size)) := by
  induction d with
  | zero =>
    intro i hi
    obtain rfl : i = s.size := by omega
    exact Ev.step (f := fun _ => some (mixEnd (mixFrom s x s.size))) (fun k => by simp only [impl_ymix.l0]; rw [if_neg (by omega)]; rfl) (Ev.now _)
  | succ d ih =>
    intro i hi
    refine Ev.step (fun k => ?_) (ih (i + 1) (by omega))
    simp only [impl_ymix.l0]
    rw [if_pos (by omega), if_pos (by omega), if_pos (by omega), w64 (a := (i : Int) + 1) (by omega) (by omega)]
    have e1 : ((i : Int) + 1) = ((i + 1 : Nat) : Int) := by omega
    rw [e1]; rfl
theorem impl_ymod_eq (a m : Int) (hm : 0 < m) (hm1 : m ≤ 4611686018427387904) : impl_ymod.f a m = some (a % m) := by
  unfold impl_ymod.f; rw [if_neg (by omega)]; exact go_mod a m hm hm1
theorem impl_ymix_ev (s : ByteArray) (seed : Int) (hs : (s.size : Int) ≤ 140737488351232) : Ev (fun k => impl_ymix.f k s seed) (mixOf s seed) := by
  have h0 := Int.emod_nonneg seed (show (2147483629:Int) ≠ 0 by decide)
  have h1 := Int.emod_lt_of_pos seed (show (0:Int) < 2147483629 by decide)
  refine Ev.congr (f := fun k => impl_ymix.l0 k s (mixFrom s (seed % 2147483629 + 1) 0) s.size (0 : Nat)) (fun k => ?_) (impl_mix_ends s hs _ s.size 0 (by omega))
  unfold impl_ymix.f
  rw [impl_ymod_eq _ _ (by omega) (by omega)]
  simp only [Option.bind_some]
  rw [w64 (by omega) (by omega)]; rfl

theorem FnExactTagOf : laws_FnExactTagOf.Pure := by
  intro a b ha hb
  refine Ev.rounds (r := true) ?_
  by_cases h0 : (a.size : Int) > 1048576
  · exact Ev.congr (fun k => by unfold laws_FnExactTagOf.f; rw [if_pos h0]) (Ev.now _)
  · by_cases h1 : (b.size : Int) > 1048576
    · exact Ev.congr (fun k => by unfold laws_FnExactTagOf.f; rw [if_neg h0, if_pos h1]) (Ev.now _)
    · have key : ∀ v : ByteArray, Ev (fun k => spec_TagOf.f k a b) v → Ev (fun k => impl_TagOf.f k a b) v → Ev (fun k => laws_FnExactTagOf.f k a b) true := by
        intro v g1 g2
        refine Ev.congr (fun k => by unfold laws_FnExactTagOf.f; rw [if_neg h0, if_neg h1]) (Ev.bind g1 (Ev.bind g2 ?_))
        rw [if_pos rfl]; exact Ev.now _
      have hab : (a ++ b).size = a.size + b.size := ByteArray.size_append
      have hba : (b ++ a).size = b.size + a.size := ByteArray.size_append
      by_cases hl : (a.size : Int) > 4096 ∨ (b.size : Int) > 4096
      · refine key (⟨#[]⟩ : ByteArray) ?_ ?_
        · by_cases h2 : (a.size : Int) > 4096
          · refine Ev.congr (fun k => by unfold spec_TagOf.f; rw [if_pos h2]) (Ev.step (f := fun _ => some (⟨#[]⟩ : ByteArray)) (fun k => by simp only [spec_TagOf.j0]; rw [if_pos trivial]) (Ev.now _))
          · refine Ev.congr (fun k => by unfold spec_TagOf.f; rw [if_neg h2, decide_eq_true (by omega)]) (Ev.step (f := fun _ => some (⟨#[]⟩ : ByteArray)) (fun k => by simp only [spec_TagOf.j0]; rw [if_pos trivial]) (Ev.now _))
        · refine Ev.congr (fun k => ?_) (Ev.now (⟨#[]⟩ : ByteArray))
          unfold impl_TagOf.f impl_ylongKey.f
          have e : [a, b].any longKey = true := by
            simp only [List.any_cons, List.any_nil, longKey, Bool.or_false, Bool.or_eq_true, decide_eq_true_eq]; exact hl
          rw [e]; rfl
      · have h2 : ¬ (a.size : Int) > 4096 := fun h => hl (.inl h)
        have h3 : ¬ (b.size : Int) > 4096 := fun h => hl (.inr h)
        obtain ⟨u, hu⟩ : ∃ u, u = impl_PutWord.f (mixOf (a ++ b) 21) := ⟨_, rfl⟩
        obtain ⟨v, hv⟩ : ∃ v, v = impl_PutWord.f (mixOf (b ++ a) 22) := ⟨_, rfl⟩
        have p4 : ∀ n, ∃ t, impl_PutWord.f n = some t ∧ spec_PutWord.f n = some t ∧ t.size = 4 := by
          intro n
          refine ⟨_, rfl, ?_, strOfNums_size _⟩
          unfold spec_PutWord.f
          rw [spec_Word_eq]
          simp only [Option.bind_some]
          rw [Int.emod_eq_of_lt (a := n % 4294967296 / 16777216) (b := 256) (by omega) (by omega)]
        obtain ⟨t1, i1, s1, z1⟩ := p4 (mixOf (a ++ b) 21)
        obtain ⟨t2, i2, s2, z2⟩ := p4 (mixOf (b ++ a) 22)
        refine key (t1 ++ t2) ?_ ?_
        · refine Ev.congr (fun k => by unfold spec_TagOf.f; rw [if_neg h2, decide_eq_false h3]) ?_
          refine Ev.step (fun k => by simp only [spec_TagOf.j0]; rw [if_neg (by simp), if_pos (by omega)]) ?_
          refine Ev.bind (spec_Mix_ev (a ++ b) 21 (by omega)) ?_
          refine Ev.congr (f := fun k => (spec_Mix.f k (b ++ a) 22).bind fun t109 => ((spec_PutWord.f t109).bind fun t110 => (if t1.size + t110.size ≤ 9223372036854775807 then (some (t1 ++ t110)) else (none)))) (fun k => by rw [s1]; simp only [Option.bind_some]; rw [if_pos (by omega)]) ?_
          refine Ev.bind (spec_Mix_ev (b ++ a) 22 (by omega)) ?_
          exact Ev.congr (f := fun _ => some (t1 ++ t2)) (fun k => by rw [s2]; simp only [Option.bind_some]; rw [if_pos (by omega)]) (Ev.now _)
        · have e : [a, b].any longKey = false := by
            simp only [List.any_cons, List.any_nil, longKey, Bool.or_false, Bool.or_eq_false_iff, decide_eq_false_iff_not]; exact ⟨h2, h3⟩
          refine Ev.congr (f := fun k => (impl_ymix.f k (a ++ b) 21).bind fun t119 => ((impl_PutWord.f t119).bind fun t120 => (if b.size + a.size ≤ 9223372036854775807 then ((impl_ymix.f k (b ++ a) 22).bind fun t121 => ((impl_PutWord.f t121).bind fun t122 => (if t120.size + t122.size ≤ 9223372036854775807 then (some (t120 ++ t122)) else (none)))) else (none)))) (fun k => by unfold impl_TagOf.f impl_ylongKey.f; rw [e]; simp only [Option.bind_some]; rw [if_neg (by simp), if_pos (by omega)]) ?_
          refine Ev.bind (impl_ymix_ev (a ++ b) 21 (by omega)) ?_
          refine Ev.congr (f := fun k => (impl_ymix.f k (b ++ a) 22).bind fun t121 => ((impl_PutWord.f t121).bind fun t122 => (if t1.size + t122.size ≤ 9223372036854775807 then (some (t1 ++ t122)) else (none)))) (fun k => by rw [i1]; simp only [Option.bind_some]; rw [if_pos (by omega)]) ?_
          refine Ev.bind (impl_ymix_ev (b ++ a) 22 (by omega)) ?_
          exact Ev.congr (f := fun _ => some (t1 ++ t2)) (fun k => by rw [i2]; simp only [Option.bind_some]; rw [if_pos (by omega)]) (Ev.now _)

end Go.Proofs.Ytofmibbadbmlfaa.Pure
