/- The program's SetWord returns what the reference's returns, for all arguments. Conditions: none. -/
import Derived.Test.YtofmibbadbmlfaaQFnExactSetWordx
import Derived.Test.YtofmibbadbmlfaaPl
set_option linter.unusedVariables false
set_option linter.unusedSimpArgs false
namespace Go.Proofs.Ytofmibbadbmlfaa.Pure
open Go.RowKit Go.Proofs.Ytofmibbadbmlfaa.QFnExactSetWord Go.Proofs.YtofmibbadbmlfaaW.PrintWords Go.Proofs.YtofmibbadbmlfaaW.PrintLast Go.Proofs.Ytofmibbadbmlfaa.Pl Go.Proofs.YtofmibbadbmlfaaW.PrintMore
theorem spec_l01Mod_eq (a m : Int) (hm : 0 < m) (hm1 : m ≤ 4611686018427387904) : spec_l01Mod.f a m = some (a % m) := by
  unfold spec_l01Mod.f; rw [if_neg (by omega)]; exact go_mod a m hm hm1
theorem spec_Word_eq (a : Int) : spec_Word.f a = some (a % 4294967296) := by
  unfold spec_Word.f; rw [spec_l01Mod_eq _ _ (by omega) (by omega)]; rfl

def wordAt (s : ByteArray) (n : Int) : Int := bt s n + bt s (n + 1) * 256 + bt s (n + 2) * 65536 + bt s (n + 3) * 16777216
theorem wordAt_range (s : ByteArray) (n : Int) : 0 ≤ wordAt s n ∧ wordAt s n ≤ 4294967295 := by
  unfold wordAt
  have h0 := bt_range s n; have h1 := bt_range s (n + 1); have h2 := bt_range s (n + 2); have h3 := bt_range s (n + 3)
  omega
theorem spec_l01Word_eq (s : ByteArray) (n : Int) (h0 : 0 ≤ n) (h1 : n + 3 < (s.size : Int)) (h2 : (s.size : Int) ≤ 140737488351232) : spec_l01Word.f s n = some (wordAt s n) := by
  unfold spec_l01Word.f wordAt
  have b0 := bt_range s n; have b1 := bt_range s (n + 1); have b2 := bt_range s (n + 2); have b3 := bt_range s (n + 3)
  rw [w64 (a := n + 1) (by omega) (by omega), w64 (a := n + 2) (by omega) (by omega), w64 (a := n + 3) (by omega) (by omega)]
  rw [if_pos (by omega), if_pos (by omega), if_pos (by omega), if_pos (by omega), if_pos (by omega), if_pos (by omega), if_pos (by omega), if_pos (by omega)]
  congr 1
  unfold wrap64
  omega

theorem impl_ybig_end (k : Nat) (s : ByteArray) (hk : 2 ≤ k) : impl_ybig.f k [s] = some (decide ((s.size : Int) > 65536)) := by
  obtain ⟨k, rfl⟩ : ∃ m, k = m + 1 + 1 := ⟨k - 2, by omega⟩
  unfold impl_ybig.f
  simp only [impl_ybig.l0]
  have e0 : rdOf ByteArray.empty [s] 0 = s := rfl
  have e1 : (([s] : List ByteArray).length : Int) = 1 := rfl
  have e2 : wrap64 (0 + 1) = 1 := by unfold wrap64; omega
  rw [e0, e1, e2, if_pos (by decide), if_pos (by decide), if_pos (by decide)]
  by_cases h : (s.size : Int) > 65536
  · rw [if_pos h, decide_eq_true h]
  · rw [if_neg h, decide_eq_false h, if_neg (by decide)]
theorem impl_ybig_ev (s : ByteArray) : Ev (fun k => impl_ybig.f k [s]) (decide ((s.size : Int) > 65536)) := ⟨2, fun k hk => impl_ybig_end k s hk⟩

theorem impl_yfits_eq (n at_ size : Int) (hn0 : 0 ≤ n) (hn : n ≤ 140737488351232) (h0 : -9223372036854775808 ≤ at_) : impl_yfits.f n at_ size = some (decide (0 ≤ at_ ∧ 0 ≤ size ∧ at_ + size ≤ n ∧ at_ ≤ n)) := by
  unfold impl_yfits.f
  by_cases c0 : at_ ≥ 0
  · rw [if_pos c0]
    by_cases c1 : size ≥ 0
    · rw [if_pos c1]
      by_cases c2 : at_ ≤ n
      · rw [if_pos c2, w64 (by omega) (by omega)]
        congr 1
        by_cases c3 : size ≤ n - at_
        · rw [decide_eq_true c3, decide_eq_true (by omega)]
        · rw [decide_eq_false c3, decide_eq_false (by omega)]
      · rw [if_neg c2, decide_eq_false (by omega)]
    · rw [if_neg c1, decide_eq_false (by omega)]
  · rw [if_neg c0, decide_eq_false (by omega)]
def getOk (s : ByteArray) (n : Int) : Prop := (s.size : Int) ≤ 65536 ∧ 0 ≤ n ∧ n + 4 ≤ (s.size : Int)
theorem spec_GetWord_eq (s : ByteArray) (n : Int) : (getOk s n ∧ spec_GetWord.f s n = some (true, wordAt s n)) ∨ (¬ getOk s n ∧ spec_GetWord.f s n = some (false, 0)) := by
  unfold spec_GetWord.f getOk
  by_cases h0 : (s.size : Int) > 65536
  · rw [if_pos h0]; right; exact ⟨fun h => by omega, rfl⟩
  · rw [if_neg h0]
    by_cases h1 : n < 0
    · rw [if_pos h1]; right; exact ⟨fun h => by omega, rfl⟩
    · rw [if_neg h1, w64 (by omega) (by omega)]
      by_cases h2 : n > (s.size : Int) - 4
      · rw [if_pos h2]; right; exact ⟨fun h => by omega, rfl⟩
      · rw [if_neg h2, spec_l01Word_eq s n (by omega) (by omega) (by omega)]; left; exact ⟨by omega, rfl⟩

theorem putword_some (n : Int) : ∃ t, impl_PutWord.f n = some t ∧ spec_PutWord.f n = some t ∧ t.size = 4 := by
  refine ⟨_, rfl, ?_, strOfNums_size _⟩
  unfold spec_PutWord.f
  rw [spec_Word_eq, Option.bind_some, Int.emod_eq_of_lt (a := n % 4294967296 / 16777216) (b := 256) (by omega) (by omega)]
theorem FnExactSetWord : laws_FnExactSetWord.Pure := by
  intro s n v hs0 hn _
  obtain ⟨hn0, hn1⟩ := wf64 hn
  refine ⟨3, ?_⟩
  unfold laws_FnExactSetWord.f
  by_cases h0 : (s.size : Int) > 1048576
  · rw [if_pos h0]
  · rw [if_neg h0]
    obtain ⟨t, i1, s1, z1⟩ := putword_some v
    have key : ∀ u, spec_SetWord.f s n v = some u → impl_SetWord.f 3 s n v = some u → ((spec_SetWord.f s n v).bind fun t122 => ((impl_SetWord.f 3 s n v).bind fun t123 => (if t123.toList = t122.toList then (some true) else (some false)))) = some true := by
      intro u e1 e2
      rw [e1, Option.bind_some, e2, Option.bind_some, if_pos rfl]
    by_cases hok : getOk s n
    · have hok' := hok
      obtain ⟨g1, g2, g3⟩ := hok'
      have hx : (s.extract 0 n.toNat).size = n.toNat := by rw [ByteArray.size_extract]; omega
      have hy : (s.extract (n + 4).toNat s.size).size = s.size - (n + 4).toNat := by rw [ByteArray.size_extract]; omega
      have w4 : wrap64 (n + 4) = n + 4 := w64 (by omega) (by omega)
      refine key (s.extract 0 n.toNat ++ t ++ s.extract (n + 4).toNat s.size) ?_ ?_
      · unfold spec_SetWord.f
        rcases spec_GetWord_eq s n with ⟨_, e⟩ | ⟨h, _⟩
        · rw [e, Option.bind_some, if_pos rfl, if_pos g2, if_pos (by omega), s1, Option.bind_some, if_pos (by omega), w4, if_pos (by omega), if_pos (by omega), if_pos (by rw [ByteArray.size_append]; omega)]
        · exact absurd hok h
      · unfold impl_SetWord.f
        rw [impl_ybig_end 3 s (by omega), decide_eq_false (by omega), Option.bind_some, if_neg (by simp), impl_yfits_eq _ _ _ (by omega) (by omega) hn0, decide_eq_true ⟨g2, by omega, by omega, by omega⟩, Option.bind_some]
        simp only [impl_SetWord.j0]
        rw [if_neg (by simp), i1, Option.bind_some]
        have e : impl_ysplice.f s n t = some (s.extract 0 n.toNat ++ t ++ s.extract (n + 4).toNat s.size) := by
          unfold impl_ysplice.f
          rw [if_pos g2, if_pos (by omega), if_pos (by omega), z1, show wrap64 (n + ((4 : Nat) : Int)) = n + 4 from by rw [w64 (by omega) (by omega)]; rfl, if_pos (by omega), if_pos (by omega), if_pos (by rw [ByteArray.size_append]; omega)]
        rw [e, Option.bind_some]
    · refine key (⟨#[]⟩ : ByteArray) ?_ ?_
      · unfold spec_SetWord.f
        rcases spec_GetWord_eq s n with ⟨h, _⟩ | ⟨_, e⟩
        · exact absurd h hok
        · rw [e, Option.bind_some, if_neg (by simp)]
      · unfold impl_SetWord.f
        rw [impl_ybig_end 3 s (by omega)]
        by_cases hb : (s.size : Int) > 65536
        · rw [decide_eq_true hb, Option.bind_some, if_pos rfl]
          simp only [impl_SetWord.j0]
          rw [if_pos trivial]
        · rw [decide_eq_false hb, Option.bind_some, if_neg (by simp), impl_yfits_eq _ _ _ (by omega) (by omega) hn0, decide_eq_false (fun h => hok ⟨by omega, h.1, by omega⟩), Option.bind_some]
          simp only [impl_SetWord.j0]
          rw [if_pos (by simp)]

end Go.Proofs.Ytofmibbadbmlfaa.Pure
