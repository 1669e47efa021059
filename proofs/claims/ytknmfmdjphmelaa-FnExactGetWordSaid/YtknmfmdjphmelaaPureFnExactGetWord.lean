/- The program's GetWord returns what the reference's returns, for all arguments. Conditions: none. -/
import Derived.Test.YtknmfmdjphmelaaPFnExactGetWordx1
import Derived.Test.YtknmfmdjphmelaaPl
set_option linter.unusedVariables false
set_option linter.unusedSimpArgs false
namespace Go.Proofs.Ytknmfmdjphmelaa.Pure
open Go.RowKit Go.Proofs.Ytknmfmdjphmelaa.PFnExactGetWord Go.Proofs.YtknmfmdjphmelaaW.PrintWords Go.Proofs.YtknmfmdjphmelaaW.PrintLast Go.Proofs.Ytknmfmdjphmelaa.Pl
theorem impl_ybig_end (k : Nat) (s : ByteArray) (hk : 2 ≤ k) : impl_ybig.f k [s] = some (decide ((s.size : Int) > 65536)) := by
  obtain ⟨k, rfl⟩ : ∃ m, k = m + 1 + 1 := ⟨k - 2, by omega⟩
  unfold impl_ybig.f
  simp only [impl_ybig.l0]
  have e0 : rdOf ByteArray.empty [s] 0 = s := rfl
  have e1 : (([s] : List ByteArray).length : Int) = 1 := rfl
  have e2 : wrap64 (0 + 1) = 1 := by unfold wrap64; omega
  rw [e0, e1, e2, if_pos (by decide), if_pos (by decide), if_pos (by decide)]
  by_cases h : (s.size : Int) > 65536
  · rw [if_pos h, decide_eq_true h]
  · rw [if_neg h, decide_eq_false h, if_neg (by decide)]
theorem impl_ybig_ev (s : ByteArray) : Ev (fun k => impl_ybig.f k [s]) (decide ((s.size : Int) > 65536)) := ⟨2, fun k hk => impl_ybig_end k s hk⟩

def wordAt (s : ByteArray) (n : Int) : Int := bt s n + bt s (n + 1) * 256 + bt s (n + 2) * 65536 + bt s (n + 3) * 16777216
theorem wordAt_range (s : ByteArray) (n : Int) : 0 ≤ wordAt s n ∧ wordAt s n ≤ 4294967295 := by
  unfold wordAt
  have h0 := bt_range s n; have h1 := bt_range s (n + 1); have h2 := bt_range s (n + 2); have h3 := bt_range s (n + 3)
  omega
theorem spec_l01Word_eq (s : ByteArray) (n : Int) (h0 : 0 ≤ n) (h1 : n + 3 < (s.size : Int)) (h2 : (s.size : Int) ≤ 140737488351232) : spec_l01Word.f s n = some (wordAt s n) := by
  unfold spec_l01Word.f wordAt
  have b0 := bt_range s n; have b1 := bt_range s (n + 1); have b2 := bt_range s (n + 2); have b3 := bt_range s (n + 3)
  rw [w64 (a := n + 1) (by omega) (by omega), w64 (a := n + 2) (by omega) (by omega), w64 (a := n + 3) (by omega) (by omega)]
  rw [if_pos (by omega), if_pos (by omega), if_pos (by omega), if_pos (by omega), if_pos (by omega), if_pos (by omega), if_pos (by omega), if_pos (by omega)]
  congr 1
  unfold wrap64
  omega
theorem impl_ywordAt_eq (s : ByteArray) (n : Int) (h0 : 0 ≤ n) (h1 : n + 3 < (s.size : Int)) (h2 : (s.size : Int) ≤ 140737488351232) : impl_ywordAt.f s n = some (wordAt s n) := by
  unfold impl_ywordAt.f wordAt
  have b0 := bt_range s n; have b1 := bt_range s (n + 1); have b2 := bt_range s (n + 2); have b3 := bt_range s (n + 3)
  rw [w64 (a := n + 1) (by omega) (by omega), w64 (a := n + 2) (by omega) (by omega), w64 (a := n + 3) (by omega) (by omega)]
  rw [if_pos (by omega), if_pos (by omega), if_pos (by omega), if_pos (by omega), if_pos (by omega), if_pos (by omega), if_pos (by omega), if_pos (by omega)]
  rw [w64 (a := bt s n) (by omega) (by omega), w64 (a := bt s (n + 1)) (by omega) (by omega), w64 (a := bt s (n + 2)) (by omega) (by omega), w64 (a := bt s (n + 3)) (by omega) (by omega)]
  rw [w64 (a := bt s (n + 1) * 256) (by omega) (by omega), w64 (a := bt s (n + 2) * 65536) (by omega) (by omega), w64 (a := bt s (n + 3) * 16777216) (by omega) (by omega)]
  rw [or_join' 8 (bt s (n + 1) * 256) (bt s n) (by omega) (by omega) (by omega) (by omega) (by omega) (by omega), or_join' 16 (bt s (n + 2) * 65536) (bt s n + bt s (n + 1) * 256) (by omega) (by omega) (by omega) (by omega) (by omega) (by omega), or_join' 24 (bt s (n + 3) * 16777216) _ (by omega) (by omega) (by omega) (by omega) (by omega) (by omega)]

theorem impl_yfits_eq (n at_ size : Int) (hn0 : 0 ≤ n) (hn : n ≤ 140737488351232) (h0 : -9223372036854775808 ≤ at_) : impl_yfits.f n at_ size = some (decide (0 ≤ at_ ∧ 0 ≤ size ∧ at_ + size ≤ n ∧ at_ ≤ n)) := by
  unfold impl_yfits.f
  by_cases c0 : at_ ≥ 0
  · rw [if_pos c0]
    by_cases c1 : size ≥ 0
    · rw [if_pos c1]
      by_cases c2 : at_ ≤ n
      · rw [if_pos c2, w64 (by omega) (by omega)]
        congr 1
        by_cases c3 : size ≤ n - at_
        · rw [decide_eq_true c3, decide_eq_true (by omega)]
        · rw [decide_eq_false c3, decide_eq_false (by omega)]
      · rw [if_neg c2, decide_eq_false (by omega)]
    · rw [if_neg c1, decide_eq_false (by omega)]
  · rw [if_neg c0, decide_eq_false (by omega)]
def getOk (s : ByteArray) (n : Int) : Prop := (s.size : Int) ≤ 65536 ∧ 0 ≤ n ∧ n + 4 ≤ (s.size : Int)
theorem spec_GetWord_eq (s : ByteArray) (n : Int) : (getOk s n ∧ spec_GetWord.f s n = some (true, wordAt s n)) ∨ (¬ getOk s n ∧ spec_GetWord.f s n = some (false, 0)) := by
  unfold spec_GetWord.f getOk
  by_cases h0 : (s.size : Int) > 65536
  · rw [if_pos h0]; right; exact ⟨fun h => by omega, rfl⟩
  · rw [if_neg h0]
    by_cases h1 : n < 0
    · rw [if_pos h1]; right; exact ⟨fun h => by omega, rfl⟩
    · rw [if_neg h1, w64 (by omega) (by omega)]
      by_cases h2 : n > (s.size : Int) - 4
      · rw [if_pos h2]; right; exact ⟨fun h => by omega, rfl⟩
      · rw [if_neg h2, spec_l01Word_eq s n (by omega) (by omega) (by omega)]; left; exact ⟨by omega, rfl⟩
theorem impl_GetWord_end (k : Nat) (hk : 2 ≤ k) (s : ByteArray) (n : Int) (hn : -9223372036854775808 ≤ n) : (getOk s n ∧ impl_GetWord.f k s n = some (true, wordAt s n)) ∨ (¬ getOk s n ∧ impl_GetWord.f k s n = some (false, 0)) := by
  unfold impl_GetWord.f getOk
  rw [impl_ybig_end k s hk]
  by_cases h0 : (s.size : Int) > 65536
  · rw [decide_eq_true h0]; right; exact ⟨fun h => by omega, rfl⟩
  · rw [decide_eq_false h0]
    simp only [Option.bind_some]
    rw [if_neg (by simp), impl_yfits_eq _ _ _ (by omega) (by omega) hn]
    by_cases h1 : 0 ≤ n ∧ (0:Int) ≤ 4 ∧ n + 4 ≤ (s.size : Int) ∧ n ≤ (s.size : Int)
    · rw [decide_eq_true h1]
      simp only [Option.bind_some, if_true]
      rw [impl_ywordAt_eq s n (by omega) (by omega) (by omega)]; left; exact ⟨by omega, rfl⟩
    · rw [decide_eq_false h1]; right; exact ⟨fun h => h1 (by omega), rfl⟩
theorem FnExactGetWord : laws_FnExactGetWord.Pure := by
  intro s n _ hn
  obtain ⟨hn0, _⟩ := wf64 hn
  refine ⟨2, ?_⟩
  unfold laws_FnExactGetWord.f
  by_cases hs : (s.size : Int) > 1048576
  · rw [if_pos hs]
  · rw [if_neg hs]
    unfold laws_eqWordRead.f
    rcases spec_GetWord_eq s n with ⟨h, e⟩ | ⟨h, e⟩ <;> rcases impl_GetWord_end 2 (Nat.le_refl _) s n hn0 with ⟨h', e'⟩ | ⟨h', e'⟩
    · rw [e, e']; simp
    · exact absurd h h'
    · exact absurd h' h
    · rw [e, e']; rfl

end Go.Proofs.Ytknmfmdjphmelaa.Pure
