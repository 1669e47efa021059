/- The program's HasBit returns what the reference's returns, for all arguments. Conditions: none. -/
import Derived.Test.YtknmfmdjphmelaaPFnExactHasBitx1
import Derived.Test.YtknmfmdjphmelaaPl
set_option linter.unusedVariables false
set_option linter.unusedSimpArgs false
namespace Go.Proofs.Ytknmfmdjphmelaa.Pure
open Go.RowKit Go.Proofs.Ytknmfmdjphmelaa.PFnExactHasBit Go.Proofs.YtknmfmdjphmelaaW.PrintWords Go.Proofs.YtknmfmdjphmelaaW.PrintLast Go.Proofs.Ytknmfmdjphmelaa.Pl
theorem impl_ybig_end (k : Nat) (s : ByteArray) (hk : 2 ≤ k) : impl_ybig.f k [s] = some (decide ((s.size : Int) > 65536)) := by
  obtain ⟨k, rfl⟩ : ∃ m, k = m + 1 + 1 := ⟨k - 2, by omega⟩
  unfold impl_ybig.f
  simp only [impl_ybig.l0]
  have e0 : rdOf ByteArray.empty [s] 0 = s := rfl
  have e1 : (([s] : List ByteArray).length : Int) = 1 := rfl
  have e2 : wrap64 (0 + 1) = 1 := by unfold wrap64; omega
  rw [e0, e1, e2, if_pos (by decide), if_pos (by decide), if_pos (by decide)]
  by_cases h : (s.size : Int) > 65536
  · rw [if_pos h, decide_eq_true h]
  · rw [if_neg h, decide_eq_false h, if_neg (by decide)]
theorem impl_ybig_ev (s : ByteArray) : Ev (fun k => impl_ybig.f k [s]) (decide ((s.size : Int) > 65536)) := ⟨2, fun k hk => impl_ybig_end k s hk⟩

/-- Bit n of a text of bytes. -/
def bitAt (s : ByteArray) (n : Int) : Bool := bt s (n / 8) / 2 ^ (n % 8).toNat % 2 == 1
theorem shr_and (x c : Int) (h0 : 0 ≤ x) (h1 : x ≤ 255) (hc : 0 ≤ c) (hc1 : c ≤ 8) : Go.bits .and .u8 (shr .u8 x c) 1 = x / 2 ^ c.toNat % 2 := by
  rw [shr8 hc1]
  have hp : (0:Int) < 2 ^ c.toNat := by
    have h := Nat.two_pow_pos c.toNat
    have h3 : ((2 : Int) ^ c.toNat) = ((2 ^ c.toNat : Nat) : Int) := by simp
    omega
  exact u8and1 _ (Int.ediv_nonneg h0 (Int.le_of_lt hp)) (Int.lt_of_le_of_lt (Int.ediv_le_self _ h0) (by omega))
theorem spec_HasBit_eq (s : ByteArray) (n : Int) (hn : n ≤ 9223372036854775807) : spec_HasBit.f s n = some (decide ((s.size : Int) ≤ 65536) && (decide (0 ≤ n) && (decide (n / 8 < (s.size : Int)) && bitAt s n))) := by
  unfold spec_HasBit.f
  by_cases hs : (s.size : Int) ≤ 65536
  · rw [if_pos hs, decide_eq_true hs]
    by_cases h0 : n ≥ 0
    · rw [if_pos h0, decide_eq_true h0, tdiv_nn h0, tmod_nn h0, w64 (by omega) (by omega)]
      by_cases h2 : n / 8 < (s.size : Int)
      · obtain ⟨b0, b1⟩ := bt_range s (n / 8)
        rw [if_pos h2, if_pos (by omega), u64w (by omega) (by omega), if_pos (by omega), decide_eq_true h2, shr_and _ _ b0 b1 (by omega) (by omega)]
        rfl
      · rw [if_neg h2, decide_eq_false h2]; rfl
    · rw [if_neg h0, decide_eq_false h0]; rfl
  · rw [if_neg hs, decide_eq_false hs]; rfl

theorem impl_yhasBit_eq (s : ByteArray) (n : Int) (hn : n ≤ 9223372036854775807) : impl_yhasBit.f s n = some (decide (0 ≤ n) && (decide (n / 8 < (s.size : Int)) && bitAt s n)) := by
  unfold impl_yhasBit.f
  by_cases h0 : n ≥ 0
  · rw [if_pos h0, decide_eq_true h0, tdiv_nn h0, tmod_nn h0, w64 (by omega) (by omega)]
    by_cases h2 : n / 8 < (s.size : Int)
    · obtain ⟨b0, b1⟩ := bt_range s (n / 8)
      rw [if_pos h2, if_pos (by omega), if_pos (by omega), decide_eq_true h2, shr_and _ _ b0 b1 (by omega) (by omega)]
      rfl
    · rw [if_neg h2, decide_eq_false h2]; rfl
  · rw [if_neg h0, decide_eq_false h0]; rfl
theorem impl_HasBit_end (k : Nat) (s : ByteArray) (n : Int) (hn : n ≤ 9223372036854775807) (hk : 2 ≤ k) : impl_HasBit.f k s n = some (decide ((s.size : Int) ≤ 65536) && (decide (0 ≤ n) && (decide (n / 8 < (s.size : Int)) && bitAt s n))) := by
  unfold impl_HasBit.f
  rw [impl_ybig_end k s hk, impl_yhasBit_eq s n hn]
  by_cases h : (s.size : Int) > 65536
  · rw [decide_eq_true h, decide_eq_false (show ¬ (s.size : Int) ≤ 65536 by omega)]; rfl
  · rw [decide_eq_false h, decide_eq_true (show (s.size : Int) ≤ 65536 by omega)]; simp

theorem FnExactHasBit : laws_FnExactHasBit.Pure := by
  intro s n _ hn
  obtain ⟨_, hn1⟩ := wf64 hn
  refine ⟨2, ?_⟩
  unfold laws_FnExactHasBit.f
  by_cases hs : (s.size : Int) > 1048576
  · rw [if_pos hs]
  · rw [if_neg hs, spec_HasBit_eq s n hn1, impl_HasBit_end 2 s n hn1 (Nat.le_refl _)]
    simp only [Option.bind_some]
    split
    · rename_i h; exact absurd h (by simp)
    · rfl

end Go.Proofs.Ytknmfmdjphmelaa.Pure
