/- The program's WithField returns what the reference's returns, for all arguments. Conditions: none. -/
import Derived.Test.YtknmfmdjphmelaaPFnExactWithFieldx1
import Derived.Test.YtknmfmdjphmelaaPl
set_option linter.unusedVariables false
set_option linter.unusedSimpArgs false
namespace Go.Proofs.Ytknmfmdjphmelaa.Pure
open Go.RowKit Go.Proofs.Ytknmfmdjphmelaa.PFnExactWithField Go.Proofs.YtknmfmdjphmelaaW.PrintWords Go.Proofs.YtknmfmdjphmelaaW.PrintLast Go.Proofs.Ytknmfmdjphmelaa.Pl
theorem spec_l01Mod_eq (a m : Int) (hm : 0 < m) (hm1 : m ≤ 4611686018427387904) : spec_l01Mod.f a m = some (a % m) := by
  unfold spec_l01Mod.f; rw [if_neg (by omega)]; exact go_mod a m hm hm1
theorem spec_Word_eq (a : Int) : spec_Word.f a = some (a % 4294967296) := by
  unfold spec_Word.f; rw [spec_l01Mod_eq _ _ (by omega) (by omega)]; rfl

def fieldOk (f b : Int) : Prop := 0 ≤ f ∧ 1 ≤ b ∧ f ≤ 32 ∧ f + b ≤ 32
theorem spec_l01Bits_eq (f b : Int) : (fieldOk f b ∧ spec_l01Bits.f f b = some true) ∨ (¬ fieldOk f b ∧ spec_l01Bits.f f b = some false) := by
  unfold spec_l01Bits.f fieldOk
  by_cases h0 : f ≥ 0
  · rw [if_pos h0]
    by_cases h1 : b ≥ 1
    · rw [if_pos h1]
      by_cases h2 : f ≤ 32
      · rw [if_pos h2, w64 (by omega) (by omega)]
        by_cases h3 : b ≤ 32 - f
        · left; exact ⟨⟨h0, h1, h2, by omega⟩, by rw [decide_eq_true h3]⟩
        · right; exact ⟨fun h => by omega, by rw [decide_eq_false h3]⟩
      · rw [if_neg h2]; right; exact ⟨fun h => h2 h.2.2.1, rfl⟩
    · rw [if_neg h1]; right; exact ⟨fun h => h1 h.2.1, rfl⟩
  · rw [if_neg h0]; right; exact ⟨fun h => h0 h.1, rfl⟩
theorem impl_yfieldOk_eq (f b : Int) : (fieldOk f b ∧ impl_yfieldOk.f f b = some true) ∨ (¬ fieldOk f b ∧ impl_yfieldOk.f f b = some false) := by
  unfold impl_yfieldOk.f fieldOk
  by_cases h0 : f ≥ 0
  · rw [if_pos h0]
    by_cases h1 : b ≥ 1
    · rw [if_pos h1]
      by_cases h2 : f ≤ 32
      · rw [if_pos h2]
        by_cases h3 : b ≤ 32
        · rw [if_pos h3, w64 (by omega) (by omega)]
          by_cases h4 : f + b ≤ 32
          · left; exact ⟨⟨h0, h1, h2, h4⟩, by rw [decide_eq_true h4]⟩
          · right; exact ⟨fun h => h4 h.2.2.2, by rw [decide_eq_false h4]⟩
        · rw [if_neg h3]; right; exact ⟨fun h => by omega, rfl⟩
      · rw [if_neg h2]; right; exact ⟨fun h => h2 h.2.2.1, rfl⟩
    · rw [if_neg h1]; right; exact ⟨fun h => h1 h.2.1, rfl⟩
  · rw [if_neg h0]; right; exact ⟨fun h => h0 h.1, rfl⟩
theorem pow_pos' (n : Nat) : (0 : Int) < 2 ^ n := by
  have h := Nat.two_pow_pos n
  have h3 : ((2 : Int) ^ n) = ((2 ^ n : Nat) : Int) := by simp
  omega
theorem shl1 {b : Int} (h0 : 0 ≤ b) (h1 : b ≤ 62) : shl .i64 1 b = 2 ^ b.toNat := by
  rw [shl64 (by omega), Int.one_mul]
  have h2 : (2 : Nat) ^ b.toNat ≤ 2 ^ 62 := Nat.pow_le_pow_right (by decide) (by omega)
  have h4 := pow_pos' b.toNat
  have h3 : ((2 : Int) ^ b.toNat) = ((2 ^ b.toNat : Nat) : Int) := by simp
  exact w64 (by omega) (by omega)
theorem pow_le62 {n : Nat} (h : n ≤ 62) : (2 : Int) ^ n ≤ 4611686018427387904 := by
  have h2 : (2 : Nat) ^ n ≤ 2 ^ 62 := Nat.pow_le_pow_right (by decide) h
  have h3 : ((2 : Int) ^ n) = ((2 ^ n : Nat) : Int) := by simp
  omega
theorem spec_Field_eq (n f b : Int) (h : fieldOk f b) : spec_Field.f n f b = some ((n % 4294967296) / 2 ^ f.toNat % 2 ^ b.toNat) := by
  obtain ⟨h0, h1, h2, h3⟩ := h
  have hp := pow_pos' b.toNat
  have hw := Int.emod_nonneg n (show (4294967296:Int) ≠ 0 by decide)
  unfold spec_Field.f
  rcases spec_l01Bits_eq f b with ⟨_, e⟩ | ⟨hn, _⟩
  · rw [e]
    simp only [Option.bind_some, if_true]
    rw [spec_Word_eq]
    simp only [Option.bind_some]
    rw [u64w (a := f) (by omega) (by omega), u64w (a := b) (by omega) (by omega), if_pos h0, if_pos (by omega), shl1 (by omega) (by omega), if_neg (by omega), shr64 (by omega), tmod_nn]
    exact Int.ediv_nonneg hw (Int.le_of_lt (pow_pos' _))
  · exact absurd ⟨h0, h1, h2, h3⟩ hn
theorem spec_Field_no (n f b : Int) (h : ¬ fieldOk f b) : spec_Field.f n f b = some 0 := by
  unfold spec_Field.f
  rcases spec_l01Bits_eq f b with ⟨hn, _⟩ | ⟨_, e⟩
  · exact absurd hn h
  · rw [e]; rfl

theorem FnExactWithField : laws_FnExactWithField.Pure := by
  intro n f b v _ _ _ _
  unfold laws_FnExactWithField.f
  by_cases h : fieldOk f b
  · obtain ⟨h0, h1, h2, h3⟩ := h
    obtain ⟨F, rfl⟩ := Int.eq_ofNat_of_zero_le h0
    obtain ⟨B, rfl⟩ := Int.eq_ofNat_of_zero_le (show 0 ≤ b by omega)
    have hok : fieldOk (F : Int) (B : Int) := ⟨h0, h1, h2, h3⟩
    have hF : 2 ^ F ≤ 2 ^ 32 := Nat.pow_le_pow_right (by decide) (by omega)
    have hB : 2 ^ B ≤ 2 ^ 32 := Nat.pow_le_pow_right (by decide) (by omega)
    have hFB : 2 ^ (F + B) ≤ 2 ^ 32 := Nat.pow_le_pow_right (by decide) (by omega)
    have hadd : 2 ^ (F + B) = 2 ^ F * 2 ^ B := Nat.pow_add 2 F B
    have cF : (2 : Int) ^ F = ((2 ^ F : Nat) : Int) := by simp
    have cB : (2 : Int) ^ B = ((2 ^ B : Nat) : Int) := by simp
    have pF := Nat.two_pow_pos F
    have pB := Nat.two_pow_pos B
    -- the word, and what is put into it
    obtain ⟨w, hw⟩ := Int.eq_ofNat_of_zero_le (Int.emod_nonneg n (show (4294967296:Int) ≠ 0 by decide))
    have hw' : w < 2 ^ 32 := by omega
    obtain ⟨y, hy⟩ := Int.eq_ofNat_of_zero_le (Int.emod_nonneg v (show (2:Int) ^ B ≠ 0 by rw [cB]; omega))
    have hy' : y < 2 ^ B := by
      have := Int.emod_lt_of_pos v (show (0:Int) < 2 ^ B by rw [cB]; omega)
      omega
    have hyF : y * 2 ^ F < 2 ^ 32 := by
      have : y * 2 ^ F < 2 ^ B * 2 ^ F := Nat.mul_lt_mul_of_pos_right hy' pF
      rw [Nat.mul_comm (2 ^ B)] at this
      omega
    have hmF : (2 ^ B - 1) * 2 ^ F < 2 ^ 32 := by
      have : (2 ^ B - 1) * 2 ^ F < 2 ^ B * 2 ^ F := Nat.mul_lt_mul_of_pos_right (by omega) pF
      rw [Nat.mul_comm (2 ^ B)] at this
      omega
    have hmid : w / 2 ^ F % 2 ^ B * 2 ^ F ≤ w := by
      have h4 : w / 2 ^ F % 2 ^ B ≤ w / 2 ^ F := Nat.mod_le _ _
      have h5 : w / 2 ^ F % 2 ^ B * 2 ^ F ≤ w / 2 ^ F * 2 ^ F := Nat.mul_le_mul_right _ h4
      have h6 : w / 2 ^ F * 2 ^ F ≤ w := Nat.div_mul_le_self _ _
      omega
    have sF : IntKind.u64.wrap (F : Int) = F := u64w (by omega) (by omega)
    have sB : IntKind.u64.wrap (B : Int) = B := u64w (by omega) (by omega)
    have e1 : spec_WithField.f n F B v = some ((w - (w / 2 ^ F % 2 ^ B) * 2 ^ F + y * 2 ^ F : Nat) : Int) := by
      unfold spec_WithField.f
      rcases spec_l01Bits_eq F B with ⟨_, e⟩ | ⟨hn, _⟩
      · rw [e, spec_Word_eq]
        simp only [Option.bind_some, if_true]
        rw [sF, sB, if_pos (by omega), hw, spec_Field_eq _ _ _ hok]
        simp only [Option.bind_some]
        rw [if_pos (by omega), shl1 (by omega) (by omega), spec_l01Mod_eq _ _ (pow_pos' _) (pow_le62 (by omega))]
        simp only [Option.bind_some, Int.toNat_natCast]
        rw [hy, shl64 (by omega), shl64 (by omega), Int.toNat_natCast, cF, cB, Int.emod_eq_of_lt (show (0:Int) ≤ (w : Int) by omega) (by omega)]
        rw [← Int.natCast_ediv, ← Int.natCast_emod, ← Int.natCast_mul, ← Int.natCast_mul, w64 (a := ((w / 2 ^ F % 2 ^ B * 2 ^ F : Nat) : Int)) (by omega) (by omega), w64 (a := ((y * 2 ^ F : Nat) : Int)) (by omega) (by omega), w64 (a := (w : Int) - _) (by omega) (by omega), w64 (by omega) (by omega)]
        congr 1
        omega
      · exact absurd hok hn
    have e2 : impl_WithField.f n F B v = some ((w - (w / 2 ^ F % 2 ^ B) * 2 ^ F + y * 2 ^ F : Nat) : Int) := by
      unfold impl_WithField.f
      rcases impl_yfieldOk_eq F B with ⟨_, e⟩ | ⟨hn, _⟩
      · rw [e]
        unfold impl_Word.f
        simp only [Option.bind_some, if_true]
        rw [if_pos (by omega), if_pos (by omega), shl1 (by omega) (by omega), Int.toNat_natCast, w64 (a := (2 : Int) ^ B - 1) (by rw [cB]; omega) (by rw [cB]; omega), and_mask _ _ (by omega), hy, hw, shl64 (by omega), shl64 (by omega), Int.toNat_natCast, cF, cB]
        rw [show ((2 ^ B : Nat) : Int) - 1 = ((2 ^ B - 1 : Nat) : Int) from by omega, ← Int.natCast_mul, ← Int.natCast_mul, w64 (a := (((2 ^ B - 1) * 2 ^ F : Nat) : Int)) (by omega) (by omega), w64 (a := ((y * 2 ^ F : Nat) : Int)) (by omega) (by omega)]
        rw [clear_put w y F B hw' hy' (by omega)]
      · exact absurd hok hn
    rw [e1, e2]
    simp only [Option.bind_some, if_true]
  · have e1 : spec_WithField.f n f b v = some 0 := by
      unfold spec_WithField.f
      rcases spec_l01Bits_eq f b with ⟨hn, _⟩ | ⟨_, e⟩
      · exact absurd hn h
      · rw [e]; rfl
    have e2 : impl_WithField.f n f b v = some 0 := by
      unfold impl_WithField.f
      rcases impl_yfieldOk_eq f b with ⟨hn, _⟩ | ⟨_, e⟩
      · exact absurd hn h
      · rw [e]; rfl
    rw [e1, e2]; rfl

end Go.Proofs.Ytknmfmdjphmelaa.Pure
