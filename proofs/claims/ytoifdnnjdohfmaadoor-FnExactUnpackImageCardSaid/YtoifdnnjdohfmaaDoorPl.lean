/- Plain lemmas on Go's numbers, bits and texts: no program in sight. -/
import Derived.Laws.BitsLemmas
import Derived.RowKit
import Derived.Test.YtoifdnnjdohfmaaDoorWWords
import Derived.Test.YtoifdnnjdohfmaaDoorWLast
import Derived.Test.YtoifdnnjdohfmaaDoorWMore
namespace Go.Proofs.YtoifdnnjdohfmaaDoor.Pl
open Go.RowKit Go.Proofs.YtoifdnnjdohfmaaDoorW.PrintWords Go.Proofs.YtoifdnnjdohfmaaDoorW.PrintLast

theorem wf64 {a : Int} (h : (Lit.int .i64 a).wf = true) : -9223372036854775808 ≤ a ∧ a ≤ 9223372036854775807 := by
  simp only [Lit.wf, IntKind.min, IntKind.max, IntKind.signed, IntKind.bits, Bool.and_eq_true, decide_eq_true_eq, if_true] at h
  omega
theorem w64 {a : Int} (h0 : -9223372036854775808 ≤ a) (h1 : a ≤ 9223372036854775807) : wrap64 a = a := by unfold wrap64; omega
theorem u64w {a : Int} (h0 : 0 ≤ a) (h1 : a ≤ 18446744073709551615) : IntKind.u64.wrap a = a := by
  simp only [IntKind.wrap, IntKind.signed, IntKind.bits, Bool.false_and]
  rw [if_neg (by simp)]; omega
theorem i64w (a : Int) : IntKind.i64.wrap a = wrap64 a := by rw [IntKind.wrap_i64]; unfold wrap64; rfl
theorem tmod_nn {a b : Int} (h : 0 ≤ a) : Int.tmod a b = a % b := Int.tmod_eq_emod_of_nonneg h
theorem tdiv_nn {a b : Int} (h : 0 ≤ a) : Int.tdiv a b = a / b := Int.tdiv_eq_ediv_of_nonneg h
theorem tmod_neg {a b : Int} (h : a < 0) (hb : 0 < b) (hz : Int.tmod a b < 0) : Int.tmod a b + b = a % b := by
  have h1 : Int.tmod a b = a % b - ↑(if 0 ≤ a ∨ b ∣ a then 0 else b.natAbs) := Int.tmod_eq_emod
  by_cases hd : b ∣ a
  · rw [if_pos (.inr hd)] at h1
    have := Int.emod_nonneg a (show b ≠ 0 by omega)
    simp at h1; omega
  · rw [if_neg (by omega)] at h1; omega
theorem tmod_neg0 {a b : Int} (hb : 0 < b) (hz : ¬ Int.tmod a b < 0) : Int.tmod a b = a % b := by
  by_cases h : 0 ≤ a
  · exact tmod_nn h
  · have h1 : Int.tmod a b = a % b - ↑(if 0 ≤ a ∨ b ∣ a then 0 else b.natAbs) := Int.tmod_eq_emod
    by_cases hd : b ∣ a
    · rw [if_pos (.inr hd)] at h1; simpa using h1
    · rw [if_neg (by omega)] at h1
      have := Int.emod_lt_of_pos a hb
      omega
/-- Go's '%', made positive. -/
theorem go_mod (a m : Int) (hm : 0 < m) (hm1 : m ≤ 4611686018427387904) : (if Int.tmod a m < 0 then (some (wrap64 (Int.tmod a m + m))) else (some (Int.tmod a m))) = some (a % m) := by
  have h0 := Int.emod_nonneg a (show m ≠ 0 by omega)
  have h1 := Int.emod_lt_of_pos a hm
  by_cases hz : Int.tmod a m < 0
  · rw [if_pos hz]
    by_cases ha : a < 0
    · rw [tmod_neg ha hm hz, w64 (by omega) (by omega)]
    · rw [tmod_nn (by omega)] at hz; omega
  · rw [if_neg hz, tmod_neg0 hm hz]

theorem p64 : (2 : Int) ^ 64 = 18446744073709551616 := by decide
theorem shl64 {x y : Int} (hy1 : y ≤ 64) : shl .i64 x y = wrap64 (x * 2 ^ y.toNat) := by
  unfold shl
  rw [i64w, Nat.min_eq_left (by simp [IntKind.bits]; omega)]
theorem shr64 {x y : Int} (hy1 : y ≤ 64) : shr .i64 x y = x / 2 ^ y.toNat := by
  unfold shr
  rw [Nat.min_eq_left (by simp [IntKind.bits]; omega)]
theorem shr8 {x y : Int} (hy1 : y ≤ 8) : shr .u8 x y = x / 2 ^ y.toNat := by
  unfold shr
  rw [Nat.min_eq_left (by simp [IntKind.bits]; omega)]
/-- Bits of a whole number that may be negative: those of its remainder. -/
theorem and_mask (v : Int) (i : Nat) (hi : i ≤ 62) : bits .and .i64 v (2 ^ i - 1) = v % 2 ^ i := by
  have hp : (0:Nat) < 2 ^ i := Nat.two_pow_pos i
  have hlt : 2 ^ i ≤ 2 ^ 62 := Nat.pow_le_pow_right (by decide) hi
  have hc : ((2 : Int) ^ i - 1) = ((2 ^ i - 1 : Nat) : Int) := by rw [Int.natCast_sub hp]; simp
  rw [hc]
  simp only [bits, BitVec.toNat_and, BitVec.ofInt_natCast, BitVec.toNat_ofNat, BitVec.toNat_ofInt]
  rw [show IntKind.i64.bits = 64 from rfl, Nat.mod_eq_of_lt (show 2 ^ i - 1 < 2 ^ 64 by omega), Nat.and_two_pow_sub_one_eq_mod, i64w]
  have e : (((v % ((2 ^ 64 : Nat) : Int)).toNat % 2 ^ i : Nat) : Int) = v % 2 ^ i := by
    rw [Int.natCast_emod, Int.toNat_of_nonneg (Int.emod_nonneg _ (by decide))]
    have : ((2 ^ i : Nat) : Int) = 2 ^ i := by simp
    rw [this]
    exact Int.emod_emod_of_dvd v ⟨2 ^ (64 - i), by rw [← Int.pow_add]; norm_cast; congr 1; omega⟩
  rw [e]
  have h0 := Int.emod_nonneg v (show (2:Int) ^ i ≠ 0 by exact_mod_cast (by omega : (2:Nat)^i ≠ 0))
  have h1 := Int.emod_lt_of_pos v (show (0:Int) < 2 ^ i by exact_mod_cast hp)
  have h2 : (2:Int) ^ i ≤ 2 ^ 62 := by exact_mod_cast hlt
  exact w64 (by omega) (by omega)
theorem and1 (v : Int) : bits .and .i64 v 1 = v % 2 := and_mask v 1 (by decide)
theorem bits_bytes (a b : Nat) (ha : a < 2 ^ 62) (hb : b < 2 ^ 62) :
    bits .and .i64 a b = ((a &&& b : Nat) : Int) ∧ bits .or .i64 a b = ((a ||| b : Nat) : Int) :=
  bits_nat .i64 62 (by decide) (fun n h0 h1 => by rw [i64w]; exact w64 (by omega) (by omega)) a b ha hb
theorem or_join (i : Nat) (x y : Int) (hx₀ : 0 ≤ x) (hx : x % 2 ^ i = 0) (hx₁ : x < 4611686018427387904) (hy₀ : 0 ≤ y) (hy : y < 2 ^ i) (hy₁ : y < 4611686018427387904) : bits .or .i64 x y = x + y :=
  bits_join .i64 62 (by decide) (fun n h0 h1 => by rw [i64w]; exact w64 (by omega) (by omega)) i x y hx₀ hx (by omega) hy₀ hy (by omega)
theorem or_join' (i : Nat) (x y : Int) (hx₀ : 0 ≤ x) (hx : x % 2 ^ i = 0) (hx₁ : x < 4611686018427387904) (hy₀ : 0 ≤ y) (hy : y < 2 ^ i) (hy₁ : y < 4611686018427387904) : bits .or .i64 y x = y + x := by
  have h : bits .or .i64 y x = bits .or .i64 x y := by simp only [bits]; rw [BitVec.or_comm]
  rw [h, or_join i x y hx₀ hx hx₁ hy₀ hy hy₁]; omega
theorem u8and1 (x : Int) (h0 : 0 ≤ x) (h1 : x < 256) : bits .and .u8 x 1 = x % 2 := bits_mask .u8 8 (by decide) wraps_u8 1 (by decide) x h0 h1

theorem lt_bit {y b j : Nat} (hy : y < 2 ^ b) (h : b ≤ j) : y.testBit j = false :=
  Nat.testBit_lt_two_pow (Nat.lt_of_lt_of_le hy (Nat.pow_le_pow_right (by decide) h))
theorem clear_bits (w f b i : Nat) : (2 ^ (f + b) * (w / 2 ^ (f + b)) + w % 2 ^ f).testBit i = (w.testBit i && !(((2 ^ b - 1) * 2 ^ f).testBit i)) := by
  have hr : w % 2 ^ f < 2 ^ (f + b) := Nat.lt_of_lt_of_le (Nat.mod_lt _ (Nat.two_pow_pos f)) (Nat.pow_le_pow_right (by decide) (by omega))
  have hm : (2 ^ b - 1) * 2 ^ f = 2 ^ f * (2 ^ b - 1) + 0 := by rw [Nat.mul_comm]; rfl
  rw [Nat.testBit_two_pow_mul_add _ hr, hm, Nat.testBit_two_pow_mul_add _ (Nat.two_pow_pos f), Nat.testBit_mod_two_pow, Nat.testBit_div_two_pow, Nat.testBit_two_pow_sub_one]
  by_cases h1 : i < f
  · rw [if_pos (by omega), if_pos h1]; simp [h1]
  · rw [if_neg h1]
    by_cases h2 : i < f + b
    · rw [if_pos h2, decide_eq_false h1, decide_eq_true (by omega : i - f < b)]; simp
    · rw [if_neg h2, decide_eq_false (by omega : ¬ i - f < b), show i - (f + b) + (f + b) = i from by omega]; simp
theorem put_bits (q r y f b i : Nat) (hr : r < 2 ^ f) (hy : y < 2 ^ b) : (2 ^ f * (2 ^ b * q + y) + r).testBit i = ((2 ^ (f + b) * q + r).testBit i || (y * 2 ^ f).testBit i) := by
  have hr' : r < 2 ^ (f + b) := Nat.lt_of_lt_of_le hr (Nat.pow_le_pow_right (by decide) (by omega))
  have hm : y * 2 ^ f = 2 ^ f * y + 0 := by rw [Nat.mul_comm]; rfl
  rw [Nat.testBit_two_pow_mul_add _ hr, Nat.testBit_two_pow_mul_add _ hr', hm, Nat.testBit_two_pow_mul_add _ (Nat.two_pow_pos f), Nat.testBit_two_pow_mul_add _ hy]
  by_cases h1 : i < f
  · rw [if_pos h1, if_pos (by omega), if_pos h1]; simp
  · rw [if_neg h1, if_neg h1]
    by_cases h2 : i < f + b
    · rw [if_pos (by omega), if_pos h2, lt_bit hr (by omega)]; simp
    · rw [if_neg (by omega), if_neg h2, lt_bit hy (by omega), show i - f - b = i - (f + b) from by omega]; simp
theorem clear_put (w y f b : Nat) (hw : w < 2 ^ 32) (hy : y < 2 ^ b) (hfb : f + b ≤ 32) :
    bits .or .i64 (bits .andNot .i64 (w : Int) (((2 ^ b - 1) * 2 ^ f : Nat) : Int)) ((y * 2 ^ f : Nat) : Int) = ((w - (w / 2 ^ f % 2 ^ b) * 2 ^ f + y * 2 ^ f : Nat) : Int) := by
  have hpf := Nat.two_pow_pos f
  have hpb := Nat.two_pow_pos b
  have hpw : 2 ^ (f + b) ≤ 2 ^ 32 := Nat.pow_le_pow_right (by decide) hfb
  have hadd : 2 ^ (f + b) = 2 ^ f * 2 ^ b := Nat.pow_add 2 f b
  have hr : w % 2 ^ f < 2 ^ f := Nat.mod_lt _ hpf
  have hm : (2 ^ b - 1) * 2 ^ f < 2 ^ 32 := by
    have : (2 ^ b - 1) * 2 ^ f < 2 ^ b * 2 ^ f := Nat.mul_lt_mul_of_pos_right (by omega) hpf
    rw [Nat.mul_comm (2 ^ b)] at this
    omega
  have hyf : y * 2 ^ f < 2 ^ 32 := by
    have : y * 2 ^ f < 2 ^ b * 2 ^ f := Nat.mul_lt_mul_of_pos_right hy hpf
    rw [Nat.mul_comm (2 ^ b)] at this
    omega
  have hX : 2 ^ (f + b) * (w / 2 ^ (f + b)) + w % 2 ^ f ≤ w := by
    have h1 := Nat.div_add_mod w (2 ^ (f + b))
    have h2 : w % 2 ^ f ≤ w % 2 ^ (f + b) := by
      have : w % 2 ^ (f + b) % 2 ^ f = w % 2 ^ f := Nat.mod_mod_of_dvd w ⟨2 ^ b, hadd⟩
      rw [← this]; exact Nat.mod_le _ _
    omega
  have e1 : bits .andNot .i64 (w : Int) (((2 ^ b - 1) * 2 ^ f : Nat) : Int) = ((2 ^ (f + b) * (w / 2 ^ (f + b)) + w % 2 ^ f : Nat) : Int) := by
    simp only [bits, BitVec.toNat_and, BitVec.ofInt_natCast, BitVec.toNat_not, BitVec.toNat_ofNat]
    rw [show IntKind.i64.bits = 64 from rfl, Nat.mod_eq_of_lt (show w < 2 ^ 64 by omega), Nat.mod_eq_of_lt (show (2 ^ b - 1) * 2 ^ f < 2 ^ 64 by omega)]
    have e : w &&& (2 ^ 64 - 1 - (2 ^ b - 1) * 2 ^ f) = 2 ^ (f + b) * (w / 2 ^ (f + b)) + w % 2 ^ f := by
      refine Nat.eq_of_testBit_eq fun i => ?_
      rw [clear_bits, Nat.testBit_and, show 2 ^ 64 - 1 - (2 ^ b - 1) * 2 ^ f = 2 ^ 64 - ((2 ^ b - 1) * 2 ^ f + 1) from by omega, Nat.testBit_two_pow_sub_succ (by omega)]
      by_cases hi : i < 64
      · rw [decide_eq_true hi, Bool.true_and]
      · rw [lt_bit (b := 64) (show w < 2 ^ 64 by omega) (by omega)]; simp
    rw [e, i64w, w64 (by omega) (by omega)]
  have e2 : (2 ^ (f + b) * (w / 2 ^ (f + b)) + w % 2 ^ f) ||| (y * 2 ^ f) = 2 ^ f * (2 ^ b * (w / 2 ^ (f + b)) + y) + w % 2 ^ f := by
    refine Nat.eq_of_testBit_eq fun i => ?_
    rw [put_bits _ _ _ _ _ _ hr hy, Nat.testBit_or]
  have e3 : w / 2 ^ f = 2 ^ b * (w / 2 ^ (f + b)) + w / 2 ^ f % 2 ^ b := by
    have := Nat.div_add_mod (w / 2 ^ f) (2 ^ b)
    rw [Nat.div_div_eq_div_mul, ← hadd] at this
    omega
  have e4 : w = 2 ^ f * (w / 2 ^ f) + w % 2 ^ f := (Nat.div_add_mod w (2 ^ f)).symm
  have e5 : 2 ^ f * (w / 2 ^ f) = 2 ^ f * (2 ^ b * (w / 2 ^ (f + b))) + w / 2 ^ f % 2 ^ b * 2 ^ f := by
    rw [Nat.mul_comm (w / 2 ^ f % 2 ^ b), ← Nat.mul_add, ← e3]
  rw [e1, (bits_nat .i64 62 (by decide) (fun n h0 h1 => by rw [i64w]; exact w64 (by omega) (by omega)) _ _ (by omega) (by omega)).2, e2, Nat.mul_add]
  congr 1
  have e6 : 2 ^ f * y = y * 2 ^ f := Nat.mul_comm _ _
  omega

/-- The place of the first element of which p holds, counted from i; or -1. -/
def idxFrom {α : Type} (p : α → Bool) : List α → Nat → Int
  | [], _ => -1
  | x :: xs, i => if p x = true then (i : Int) else idxFrom p xs (i + 1)
theorem idxFrom_hit {α : Type} (p : α → Bool) (d : α) : ∀ (zs : List α) (i k : Nat), k < zs.length → p (zs.getD k d) = true → (∀ j, j < k → p (zs.getD j d) = false) → idxFrom p zs i = ((i + k : Nat) : Int)
  | [], _, _, h, _, _ => absurd h (Nat.not_lt_zero _)
  | x :: xs, i, 0, _, h1, _ => by
    have h1' : p x = true := h1
    simp only [idxFrom]; rw [if_pos h1']; rfl
  | x :: xs, i, k + 1, h, h1, h2 => by
    have h0 : p x = false := h2 0 (Nat.succ_pos _)
    have ih := idxFrom_hit p d xs (i + 1) k (by simpa using h) (by simpa using h1) (fun j hj => by simpa using h2 (j + 1) (by omega))
    simp only [idxFrom]; rw [if_neg (by simp [h0]), ih]; omega
theorem idxFrom_miss {α : Type} (p : α → Bool) (d : α) : ∀ (zs : List α) (i : Nat), (∀ j, j < zs.length → p (zs.getD j d) = false) → idxFrom p zs i = -1
  | [], _, _ => rfl
  | x :: xs, i, h => by
    have h0 : p x = false := h 0 (by simp)
    have ih := idxFrom_miss p d xs (i + 1) (fun j hj => by simpa using h (j + 1) (by simpa using hj))
    simp only [idxFrom]; rw [if_neg (by simp [h0]), ih]
theorem idxFrom_any {α : Type} (p : α → Bool) : ∀ (zs : List α) (i : Nat), decide (0 ≤ idxFrom p zs i) = zs.any p
  | [], _ => rfl
  | x :: xs, i => by
    have ih := idxFrom_any p xs (i + 1)
    by_cases h : p x = true
    · have e : idxFrom p (x :: xs) i = (i : Int) := by simp only [idxFrom]; rw [if_pos h]
      rw [List.any_cons, h, Bool.true_or]; exact decide_eq_true (by rw [e]; omega)
    · have e : idxFrom p (x :: xs) i = idxFrom p xs (i + 1) := by simp only [idxFrom]; rw [if_neg h]
      rw [List.any_cons, (by simpa using h : p x = false), Bool.false_or, ← ih]; exact decide_eq_decide.mpr (by rw [e])

end Go.Proofs.YtoifdnnjdohfmaaDoor.Pl
