/- What a sealed text is: its bytes, each with a byte of a checksum. -/
import Derived.Test.YtpcpjkbjadgoiaaPl
import Derived.Test.YtpcpjkbjadgoiaaBy2
namespace Go.Proofs.Ytpcpjkbjadgoiaa.Cw
open Go Go.RowKit Go.Proofs.YtpcpjkbjadgoiaaW.PrintWords Go.Proofs.YtpcpjkbjadgoiaaW.PrintLast Go.Proofs.YtpcpjkbjadgoiaaW.PrintMore Go.Proofs.Ytpcpjkbjadgoiaa.Pl
/-- One step of the checksum, as the machine reckons it. -/
def mixStep (x b : Int) : Int := Int.tmod (wrap64 ((wrap64 ((wrap64 (x * 65599)) + (wrap64 b))) + 1)) 2147483629
def mixEnd (x : Int) : Int := Int.tmod (wrap64 ((wrap64 (x * 40503)) + 77)) 2147483629
def mixFrom (s : ByteArray) (x : Int) : Nat → Int
  | 0 => x
  | n + 1 => mixStep (mixFrom s x n) (bt s n)
def mixOf (s : ByteArray) (seed : Int) : Int := mixEnd (mixFrom s (seed % 2147483629 + 1) s.size)
def wordTx (x : Int) : ByteArray := strOfNums ([x % 4294967296 % 256, x % 4294967296 / 256 % 256, x % 4294967296 / 65536 % 256, x % 4294967296 / 16777216] : List Int)
theorem wordTx_size (x : Int) : (wordTx x).size = 4 := by unfold wordTx; rw [strOfNums_size]; rfl
def keyAt (key : ByteArray) (tweak : Int) (j : Nat) : Int := mixOf (key ++ wordTx tweak ++ wordTx (j : Int)) 11
theorem bits_range (op : BinOp) (a b : Int) : 0 ≤ Go.bits op .u8 a b ∧ Go.bits op .u8 a b ≤ 255 := by
  unfold Go.bits
  constructor
  · cases op <;> simp only [IntKind.wrap_u8] <;> omega
  · cases op <;> simp only [IntKind.wrap_u8] <;> omega
def xv (key : ByteArray) (tweak : Int) (i : Nat) (b : UInt8) : Int := Go.bits .xor .u8 (b.toNat : Int) (IntKind.u8.wrap (keyAt key tweak (i / 3) / 2 ^ (8 * (i % 3))))
def xb (key : ByteArray) (tweak : Int) (i : Nat) (b : UInt8) : UInt8 := UInt8.ofNat (xv key tweak i b).toNat
theorem xb_int (key : ByteArray) (tweak : Int) (i : Nat) (b : UInt8) : ((xb key tweak i b).toNat : Int) = xv key tweak i b := by
  have := bits_range .xor (b.toNat : Int) (IntKind.u8.wrap (keyAt key tweak (i / 3) / 2 ^ (8 * (i % 3))))
  unfold xb
  rw [UInt8.toNat_ofNat']
  unfold xv at *
  omega
def xorL (key : ByteArray) (tweak : Int) (L : List UInt8) : List UInt8 := L.mapIdx (xb key tweak)
theorem xorL_length (key : ByteArray) (tweak : Int) (L : List UInt8) : (xorL key tweak L).length = L.length := by simp [xorL]
def mid (key : ByteArray) (tweak : Int) (L : List UInt8) (i : Nat) : List UInt8 := (xorL key tweak L).take i ++ L.drop i
theorem mid_length (key : ByteArray) (tweak : Int) (L : List UInt8) (i : Nat) (h : i ≤ L.length) : (mid key tweak L i).length = L.length := by
  unfold mid
  rw [List.length_append, List.length_take, List.length_drop, xorL_length]; omega
theorem mid_get (key : ByteArray) (tweak : Int) (L : List UInt8) (i j : Nat) (h : i ≤ L.length) : (mid key tweak L i)[j]? = if j < i then (xorL key tweak L)[j]? else L[j]? := by
  unfold mid
  rw [List.getElem?_append, List.length_take, xorL_length, Nat.min_eq_left h]
  by_cases c : j < i
  · rw [if_pos c, if_pos c, List.getElem?_take, if_pos c]
  · rw [if_neg c, if_neg c, List.getElem?_drop]
    congr 1
    omega
theorem mid_put (key : ByteArray) (tweak : Int) (L : List UInt8) (i : Nat) (h : i < L.length) : By.putAt (mid key tweak L i) i [xb key tweak i L[i]] = mid key tweak L (i + 1) := by
  apply List.ext_getElem?
  intro j
  rw [By.putAt_get _ _ _ (by rw [mid_length _ _ _ _ (by omega)]; omega), mid_get _ _ _ _ _ (by omega), mid_get _ _ _ _ _ (by omega), List.length_cons, List.length_nil]
  by_cases c : j < i
  · rw [if_pos c, if_pos c, if_pos (by omega)]
  · rw [if_neg c, if_neg c]
    by_cases c2 : j = i
    · subst c2
      rw [if_pos (by omega), if_pos (by omega), Nat.sub_self, List.getElem?_cons_zero]
      unfold xorL
      rw [List.getElem?_mapIdx, List.getElem?_eq_getElem h, Option.map_some]
    · rw [if_neg (by omega), if_neg (by omega)]
theorem mid_zero (key : ByteArray) (tweak : Int) (L : List UInt8) : mid key tweak L 0 = L := by simp [mid]
theorem mid_all (key : ByteArray) (tweak : Int) (L : List UInt8) : mid key tweak L L.length = xorL key tweak L := by
  unfold mid
  rw [List.take_of_length_le (by rw [xorL_length]; exact Nat.le_refl _), List.drop_length, List.append_nil]
end Go.Proofs.Ytpcpjkbjadgoiaa.Cw
