/- The program's PutBit returns what the reference's returns, for all arguments. Conditions: none. -/
import Derived.Test.YtcpbnhhpeljpjaaQFnExactPutBitx
import Derived.Test.YtcpbnhhpeljpjaaPl
import Derived.Test.YtcpbnhhpeljpjaaBy
set_option linter.unusedVariables false
set_option linter.unusedSimpArgs false
namespace Go.Proofs.Ytcpbnhhpeljpjaa.Pure
open Go.RowKit Go.Proofs.Ytcpbnhhpeljpjaa.QFnExactPutBit Go.Proofs.YtcpbnhhpeljpjaaW.PrintWords Go.Proofs.YtcpbnhhpeljpjaaW.PrintLast Go.Proofs.Ytcpbnhhpeljpjaa.Pl Go.Proofs.YtcpbnhhpeljpjaaW.PrintMore
theorem impl_ybig_end (k : Nat) (s : ByteArray) (hk : 2 ≤ k) : impl_ybig.f k [s] = some (decide ((s.size : Int) > 65536)) := by
  obtain ⟨k, rfl⟩ : ∃ m, k = m + 1 + 1 := ⟨k - 2, by omega⟩
  unfold impl_ybig.f
  simp only [impl_ybig.l0]
  have e0 : rdOf ByteArray.empty [s] 0 = s := rfl
  have e1 : (([s] : List ByteArray).length : Int) = 1 := rfl
  have e2 : wrap64 (0 + 1) = 1 := by unfold wrap64; omega
  rw [e0, e1, e2, if_pos (by decide), if_pos (by decide), if_pos (by decide)]
  by_cases h : (s.size : Int) > 65536
  · rw [if_pos h, decide_eq_true h]
  · rw [if_neg h, decide_eq_false h, if_neg (by decide)]
theorem impl_ybig_ev (s : ByteArray) : Ev (fun k => impl_ybig.f k [s]) (decide ((s.size : Int) > 65536)) := ⟨2, fun k hk => impl_ybig_end k s hk⟩

/-- Bit n of a text of bytes. -/
def bitAt (s : ByteArray) (n : Int) : Bool := bt s (n / 8) / 2 ^ (n % 8).toNat % 2 == 1
theorem shr_and (x c : Int) (h0 : 0 ≤ x) (h1 : x ≤ 255) (hc : 0 ≤ c) (hc1 : c ≤ 8) : Go.bits .and .u8 (shr .u8 x c) 1 = x / 2 ^ c.toNat % 2 := by
  rw [shr8 hc1]
  have hp : (0:Int) < 2 ^ c.toNat := by
    have h := Nat.two_pow_pos c.toNat
    have h3 : ((2 : Int) ^ c.toNat) = ((2 ^ c.toNat : Nat) : Int) := by simp
    omega
  exact u8and1 _ (Int.ediv_nonneg h0 (Int.le_of_lt hp)) (Int.lt_of_le_of_lt (Int.ediv_le_self _ h0) (by omega))
theorem spec_HasBit_eq (s : ByteArray) (n : Int) (hn : n ≤ 9223372036854775807) : spec_HasBit.f s n = some (decide ((s.size : Int) ≤ 65536) && (decide (0 ≤ n) && (decide (n / 8 < (s.size : Int)) && bitAt s n))) := by
  unfold spec_HasBit.f
  by_cases hs : (s.size : Int) ≤ 65536
  · rw [if_pos hs, decide_eq_true hs]
    by_cases h0 : n ≥ 0
    · rw [if_pos h0, decide_eq_true h0, tdiv_nn h0, tmod_nn h0, w64 (by omega) (by omega)]
      by_cases h2 : n / 8 < (s.size : Int)
      · obtain ⟨b0, b1⟩ := bt_range s (n / 8)
        rw [if_pos h2, if_pos (by omega), u64w (by omega) (by omega), if_pos (by omega), decide_eq_true h2, shr_and _ _ b0 b1 (by omega) (by omega)]
        rfl
      · rw [if_neg h2, decide_eq_false h2]; rfl
    · rw [if_neg h0, decide_eq_false h0]; rfl
  · rw [if_neg hs, decide_eq_false hs]; rfl

theorem bit_table : ((List.range 256).all fun x => (List.range 8).all fun k => (Go.bits .or .u8 (x : Int) ((2 ^ k : Nat) : Int) == if x / 2 ^ k % 2 = 1 then (x : Int) else Go.bits .xor .u8 (x : Int) ((2 ^ k : Nat) : Int)) && (Go.bits .andNot .u8 (x : Int) ((2 ^ k : Nat) : Int) == if x / 2 ^ k % 2 = 1 then Go.bits .xor .u8 (x : Int) ((2 ^ k : Nat) : Int) else (x : Int))) = true := by kernel_rfl
theorem bit_or (x k : Nat) (hx : x < 256) (hk : k < 8) : Go.bits .or .u8 (x : Int) ((2 ^ k : Nat) : Int) = if x / 2 ^ k % 2 = 1 then (x : Int) else Go.bits .xor .u8 (x : Int) ((2 ^ k : Nat) : Int) := by
  have := List.all_eq_true.mp (List.all_eq_true.mp bit_table x (List.mem_range.mpr hx)) k (List.mem_range.mpr hk)
  rw [Bool.and_eq_true] at this
  exact eq_of_beq this.1
theorem bit_andNot (x k : Nat) (hx : x < 256) (hk : k < 8) : Go.bits .andNot .u8 (x : Int) ((2 ^ k : Nat) : Int) = if x / 2 ^ k % 2 = 1 then Go.bits .xor .u8 (x : Int) ((2 ^ k : Nat) : Int) else (x : Int) := by
  have := List.all_eq_true.mp (List.all_eq_true.mp bit_table x (List.mem_range.mpr hx)) k (List.mem_range.mpr hk)
  rw [Bool.and_eq_true] at this
  exact eq_of_beq this.2
theorem pow_table : ((List.range 8).all fun k => (shl .u8 1 (k : Int) == ((2 ^ k : Nat) : Int)) && ((2 : Int) ^ k % 256 == ((2 ^ k : Nat) : Int))) = true := by kernel_rfl
theorem bitM_eq (n : Nat) : bitM (n : Int) = ((2 ^ (n % 8) : Nat) : Int) := by
  have := List.all_eq_true.mp pow_table (n % 8) (List.mem_range.mpr (Nat.mod_lt _ (by decide)))
  rw [Bool.and_eq_true] at this
  unfold bitM
  rw [tmod_nn (by omega), show (n : Int) % 8 = ((n % 8 : Nat) : Int) from by omega]
  exact eq_of_beq this.1
theorem sbitM_eq (n : Nat) : sbitM (n : Int) = ((2 ^ (n % 8) : Nat) : Int) := by
  have := List.all_eq_true.mp pow_table (n % 8) (List.mem_range.mpr (Nat.mod_lt _ (by decide)))
  rw [Bool.and_eq_true] at this
  unfold sbitM
  rw [Int.toNat_natCast]
  exact eq_of_beq this.2
theorem byteN_self (x : UInt8) : byteN (x.toNat : Int) = x := by
  unfold byteN
  rw [Int.toNat_natCast]
  exact UInt8.ofNat_toNat
theorem putAt_self (b : List UInt8) (q : Nat) (hq : q < b.length) : By.putAt b q [b.getD q 0] = b := by
  apply List.ext_getElem?
  intro j
  rw [By.putAt_get _ _ _ (by omega)]
  simp only [List.length_cons, List.length_nil]
  by_cases h1 : j < q
  · rw [if_pos h1]
  · rw [if_neg h1]
    by_cases h2 : j = q
    · subst h2
      rw [if_pos (by omega), Nat.sub_self, List.getElem?_cons_zero, List.getD_eq_getElem?_getD, List.getElem?_eq_getElem hq, Option.getD_some]
    · rw [if_neg (by omega)]
theorem pad_get (s : ByteArray) (q : Nat) : ((padL s.data.toList q).getD q 0).toNat = (bt s (q : Int)).toNat := by
  have hl : s.data.toList.length = s.size := by rw [Array.length_toList]; rfl
  unfold padL bt
  rw [Int.toNat_natCast, List.getD_eq_getElem?_getD, List.getElem?_append, hl]
  by_cases h : q < s.size
  · rw [if_pos h, dif_pos h, List.getElem?_eq_getElem (by omega), Option.getD_some, Int.toNat_natCast, Array.getElem_toList]
    rfl
  · rw [if_neg h, dif_neg h, List.getElem?_replicate, if_pos (by omega)]
    rfl
theorem put_same (s : ByteArray) (n : Nat) (on hb : Bool) (hs : s.size ≤ 65536) (hh : hb = (bt s ((n / 8 : Nat) : Int) / 2 ^ (n % 8) % 2 == 1)) :
    setL (padL s.data.toList (n / 8)) (n / 8) (if on = true then Go.bits .or .u8 (((padL s.data.toList (n / 8)).getD (n / 8) 0).toNat : Int) (bitM (n : Int)) else Go.bits .andNot .u8 (((padL s.data.toList (n / 8)).getD (n / 8) 0).toNat : Int) (bitM (n : Int))) =
    if (hb != on) = true then sflip (spadL s.data.toList (n / 8)) (n / 8) (sbitM (n : Int)) else spadL s.data.toList (n / 8) := by
  have hsp : spadL s.data.toList (n / 8) = padL s.data.toList (n / 8) := rfl
  have hlen : n / 8 < (padL s.data.toList (n / 8)).length := by rw [padL_length]; omega
  have hg := pad_get s (n / 8)
  obtain ⟨r0, r1⟩ := bt_range s ((n / 8 : Nat) : Int)
  rw [hsp, bitM_eq, sbitM_eq]
  unfold setL sflip
  generalize hx : (padL s.data.toList (n / 8)).getD (n / 8) 0 = x at hg
  have hself := putAt_self (padL s.data.toList (n / 8)) (n / 8) hlen
  rw [hx] at hself
  have hxl : x.toNat < 256 := UInt8.toNat_lt x
  have hk : n % 8 < 8 := Nat.mod_lt _ (by decide)
  have hb' : hb = decide (x.toNat / 2 ^ (n % 8) % 2 = 1) := by
    rw [hh, hg]
    obtain ⟨v, hv⟩ : ∃ v : Nat, bt s ((n / 8 : Nat) : Int) = (v : Int) := ⟨(bt s ((n / 8 : Nat) : Int)).toNat, by omega⟩
    rw [hv, Int.toNat_natCast]
    have e : (v : Int) / 2 ^ (n % 8) % 2 = ((v / 2 ^ (n % 8) % 2 : Nat) : Int) := by simp
    rw [e]
    by_cases h : v / 2 ^ (n % 8) % 2 = 1
    · rw [h]; rfl
    · rw [decide_eq_false h]
      have : ¬ ((v / 2 ^ (n % 8) % 2 : Nat) : Int) = 1 := by omega
      exact beq_eq_false_iff_ne.mpr this
  have hbyte : ∀ v : Int, byteN v = UInt8.ofNat v.toNat := fun v => rfl
  have hx2 : UInt8.ofNat (x.toNat : Int).toNat = x := by rw [Int.toNat_natCast]; exact UInt8.ofNat_toNat
  by_cases hbit : x.toNat / 2 ^ (n % 8) % 2 = 1
  · rw [decide_eq_true hbit] at hb'
    subst hb'
    cases on with
    | true => rw [if_pos rfl, bit_or _ _ hxl hk, if_pos hbit, hbyte, hx2, hself]; rfl
    | false => rw [if_neg (by simp), bit_andNot _ _ hxl hk, if_pos hbit, hbyte]; rfl
  · rw [decide_eq_false hbit] at hb'
    subst hb'
    cases on with
    | true => rw [if_pos rfl, bit_or _ _ hxl hk, if_neg hbit, hbyte]; rfl
    | false => rw [if_neg (by simp), bit_andNot _ _ hxl hk, if_neg hbit, hbyte, hx2, hself]; rfl
theorem put_both (s : ByteArray) (n : Int) (on : Bool) : ∃ z, spec_PutBit.f s n on = some z ∧ Ev (fun k => impl_PutBit.f k s n on) z := by
  unfold spec_PutBit.f
  by_cases h0 : (s.size : Int) > 65536
  · refine ⟨⟨#[]⟩, by rw [if_neg (fun h => by omega)], ?_⟩
    unfold impl_PutBit.f
    refine Ev.bind (impl_ybig_ev s) ?_
    simp only [decide_eq_true h0, if_true]; exact Ev.now _
  · have ib : Ev (fun k => impl_ybig.f k [s]) false := by have := impl_ybig_ev s; rwa [decide_eq_false h0] at this
    by_cases h1 : n < 0
    · refine ⟨⟨#[]⟩, by rw [if_neg (fun h => by omega)], ?_⟩
      unfold impl_PutBit.f
      refine Ev.bind ib ?_
      simp only [Bool.false_eq_true, if_false, if_pos h1]; exact Ev.now _
    · by_cases h2 : n ≥ 524288
      · refine ⟨⟨#[]⟩, by rw [if_neg (fun h => by omega)], ?_⟩
        unfold impl_PutBit.f
        refine Ev.bind ib ?_
        simp only [Bool.false_eq_true, if_false, if_neg h1, if_pos h2]; exact Ev.now _
      · obtain ⟨m, rfl⟩ : ∃ m : Nat, n = (m : Int) := ⟨n.toNat, by omega⟩
        have e8 : ((m : Int) / 8) = ((m / 8 : Nat) : Int) := by omega
        have hbv : (decide ((s.size : Int) ≤ 65536) && (decide (0 ≤ (m : Int)) && (decide ((m : Int) / 8 < (s.size : Int)) && bitAt s (m : Int)))) = (bt s ((m / 8 : Nat) : Int) / 2 ^ (m % 8) % 2 == 1) := by
          rw [decide_eq_true (p := (s.size : Int) ≤ 65536) (by omega), decide_eq_true (p := 0 ≤ (m : Int)) (by omega), Bool.true_and, Bool.true_and]
          unfold bitAt
          rw [e8, show ((m : Int) % 8).toNat = m % 8 from by omega]
          by_cases h : ((m / 8 : Nat) : Int) < (s.size : Int)
          · rw [decide_eq_true h, Bool.true_and]
          · rw [decide_eq_false h, Bool.false_and]
            have hz : bt s ((m / 8 : Nat) : Int) = 0 := by unfold bt; rw [dif_neg (by omega)]
            rw [hz, Int.zero_ediv]; rfl
        have key := put_same s m on _ (by omega) hbv.symm.symm
        refine ⟨⟨(if ((bt s ((m / 8 : Nat) : Int) / 2 ^ (m % 8) % 2 == 1) != on) = true then sflip (spadL s.data.toList (m / 8)) (m / 8) (sbitM (m : Int)) else spadL s.data.toList (m / 8)).toArray⟩, ?_, ?_⟩
        · rw [if_pos ⟨by omega, by omega, by omega⟩, spec_HasBit_eq s (m : Int) (by omega), Option.bind_some, hbv, e8, Int.toNat_natCast]
        · unfold impl_PutBit.f
          refine Ev.bind ib ?_
          simp only [Bool.false_eq_true, if_false, if_neg h1, if_neg h2]
          have : impl_yputBit.f s (m : Int) on = some ⟨(if ((bt s ((m / 8 : Nat) : Int) / 2 ^ (m % 8) % 2 == 1) != on) = true then sflip (spadL s.data.toList (m / 8)) (m / 8) (sbitM (m : Int)) else spadL s.data.toList (m / 8)).toArray⟩ := by
            unfold impl_yputBit.f
            rw [if_pos ⟨by omega, by omega, by omega⟩, e8, Int.toNat_natCast]
            rw [put_same s m on _ (by omega) rfl]
          rw [this]
          exact Ev.now _
theorem FnExactPutBit : laws_FnExactPutBit.Pure := by
  intro s n on _ _
  refine Ev.rounds (r := true) ?_
  unfold laws_FnExactPutBit.f
  by_cases h0 : (s.size : Int) > 1048576
  · simp only [if_pos h0]; exact Ev.now _
  · simp only [if_neg h0]
    obtain ⟨z, z1, z2⟩ := put_both s n on
    rw [z1]
    simp only [Option.bind_some]
    refine Ev.bind z2 ?_
    simp only [if_true]
    exact Ev.now _

end Go.Proofs.Ytcpbnhhpeljpjaa.Pure
