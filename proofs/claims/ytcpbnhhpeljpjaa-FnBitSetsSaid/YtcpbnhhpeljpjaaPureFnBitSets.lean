/- a drawn bit set with a drawn bit put has that bit so and all others as they were, as many on as counted, and the next one on or off is where it is. Conditions: none. -/
import Derived.Test.YtcpbnhhpeljpjaaQFnBitSetsx
import Derived.Test.YtcpbnhhpeljpjaaPl
import Derived.Test.YtcpbnhhpeljpjaaBy
set_option linter.unusedVariables false
set_option linter.unusedSimpArgs false
namespace Go.Proofs.Ytcpbnhhpeljpjaa.Pure
open Go.RowKit Go.Proofs.Ytcpbnhhpeljpjaa.QFnBitSets Go.Proofs.YtcpbnhhpeljpjaaW.PrintWords Go.Proofs.YtcpbnhhpeljpjaaW.PrintLast Go.Proofs.Ytcpbnhhpeljpjaa.Pl Go.Proofs.YtcpbnhhpeljpjaaW.PrintMore
theorem impl_ybig_end (k : Nat) (s : ByteArray) (hk : 2 ≤ k) : impl_ybig.f k [s] = some (decide ((s.size : Int) > 65536)) := by
  obtain ⟨k, rfl⟩ : ∃ m, k = m + 1 + 1 := ⟨k - 2, by omega⟩
  unfold impl_ybig.f
  simp only [impl_ybig.l0]
  have e0 : rdOf ByteArray.empty [s] 0 = s := rfl
  have e1 : (([s] : List ByteArray).length : Int) = 1 := rfl
  have e2 : wrap64 (0 + 1) = 1 := by unfold wrap64; omega
  rw [e0, e1, e2, if_pos (by decide), if_pos (by decide), if_pos (by decide)]
  by_cases h : (s.size : Int) > 65536
  · rw [if_pos h, decide_eq_true h]
  · rw [if_neg h, decide_eq_false h, if_neg (by decide)]
theorem impl_ybig_ev (s : ByteArray) : Ev (fun k => impl_ybig.f k [s]) (decide ((s.size : Int) > 65536)) := ⟨2, fun k hk => impl_ybig_end k s hk⟩

/-- Bit n of a text of bytes. -/
def bitAt (s : ByteArray) (n : Int) : Bool := bt s (n / 8) / 2 ^ (n % 8).toNat % 2 == 1
theorem shr_and (x c : Int) (h0 : 0 ≤ x) (h1 : x ≤ 255) (hc : 0 ≤ c) (hc1 : c ≤ 8) : Go.bits .and .u8 (shr .u8 x c) 1 = x / 2 ^ c.toNat % 2 := by
  rw [shr8 hc1]
  have hp : (0:Int) < 2 ^ c.toNat := by
    have h := Nat.two_pow_pos c.toNat
    have h3 : ((2 : Int) ^ c.toNat) = ((2 ^ c.toNat : Nat) : Int) := by simp
    omega
  exact u8and1 _ (Int.ediv_nonneg h0 (Int.le_of_lt hp)) (Int.lt_of_le_of_lt (Int.ediv_le_self _ h0) (by omega))
theorem spec_HasBit_eq (s : ByteArray) (n : Int) (hn : n ≤ 9223372036854775807) : spec_HasBit.f s n = some (decide ((s.size : Int) ≤ 65536) && (decide (0 ≤ n) && (decide (n / 8 < (s.size : Int)) && bitAt s n))) := by
  unfold spec_HasBit.f
  by_cases hs : (s.size : Int) ≤ 65536
  · rw [if_pos hs, decide_eq_true hs]
    by_cases h0 : n ≥ 0
    · rw [if_pos h0, decide_eq_true h0, tdiv_nn h0, tmod_nn h0, w64 (by omega) (by omega)]
      by_cases h2 : n / 8 < (s.size : Int)
      · obtain ⟨b0, b1⟩ := bt_range s (n / 8)
        rw [if_pos h2, if_pos (by omega), u64w (by omega) (by omega), if_pos (by omega), decide_eq_true h2, shr_and _ _ b0 b1 (by omega) (by omega)]
        rfl
      · rw [if_neg h2, decide_eq_false h2]; rfl
    · rw [if_neg h0, decide_eq_false h0]; rfl
  · rw [if_neg hs, decide_eq_false hs]; rfl

theorem impl_yhasBit_eq (s : ByteArray) (n : Int) (hn : n ≤ 9223372036854775807) : impl_yhasBit.f s n = some (decide (0 ≤ n) && (decide (n / 8 < (s.size : Int)) && bitAt s n)) := by
  unfold impl_yhasBit.f
  by_cases h0 : n ≥ 0
  · rw [if_pos h0, decide_eq_true h0, tdiv_nn h0, tmod_nn h0, w64 (by omega) (by omega)]
    by_cases h2 : n / 8 < (s.size : Int)
    · obtain ⟨b0, b1⟩ := bt_range s (n / 8)
      rw [if_pos h2, if_pos (by omega), if_pos (by omega), decide_eq_true h2, shr_and _ _ b0 b1 (by omega) (by omega)]
      rfl
    · rw [if_neg h2, decide_eq_false h2]; rfl
  · rw [if_neg h0, decide_eq_false h0]; rfl
theorem impl_HasBit_end (k : Nat) (s : ByteArray) (n : Int) (hn : n ≤ 9223372036854775807) (hk : 2 ≤ k) : impl_HasBit.f k s n = some (decide ((s.size : Int) ≤ 65536) && (decide (0 ≤ n) && (decide (n / 8 < (s.size : Int)) && bitAt s n))) := by
  unfold impl_HasBit.f
  rw [impl_ybig_end k s hk, impl_yhasBit_eq s n hn]
  by_cases h : (s.size : Int) > 65536
  · rw [decide_eq_true h, decide_eq_false (show ¬ (s.size : Int) ≤ 65536 by omega)]; rfl
  · rw [decide_eq_false h, decide_eq_true (show (s.size : Int) ≤ 65536 by omega)]; simp

/-- How many of the first n bits are on. -/
def cnt (s : ByteArray) : Nat → Int
  | 0 => 0
  | n + 1 => cnt s n + (if bitAt s n = true then 1 else 0)
theorem cnt_range (s : ByteArray) (n : Nat) : 0 ≤ cnt s n ∧ cnt s n ≤ n := by
  induction n with
  | zero => simp [cnt]
  | succ n ih =>
    unfold cnt
    split <;> omega
theorem impl_count_ends (s : ByteArray) (hs : (s.size : Int) ≤ 65536) (d : Nat) :
    (∀ i : Nat, 10 * i + d = 10 * s.size → Ev (fun k => impl_ycountBits.l0 k s (cnt s (8 * i)) s.size i) (cnt s (8 * s.size))) ∧
    (∀ i j : Nat, i < s.size → j ≤ 8 → 10 * i + 1 + j + d = 10 * s.size → Ev (fun k => impl_ycountBits.l1 k s (cnt s (8 * i + j)) i s.size i j) (cnt s (8 * s.size))) := by
  induction d with
  | zero =>
    refine ⟨fun i hi => ?_, fun i j h1 h2 h3 => by omega⟩
    obtain rfl : i = s.size := by omega
    exact Ev.step (f := fun _ => some (cnt s (8 * s.size))) (fun k => by simp only [impl_ycountBits.l0]; rw [if_neg (by omega)]) (Ev.now _)
  | succ d ih =>
    have step1 : ∀ i j : Nat, i < s.size → j ≤ 8 → 10 * i + 1 + j + (d + 1) = 10 * s.size → Ev (fun k => impl_ycountBits.l1 k s (cnt s (8 * i + j)) i s.size i j) (cnt s (8 * s.size)) := by
      intro i j h1 h2 h3
      by_cases h4 : j < 8
      · have hc := cnt_range s (8 * i + j)
        refine Ev.step (fun k => ?_) (ih.2 i (j + 1) h1 (by omega) (by omega))
        obtain ⟨b0, b1⟩ := bt_range s i
        simp only [impl_ycountBits.l1]
        rw [if_pos (by omega), if_pos (by omega), if_pos (by omega), if_pos (by omega), shr_and _ _ b0 b1 (by omega) (by omega), w64 (a := (j : Int) + 1) (by omega) (by omega), w64 (a := bt s i / 2 ^ (j : Int).toNat % 2) (by omega) (by omega)]
        have e1 : ((j : Int) + 1) = ((j + 1 : Nat) : Int) := by omega
        have eb : bitAt s ((8 * i + j : Nat) : Int) = (bt s i / 2 ^ (j : Int).toNat % 2 == 1) := by
          unfold bitAt
          rw [show ((8 * i + j : Nat) : Int) / 8 = (i : Int) from by omega, show ((8 * i + j : Nat) : Int) % 8 = (j : Int) from by omega]
        have e : cnt s (8 * i + (j + 1)) = cnt s (8 * i + j) + bt s i / 2 ^ (j : Int).toNat % 2 := by
          show cnt s ((8 * i + j) + 1) = _
          simp only [cnt]
          rw [eb]
          by_cases hb : bt s i / 2 ^ (j : Int).toNat % 2 = 1
          · rw [if_pos (beq_iff_eq.mpr hb), hb]
          · rw [if_neg (fun h => hb (beq_iff_eq.mp h))]; omega
        rw [e1, e, w64 (by omega) (by omega)]
      · obtain rfl : j = 8 := by omega
        have := ih.1 (i + 1) (by omega)
        refine Ev.step (fun k => ?_) this
        simp only [impl_ycountBits.l1]
        rw [if_neg (by omega), w64 (by omega) (by omega)]
        have e1 : ((i : Int) + 1) = ((i + 1 : Nat) : Int) := by omega
        rw [e1]; rfl
    refine ⟨fun i hi => ?_, step1⟩
    have h1 : i < s.size := by omega
    refine Ev.step (fun k => ?_) (ih.2 i 0 h1 (by omega) (by omega))
    simp only [impl_ycountBits.l0]
    rw [if_pos (by omega)]; rfl

theorem bit_table : ((List.range 256).all fun x => (List.range 8).all fun k => (Go.bits .or .u8 (x : Int) ((2 ^ k : Nat) : Int) == if x / 2 ^ k % 2 = 1 then (x : Int) else Go.bits .xor .u8 (x : Int) ((2 ^ k : Nat) : Int)) && (Go.bits .andNot .u8 (x : Int) ((2 ^ k : Nat) : Int) == if x / 2 ^ k % 2 = 1 then Go.bits .xor .u8 (x : Int) ((2 ^ k : Nat) : Int) else (x : Int))) = true := by kernel_rfl
theorem bit_or (x k : Nat) (hx : x < 256) (hk : k < 8) : Go.bits .or .u8 (x : Int) ((2 ^ k : Nat) : Int) = if x / 2 ^ k % 2 = 1 then (x : Int) else Go.bits .xor .u8 (x : Int) ((2 ^ k : Nat) : Int) := by
  have := List.all_eq_true.mp (List.all_eq_true.mp bit_table x (List.mem_range.mpr hx)) k (List.mem_range.mpr hk)
  rw [Bool.and_eq_true] at this
  exact eq_of_beq this.1
theorem bit_andNot (x k : Nat) (hx : x < 256) (hk : k < 8) : Go.bits .andNot .u8 (x : Int) ((2 ^ k : Nat) : Int) = if x / 2 ^ k % 2 = 1 then Go.bits .xor .u8 (x : Int) ((2 ^ k : Nat) : Int) else (x : Int) := by
  have := List.all_eq_true.mp (List.all_eq_true.mp bit_table x (List.mem_range.mpr hx)) k (List.mem_range.mpr hk)
  rw [Bool.and_eq_true] at this
  exact eq_of_beq this.2
theorem pow_table : ((List.range 8).all fun k => (shl .u8 1 (k : Int) == ((2 ^ k : Nat) : Int)) && ((2 : Int) ^ k % 256 == ((2 ^ k : Nat) : Int))) = true := by kernel_rfl
theorem bitM_eq (n : Nat) : bitM (n : Int) = ((2 ^ (n % 8) : Nat) : Int) := by
  have := List.all_eq_true.mp pow_table (n % 8) (List.mem_range.mpr (Nat.mod_lt _ (by decide)))
  rw [Bool.and_eq_true] at this
  unfold bitM
  rw [tmod_nn (by omega), show (n : Int) % 8 = ((n % 8 : Nat) : Int) from by omega]
  exact eq_of_beq this.1
theorem sbitM_eq (n : Nat) : sbitM (n : Int) = ((2 ^ (n % 8) : Nat) : Int) := by
  have := List.all_eq_true.mp pow_table (n % 8) (List.mem_range.mpr (Nat.mod_lt _ (by decide)))
  rw [Bool.and_eq_true] at this
  unfold sbitM
  rw [Int.toNat_natCast]
  exact eq_of_beq this.2
theorem byteN_self (x : UInt8) : byteN (x.toNat : Int) = x := by
  unfold byteN
  rw [Int.toNat_natCast]
  exact UInt8.ofNat_toNat
theorem putAt_self (b : List UInt8) (q : Nat) (hq : q < b.length) : By.putAt b q [b.getD q 0] = b := by
  apply List.ext_getElem?
  intro j
  rw [By.putAt_get _ _ _ (by omega)]
  simp only [List.length_cons, List.length_nil]
  by_cases h1 : j < q
  · rw [if_pos h1]
  · rw [if_neg h1]
    by_cases h2 : j = q
    · subst h2
      rw [if_pos (by omega), Nat.sub_self, List.getElem?_cons_zero, List.getD_eq_getElem?_getD, List.getElem?_eq_getElem hq, Option.getD_some]
    · rw [if_neg (by omega)]
theorem pad_get (s : ByteArray) (q : Nat) : ((padL s.data.toList q).getD q 0).toNat = (bt s (q : Int)).toNat := by
  have hl : s.data.toList.length = s.size := by rw [Array.length_toList]; rfl
  unfold padL bt
  rw [Int.toNat_natCast, List.getD_eq_getElem?_getD, List.getElem?_append, hl]
  by_cases h : q < s.size
  · rw [if_pos h, dif_pos h, List.getElem?_eq_getElem (by omega), Option.getD_some, Int.toNat_natCast, Array.getElem_toList]
    rfl
  · rw [if_neg h, dif_neg h, List.getElem?_replicate, if_pos (by omega)]
    rfl
theorem put_same (s : ByteArray) (n : Nat) (on hb : Bool) (hs : s.size ≤ 65536) (hh : hb = (bt s ((n / 8 : Nat) : Int) / 2 ^ (n % 8) % 2 == 1)) :
    setL (padL s.data.toList (n / 8)) (n / 8) (if on = true then Go.bits .or .u8 (((padL s.data.toList (n / 8)).getD (n / 8) 0).toNat : Int) (bitM (n : Int)) else Go.bits .andNot .u8 (((padL s.data.toList (n / 8)).getD (n / 8) 0).toNat : Int) (bitM (n : Int))) =
    if (hb != on) = true then sflip (spadL s.data.toList (n / 8)) (n / 8) (sbitM (n : Int)) else spadL s.data.toList (n / 8) := by
  have hsp : spadL s.data.toList (n / 8) = padL s.data.toList (n / 8) := rfl
  have hlen : n / 8 < (padL s.data.toList (n / 8)).length := by rw [padL_length]; omega
  have hg := pad_get s (n / 8)
  obtain ⟨r0, r1⟩ := bt_range s ((n / 8 : Nat) : Int)
  rw [hsp, bitM_eq, sbitM_eq]
  unfold setL sflip
  generalize hx : (padL s.data.toList (n / 8)).getD (n / 8) 0 = x at hg
  have hself := putAt_self (padL s.data.toList (n / 8)) (n / 8) hlen
  rw [hx] at hself
  have hxl : x.toNat < 256 := UInt8.toNat_lt x
  have hk : n % 8 < 8 := Nat.mod_lt _ (by decide)
  have hb' : hb = decide (x.toNat / 2 ^ (n % 8) % 2 = 1) := by
    rw [hh, hg]
    obtain ⟨v, hv⟩ : ∃ v : Nat, bt s ((n / 8 : Nat) : Int) = (v : Int) := ⟨(bt s ((n / 8 : Nat) : Int)).toNat, by omega⟩
    rw [hv, Int.toNat_natCast]
    have e : (v : Int) / 2 ^ (n % 8) % 2 = ((v / 2 ^ (n % 8) % 2 : Nat) : Int) := by simp
    rw [e]
    by_cases h : v / 2 ^ (n % 8) % 2 = 1
    · rw [h]; rfl
    · rw [decide_eq_false h]
      have : ¬ ((v / 2 ^ (n % 8) % 2 : Nat) : Int) = 1 := by omega
      exact beq_eq_false_iff_ne.mpr this
  have hbyte : ∀ v : Int, byteN v = UInt8.ofNat v.toNat := fun v => rfl
  have hx2 : UInt8.ofNat (x.toNat : Int).toNat = x := by rw [Int.toNat_natCast]; exact UInt8.ofNat_toNat
  by_cases hbit : x.toNat / 2 ^ (n % 8) % 2 = 1
  · rw [decide_eq_true hbit] at hb'
    subst hb'
    cases on with
    | true => rw [if_pos rfl, bit_or _ _ hxl hk, if_pos hbit, hbyte, hx2, hself]; rfl
    | false => rw [if_neg (by simp), bit_andNot _ _ hxl hk, if_pos hbit, hbyte]; rfl
  · rw [decide_eq_false hbit] at hb'
    subst hb'
    cases on with
    | true => rw [if_pos rfl, bit_or _ _ hxl hk, if_neg hbit, hbyte]; rfl
    | false => rw [if_neg (by simp), bit_andNot _ _ hxl hk, if_neg hbit, hbyte, hx2, hself]; rfl
theorem put_both (s : ByteArray) (n : Int) (on : Bool) : ∃ z, spec_PutBit.f s n on = some z ∧ Ev (fun k => impl_PutBit.f k s n on) z := by
  unfold spec_PutBit.f
  by_cases h0 : (s.size : Int) > 65536
  · refine ⟨⟨#[]⟩, by rw [if_neg (fun h => by omega)], ?_⟩
    unfold impl_PutBit.f
    refine Ev.bind (impl_ybig_ev s) ?_
    simp only [decide_eq_true h0, if_true]; exact Ev.now _
  · have ib : Ev (fun k => impl_ybig.f k [s]) false := by have := impl_ybig_ev s; rwa [decide_eq_false h0] at this
    by_cases h1 : n < 0
    · refine ⟨⟨#[]⟩, by rw [if_neg (fun h => by omega)], ?_⟩
      unfold impl_PutBit.f
      refine Ev.bind ib ?_
      simp only [Bool.false_eq_true, if_false, if_pos h1]; exact Ev.now _
    · by_cases h2 : n ≥ 524288
      · refine ⟨⟨#[]⟩, by rw [if_neg (fun h => by omega)], ?_⟩
        unfold impl_PutBit.f
        refine Ev.bind ib ?_
        simp only [Bool.false_eq_true, if_false, if_neg h1, if_pos h2]; exact Ev.now _
      · obtain ⟨m, rfl⟩ : ∃ m : Nat, n = (m : Int) := ⟨n.toNat, by omega⟩
        have e8 : ((m : Int) / 8) = ((m / 8 : Nat) : Int) := by omega
        have hbv : (decide ((s.size : Int) ≤ 65536) && (decide (0 ≤ (m : Int)) && (decide ((m : Int) / 8 < (s.size : Int)) && bitAt s (m : Int)))) = (bt s ((m / 8 : Nat) : Int) / 2 ^ (m % 8) % 2 == 1) := by
          rw [decide_eq_true (p := (s.size : Int) ≤ 65536) (by omega), decide_eq_true (p := 0 ≤ (m : Int)) (by omega), Bool.true_and, Bool.true_and]
          unfold bitAt
          rw [e8, show ((m : Int) % 8).toNat = m % 8 from by omega]
          by_cases h : ((m / 8 : Nat) : Int) < (s.size : Int)
          · rw [decide_eq_true h, Bool.true_and]
          · rw [decide_eq_false h, Bool.false_and]
            have hz : bt s ((m / 8 : Nat) : Int) = 0 := by unfold bt; rw [dif_neg (by omega)]
            rw [hz, Int.zero_ediv]; rfl
        have key := put_same s m on _ (by omega) hbv.symm.symm
        refine ⟨⟨(if ((bt s ((m / 8 : Nat) : Int) / 2 ^ (m % 8) % 2 == 1) != on) = true then sflip (spadL s.data.toList (m / 8)) (m / 8) (sbitM (m : Int)) else spadL s.data.toList (m / 8)).toArray⟩, ?_, ?_⟩
        · rw [if_pos ⟨by omega, by omega, by omega⟩, spec_HasBit_eq s (m : Int) (by omega), Option.bind_some, hbv, e8, Int.toNat_natCast]
        · unfold impl_PutBit.f
          refine Ev.bind ib ?_
          simp only [Bool.false_eq_true, if_false, if_neg h1, if_neg h2]
          have : impl_yputBit.f s (m : Int) on = some ⟨(if ((bt s ((m / 8 : Nat) : Int) / 2 ^ (m % 8) % 2 == 1) != on) = true then sflip (spadL s.data.toList (m / 8)) (m / 8) (sbitM (m : Int)) else spadL s.data.toList (m / 8)).toArray⟩ := by
            unfold impl_yputBit.f
            rw [if_pos ⟨by omega, by omega, by omega⟩, e8, Int.toNat_natCast]
            rw [put_same s m on _ (by omega) rfl]
          rw [this]
          exact Ev.now _

theorem u64_wrap_range (x : Int) : 0 ≤ IntKind.u64.wrap x ∧ IntKind.u64.wrap x ≤ 18446744073709551615 := by
  simp only [IntKind.wrap, IntKind.signed, IntKind.bits, Bool.false_and]
  rw [if_neg (by simp)]; omega
theorem srcOut_range (v m a : Int) (h0 : 1 < a) (h1 : a ≤ 4611686018427387904) : 0 ≤ srcOut v m a ∧ srcOut v m a < a := by
  unfold srcOut
  have hr := u64_wrap_range (v + m / 1048576)
  rw [u64w (a := a) (by omega) (by omega), tmod_nn hr.1]
  have e0 := Int.emod_nonneg (IntKind.u64.wrap (v + m / 1048576)) (show a ≠ 0 by omega)
  have e1 := Int.emod_lt_of_pos (IntKind.u64.wrap (v + m / 1048576)) (show 0 < a by omega)
  rw [w64 (by omega) (by omega)]
  exact ⟨e0, e1⟩
/-- A draw: its number is below the bound, its place stays in the code or behind it. -/
theorem draw_n (l : List Int) (hl : (l.length : Int) ≤ 140737488351232) (p m z a : Int) (h0 : 0 ≤ p) (hp : p ≤ (l.length : Int)) (ha : 1 < a) (ha1 : a ≤ 4611686018427387904) :
    ∃ r p' m', spec_l01Src_n.f l p m z a = some (r, p', m', z) ∧ 0 ≤ p' ∧ p' ≤ (l.length : Int) ∧ 0 ≤ r ∧ r < a := by
  unfold spec_l01Src_n.f
  rw [if_neg (by omega), u64w (a := a) (by omega) (by omega), if_neg (by omega)]
  by_cases c : p < (l.length : Int)
  · rw [if_pos c, if_pos h0, w64 (a := p + 1) (by omega) (by omega)]
    obtain ⟨r0, r1⟩ := srcOut_range (IntKind.u64.wrap (rd l p)) (srcMix m) a ha ha1
    exact ⟨_, _, _, rfl, by omega, by omega, r0, r1⟩
  · rw [if_neg c]
    obtain ⟨r0, r1⟩ := srcOut_range 0 (srcMix m) a ha ha1
    exact ⟨_, _, _, rfl, h0, hp, r0, r1⟩

theorem draw_one (l : List Int) (hl : (l.length : Int) ≤ 140737488351232) (p m z a : Int) (h0 : 0 ≤ p) (hp : p ≤ (l.length : Int)) (ha : 1 < a) (ha1 : a ≤ 4611686018427387904) :
    ∃ b p' m', spec_l01Src_one.f l p m z a = some (b, p', m', z) ∧ 0 ≤ p' ∧ p' ≤ (l.length : Int) := by
  obtain ⟨r, p', m', e, h1, h2, _, _⟩ := draw_n l hl p m z a h0 hp ha ha1
  unfold spec_l01Src_one.f
  rw [e]
  exact ⟨_, _, _, rfl, h1, h2⟩

theorem draw_bytes_loop (l : List Int) (hl : (l.length : Int) ≤ 140737488351232) (z a : Int) (ha0 : 0 ≤ a) (ha : a ≤ 1000) (d : Nat) : ∀ (i : Nat) (xs : List Int) (p m : Int), 0 ≤ p → p ≤ (l.length : Int) → i + d = a.toNat → xs.length = i →
    ∃ b p' m', Ev (fun k => spec_l01Src_bytes.l0 k a xs (i : Int) l p m z) (b, p', m', z) ∧ 0 ≤ p' ∧ p' ≤ (l.length : Int) ∧ (b.size : Int) = a := by
  induction d with
  | zero =>
    intro i xs p m h0 hp hi hx
    refine ⟨strOfNums xs, p, m, Ev.step (f := fun _ => some (strOfNums xs, p, m, z)) (fun k => ?_) (Ev.now _), h0, hp, by rw [strOfNums_size]; omega⟩
    simp only [spec_l01Src_bytes.l0]
    rw [if_neg (by omega)]
  | succ d ih =>
    intro i xs p m h0 hp hi hx
    obtain ⟨r, p1, m1, e, h1, h2, _, _⟩ := draw_n l hl p m z 256 h0 hp (by omega) (by omega)
    obtain ⟨b, p', m', hb, h3, h4, h5⟩ := ih (i + 1) (xs ++ [r % 256]) p1 m1 h1 h2 (by omega) (by rw [List.length_append, List.length_cons, List.length_nil]; omega)
    refine ⟨b, p', m', Ev.step (fun k => ?_) hb, h3, h4, h5⟩
    simp only [spec_l01Src_bytes.l0]
    rw [if_pos (by omega), e]
    simp only [Option.bind_some]
    rw [if_pos (by omega), w64 (by omega) (by omega), show ((i : Int) + 1) = ((i + 1 : Nat) : Int) from by omega]
theorem draw_bytes (l : List Int) (hl : (l.length : Int) ≤ 140737488351232) (p m z a : Int) (h0 : 0 ≤ p) (hp : p ≤ (l.length : Int)) (ha0 : 0 ≤ a) (ha : a ≤ 1000) :
    ∃ b p' m', Ev (fun k => spec_l01Src_bytes.f k l p m z a) (b, p', m', z) ∧ 0 ≤ p' ∧ p' ≤ (l.length : Int) ∧ (b.size : Int) = a :=
  draw_bytes_loop l hl z a ha0 ha a.toNat 0 [] p m h0 hp (by omega) rfl
theorem draw_zeros (l : List Int) (p m z a : Int) (ha0 : 0 ≤ a) (ha : a ≤ 1000000) : ∃ b, spec_l01Src_zeros.f l p m z a = some (b, p, m, z) ∧ (b.size : Int) = a := by
  unfold spec_l01Src_zeros.f
  rw [if_pos ha0, if_pos (by omega)]
  exact ⟨_, rfl, by rw [strOfNums_size, List.length_replicate]; omega⟩
theorem draw_set_j0 (l : List Int) (hl : (l.length : Int) ≤ 140737488351232) (s : ByteArray) (p m z : Int) (h0 : 0 ≤ p) (hp : p ≤ (l.length : Int)) :
    ∃ b p' m', Ev (fun k => spec_l01Src_set.j0 k s l p m z) (b, p', m', z) ∧ 0 ≤ p' ∧ p' ≤ (l.length : Int) := by
  obtain ⟨o, p1, m1, e1, h1, h2⟩ := draw_one l hl p m z 60 h0 hp (by omega) (by omega)
  cases o with
  | false =>
    refine ⟨s, p1, m1, Ev.step (f := fun _ => some (s, p1, m1, z)) (fun k => ?_) (Ev.now _), h1, h2⟩
    simp only [spec_l01Src_set.j0]
    rw [e1]
    simp only [Option.bind_some, Bool.false_eq_true, if_false]
  | true =>
    obtain ⟨r, p2, m2, e2, h3, h4, h5, h6⟩ := draw_n l hl p1 m1 z 3 h1 h2 (by omega) (by omega)
    have hw : wrap64 (65535 + r) = 65535 + r := w64 (by omega) (by omega)
    obtain ⟨b, e3, _⟩ := draw_zeros l p2 m2 z (65535 + r) (by omega) (by omega)
    refine ⟨b, p2, m2, Ev.step (f := fun _ => some (b, p2, m2, z)) (fun k => ?_) (Ev.now _), h3, h4⟩
    simp only [spec_l01Src_set.j0]
    rw [e1]
    simp only [Option.bind_some, if_true]
    rw [e2]
    simp only [Option.bind_some]
    rw [hw, e3]
    simp only [Option.bind_some]
theorem draw_set (l : List Int) (hl : (l.length : Int) ≤ 140737488351232) (p m z : Int) (h0 : 0 ≤ p) (hp : p ≤ (l.length : Int)) :
    ∃ b p' m', Ev (fun k => spec_l01Src_set.f k l p m z) (b, p', m', z) ∧ 0 ≤ p' ∧ p' ≤ (l.length : Int) := by
  obtain ⟨r1, p1, m1, e1, h1, h2, h3, h4⟩ := draw_n l hl p m z 6 h0 hp (by omega) (by omega)
  obtain ⟨b, p2, m2, e2, h5, h6, h7⟩ := draw_bytes l hl p1 m1 z r1 h1 h2 h3 (by omega)
  obtain ⟨o, p3, m3, e3, h8, h9⟩ := draw_one l hl p2 m2 z 3 h5 h6 (by omega) (by omega)
  unfold spec_l01Src_set.f
  simp only [e1, Option.bind_some]
  cases o with
  | false =>
    obtain ⟨b', p', m', e', q1, q2⟩ := draw_set_j0 l hl b p3 m3 z h8 h9
    refine ⟨b', p', m', Ev.bind e2 ?_, q1, q2⟩
    simp only [e3, Option.bind_some, Bool.false_eq_true, if_false]
    exact e'
  | true =>
    obtain ⟨r2, p4, m4, e4, g1, g2, g3, g4⟩ := draw_n l hl p3 m3 z 4 h8 h9 (by omega) (by omega)
    obtain ⟨c, e5, hc⟩ := draw_zeros l p4 m4 z r2 g3 (by omega)
    obtain ⟨b', p', m', e', q1, q2⟩ := draw_set_j0 l hl (b ++ c) p4 m4 z g1 g2
    refine ⟨b', p', m', Ev.bind e2 ?_, q1, q2⟩
    have hsz : b.size + c.size ≤ 9223372036854775807 := by omega
    simp only [e3, Option.bind_some, if_true, e4, e5, if_pos hsz]
    exact e'
theorem draw_putBit (l : List Int) (hl : (l.length : Int) ≤ 1048576) : ∃ s n on, Ev (fun k => spec_DrawPutBit.f k l) (s, n, on) := by
  have hl' : (l.length : Int) ≤ 140737488351232 := by omega
  obtain ⟨m0, hm0⟩ : ∃ m0, srcSeed l (min l.length 64) = m0 := ⟨_, rfl⟩
  obtain ⟨z, hz⟩ : ∃ z, min (l.length : Int) 12 = z := ⟨_, rfl⟩
  have e0 : spec_l01Source.f l = some (l, 0, m0, z) := by unfold spec_l01Source.f; rw [hm0, hz]
  obtain ⟨r1, p1, m1, e1, h1, h2, h3, h4⟩ := draw_n l hl' 0 m0 z 70 (by omega) (by omega) (by omega) (by omega)
  obtain ⟨o, p2, m2, e2, h5, h6⟩ := draw_one l hl' p1 m1 z 30 h1 h2 (by omega) (by omega)
  unfold spec_DrawPutBit.f
  simp only [e0, Option.bind_some, e1, e2]
  cases o with
  | false =>
    obtain ⟨b, p3, m3, e3, h7, h8⟩ := draw_set l hl' p2 m2 z h5 h6
    obtain ⟨o2, p4, m4, e4, _, _⟩ := draw_one l hl' p3 m3 z 2 h7 h8 (by omega) (by omega)
    refine ⟨b, wrap64 (r1 - 2), o2, ?_⟩
    simp only [Bool.false_eq_true, if_false]
    refine Ev.bind e3 ?_
    simp only [e4, Option.bind_some]
    exact Ev.now _
  | true =>
    obtain ⟨r3, p5, m5, e5, g1, g2, g3, g4⟩ := draw_n l hl' p2 m2 z 3 h5 h6 (by omega) (by omega)
    obtain ⟨b, p3, m3, e3, h7, h8⟩ := draw_set l hl' p5 m5 z g1 g2
    obtain ⟨o2, p4, m4, e4, _, _⟩ := draw_one l hl' p3 m3 z 2 h7 h8 (by omega) (by omega)
    refine ⟨b, wrap64 (524288 - r3), o2, ?_⟩
    simp only [if_true, e5, Option.bind_some]
    refine Ev.bind e3 ?_
    simp only [e4, Option.bind_some]
    exact Ev.now _

theorem op_table : ((List.range 256).all fun x => (List.range 8).all fun k => (Go.bits .or .u8 (x : Int) ((2 ^ k : Nat) : Int) == ((x ||| 2 ^ k : Nat) : Int)) && (Go.bits .andNot .u8 (x : Int) ((2 ^ k : Nat) : Int) == ((x &&& (255 - 2 ^ k) : Nat) : Int))) = true := by kernel_rfl
theorem bits_table : ((List.range 256).all fun x => (List.range 8).all fun k => (List.range 8).all fun j => ((x ||| 2 ^ k) / 2 ^ j % 2 == if j = k then 1 else x / 2 ^ j % 2) && ((x &&& (255 - 2 ^ k)) / 2 ^ j % 2 == if j = k then 0 else x / 2 ^ j % 2)) = true := by kernel_rfl
theorem put_bits (x k j : Nat) (on : Bool) (hx : x < 256) (hk : k < 8) (hj : j < 8) : ∃ v : Nat, (if on = true then Go.bits .or .u8 (x : Int) ((2 ^ k : Nat) : Int) else Go.bits .andNot .u8 (x : Int) ((2 ^ k : Nat) : Int)) = (v : Int) ∧ v < 256 ∧ v / 2 ^ j % 2 = if j = k then (if on = true then 1 else 0) else x / 2 ^ j % 2 := by
  have h1 := List.all_eq_true.mp (List.all_eq_true.mp op_table x (List.mem_range.mpr hx)) k (List.mem_range.mpr hk)
  have h2 := List.all_eq_true.mp (List.all_eq_true.mp (List.all_eq_true.mp bits_table x (List.mem_range.mpr hx)) k (List.mem_range.mpr hk)) j (List.mem_range.mpr hj)
  rw [Bool.and_eq_true] at h1 h2
  have r1 := bits_u8_range .or (x : Int) ((2 ^ k : Nat) : Int)
  have r2 := bits_u8_range .andNot (x : Int) ((2 ^ k : Nat) : Int)
  cases on with
  | true =>
    have e := eq_of_beq h1.1
    refine ⟨x ||| 2 ^ k, by rw [if_pos rfl]; exact e, by rw [e] at r1; omega, ?_⟩
    rw [eq_of_beq h2.1]
    by_cases c : j = k
    · rw [if_pos c, if_pos c, if_pos rfl]
    · rw [if_neg c, if_neg c]
  | false =>
    have e := eq_of_beq h1.2
    refine ⟨x &&& (255 - 2 ^ k), by rw [if_neg (by simp)]; exact e, by rw [e] at r2; omega, ?_⟩
    rw [eq_of_beq h2.2]
    by_cases c : j = k
    · rw [if_pos c, if_pos c, if_neg (by simp)]
    · rw [if_neg c, if_neg c]
theorem bt_list (L : List UInt8) (j : Nat) : bt ⟨L.toArray⟩ (j : Int) = ((L.getD j 0).toNat : Int) := by
  unfold bt
  rw [Int.toNat_natCast, List.getD_eq_getElem?_getD]
  by_cases h : j < L.length
  · have hs : j < (⟨L.toArray⟩ : ByteArray).size := by show j < L.toArray.size; rw [List.size_toArray]; exact h
    rw [dif_pos hs, List.getElem?_eq_getElem h, Option.getD_some]
    rfl
  · have hs : ¬ j < (⟨L.toArray⟩ : ByteArray).size := by show ¬ j < L.toArray.size; rw [List.size_toArray]; exact h
    rw [dif_neg hs, List.getElem?_eq_none (by omega), Option.getD_none]
    rfl
theorem bt_self (s : ByteArray) (j : Nat) : bt s (j : Int) = ((s.data.toList.getD j 0).toNat : Int) := bt_list s.data.toList j
theorem pad_getD (L : List UInt8) (q j : Nat) : (padL L q).getD j 0 = L.getD j 0 := by
  unfold padL
  rw [List.getD_eq_getElem?_getD, List.getD_eq_getElem?_getD, List.getElem?_append]
  by_cases h : j < L.length
  · rw [if_pos h]
  · rw [if_neg h, List.getElem?_eq_none (show L.length ≤ j by omega), List.getElem?_replicate]
    split <;> rfl
/-- The set with the bit put. -/
def putT (s : ByteArray) (n : Nat) (on : Bool) : ByteArray := ⟨(setL (padL s.data.toList (n / 8)) (n / 8) (if on = true then Go.bits .or .u8 (((padL s.data.toList (n / 8)).getD (n / 8) 0).toNat : Int) (bitM (n : Int)) else Go.bits .andNot .u8 (((padL s.data.toList (n / 8)).getD (n / 8) 0).toNat : Int) (bitM (n : Int)))).toArray⟩
theorem putT_size (s : ByteArray) (n : Nat) (on : Bool) : (putT s n on).size = max s.size (n / 8 + 1) := by
  show (List.toArray _).size = _
  rw [List.size_toArray]
  unfold setL
  have hl : s.data.toList.length = s.size := by rw [Array.length_toList]; rfl
  rw [By.putAt_length _ _ _ (by rw [padL_length, List.length_cons, List.length_nil]; omega), padL_length, hl]
theorem putT_bt (s : ByteArray) (n : Nat) (on : Bool) (j : Nat) : bt (putT s n on) (j : Int) = if j = n / 8 then (if on = true then Go.bits .or .u8 (bt s ((n / 8 : Nat) : Int)) ((2 ^ (n % 8) : Nat) : Int) else Go.bits .andNot .u8 (bt s ((n / 8 : Nat) : Int)) ((2 ^ (n % 8) : Nat) : Int)) else bt s (j : Int) := by
  unfold putT
  rw [bt_list, bt_self s (n / 8), bt_self s j, pad_getD, bitM_eq]
  unfold setL
  rw [List.getD_eq_getElem?_getD, By.putAt_get _ _ _ (by rw [padL_length]; omega), List.length_cons, List.length_nil]
  by_cases h : j = n / 8
  · subst h
    rw [if_neg (by omega), if_pos (by omega), Nat.sub_self, List.getElem?_cons_zero, Option.getD_some, if_pos rfl]
    refine byteN_int _ ?_ ?_
    · cases on with
      | true => rw [if_pos rfl]; exact (bits_u8_range _ _ _).1
      | false => rw [if_neg (by simp)]; exact (bits_u8_range _ _ _).1
    · cases on with
      | true => rw [if_pos rfl]; exact (bits_u8_range _ _ _).2
      | false => rw [if_neg (by simp)]; exact (bits_u8_range _ _ _).2
  · rw [if_neg h]
    have := pad_getD s.data.toList (n / 8) j
    rw [List.getD_eq_getElem?_getD] at this
    by_cases h1 : j < n / 8
    · rw [if_pos h1, this]
    · rw [if_neg h1, if_neg (by omega), this]
theorem bitAt_nat (s : ByteArray) (i : Nat) : bitAt s (i : Int) = decide ((bt s ((i / 8 : Nat) : Int)).toNat / 2 ^ (i % 8) % 2 = 1) := by
  unfold bitAt
  obtain ⟨r0, r1⟩ := bt_range s ((i / 8 : Nat) : Int)
  rw [show ((i : Int) / 8) = ((i / 8 : Nat) : Int) from by omega, show ((i : Int) % 8).toNat = i % 8 from by omega]
  obtain ⟨v, hv⟩ : ∃ v : Nat, bt s ((i / 8 : Nat) : Int) = (v : Int) := ⟨(bt s ((i / 8 : Nat) : Int)).toNat, by omega⟩
  rw [hv, Int.toNat_natCast]
  have e : (v : Int) / 2 ^ (i % 8) % 2 = ((v / 2 ^ (i % 8) % 2 : Nat) : Int) := by simp
  rw [e]
  by_cases h : v / 2 ^ (i % 8) % 2 = 1
  · rw [h]; rfl
  · rw [decide_eq_false h]
    have : ¬ ((v / 2 ^ (i % 8) % 2 : Nat) : Int) = 1 := by omega
    exact beq_eq_false_iff_ne.mpr this
theorem bit_put (s : ByteArray) (n : Nat) (on : Bool) (i : Nat) : bitAt (putT s n on) (i : Int) = if i = n then on else bitAt s (i : Int) := by
  rw [bitAt_nat, bitAt_nat, putT_bt]
  by_cases h : i / 8 = n / 8
  · rw [if_pos h, h]
    obtain ⟨r0, r1⟩ := bt_range s ((n / 8 : Nat) : Int)
    obtain ⟨x, hx⟩ : ∃ x : Nat, bt s ((n / 8 : Nat) : Int) = (x : Int) := ⟨(bt s ((n / 8 : Nat) : Int)).toNat, by omega⟩
    rw [hx] at r1 ⊢
    obtain ⟨v, hv, _, hb⟩ := put_bits x (n % 8) (i % 8) on (by omega) (Nat.mod_lt _ (by decide)) (Nat.mod_lt _ (by decide))
    rw [hv, Int.toNat_natCast, Int.toNat_natCast, hb]
    by_cases c : i = n
    · rw [if_pos (by rw [c]), if_pos c]
      cases on <;> rfl
    · rw [if_neg (by omega), if_neg c]
  · rw [if_neg h, if_neg (by omega)]
theorem put_val (s : ByteArray) (n : Nat) (on : Bool) (h0 : s.size ≤ 65536) (h1 : n < 524288) : spec_PutBit.f s (n : Int) on = some (putT s n on) ∧ Ev (fun k => impl_PutBit.f k s (n : Int) on) (putT s n on) := by
  have e8 : ((n : Int) / 8) = ((n / 8 : Nat) : Int) := by omega
  have iv : impl_yputBit.f s (n : Int) on = some (putT s n on) := by
    unfold impl_yputBit.f putT
    rw [if_pos ⟨by omega, by omega, by omega⟩, e8, Int.toNat_natCast]
  have ie : Ev (fun k => impl_PutBit.f k s (n : Int) on) (putT s n on) := by
    have ib : Ev (fun k => impl_ybig.f k [s]) false := by have := impl_ybig_ev s; rwa [decide_eq_false (by omega)] at this
    unfold impl_PutBit.f
    refine Ev.bind ib ?_
    have c1 : ¬ (n : Int) < 0 := by omega
    have c2 : ¬ (n : Int) ≥ 524288 := by omega
    simp only [Bool.false_eq_true, if_false, if_neg c1, if_neg c2, iv]
    exact Ev.now _
  obtain ⟨z, z1, z2⟩ := put_both s (n : Int) on
  refine ⟨?_, ie⟩
  have : z = putT s n on := by
    obtain ⟨k1, hk1⟩ := z2
    obtain ⟨k2, hk2⟩ := ie
    have a := hk1 (max k1 k2) (Nat.le_max_left _ _)
    have b := hk2 (max k1 k2) (Nat.le_max_right _ _)
    exact Option.some.inj (a.symm.trans b)
  rw [z1, this]
theorem bit_beyond (s : ByteArray) (i : Nat) (h : s.size ≤ i / 8) : bitAt s (i : Int) = false := by
  rw [bitAt_nat]
  have hz : bt s ((i / 8 : Nat) : Int) = 0 := by unfold bt; rw [dif_neg (by omega)]
  rw [hz, Int.toNat_zero, Nat.zero_div]
  rfl
theorem cnt_stable (s : ByteArray) (d : Nat) : cnt s (8 * s.size + d) = cnt s (8 * s.size) := by
  induction d with
  | zero => rfl
  | succ d ih =>
    rw [show 8 * s.size + (d + 1) = (8 * s.size + d) + 1 from by omega]
    simp only [cnt]
    rw [bit_beyond s (8 * s.size + d) (by omega), ih]
    simp
theorem has_ev (s : ByteArray) (i : Nat) (hs : s.size ≤ 65536) (hi : i ≤ 1000000) : Ev (fun k => impl_HasBit.f k s (i : Int)) (bitAt s (i : Int)) := by
  have : (decide ((s.size : Int) ≤ 65536) && (decide (0 ≤ (i : Int)) && (decide ((i : Int) / 8 < (s.size : Int)) && bitAt s (i : Int)))) = bitAt s (i : Int) := by
    rw [decide_eq_true (p := (s.size : Int) ≤ 65536) (by omega), decide_eq_true (p := 0 ≤ (i : Int)) (by omega), Bool.true_and, Bool.true_and]
    by_cases h : (i : Int) / 8 < (s.size : Int)
    · rw [decide_eq_true h, Bool.true_and]
    · rw [decide_eq_false h, Bool.false_and, bit_beyond s i (by omega)]
  refine ⟨2, fun k hk => ?_⟩
  have e := impl_HasBit_end k s (i : Int) (by omega) hk
  rw [this] at e
  exact e
theorem spec_has (s : ByteArray) (i : Nat) (hs : s.size ≤ 65536) (hi : i ≤ 1000000) : spec_HasBit.f s (i : Int) = some (bitAt s (i : Int)) := by
  rw [spec_HasBit_eq s (i : Int) (by omega), decide_eq_true (p := (s.size : Int) ≤ 65536) (by omega), decide_eq_true (p := 0 ≤ (i : Int)) (by omega), Bool.true_and, Bool.true_and]
  by_cases h : (i : Int) / 8 < (s.size : Int)
  · rw [decide_eq_true h, Bool.true_and]
  · rw [decide_eq_false h, Bool.false_and, bit_beyond s i (by omega)]
theorem next_put (s : ByteArray) (n : Nat) (on : Bool) (hs : s.size ≤ 65536) (hn : n < 8 * s.size) (hb : bitAt s (n : Int) = on) : Ev (fun k => impl_NextBit.f k s (n : Int) on) (n : Int) := by
  have ib : Ev (fun k => impl_ybig.f k [s]) false := by have := impl_ybig_ev s; rwa [decide_eq_false (by omega)] at this
  unfold impl_NextBit.f
  refine Ev.bind ib ?_
  simp only [Bool.false_eq_true, if_false]
  have hm : mx (n : Int) 0 = (n : Int) := by unfold mx; split <;> omega
  rw [hm]
  refine Ev.step (f := fun _ => some (n : Int)) (fun k => ?_) (Ev.now _)
  simp only [impl_NextBit.l0]
  rw [w64 (a := (s.size : Int) * 8) (by omega) (by omega), if_pos (by omega), impl_yhasBit_eq s (n : Int) (by omega), Option.bind_some, decide_eq_true (p := 0 ≤ (n : Int)) (by omega), decide_eq_true (p := (n : Int) / 8 < (s.size : Int)) (by omega), Bool.true_and, Bool.true_and, hb, if_pos (by simp)]
theorem count_ev (s : ByteArray) (hs : s.size ≤ 65536) : Ev (fun k => impl_CountBits.f k s) (cnt s (8 * s.size)) := by
  have ib : Ev (fun k => impl_ybig.f k [s]) false := by have := impl_ybig_ev s; rwa [decide_eq_false (by omega)] at this
  unfold impl_CountBits.f
  refine Ev.bind ib ?_
  simp only [Bool.false_eq_true, if_false]
  refine Ev.bind (f := fun _ t => some t) (Ev.congr (fun k => rfl) ((impl_count_ends s (by omega) (10 * s.size)).1 0 (by omega))) (Ev.now _)
theorem sets_loop (s : ByteArray) (n : Nat) (on : Bool) (hs : s.size ≤ 100) (hn : n ≤ 800) (d : Nat) : ∀ i : Nat, i + d = 1000 → Ev (fun k => laws_FnBitSets.l0 k s (n : Int) on (putT s n on) (cnt (putT s n on) i) (i : Int)) true := by
  have hts := putT_size s n on
  have ht : (putT s n on).size ≤ 65536 := by rw [hts]; omega
  induction d with
  | zero =>
    intro i hi
    have h1 := next_put (putT s n on) n on ht (by rw [hts]; omega) (by rw [bit_put, if_pos rfl])
    have h2 := count_ev (putT s n on) ht
    have hst : cnt (putT s n on) i = cnt (putT s n on) (8 * (putT s n on).size) := by
      obtain ⟨e, he⟩ : ∃ e, i = 8 * (putT s n on).size + e := ⟨i - 8 * (putT s n on).size, by rw [hts]; omega⟩
      rw [he, cnt_stable]
    refine Ev.step (f := fun k => (impl_NextBit.f k (putT s n on) (n : Int) on).bind fun t210 => ((impl_CountBits.f k (putT s n on)).bind fun t211 => (if t211 = cnt (putT s n on) i then (some (t210 == (n : Int))) else (some false)))) (fun k => ?_) ?_
    · simp only [laws_FnBitSets.l0]
      rw [if_neg (by omega)]
    · refine Ev.bind h1 (Ev.bind h2 ?_)
      rw [hst]
      simp only [if_true, beq_self_eq_true]
      exact Ev.now _
  | succ d ih =>
    intro i hi
    have hb := has_ev (putT s n on) i ht (by omega)
    obtain ⟨c0, c1⟩ := cnt_range (putT s n on) i
    have hnext := ih (i + 1) (by omega)
    have hj3 : Ev (fun k => laws_FnBitSets.j3 k s (n : Int) on (putT s n on) (cnt (putT s n on) (i + 1)) (i : Int)) true := by
      by_cases c : i = n
      · refine Ev.step (fun k => ?_) hnext
        simp only [laws_FnBitSets.j3]
        rw [if_pos (by omega), w64 (by omega) (by omega), show ((i : Int) + 1) = ((i + 1 : Nat) : Int) from by omega]
      · have hb2 := hb
        rw [bit_put, if_neg c] at hb2
        refine Ev.step (f := fun k => (impl_HasBit.f k (putT s n on) (i : Int)).bind fun t213 => (if (t213 != bitAt s (i : Int)) = true then (some false) else (laws_FnBitSets.l0 k s (n : Int) on (putT s n on) (cnt (putT s n on) (i + 1)) (((i + 1 : Nat) : Int))))) (fun k => ?_) ?_
        · simp only [laws_FnBitSets.j3]
          rw [if_neg (by omega), spec_has s i (by omega) (by omega), w64 (by omega) (by omega), show ((i : Int) + 1) = ((i + 1 : Nat) : Int) from by omega]
          rfl
        · refine Ev.bind hb2 ?_
          have hne : (bitAt s (i : Int) != bitAt s (i : Int)) = false := by simp
          simp only [hne, Bool.false_eq_true, if_false]
          exact hnext
    refine Ev.step (f := fun k => (impl_HasBit.f k (putT s n on) (i : Int)).bind fun t212 => (if t212 = true then (laws_FnBitSets.j3 k s (n : Int) on (putT s n on) (wrap64 (cnt (putT s n on) i + 1)) (i : Int)) else (laws_FnBitSets.j3 k s (n : Int) on (putT s n on) (cnt (putT s n on) i) (i : Int)))) (fun k => ?_) ?_
    · simp only [laws_FnBitSets.l0]
      rw [if_pos (by omega)]
    · refine Ev.bind hb ?_
      cases hv : bitAt (putT s n on) (i : Int) with
      | true =>
        simp only [if_true]
        have e : cnt (putT s n on) (i + 1) = wrap64 (cnt (putT s n on) i + 1) := by
          simp only [cnt]
          rw [hv, if_pos rfl, w64 (by omega) (by omega)]
        rw [← e]; exact hj3
      | false =>
        simp only [Bool.false_eq_true, if_false]
        have e : cnt (putT s n on) (i + 1) = cnt (putT s n on) i := by
          simp only [cnt]
          rw [hv, if_neg (by simp), Int.add_zero]
        rw [← e]; exact hj3
theorem FnBitSets : laws_FnBitSets.Pure := by
  intro l _ _ _
  refine Ev.rounds (r := true) ?_
  unfold laws_FnBitSets.f
  by_cases h1 : (l.length : Int) > 1048576
  · simp only [if_pos h1]; exact Ev.now _
  · simp only [if_neg h1]
    obtain ⟨s, n, on, hd⟩ := draw_putBit l (by omega)
    refine Ev.bind hd ?_
    have jt : Ev (fun k => laws_FnBitSets.j0 k s n on true) true := Ev.step (f := fun _ => some true) (fun k => by simp only [laws_FnBitSets.j0]; rw [if_pos trivial]) (Ev.now _)
    by_cases c1 : (s.size : Int) > 100
    · simp only [if_pos c1]; exact jt
    · simp only [if_neg c1]
      by_cases c2 : n < 0
      · simp only [if_pos c2]; exact jt
      · simp only [if_neg c2]
        by_cases c3 : n > 800
        · simp only [decide_eq_true c3]; exact jt
        · simp only [decide_eq_false c3]
          obtain ⟨m, rfl⟩ : ∃ m : Nat, n = (m : Int) := ⟨n.toNat, by omega⟩
          obtain ⟨v1, v2⟩ := put_val s m on (by omega) (by omega)
          have hts := putT_size s m on
          have hb := has_ev (putT s m on) m (by rw [hts]; omega) (by omega)
          rw [bit_put, if_pos rfl] at hb
          refine Ev.step (f := fun k => (impl_PutBit.f k s (m : Int) on).bind fun t207 => (if t207.toList = (putT s m on).toList then ((impl_HasBit.f k t207 (m : Int)).bind fun t209 => (laws_FnBitSets.j1 k s (m : Int) on t207 (t209 != on))) else (laws_FnBitSets.j1 k s (m : Int) on t207 true))) (fun k => ?_) ?_
          · simp only [laws_FnBitSets.j0]
            rw [if_neg (by simp), v1]
            rfl
          · refine Ev.bind v2 ?_
            simp only [if_true]
            refine Ev.bind hb ?_
            have hne : (on != on) = false := by simp
            rw [hne]
            refine Ev.step (f := fun k => laws_FnBitSets.l0 k s (m : Int) on (putT s m on) (cnt (putT s m on) 0) ((0 : Nat) : Int)) (fun k => ?_) (sets_loop s m on (by omega) (by omega) 1000 0 rfl)
            simp only [laws_FnBitSets.j1]
            rw [if_neg (by simp)]
            rfl

end Go.Proofs.Ytcpbnhhpeljpjaa.Pure
