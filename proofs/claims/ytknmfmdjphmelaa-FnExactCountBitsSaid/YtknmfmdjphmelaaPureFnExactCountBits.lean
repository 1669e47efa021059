/- The program's CountBits returns what the reference's returns, for all arguments. Conditions: none. -/
import Derived.Test.YtknmfmdjphmelaaPFnExactCountBitsx1
import Derived.Test.YtknmfmdjphmelaaPl
set_option linter.unusedVariables false
set_option linter.unusedSimpArgs false
namespace Go.Proofs.Ytknmfmdjphmelaa.Pure
open Go.RowKit Go.Proofs.Ytknmfmdjphmelaa.PFnExactCountBits Go.Proofs.YtknmfmdjphmelaaW.PrintWords Go.Proofs.YtknmfmdjphmelaaW.PrintLast Go.Proofs.Ytknmfmdjphmelaa.Pl
theorem impl_ybig_end (k : Nat) (s : ByteArray) (hk : 2 ≤ k) : impl_ybig.f k [s] = some (decide ((s.size : Int) > 65536)) := by
  obtain ⟨k, rfl⟩ : ∃ m, k = m + 1 + 1 := ⟨k - 2, by omega⟩
  unfold impl_ybig.f
  simp only [impl_ybig.l0]
  have e0 : rdOf ByteArray.empty [s] 0 = s := rfl
  have e1 : (([s] : List ByteArray).length : Int) = 1 := rfl
  have e2 : wrap64 (0 + 1) = 1 := by unfold wrap64; omega
  rw [e0, e1, e2, if_pos (by decide), if_pos (by decide), if_pos (by decide)]
  by_cases h : (s.size : Int) > 65536
  · rw [if_pos h, decide_eq_true h]
  · rw [if_neg h, decide_eq_false h, if_neg (by decide)]
theorem impl_ybig_ev (s : ByteArray) : Ev (fun k => impl_ybig.f k [s]) (decide ((s.size : Int) > 65536)) := ⟨2, fun k hk => impl_ybig_end k s hk⟩

/-- Bit n of a text of bytes. -/
def bitAt (s : ByteArray) (n : Int) : Bool := bt s (n / 8) / 2 ^ (n % 8).toNat % 2 == 1
theorem shr_and (x c : Int) (h0 : 0 ≤ x) (h1 : x ≤ 255) (hc : 0 ≤ c) (hc1 : c ≤ 8) : Go.bits .and .u8 (shr .u8 x c) 1 = x / 2 ^ c.toNat % 2 := by
  rw [shr8 hc1]
  have hp : (0:Int) < 2 ^ c.toNat := by
    have h := Nat.two_pow_pos c.toNat
    have h3 : ((2 : Int) ^ c.toNat) = ((2 ^ c.toNat : Nat) : Int) := by simp
    omega
  exact u8and1 _ (Int.ediv_nonneg h0 (Int.le_of_lt hp)) (Int.lt_of_le_of_lt (Int.ediv_le_self _ h0) (by omega))
theorem spec_HasBit_eq (s : ByteArray) (n : Int) (hn : n ≤ 9223372036854775807) : spec_HasBit.f s n = some (decide ((s.size : Int) ≤ 65536) && (decide (0 ≤ n) && (decide (n / 8 < (s.size : Int)) && bitAt s n))) := by
  unfold spec_HasBit.f
  by_cases hs : (s.size : Int) ≤ 65536
  · rw [if_pos hs, decide_eq_true hs]
    by_cases h0 : n ≥ 0
    · rw [if_pos h0, decide_eq_true h0, tdiv_nn h0, tmod_nn h0, w64 (by omega) (by omega)]
      by_cases h2 : n / 8 < (s.size : Int)
      · obtain ⟨b0, b1⟩ := bt_range s (n / 8)
        rw [if_pos h2, if_pos (by omega), u64w (by omega) (by omega), if_pos (by omega), decide_eq_true h2, shr_and _ _ b0 b1 (by omega) (by omega)]
        rfl
      · rw [if_neg h2, decide_eq_false h2]; rfl
    · rw [if_neg h0, decide_eq_false h0]; rfl
  · rw [if_neg hs, decide_eq_false hs]; rfl

/-- How many of the first n bits are on. -/
def cnt (s : ByteArray) : Nat → Int
  | 0 => 0
  | n + 1 => cnt s n + (if bitAt s n = true then 1 else 0)
theorem cnt_range (s : ByteArray) (n : Nat) : 0 ≤ cnt s n ∧ cnt s n ≤ n := by
  induction n with
  | zero => simp [cnt]
  | succ n ih =>
    unfold cnt
    split <;> omega
theorem spec_count_ends (s : ByteArray) (hs : (s.size : Int) ≤ 65536) (d : Nat) : ∀ i : Nat, i + d = 8 * s.size → Ev (fun k => spec_CountBits.l0 k s (cnt s i) i) (cnt s (8 * s.size)) := by
  have hw : wrap64 (8 * (s.size : Int)) = 8 * (s.size : Int) := w64 (by omega) (by omega)
  induction d with
  | zero =>
    intro i hi
    obtain rfl : i = 8 * s.size := by omega
    exact Ev.step (f := fun _ => some (cnt s (8 * s.size))) (fun k => by simp only [spec_CountBits.l0]; rw [hw, if_neg (by omega)]) (Ev.now _)
  | succ d ih =>
    intro i hi
    have hc := cnt_range s i
    refine Ev.step (fun k => ?_) (ih (i + 1) (by omega))
    simp only [spec_CountBits.l0]
    rw [hw, if_pos (by omega), spec_HasBit_eq s i (by omega), decide_eq_true hs, decide_eq_true (by omega : (0:Int) ≤ (i : Int)), decide_eq_true (by omega : (i : Int) / 8 < (s.size : Int))]
    simp only [Option.bind_some, Bool.true_and]
    unfold spec_l01Bool.f
    rw [w64 (a := (i : Int) + 1) (by omega) (by omega)]
    have e1 : ((i : Int) + 1) = ((i + 1 : Nat) : Int) := by omega
    by_cases hb : bitAt s i = true
    · rw [if_pos hb]
      simp only [Option.bind_some]
      have e : cnt s (i + 1) = cnt s i + 1 := by simp only [cnt]; rw [if_pos hb]
      rw [e, w64 (by omega) (by omega), e1]
    · rw [if_neg hb]
      simp only [Option.bind_some]
      have e : cnt s (i + 1) = cnt s i + 0 := by simp only [cnt]; rw [if_neg hb]
      rw [e, w64 (by omega) (by omega), e1]
theorem spec_count_none (s : ByteArray) (hs : ¬ (s.size : Int) ≤ 65536) (hs1 : (s.size : Int) ≤ 1048576) (d : Nat) : ∀ i : Nat, i + d = 8 * s.size → Ev (fun k => spec_CountBits.l0 k s 0 i) 0 := by
  have hw : wrap64 (8 * (s.size : Int)) = 8 * (s.size : Int) := w64 (by omega) (by omega)
  induction d with
  | zero =>
    intro i hi
    exact Ev.step (f := fun _ => some 0) (fun k => by simp only [spec_CountBits.l0]; rw [hw, if_neg (by omega)]) (Ev.now _)
  | succ d ih =>
    intro i hi
    refine Ev.step (fun k => ?_) (ih (i + 1) (by omega))
    simp only [spec_CountBits.l0]
    rw [hw, if_pos (by omega), spec_HasBit_eq s i (by omega), decide_eq_false hs]
    simp only [Option.bind_some, Bool.false_and]
    unfold spec_l01Bool.f
    rw [w64 (a := (i : Int) + 1) (by omega) (by omega), if_neg (by simp)]
    have e1 : ((i : Int) + 1) = ((i + 1 : Nat) : Int) := by omega
    simp only [Option.bind_some]
    rw [w64 (by omega) (by omega), e1]; rfl
theorem impl_count_ends (s : ByteArray) (hs : (s.size : Int) ≤ 65536) (d : Nat) :
    (∀ i : Nat, 10 * i + d = 10 * s.size → Ev (fun k => impl_ycountBits.l0 k s (cnt s (8 * i)) s.size i) (cnt s (8 * s.size))) ∧
    (∀ i j : Nat, i < s.size → j ≤ 8 → 10 * i + 1 + j + d = 10 * s.size → Ev (fun k => impl_ycountBits.l1 k s (cnt s (8 * i + j)) i s.size i j) (cnt s (8 * s.size))) := by
  induction d with
  | zero =>
    refine ⟨fun i hi => ?_, fun i j h1 h2 h3 => by omega⟩
    obtain rfl : i = s.size := by omega
    exact Ev.step (f := fun _ => some (cnt s (8 * s.size))) (fun k => by simp only [impl_ycountBits.l0]; rw [if_neg (by omega)]) (Ev.now _)
  | succ d ih =>
    have step1 : ∀ i j : Nat, i < s.size → j ≤ 8 → 10 * i + 1 + j + (d + 1) = 10 * s.size → Ev (fun k => impl_ycountBits.l1 k s (cnt s (8 * i + j)) i s.size i j) (cnt s (8 * s.size)) := by
      intro i j h1 h2 h3
      by_cases h4 : j < 8
      · have hc := cnt_range s (8 * i + j)
        refine Ev.step (fun k => ?_) (ih.2 i (j + 1) h1 (by omega) (by omega))
        obtain ⟨b0, b1⟩ := bt_range s i
        simp only [impl_ycountBits.l1]
        rw [if_pos (by omega), if_pos (by omega), if_pos (by omega), if_pos (by omega), shr_and _ _ b0 b1 (by omega) (by omega), w64 (a := (j : Int) + 1) (by omega) (by omega), w64 (a := bt s i / 2 ^ (j : Int).toNat % 2) (by omega) (by omega)]
        have e1 : ((j : Int) + 1) = ((j + 1 : Nat) : Int) := by omega
        have eb : bitAt s ((8 * i + j : Nat) : Int) = (bt s i / 2 ^ (j : Int).toNat % 2 == 1) := by
          unfold bitAt
          rw [show ((8 * i + j : Nat) : Int) / 8 = (i : Int) from by omega, show ((8 * i + j : Nat) : Int) % 8 = (j : Int) from by omega]
        have e : cnt s (8 * i + (j + 1)) = cnt s (8 * i + j) + bt s i / 2 ^ (j : Int).toNat % 2 := by
          show cnt s ((8 * i + j) + 1) = _
          simp only [cnt]
          rw [eb]
          by_cases hb : bt s i / 2 ^ (j : Int).toNat % 2 = 1
          · rw [if_pos (beq_iff_eq.mpr hb), hb]
          · rw [if_neg (fun h => hb (beq_iff_eq.mp h))]; omega
        rw [e1, e, w64 (by omega) (by omega)]
      · obtain rfl : j = 8 := by omega
        have := ih.1 (i + 1) (by omega)
        refine Ev.step (fun k => ?_) this
        simp only [impl_ycountBits.l1]
        rw [if_neg (by omega), w64 (by omega) (by omega)]
        have e1 : ((i : Int) + 1) = ((i + 1 : Nat) : Int) := by omega
        rw [e1]; rfl
    refine ⟨fun i hi => ?_, step1⟩
    have h1 : i < s.size := by omega
    refine Ev.step (fun k => ?_) (ih.2 i 0 h1 (by omega) (by omega))
    simp only [impl_ycountBits.l0]
    rw [if_pos (by omega)]; rfl
theorem FnExactCountBits : laws_FnExactCountBits.Pure := by
  intro s _
  refine Ev.rounds (r := true) ?_
  by_cases h0 : (s.size : Int) > 1048576
  · exact Ev.congr (fun k => by unfold laws_FnExactCountBits.f; rw [if_pos h0]) (Ev.now _)
  · have key : ∀ v : Int, Ev (fun k => spec_CountBits.f k s) v → Ev (fun k => impl_CountBits.f k s) v → Ev (fun k => laws_FnExactCountBits.f k s) true := by
      intro v h1 h2
      refine Ev.congr (fun k => by unfold laws_FnExactCountBits.f; rw [if_neg h0]) (Ev.bind h1 (Ev.bind h2 ?_))
      rw [if_pos rfl]; exact Ev.now _
    by_cases hs : (s.size : Int) ≤ 65536
    · refine key (cnt s (8 * s.size)) (Ev.congr (fun k => rfl) (spec_count_ends s hs (8 * s.size) 0 (by omega))) ?_
      refine Ev.congr (fun k => rfl) (Ev.bind (impl_ybig_ev s) ?_)
      rw [decide_eq_false (by omega)]
      simp only [Bool.false_eq_true, if_false]
      refine Ev.bind (f := fun _ t => some t) (Ev.congr (fun k => rfl) ((impl_count_ends s hs (10 * s.size)).1 0 (by omega))) (Ev.now _)
    · refine key 0 (Ev.congr (fun k => rfl) (spec_count_none s hs (by omega) (8 * s.size) 0 (by omega))) ?_
      refine Ev.congr (fun k => rfl) (Ev.bind (impl_ybig_ev s) ?_)
      rw [decide_eq_true (by omega)]
      simp only [if_true]
      exact Ev.now _

end Go.Proofs.Ytknmfmdjphmelaa.Pure
