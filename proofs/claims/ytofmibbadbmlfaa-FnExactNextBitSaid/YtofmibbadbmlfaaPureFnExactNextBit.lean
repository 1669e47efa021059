/- The program's NextBit returns what the reference's returns, for all arguments. Conditions: none. -/
import Derived.Test.YtofmibbadbmlfaaPFnExactNextBitx
import Derived.Test.YtofmibbadbmlfaaPl
set_option linter.unusedVariables false
set_option linter.unusedSimpArgs false
namespace Go.Proofs.Ytofmibbadbmlfaa.Pure
open Go.RowKit Go.Proofs.Ytofmibbadbmlfaa.PFnExactNextBit Go.Proofs.YtofmibbadbmlfaaW.PrintWords Go.Proofs.YtofmibbadbmlfaaW.PrintLast Go.Proofs.Ytofmibbadbmlfaa.Pl Go.Proofs.YtofmibbadbmlfaaW.PrintMore
theorem impl_ybig_end (k : Nat) (s : ByteArray) (hk : 2 ≤ k) : impl_ybig.f k [s] = some (decide ((s.size : Int) > 65536)) := by
  obtain ⟨k, rfl⟩ : ∃ m, k = m + 1 + 1 := ⟨k - 2, by omega⟩
  unfold impl_ybig.f
  simp only [impl_ybig.l0]
  have e0 : rdOf ByteArray.empty [s] 0 = s := rfl
  have e1 : (([s] : List ByteArray).length : Int) = 1 := rfl
  have e2 : wrap64 (0 + 1) = 1 := by unfold wrap64; omega
  rw [e0, e1, e2, if_pos (by decide), if_pos (by decide), if_pos (by decide)]
  by_cases h : (s.size : Int) > 65536
  · rw [if_pos h, decide_eq_true h]
  · rw [if_neg h, decide_eq_false h, if_neg (by decide)]
theorem impl_ybig_ev (s : ByteArray) : Ev (fun k => impl_ybig.f k [s]) (decide ((s.size : Int) > 65536)) := ⟨2, fun k hk => impl_ybig_end k s hk⟩

/-- Bit n of a text of bytes. -/
def bitAt (s : ByteArray) (n : Int) : Bool := bt s (n / 8) / 2 ^ (n % 8).toNat % 2 == 1
theorem shr_and (x c : Int) (h0 : 0 ≤ x) (h1 : x ≤ 255) (hc : 0 ≤ c) (hc1 : c ≤ 8) : Go.bits .and .u8 (shr .u8 x c) 1 = x / 2 ^ c.toNat % 2 := by
  rw [shr8 hc1]
  have hp : (0:Int) < 2 ^ c.toNat := by
    have h := Nat.two_pow_pos c.toNat
    have h3 : ((2 : Int) ^ c.toNat) = ((2 ^ c.toNat : Nat) : Int) := by simp
    omega
  exact u8and1 _ (Int.ediv_nonneg h0 (Int.le_of_lt hp)) (Int.lt_of_le_of_lt (Int.ediv_le_self _ h0) (by omega))
theorem spec_HasBit_eq (s : ByteArray) (n : Int) (hn : n ≤ 9223372036854775807) : spec_HasBit.f s n = some (decide ((s.size : Int) ≤ 65536) && (decide (0 ≤ n) && (decide (n / 8 < (s.size : Int)) && bitAt s n))) := by
  unfold spec_HasBit.f
  by_cases hs : (s.size : Int) ≤ 65536
  · rw [if_pos hs, decide_eq_true hs]
    by_cases h0 : n ≥ 0
    · rw [if_pos h0, decide_eq_true h0, tdiv_nn h0, tmod_nn h0, w64 (by omega) (by omega)]
      by_cases h2 : n / 8 < (s.size : Int)
      · obtain ⟨b0, b1⟩ := bt_range s (n / 8)
        rw [if_pos h2, if_pos (by omega), u64w (by omega) (by omega), if_pos (by omega), decide_eq_true h2, shr_and _ _ b0 b1 (by omega) (by omega)]
        rfl
      · rw [if_neg h2, decide_eq_false h2]; rfl
    · rw [if_neg h0, decide_eq_false h0]; rfl
  · rw [if_neg hs, decide_eq_false hs]; rfl

theorem impl_yhasBit_eq (s : ByteArray) (n : Int) (hn : n ≤ 9223372036854775807) : impl_yhasBit.f s n = some (decide (0 ≤ n) && (decide (n / 8 < (s.size : Int)) && bitAt s n)) := by
  unfold impl_yhasBit.f
  by_cases h0 : n ≥ 0
  · rw [if_pos h0, decide_eq_true h0, tdiv_nn h0, tmod_nn h0, w64 (by omega) (by omega)]
    by_cases h2 : n / 8 < (s.size : Int)
    · obtain ⟨b0, b1⟩ := bt_range s (n / 8)
      rw [if_pos h2, if_pos (by omega), if_pos (by omega), decide_eq_true h2, shr_and _ _ b0 b1 (by omega) (by omega)]
      rfl
    · rw [if_neg h2, decide_eq_false h2]; rfl
  · rw [if_neg h0, decide_eq_false h0]; rfl

theorem next_ends (s : ByteArray) (hs : (s.size : Int) ≤ 65536) (on : Bool) (from_ : Int) (hf : 0 ≤ from_) (hf1 : from_ ≤ 9223372036854775807) (d : Nat) : ∀ i : Int, from_ ≤ i → (i = from_ ∨ i ≤ 8 * (s.size : Int)) → (8 * (s.size : Int) - i).toNat = d →
    ∃ r, Ev (fun k => spec_NextBit.l0 k s from_ on (8 * (s.size : Int)) i) r ∧ Ev (fun k => impl_NextBit.l0 k s on i) r := by
  have hw : wrap64 ((s.size : Int) * 8) = 8 * (s.size : Int) := by rw [w64 (by omega) (by omega)]; omega
  have stop : ∀ i : Int, from_ ≤ i → (i = from_ ∨ i ≤ 8 * (s.size : Int)) → ¬ i < 8 * (s.size : Int) → ∃ r, Ev (fun k => spec_NextBit.l0 k s from_ on (8 * (s.size : Int)) i) r ∧ Ev (fun k => impl_NextBit.l0 k s on i) r := by
    intro i hi hi2 hlt
    cases on with
    | true =>
      exact ⟨-1, Ev.step (f := fun _ => some (-1)) (fun k => by simp only [spec_NextBit.l0]; rw [if_neg hlt, if_pos trivial]) (Ev.now _), Ev.step (f := fun _ => some (-1)) (fun k => by simp only [impl_NextBit.l0]; rw [hw, if_neg hlt, if_pos trivial]) (Ev.now _)⟩
    | false =>
      refine ⟨i, Ev.step (f := fun _ => some i) (fun k => ?_) (Ev.now _), Ev.step (f := fun _ => some i) (fun k => by simp only [impl_NextBit.l0]; rw [hw, if_neg hlt, if_neg (by simp)]) (Ev.now _)⟩
      simp only [spec_NextBit.l0]
      rw [if_neg hlt, if_neg (by simp)]
      unfold spec_l01Max.f
      by_cases hm : from_ > 8 * (s.size : Int)
      · rw [if_pos hm]; simp only [Option.bind_some]; congr 1; omega
      · rw [if_neg hm]; simp only [Option.bind_some]; congr 1; omega
  induction d with
  | zero => exact fun i hi hi2 hd => stop i hi hi2 (by omega)
  | succ d ih =>
    intro i hi hi2 hd
    by_cases hlt : i < 8 * (s.size : Int)
    · obtain ⟨r, r1, r2⟩ := ih (i + 1) (by omega) (by omega) (by omega)
      have e : spec_HasBit.f s i = impl_yhasBit.f s i := by rw [spec_HasBit_eq s i (by omega), impl_yhasBit_eq s i (by omega), decide_eq_true hs, Bool.true_and]
      obtain ⟨b, hb⟩ : ∃ b, impl_yhasBit.f s i = some b := ⟨_, impl_yhasBit_eq s i (by omega)⟩
      by_cases hbo : (b == on) = true
      · exact ⟨i, Ev.step (f := fun _ => some i) (fun k => by simp only [spec_NextBit.l0]; rw [if_pos hlt, e, hb]; simp only [Option.bind_some]; rw [if_pos hbo]) (Ev.now _), Ev.step (f := fun _ => some i) (fun k => by simp only [impl_NextBit.l0]; rw [hw, if_pos hlt, hb]; simp only [Option.bind_some]; rw [if_pos hbo]) (Ev.now _)⟩
      · exact ⟨r, Ev.step (fun k => by simp only [spec_NextBit.l0]; rw [if_pos hlt, e, hb]; simp only [Option.bind_some]; rw [if_neg hbo, w64 (by omega) (by omega)]) r1, Ev.step (fun k => by simp only [impl_NextBit.l0]; rw [hw, if_pos hlt, hb]; simp only [Option.bind_some]; rw [if_neg hbo, w64 (by omega) (by omega)]) r2⟩
    · exact stop i hi hi2 hlt
theorem FnExactNextBit : laws_FnExactNextBit.Pure := by
  intro s n on _ hn
  obtain ⟨hn0, hn1⟩ := wf64 hn
  refine Ev.rounds (r := true) ?_
  by_cases h0 : (s.size : Int) > 1048576
  · exact Ev.congr (fun k => by unfold laws_FnExactNextBit.f; rw [if_pos h0]) (Ev.now _)
  · have key : ∀ v : Int, Ev (fun k => spec_NextBit.f k s n on) v → Ev (fun k => impl_NextBit.f k s n on) v → Ev (fun k => laws_FnExactNextBit.f k s n on) true := by
      intro v h1 h2
      refine Ev.congr (fun k => by unfold laws_FnExactNextBit.f; rw [if_neg h0]) (Ev.bind h1 (Ev.bind h2 ?_))
      rw [if_pos rfl]; exact Ev.now _
    by_cases hs : (s.size : Int) ≤ 65536
    · obtain ⟨r, r1, r2⟩ := next_ends s hs on (mx n 0) (by unfold mx; split <;> omega) (by unfold mx; split <;> omega) _ (mx n 0) (Int.le_refl _) (.inl rfl) rfl
      refine key r (Ev.congr (fun k => ?_) r1) (Ev.congr (fun k => rfl) (Ev.bind (impl_ybig_ev s) ?_))
      · unfold spec_NextBit.f spec_l01Max.f
        rw [if_neg (by omega), w64 (a := 8 * (s.size : Int)) (by omega) (by omega)]
        by_cases hz : 0 > n
        · rw [if_pos hz, show mx n 0 = 0 from by unfold mx; rw [if_pos (by omega)]]; rfl
        · rw [if_neg hz]
          have e : mx n 0 = n := by unfold mx; split <;> omega
          rw [e]; rfl
      · rw [decide_eq_false (by omega)]
        simp only [Bool.false_eq_true, if_false]
        exact r2
    · refine key 0 (Ev.congr (fun k => by unfold spec_NextBit.f; rw [if_pos (by omega)]) (Ev.now _)) ?_
      refine Ev.congr (fun k => rfl) (Ev.bind (impl_ybig_ev s) ?_)
      rw [decide_eq_true (by omega)]
      simp only [if_true]
      exact Ev.now _

end Go.Proofs.Ytofmibbadbmlfaa.Pure
