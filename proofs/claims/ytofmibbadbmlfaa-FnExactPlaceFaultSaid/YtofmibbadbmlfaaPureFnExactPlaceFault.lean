/- The program's PlaceFault returns what the reference's returns, for all arguments. Conditions: none. -/
import Derived.Test.YtofmibbadbmlfaaQFnExactPlaceFaultx
import Derived.Test.YtofmibbadbmlfaaPl
set_option linter.unusedVariables false
set_option linter.unusedSimpArgs false
namespace Go.Proofs.Ytofmibbadbmlfaa.Pure
open Go.RowKit Go.Proofs.Ytofmibbadbmlfaa.QFnExactPlaceFault Go.Proofs.YtofmibbadbmlfaaW.PrintWords Go.Proofs.YtofmibbadbmlfaaW.PrintLast Go.Proofs.Ytofmibbadbmlfaa.Pl Go.Proofs.YtofmibbadbmlfaaW.PrintMore
/-- A memory's size is right. -/
def memOk (s : ByteArray) : Prop := 256 ≤ (s.size : Int) ∧ (s.size : Int) ≤ 65536 ∧ (s.size : Int) % 256 = 0
theorem impl_ymemOk_eq (s : ByteArray) : (memOk s ∧ impl_ymemOk.f s = some true) ∨ (¬ memOk s ∧ impl_ymemOk.f s = some false) := by
  unfold impl_ymemOk.f memOk
  by_cases h0 : (s.size : Int) ≥ 256
  · rw [if_pos h0]
    by_cases h1 : (s.size : Int) ≤ 65536
    · rw [if_pos h1]
      by_cases h2 : (s.size : Int) % 256 = 0
      · left; exact ⟨⟨h0, h1, h2⟩, by simp [h2]⟩
      · right; exact ⟨fun h => h2 h.2.2, by simp [h2]⟩
    · rw [if_neg h1]; right; exact ⟨fun h => h1 h.2.1, rfl⟩
  · rw [if_neg h0]; right; exact ⟨fun h => h0 h.1, rfl⟩
theorem spec_MemFault_eq (s : ByteArray) : (memOk s ∧ spec_MemFault.f s = some 0) ∨ (¬ memOk s ∧ spec_MemFault.f s = some 1) := by
  unfold spec_MemFault.f memOk
  by_cases h0 : (s.size : Int) = 0
  · rw [if_pos h0]; right; exact ⟨fun h => by omega, rfl⟩
  · rw [if_neg h0]
    by_cases h1 : (s.size : Int) % 256 = 0
    · rw [if_pos h1]
      by_cases h2 : (s.size : Int) > 65536
      · rw [if_pos h2]; right; exact ⟨fun h => by omega, rfl⟩
      · rw [if_neg h2]; left; exact ⟨⟨by omega, by omega, h1⟩, rfl⟩
    · rw [if_neg h1]; right; exact ⟨fun h => h1 h.2.2, rfl⟩

theorem toInt64S_ends (l : List Int) (hl : (l.length : Int) ≤ 1048576) (d : Nat) : ∀ (i : Nat) (m : List Int), i + d = l.length → m.length = l.length → (∀ j, j < i → m.getD j 0 = l.getD j 0) → Ev (fun k => laws_toInt64S.l0 k l m i) l := by
  induction d with
  | zero =>
    intro i m hi hm hj
    have e : m = l := by
      refine List.ext_getElem hm (fun j h1 h2 => ?_)
      have := hj j (by omega)
      rw [List.getD_eq_getElem?_getD, List.getD_eq_getElem?_getD, List.getElem?_eq_getElem h1, List.getElem?_eq_getElem h2] at this
      simpa using this
    exact Ev.step (f := fun _ => some l) (fun k => by simp only [laws_toInt64S.l0]; rw [if_neg (by omega), e]) (Ev.now _)
  | succ d ih =>
    intro i m hi hm hj
    refine Ev.step (fun k => ?_) (ih (i + 1) (m.set i (rd l i)) (by omega) (by simpa using hm) (fun j hji => ?_))
    · simp only [laws_toInt64S.l0]
      rw [if_pos (by omega), if_pos (by omega), if_pos (by omega), w64 (a := (i : Int) + 1) (by omega) (by omega), Int.toNat_natCast]
      have e1 : ((i : Int) + 1) = ((i + 1 : Nat) : Int) := by omega
      rw [e1]
    · by_cases e : j = i
      · subst e
        rw [List.getD_eq_getElem?_getD, List.getElem?_set_self (by omega)]
        unfold rd; rw [Int.toNat_natCast]; rfl
      · rw [List.getD_eq_getElem?_getD, List.getElem?_set_ne (by omega), ← List.getD_eq_getElem?_getD]
        exact hj j (by omega)
theorem toInt64S_ev (l : List Int) (hl : (l.length : Int) ≤ 1048576) : Ev (fun k => laws_toInt64S.f k l) l := by
  refine Ev.congr (fun k => ?_) (toInt64S_ends l hl l.length 0 (List.replicate l.length 0) (by omega) (by simp) (fun j hj => absurd hj (Nat.not_lt_zero _)))
  unfold laws_toInt64S.f
  rw [if_pos (by omega), if_pos (by omega), Int.toNat_natCast]; rfl
theorem eqInt64S_ends (l : List Int) (hl : (l.length : Int) ≤ 1048576) (d : Nat) : ∀ i : Nat, i + d = l.length → Ev (fun k => laws_eqInt64S.l0 k l l i) true := by
  induction d with
  | zero =>
    intro i hi
    exact Ev.step (f := fun _ => some true) (fun k => by simp only [laws_eqInt64S.l0]; rw [if_neg (by omega)]) (Ev.now _)
  | succ d ih =>
    intro i hi
    refine Ev.step (fun k => ?_) (ih (i + 1) (by omega))
    simp only [laws_eqInt64S.l0]
    rw [if_pos (by omega), if_pos (by omega), if_pos (by omega), if_pos trivial, w64 (a := (i : Int) + 1) (by omega) (by omega)]
    have e1 : ((i : Int) + 1) = ((i + 1 : Nat) : Int) := by omega
    rw [e1]
theorem eqInt64S_ev (l : List Int) (hl : (l.length : Int) ≤ 1048576) : Ev (fun k => laws_eqInt64S.f k l l) true := by
  refine Ev.congr (fun k => ?_) (eqInt64S_ends l hl l.length 0 (by omega))
  unfold laws_eqInt64S.f
  rw [if_pos rfl]; rfl
theorem inInts_ends (xs : List Int) (x : Int) (hl : (xs.length : Int) ≤ 1048576) (d : Nat) : ∀ i : Nat, i + d = xs.length → Ev (fun k => spec_l01InInts.l0 k xs x i) (decide (x ∈ xs.drop i)) := by
  induction d with
  | zero =>
    intro i hi
    refine Ev.step (f := fun _ => some (decide (x ∈ xs.drop i))) (fun k => ?_) (Ev.now _)
    simp only [spec_l01InInts.l0]
    rw [if_neg (by omega), List.drop_eq_nil_of_le (by omega)]; simp
  | succ d ih =>
    intro i hi
    have hlt : i < xs.length := by omega
    have hr : rd xs i = xs[i] := by unfold rd; rw [Int.toNat_natCast, List.getD_eq_getElem?_getD, List.getElem?_eq_getElem hlt]; rfl
    have hd : xs.drop i = xs[i] :: xs.drop (i + 1) := List.drop_eq_getElem_cons hlt
    by_cases e : rd xs i = x
    · refine Ev.step (f := fun _ => some (decide (x ∈ xs.drop i))) (fun k => ?_) (Ev.now _)
      simp only [spec_l01InInts.l0]
      rw [if_pos (by omega), if_pos (by omega), if_pos e, hd, ← hr, e]; simp
    · have := ih (i + 1) (by omega)
      refine Ev.step (f := fun k => spec_l01InInts.l0 k xs x ((i + 1 : Nat) : Int)) (fun k => ?_) ?_
      · simp only [spec_l01InInts.l0]
        rw [if_pos (by omega), if_pos (by omega), if_neg e, w64 (a := (i : Int) + 1) (by omega) (by omega)]
        have e1 : ((i : Int) + 1) = ((i + 1 : Nat) : Int) := by omega
        rw [e1]
      · have e2 : decide (x ∈ xs.drop i) = decide (x ∈ xs.drop (i + 1)) := by
          rw [hd, ← hr]
          have : ¬ x = rd xs i := fun h => e h.symm
          simp [this]
        rw [e2]; exact this
theorem inInts_ev (xs : List Int) (x : Int) (hl : (xs.length : Int) ≤ 1048576) : Ev (fun k => spec_l01InInts.f k xs x) (decide (x ∈ xs)) := by
  have := inInts_ends xs x hl xs.length 0 (by omega)
  rw [List.drop_zero] at this
  exact Ev.congr (fun k => rfl) this
/-- All frames from place i on are good. -/
theorem frames_ends (l : List Int) (hl : (l.length : Int) ≤ 1048576) (s : ByteArray) (hs : (s.size : Int) ≤ 65536) (d : Nat) : ∀ i : Nat, i + d = l.length →
    Ev (fun k => spec_l06Frames.l0 k l s i) (((List.range l.length).drop i).all (placeGood ((s.size : Int) / 256) l)) := by
  have hw : wrap64 ((s.size : Int) / 256) = (s.size : Int) / 256 := w64 (by omega) (by omega)
  induction d with
  | zero =>
    intro i hi
    refine Ev.step (f := fun _ => some (((List.range l.length).drop i).all (placeGood ((s.size : Int) / 256) l))) (fun k => ?_) (Ev.now _)
    simp only [spec_l06Frames.l0]
    rw [if_neg (by omega), List.drop_eq_nil_of_le (by simp; omega)]; rfl
  | succ d ih =>
    intro i hi
    have hlt : i < l.length := by omega
    have hd : (List.range l.length).drop i = i :: (List.range l.length).drop (i + 1) := by
      rw [List.drop_eq_getElem_cons (by simpa using hlt)]; simp
    have h1 := ih (i + 1) (by omega)
    have hin : spec_l03In.f s (rd l i) = some (decide (0 ≤ rd l i) && decide (rd l i ≤ (s.size : Int) / 256 - 1)) := by
      unfold spec_l03In.f
      by_cases h0 : rd l i ≥ 0
      · rw [if_pos h0, hw, decide_eq_true h0, Bool.true_and]
        congr 1
        exact decide_eq_decide.mpr ⟨fun h => by omega, fun h => by omega⟩
      · rw [if_neg h0, decide_eq_false h0]; rfl
    have start : ∀ r, Ev (fun k => if (decide (0 ≤ rd l i) && decide (rd l i ≤ (s.size : Int) / 256 - 1)) = true then (if (i : Int) ≤ (l.length : Int) then ((spec_l01InInts.f k (l.take i) (rd l i)).bind fun t106 => (if t106 = true then (some false) else (spec_l06Frames.l0 k l s ((i + 1 : Nat) : Int)))) else (none)) else (some false)) r → Ev (fun k => spec_l06Frames.l0 k l s i) r := by
      intro r h
      refine Ev.step (fun k => ?_) h
      simp only [spec_l06Frames.l0]
      rw [if_pos (by omega), if_pos (by omega), hin, w64 (a := (i : Int) + 1) (by omega) (by omega), Int.toNat_natCast]
      have e1 : ((i : Int) + 1) = ((i + 1 : Nat) : Int) := by omega
      rw [e1]; rfl
    refine start _ ?_
    rw [hd, List.all_cons]
    have hp : placeGood ((s.size : Int) / 256) l i = ((decide (0 ≤ rd l i) && decide (rd l i ≤ (s.size : Int) / 256 - 1)) && !decide (rd l i ∈ l.take i)) := by unfold placeGood; rw [Bool.and_assoc]
    rw [hp]
    cases hb : (decide (0 ≤ rd l i) && decide (rd l i ≤ (s.size : Int) / 256 - 1)) with
    | false => simp only [Bool.false_and, Bool.false_eq_true, if_false]; exact Ev.now _
    | true =>
      refine Ev.congr (f := fun k => (spec_l01InInts.f k (l.take i) (rd l i)).bind fun t106 => (if t106 = true then (some false) else (spec_l06Frames.l0 k l s ((i + 1 : Nat) : Int)))) (fun k => by rw [if_pos rfl, if_pos (by omega)]) ?_
      refine Ev.bind (inInts_ev _ _ (by simp; omega)) ?_
      cases hc : decide (rd l i ∈ l.take i) with
      | true => simp only [if_true, Bool.not_true, Bool.and_false, Bool.false_and]; exact Ev.now _
      | false => simp only [Bool.false_eq_true, if_false, Bool.not_false, Bool.and_true, Bool.true_and]; exact h1
theorem frames_ev (l : List Int) (hl : (l.length : Int) ≤ 1048576) (s : ByteArray) (hs : (s.size : Int) ≤ 65536) : Ev (fun k => spec_l06Frames.f k l s) ((List.range l.length).all (placeGood ((s.size : Int) / 256) l)) := by
  have := frames_ends l hl s hs l.length 0 (by omega)
  rw [List.drop_zero] at this
  exact Ev.congr (fun k => rfl) this

theorem place_both (m : ByteArray) (l : List Int) (h : ByteArray) (hl : (l.length : Int) ≤ 1048576) : ∃ r, Ev (fun k => spec_PlaceFault.f k m l h) r ∧ impl_PlaceFault.f m l h = some r := by
  have si : ∀ (s : ByteArray), memOk s → wrap64 ((s.size : Int) / 256) = (s.size : Int) / 256 ∧ 1 ≤ (s.size : Int) / 256 ∧ (s.size : Int) / 256 ≤ 256 := fun s hs => by
    obtain ⟨a, b, c⟩ := hs
    exact ⟨w64 (by omega) (by omega), by omega, by omega⟩
  have impl1 : ∀ b, impl_yplaceOk.f l h = some b → memOk m → impl_PlaceFault.f m l h = if b = true then (if (l.length : Int) = (m.size : Int) / 256 then some 0 else some 1) else some 1 := by
    intro b hb hm
    unfold impl_PlaceFault.f
    rcases impl_ymemOk_eq m with ⟨_, e⟩ | ⟨hn, _⟩
    · rw [e, Option.bind_some, if_pos rfl, hb, Option.bind_some, (si m hm).1]
    · exact absurd hm hn
  by_cases hm : memOk m
  · rcases spec_MemFault_eq m with ⟨_, em⟩ | ⟨hn, _⟩
    · by_cases hh : memOk h
      · rcases spec_MemFault_eq h with ⟨_, eh⟩ | ⟨hn, _⟩
        · obtain ⟨w1, n1, n2⟩ := si m hm
          by_cases hlen : (l.length : Int) = (m.size : Int) / 256
          · have hsz := hh.2.1
            refine ⟨if ((List.range l.length).all (placeGood ((h.size : Int) / 256) l)) = true then 0 else 1, ?_, ?_⟩
            · refine Ev.congr (f := fun k => (spec_l06Frames.f k l h).bind fun t109 => (if t109 = true then (some 0) else (some 1))) (fun k => ?_) (Ev.bind (frames_ev l hl h hsz) ?_)
              · unfold spec_PlaceFault.f
                rw [if_neg (by omega), em, Option.bind_some, if_pos rfl, eh, Option.bind_some, if_pos rfl, w1, if_pos hlen]
              · cases (List.range l.length).all (placeGood ((h.size : Int) / 256) l) with
                | true => exact Ev.now _
                | false => exact Ev.now _
            · have hb : impl_yplaceOk.f l h = some ((List.range l.length).all (placeGood ((h.size : Int) / 256) l)) := by
                unfold impl_yplaceOk.f
                rcases impl_ymemOk_eq h with ⟨_, e⟩ | ⟨hn, _⟩
                · rw [e]; rw [Option.bind_some, if_pos rfl, if_neg (by omega), if_neg (by omega)]
                · exact absurd hh hn
              rw [impl1 _ hb hm, if_pos hlen]
              cases (List.range l.length).all (placeGood ((h.size : Int) / 256) l) <;> rfl
          · refine ⟨1, ?_, ?_⟩
            · refine Ev.congr (fun k => ?_) (Ev.now 1)
              unfold spec_PlaceFault.f
              by_cases h1000 : (l.length : Int) > 1000
              · rw [if_pos h1000]
              · rw [if_neg h1000, em, Option.bind_some, if_pos rfl, eh, Option.bind_some, if_pos rfl, w1, if_neg hlen]
            · obtain ⟨b, hb⟩ : ∃ b, impl_yplaceOk.f l h = some b := by
                unfold impl_yplaceOk.f
                rcases impl_ymemOk_eq h with ⟨_, e⟩ | ⟨hn, _⟩
                · rw [e, Option.bind_some, if_pos rfl]; split
                  · exact ⟨_, rfl⟩
                  · split <;> exact ⟨_, rfl⟩
                · exact absurd hh hn
              rw [impl1 b hb hm, if_neg hlen]; cases b <;> rfl
        · exact absurd hh hn
      · rcases spec_MemFault_eq h with ⟨hn, _⟩ | ⟨_, eh⟩
        · exact absurd hn hh
        · refine ⟨1, ?_, ?_⟩
          · refine Ev.congr (fun k => ?_) (Ev.now 1)
            unfold spec_PlaceFault.f
            by_cases h1000 : (l.length : Int) > 1000
            · rw [if_pos h1000]
            · rw [if_neg h1000, em, Option.bind_some, if_pos rfl, eh, Option.bind_some, if_neg (by decide)]
          · have hb : impl_yplaceOk.f l h = some false := by
              unfold impl_yplaceOk.f
              rcases impl_ymemOk_eq h with ⟨hn, _⟩ | ⟨_, e⟩
              · exact absurd hn hh
              · rw [e, Option.bind_some, if_neg (by simp)]
            rw [impl1 _ hb hm, if_neg (by simp)]
    · exact absurd hm hn
  · rcases spec_MemFault_eq m with ⟨hn, _⟩ | ⟨_, em⟩
    · exact absurd hn hm
    · refine ⟨1, ?_, ?_⟩
      · refine Ev.congr (fun k => ?_) (Ev.now 1)
        unfold spec_PlaceFault.f
        by_cases h1000 : (l.length : Int) > 1000
        · rw [if_pos h1000]
        · rw [if_neg h1000, em, Option.bind_some, if_neg (by decide)]
      · unfold impl_PlaceFault.f
        rcases impl_ymemOk_eq m with ⟨hn, _⟩ | ⟨_, e⟩
        · exact absurd hn hm
        · rw [e, Option.bind_some, if_neg (by simp)]
theorem FnExactPlaceFault : laws_FnExactPlaceFault.Pure := by
  intro m l h hm0 _ _ _ hh0
  refine Ev.rounds (r := true) ?_
  by_cases h0 : (m.size : Int) > 1048576
  · exact Ev.congr (fun k => by unfold laws_FnExactPlaceFault.f; rw [if_pos h0]) (Ev.now _)
  · by_cases h1 : (l.length : Int) > 1048576
    · exact Ev.congr (fun k => by unfold laws_FnExactPlaceFault.f; rw [if_neg h0, if_pos h1]) (Ev.now _)
    · by_cases h2 : (h.size : Int) > 1048576
      · exact Ev.congr (fun k => by unfold laws_FnExactPlaceFault.f; rw [if_neg h0, if_neg h1, if_pos h2]) (Ev.now _)
      · have hl : (l.length : Int) ≤ 1048576 := by omega
        obtain ⟨r, r1, r2⟩ := place_both m l h hl
        refine Ev.congr (fun k => by unfold laws_FnExactPlaceFault.f; rw [if_neg h0, if_neg h1, if_neg h2]) ?_
        refine Ev.bind (toInt64S_ev l hl) (Ev.bind r1 (Ev.bind (toInt64S_ev l hl) ?_))
        refine Ev.congr (f := fun k => (laws_toInt64S.f k l).bind fun t127 => ((laws_eqInt64S.f k l t127).bind fun t130 => (if t130 = true then (some true) else (some false)))) (fun k => by rw [r2, Option.bind_some, if_pos rfl]) ?_
        refine Ev.bind (toInt64S_ev l hl) (Ev.bind (eqInt64S_ev l hl) ?_)
        rw [if_pos rfl]; exact Ev.now _

end Go.Proofs.Ytofmibbadbmlfaa.Pure
