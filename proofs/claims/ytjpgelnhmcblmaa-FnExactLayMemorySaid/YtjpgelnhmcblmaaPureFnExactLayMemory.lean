/- The program's LayMemory returns what the reference's returns, for all arguments. Conditions: none. -/
import Derived.Test.YtjpgelnhmcblmaaQFnExactLayMemoryx
import Derived.Test.YtjpgelnhmcblmaaPl
import Derived.Test.YtjpgelnhmcblmaaBy
set_option linter.unusedVariables false
set_option linter.unusedSimpArgs false
namespace Go.Proofs.Ytjpgelnhmcblmaa.Pure
open Go.RowKit Go.Proofs.Ytjpgelnhmcblmaa.QFnExactLayMemory Go.Proofs.YtjpgelnhmcblmaaW.PrintWords Go.Proofs.YtjpgelnhmcblmaaW.PrintLast Go.Proofs.Ytjpgelnhmcblmaa.Pl Go.Proofs.YtjpgelnhmcblmaaW.PrintMore
/-- A memory's size is right. -/
def memOk (s : ByteArray) : Prop := 256 ≤ (s.size : Int) ∧ (s.size : Int) ≤ 65536 ∧ (s.size : Int) % 256 = 0
theorem impl_ymemOk_eq (s : ByteArray) : (memOk s ∧ impl_ymemOk.f s = some true) ∨ (¬ memOk s ∧ impl_ymemOk.f s = some false) := by
  unfold impl_ymemOk.f memOk
  by_cases h0 : (s.size : Int) ≥ 256
  · rw [if_pos h0]
    by_cases h1 : (s.size : Int) ≤ 65536
    · rw [if_pos h1]
      by_cases h2 : (s.size : Int) % 256 = 0
      · left; exact ⟨⟨h0, h1, h2⟩, by simp [h2]⟩
      · right; exact ⟨fun h => h2 h.2.2, by simp [h2]⟩
    · rw [if_neg h1]; right; exact ⟨fun h => h1 h.2.1, rfl⟩
  · rw [if_neg h0]; right; exact ⟨fun h => h0 h.1, rfl⟩
theorem spec_MemFault_eq (s : ByteArray) : (memOk s ∧ spec_MemFault.f s = some 0) ∨ (¬ memOk s ∧ spec_MemFault.f s = some 1) := by
  unfold spec_MemFault.f memOk
  by_cases h0 : (s.size : Int) = 0
  · rw [if_pos h0]; right; exact ⟨fun h => by omega, rfl⟩
  · rw [if_neg h0]
    by_cases h1 : (s.size : Int) % 256 = 0
    · rw [if_pos h1]
      by_cases h2 : (s.size : Int) > 65536
      · rw [if_pos h2]; right; exact ⟨fun h => by omega, rfl⟩
      · rw [if_neg h2]; left; exact ⟨⟨by omega, by omega, h1⟩, rfl⟩
    · rw [if_neg h1]; right; exact ⟨fun h => h1 h.2.2, rfl⟩

theorem toInt64S_ends (l : List Int) (hl : (l.length : Int) ≤ 1048576) (d : Nat) : ∀ (i : Nat) (m : List Int), i + d = l.length → m.length = l.length → (∀ j, j < i → m.getD j 0 = l.getD j 0) → Ev (fun k => laws_toInt64S.l0 k l m i) l := by
  induction d with
  | zero =>
    intro i m hi hm hj
    have e : m = l := by
      refine List.ext_getElem hm (fun j h1 h2 => ?_)
      have := hj j (by omega)
      rw [List.getD_eq_getElem?_getD, List.getD_eq_getElem?_getD, List.getElem?_eq_getElem h1, List.getElem?_eq_getElem h2] at this
      simpa using this
    exact Ev.step (f := fun _ => some l) (fun k => by simp only [laws_toInt64S.l0]; rw [if_neg (by omega), e]) (Ev.now _)
  | succ d ih =>
    intro i m hi hm hj
    refine Ev.step (fun k => ?_) (ih (i + 1) (m.set i (rd l i)) (by omega) (by simpa using hm) (fun j hji => ?_))
    · simp only [laws_toInt64S.l0]
      rw [if_pos (by omega), if_pos (by omega), if_pos (by omega), w64 (a := (i : Int) + 1) (by omega) (by omega), Int.toNat_natCast]
      have e1 : ((i : Int) + 1) = ((i + 1 : Nat) : Int) := by omega
      rw [e1]
    · by_cases e : j = i
      · subst e
        rw [List.getD_eq_getElem?_getD, List.getElem?_set_self (by omega)]
        unfold rd; rw [Int.toNat_natCast]; rfl
      · rw [List.getD_eq_getElem?_getD, List.getElem?_set_ne (by omega), ← List.getD_eq_getElem?_getD]
        exact hj j (by omega)
theorem toInt64S_ev (l : List Int) (hl : (l.length : Int) ≤ 1048576) : Ev (fun k => laws_toInt64S.f k l) l := by
  refine Ev.congr (fun k => ?_) (toInt64S_ends l hl l.length 0 (List.replicate l.length 0) (by omega) (by simp) (fun j hj => absurd hj (Nat.not_lt_zero _)))
  unfold laws_toInt64S.f
  rw [if_pos (by omega), if_pos (by omega), Int.toNat_natCast]; rfl
theorem eqInt64S_ends (l : List Int) (hl : (l.length : Int) ≤ 1048576) (d : Nat) : ∀ i : Nat, i + d = l.length → Ev (fun k => laws_eqInt64S.l0 k l l i) true := by
  induction d with
  | zero =>
    intro i hi
    exact Ev.step (f := fun _ => some true) (fun k => by simp only [laws_eqInt64S.l0]; rw [if_neg (by omega)]) (Ev.now _)
  | succ d ih =>
    intro i hi
    refine Ev.step (fun k => ?_) (ih (i + 1) (by omega))
    simp only [laws_eqInt64S.l0]
    rw [if_pos (by omega), if_pos (by omega), if_pos (by omega), if_pos trivial, w64 (a := (i : Int) + 1) (by omega) (by omega)]
    have e1 : ((i : Int) + 1) = ((i + 1 : Nat) : Int) := by omega
    rw [e1]
theorem eqInt64S_ev (l : List Int) (hl : (l.length : Int) ≤ 1048576) : Ev (fun k => laws_eqInt64S.f k l l) true := by
  refine Ev.congr (fun k => ?_) (eqInt64S_ends l hl l.length 0 (by omega))
  unfold laws_eqInt64S.f
  rw [if_pos rfl]; rfl
theorem inInts_ends (xs : List Int) (x : Int) (hl : (xs.length : Int) ≤ 1048576) (d : Nat) : ∀ i : Nat, i + d = xs.length → Ev (fun k => spec_l01InInts.l0 k xs x i) (decide (x ∈ xs.drop i)) := by
  induction d with
  | zero =>
    intro i hi
    refine Ev.step (f := fun _ => some (decide (x ∈ xs.drop i))) (fun k => ?_) (Ev.now _)
    simp only [spec_l01InInts.l0]
    rw [if_neg (by omega), List.drop_eq_nil_of_le (by omega)]; simp
  | succ d ih =>
    intro i hi
    have hlt : i < xs.length := by omega
    have hr : rd xs i = xs[i] := by unfold rd; rw [Int.toNat_natCast, List.getD_eq_getElem?_getD, List.getElem?_eq_getElem hlt]; rfl
    have hd : xs.drop i = xs[i] :: xs.drop (i + 1) := List.drop_eq_getElem_cons hlt
    by_cases e : rd xs i = x
    · refine Ev.step (f := fun _ => some (decide (x ∈ xs.drop i))) (fun k => ?_) (Ev.now _)
      simp only [spec_l01InInts.l0]
      rw [if_pos (by omega), if_pos (by omega), if_pos e, hd, ← hr, e]; simp
    · have := ih (i + 1) (by omega)
      refine Ev.step (f := fun k => spec_l01InInts.l0 k xs x ((i + 1 : Nat) : Int)) (fun k => ?_) ?_
      · simp only [spec_l01InInts.l0]
        rw [if_pos (by omega), if_pos (by omega), if_neg e, w64 (a := (i : Int) + 1) (by omega) (by omega)]
        have e1 : ((i : Int) + 1) = ((i + 1 : Nat) : Int) := by omega
        rw [e1]
      · have e2 : decide (x ∈ xs.drop i) = decide (x ∈ xs.drop (i + 1)) := by
          rw [hd, ← hr]
          have : ¬ x = rd xs i := fun h => e h.symm
          simp [this]
        rw [e2]; exact this
theorem inInts_ev (xs : List Int) (x : Int) (hl : (xs.length : Int) ≤ 1048576) : Ev (fun k => spec_l01InInts.f k xs x) (decide (x ∈ xs)) := by
  have := inInts_ends xs x hl xs.length 0 (by omega)
  rw [List.drop_zero] at this
  exact Ev.congr (fun k => rfl) this
/-- All frames from place i on are good. -/
theorem frames_ends (l : List Int) (hl : (l.length : Int) ≤ 1048576) (s : ByteArray) (hs : (s.size : Int) ≤ 65536) (d : Nat) : ∀ i : Nat, i + d = l.length →
    Ev (fun k => spec_l06Frames.l0 k l s i) (((List.range l.length).drop i).all (placeGood ((s.size : Int) / 256) l)) := by
  have hw : wrap64 ((s.size : Int) / 256) = (s.size : Int) / 256 := w64 (by omega) (by omega)
  induction d with
  | zero =>
    intro i hi
    refine Ev.step (f := fun _ => some (((List.range l.length).drop i).all (placeGood ((s.size : Int) / 256) l))) (fun k => ?_) (Ev.now _)
    simp only [spec_l06Frames.l0]
    rw [if_neg (by omega), List.drop_eq_nil_of_le (by simp; omega)]; rfl
  | succ d ih =>
    intro i hi
    have hlt : i < l.length := by omega
    have hd : (List.range l.length).drop i = i :: (List.range l.length).drop (i + 1) := by
      rw [List.drop_eq_getElem_cons (by simpa using hlt)]; simp
    have h1 := ih (i + 1) (by omega)
    have hin : spec_l03In.f s (rd l i) = some (decide (0 ≤ rd l i) && decide (rd l i ≤ (s.size : Int) / 256 - 1)) := by
      unfold spec_l03In.f
      by_cases h0 : rd l i ≥ 0
      · rw [if_pos h0, hw, decide_eq_true h0, Bool.true_and]
        congr 1
        exact decide_eq_decide.mpr ⟨fun h => by omega, fun h => by omega⟩
      · rw [if_neg h0, decide_eq_false h0]; rfl
    have start : ∀ r, Ev (fun k => if (decide (0 ≤ rd l i) && decide (rd l i ≤ (s.size : Int) / 256 - 1)) = true then (if (i : Int) ≤ (l.length : Int) then ((spec_l01InInts.f k (l.take i) (rd l i)).bind fun t106 => (if t106 = true then (some false) else (spec_l06Frames.l0 k l s ((i + 1 : Nat) : Int)))) else (none)) else (some false)) r → Ev (fun k => spec_l06Frames.l0 k l s i) r := by
      intro r h
      refine Ev.step (fun k => ?_) h
      simp only [spec_l06Frames.l0]
      rw [if_pos (by omega), if_pos (by omega), hin, w64 (a := (i : Int) + 1) (by omega) (by omega), Int.toNat_natCast]
      have e1 : ((i : Int) + 1) = ((i + 1 : Nat) : Int) := by omega
      rw [e1]; rfl
    refine start _ ?_
    rw [hd, List.all_cons]
    have hp : placeGood ((s.size : Int) / 256) l i = ((decide (0 ≤ rd l i) && decide (rd l i ≤ (s.size : Int) / 256 - 1)) && !decide (rd l i ∈ l.take i)) := by unfold placeGood; rw [Bool.and_assoc]
    rw [hp]
    cases hb : (decide (0 ≤ rd l i) && decide (rd l i ≤ (s.size : Int) / 256 - 1)) with
    | false => simp only [Bool.false_and, Bool.false_eq_true, if_false]; exact Ev.now _
    | true =>
      refine Ev.congr (f := fun k => (spec_l01InInts.f k (l.take i) (rd l i)).bind fun t106 => (if t106 = true then (some false) else (spec_l06Frames.l0 k l s ((i + 1 : Nat) : Int)))) (fun k => by rw [if_pos rfl, if_pos (by omega)]) ?_
      refine Ev.bind (inInts_ev _ _ (by simp; omega)) ?_
      cases hc : decide (rd l i ∈ l.take i) with
      | true => simp only [if_true, Bool.not_true, Bool.and_false, Bool.false_and]; exact Ev.now _
      | false => simp only [Bool.false_eq_true, if_false, Bool.not_false, Bool.and_true, Bool.true_and]; exact h1
theorem frames_ev (l : List Int) (hl : (l.length : Int) ≤ 1048576) (s : ByteArray) (hs : (s.size : Int) ≤ 65536) : Ev (fun k => spec_l06Frames.f k l s) ((List.range l.length).all (placeGood ((s.size : Int) / 256) l)) := by
  have := frames_ends l hl s hs l.length 0 (by omega)
  rw [List.drop_zero] at this
  exact Ev.congr (fun k => rfl) this

theorem place_both (m : ByteArray) (l : List Int) (h : ByteArray) (hl : (l.length : Int) ≤ 1048576) : ∃ r, Ev (fun k => spec_PlaceFault.f k m l h) r ∧ impl_PlaceFault.f m l h = some r := by
  have si : ∀ (s : ByteArray), memOk s → wrap64 ((s.size : Int) / 256) = (s.size : Int) / 256 ∧ 1 ≤ (s.size : Int) / 256 ∧ (s.size : Int) / 256 ≤ 256 := fun s hs => by
    obtain ⟨a, b, c⟩ := hs
    exact ⟨w64 (by omega) (by omega), by omega, by omega⟩
  have impl1 : ∀ b, impl_yplaceOk.f l h = some b → memOk m → impl_PlaceFault.f m l h = if b = true then (if (l.length : Int) = (m.size : Int) / 256 then some 0 else some 1) else some 1 := by
    intro b hb hm
    unfold impl_PlaceFault.f
    rcases impl_ymemOk_eq m with ⟨_, e⟩ | ⟨hn, _⟩
    · rw [e, Option.bind_some, if_pos rfl, hb, Option.bind_some, (si m hm).1]
    · exact absurd hm hn
  by_cases hm : memOk m
  · rcases spec_MemFault_eq m with ⟨_, em⟩ | ⟨hn, _⟩
    · by_cases hh : memOk h
      · rcases spec_MemFault_eq h with ⟨_, eh⟩ | ⟨hn, _⟩
        · obtain ⟨w1, n1, n2⟩ := si m hm
          by_cases hlen : (l.length : Int) = (m.size : Int) / 256
          · have hsz := hh.2.1
            refine ⟨if ((List.range l.length).all (placeGood ((h.size : Int) / 256) l)) = true then 0 else 1, ?_, ?_⟩
            · refine Ev.congr (f := fun k => (spec_l06Frames.f k l h).bind fun t109 => (if t109 = true then (some 0) else (some 1))) (fun k => ?_) (Ev.bind (frames_ev l hl h hsz) ?_)
              · unfold spec_PlaceFault.f
                rw [if_neg (by omega), em, Option.bind_some, if_pos rfl, eh, Option.bind_some, if_pos rfl, w1, if_pos hlen]
              · cases (List.range l.length).all (placeGood ((h.size : Int) / 256) l) with
                | true => exact Ev.now _
                | false => exact Ev.now _
            · have hb : impl_yplaceOk.f l h = some ((List.range l.length).all (placeGood ((h.size : Int) / 256) l)) := by
                unfold impl_yplaceOk.f
                rcases impl_ymemOk_eq h with ⟨_, e⟩ | ⟨hn, _⟩
                · rw [e]; rw [Option.bind_some, if_pos rfl, if_neg (by omega), if_neg (by omega)]
                · exact absurd hh hn
              rw [impl1 _ hb hm, if_pos hlen]
              cases (List.range l.length).all (placeGood ((h.size : Int) / 256) l) <;> rfl
          · refine ⟨1, ?_, ?_⟩
            · refine Ev.congr (fun k => ?_) (Ev.now 1)
              unfold spec_PlaceFault.f
              by_cases h1000 : (l.length : Int) > 1000
              · rw [if_pos h1000]
              · rw [if_neg h1000, em, Option.bind_some, if_pos rfl, eh, Option.bind_some, if_pos rfl, w1, if_neg hlen]
            · obtain ⟨b, hb⟩ : ∃ b, impl_yplaceOk.f l h = some b := by
                unfold impl_yplaceOk.f
                rcases impl_ymemOk_eq h with ⟨_, e⟩ | ⟨hn, _⟩
                · rw [e, Option.bind_some, if_pos rfl]; split
                  · exact ⟨_, rfl⟩
                  · split <;> exact ⟨_, rfl⟩
                · exact absurd hh hn
              rw [impl1 b hb hm, if_neg hlen]; cases b <;> rfl
        · exact absurd hh hn
      · rcases spec_MemFault_eq h with ⟨hn, _⟩ | ⟨_, eh⟩
        · exact absurd hn hh
        · refine ⟨1, ?_, ?_⟩
          · refine Ev.congr (fun k => ?_) (Ev.now 1)
            unfold spec_PlaceFault.f
            by_cases h1000 : (l.length : Int) > 1000
            · rw [if_pos h1000]
            · rw [if_neg h1000, em, Option.bind_some, if_pos rfl, eh, Option.bind_some, if_neg (by decide)]
          · have hb : impl_yplaceOk.f l h = some false := by
              unfold impl_yplaceOk.f
              rcases impl_ymemOk_eq h with ⟨hn, _⟩ | ⟨_, e⟩
              · exact absurd hn hh
              · rw [e, Option.bind_some, if_neg (by simp)]
            rw [impl1 _ hb hm, if_neg (by simp)]
    · exact absurd hm hn
  · rcases spec_MemFault_eq m with ⟨hn, _⟩ | ⟨_, em⟩
    · exact absurd hn hm
    · refine ⟨1, ?_, ?_⟩
      · refine Ev.congr (fun k => ?_) (Ev.now 1)
        unfold spec_PlaceFault.f
        by_cases h1000 : (l.length : Int) > 1000
        · rw [if_pos h1000]
        · rw [if_neg h1000, em, Option.bind_some, if_neg (by decide)]
      · unfold impl_PlaceFault.f
        rcases impl_ymemOk_eq m with ⟨hn, _⟩ | ⟨_, e⟩
        · exact absurd hn hm
        · rw [e, Option.bind_some, if_neg (by simp)]

theorem place_ok (m : ByteArray) (l : List Int) (h : ByteArray) (e : impl_PlaceFault.f m l h = some 0) : memOk m ∧ memOk h ∧ (l.length : Int) = (m.size : Int) / 256 ∧ ∀ x, x ∈ l → 0 ≤ x ∧ x ≤ (h.size : Int) / 256 - 1 := by
  unfold impl_PlaceFault.f at e
  rcases impl_ymemOk_eq m with ⟨hm, em⟩ | ⟨_, em⟩
  · rw [em, Option.bind_some, if_pos rfl] at e
    unfold impl_yplaceOk.f at e
    rcases impl_ymemOk_eq h with ⟨hh, eh⟩ | ⟨_, eh⟩
    · rw [eh, Option.bind_some, if_pos rfl] at e
      by_cases c1 : (l.length : Int) < 1
      · rw [if_pos c1] at e; simp at e
      · rw [if_neg c1] at e
        by_cases c2 : (l.length : Int) > 256
        · rw [if_pos c2] at e; simp at e
        · rw [if_neg c2, Option.bind_some] at e
          cases ha : (List.range l.length).all (placeGood ((h.size : Int) / 256) l) with
          | false => rw [ha] at e; simp at e
          | true =>
            rw [ha, if_pos rfl] at e
            obtain ⟨a, b, c⟩ := hm
            rw [w64 (by omega) (by omega)] at e
            by_cases c3 : (l.length : Int) = (m.size : Int) / 256
            · refine ⟨⟨a, b, c⟩, hh, c3, fun x hx => ?_⟩
              obtain ⟨j, hj, rfl⟩ := List.getElem_of_mem hx
              have := List.all_eq_true.mp ha j (List.mem_range.mpr hj)
              unfold placeGood at this
              have hr : rd l (j : Int) = l[j] := by unfold rd; rw [Int.toNat_natCast, List.getD_eq_getElem?_getD, List.getElem?_eq_getElem hj]; rfl
              rw [hr, Bool.and_eq_true, Bool.and_eq_true] at this
              exact ⟨of_decide_eq_true this.1, of_decide_eq_true this.2.1⟩
            · rw [if_neg c3] at e; simp at e
    · rw [eh, Option.bind_some, if_neg (by simp), Option.bind_some, if_neg (by simp)] at e; simp at e
  · rw [em, Option.bind_some, if_neg (by simp)] at e; simp at e
theorem size_list (s : ByteArray) : s.data.toList.length = s.size := by rw [Array.length_toList]; rfl
theorem frame_eq (m : ByteArray) (i : Nat) (h : (i + 1) * 256 ≤ m.size) (h2 : m.size ≤ 65536) : spec_l06Frame.f m (i : Int) = some ⟨((m.data.toList.drop (i * 256)).take 256).toArray⟩ := by
  unfold spec_l06Frame.f
  rw [w64 (a := (i : Int) + 1) (by omega) (by omega), w64 (a := ((i : Int) + 1) * 256) (by omega) (by omega), w64 (a := (i : Int) * 256) (by omega) (by omega), if_pos (by omega), if_pos (by omega), if_pos (by omega)]
  refine congrArg some ?_
  apply ByteArray.ext
  apply Array.toList_inj.1
  rw [show ((i : Int) * 256).toNat = i * 256 from by omega, show (((i : Int) + 1) * 256).toNat = i * 256 + 256 from by omega, ByteArray.data_extract, Array.toList_extract, List.extract_eq_take_drop, Nat.add_sub_cancel_left]
theorem setFrame_eq (h : ByteArray) (f : Nat) (fr : List UInt8) (hf : (f + 1) * 256 ≤ h.size) (h2 : h.size ≤ 65536) (hfr : fr.length = 256) : spec_l06SetFrame.f h (f : Int) ⟨fr.toArray⟩ = some ⟨(By.putAt h.data.toList (f * 256) fr).toArray⟩ := by
  have hs1 : (h.extract 0 (f * 256)).size = f * 256 := by rw [ByteArray.size_extract]; omega
  have hs2 : (h.extract (f * 256 + 256) h.size).size = h.size - (f * 256 + 256) := by rw [ByteArray.size_extract]; omega
  have hs3 : (⟨fr.toArray⟩ : ByteArray).size = 256 := by show fr.toArray.size = 256; rw [List.size_toArray]; exact hfr
  unfold spec_l06SetFrame.f
  rw [w64 (a := (f : Int) + 1) (by omega) (by omega), w64 (a := ((f : Int) + 1) * 256) (by omega) (by omega), w64 (a := (f : Int) * 256) (by omega) (by omega), show ((f : Int) * 256).toNat = f * 256 from by omega, show (((f : Int) + 1) * 256).toNat = f * 256 + 256 from by omega, ByteArray.size_append, hs1, hs2, hs3]
  rw [if_pos (by omega), if_pos (by omega), if_pos (by omega), if_pos (by omega), if_pos (by omega), if_pos (by omega)]
  refine congrArg some ?_
  apply ByteArray.ext
  apply Array.toList_inj.1
  rw [ByteArray.data_append, ByteArray.data_append, Array.toList_append, Array.toList_append, ByteArray.data_extract, Array.toList_extract, List.extract_eq_take_drop, ByteArray.data_extract, Array.toList_extract, List.extract_eq_take_drop]
  unfold By.putAt
  rw [hfr, List.drop_zero, Nat.sub_zero, List.take_of_length_le (l := List.drop _ _) (by rw [List.length_drop, size_list]; exact Nat.le_refl _)]
set_option maxRecDepth 100000 in
theorem spec_lay_loop (m : ByteArray) (l : List Int) (n : Nat) (hl : l.length * 256 ≤ m.size) (hm : m.size ≤ 65536) (hn : n ≤ 65536) (hf : ∀ x, x ∈ l → 0 ≤ x ∧ (x + 1) * 256 ≤ (n : Int)) (d : Nat) :
    ∀ (i : Nat) (cur : ByteArray), i + d = l.length → cur.size = n → Ev (fun k => spec_LayMemory.l0 k m l cur (i : Int)) ⟨(layL m.data.toList (l.drop i) i cur.data.toList).toArray⟩ := by
  induction d with
  | zero =>
    intro i cur hi hc
    rw [List.drop_eq_nil_of_le (by omega)]
    exact Ev.step (f := fun _ => some cur) (fun k => by simp only [spec_LayMemory.l0]; rw [if_neg (by omega)]) (Ev.now _)
  | succ d ih =>
    intro i cur hi hc
    have hlt : i < l.length := by omega
    have hr : rd l (i : Int) = l[i] := by unfold rd; rw [Int.toNat_natCast, List.getD_eq_getElem?_getD, List.getElem?_eq_getElem hlt]; rfl
    have hx := hf l[i] (List.getElem_mem hlt)
    have hfl : ((m.data.toList.drop (i * 256)).take 256).length = 256 := by rw [List.length_take, List.length_drop, size_list]; omega
    obtain ⟨f, hfe⟩ : ∃ f : Nat, l[i] = (f : Int) := ⟨l[i].toNat, by omega⟩
    rw [hfe] at hx
    rw [List.drop_eq_getElem_cons hlt]
    simp only [layL]
    rw [hfe, Int.toNat_natCast]
    have hfe' := frame_eq m i (by clear hfl; omega) hm
    generalize (m.data.toList.drop (i * 256)).take 256 = fr at hfl hfe' ⊢
    have hpl := By.putAt_length cur.data.toList (f * 256) fr (by rw [hfl, size_list]; omega)
    have hsz : (⟨(By.putAt cur.data.toList (f * 256) fr).toArray⟩ : ByteArray).size = n := by
      show (List.toArray _).size = n
      rw [List.size_toArray, hpl, size_list, hc]
    have hse := setFrame_eq cur f fr (by omega) (by omega) hfl
    have := ih (i + 1) _ (by omega) hsz
    refine Ev.step (fun k => ?_) this
    simp only [spec_LayMemory.l0]
    have c1 : (i : Int) < (l.length : Int) := by omega
    have c2 : (0 : Int) ≤ (i : Int) := by omega
    rw [if_pos c1, if_pos c2, hfe', Option.bind_some, hr, hfe, hse, Option.bind_some, w64 (by omega) (by omega)]
    rw [show ((i : Int) + 1) = ((i + 1 : Nat) : Int) from by omega]
theorem FnExactLayMemory : laws_FnExactLayMemory.Pure := by
  intro m l h _ _ _ _ _
  refine Ev.rounds (r := true) ?_
  by_cases h0 : (m.size : Int) > 1048576
  · exact Ev.congr (fun k => by unfold laws_FnExactLayMemory.f; rw [if_pos h0]) (Ev.now _)
  · by_cases h1 : (l.length : Int) > 1048576
    · exact Ev.congr (fun k => by unfold laws_FnExactLayMemory.f; rw [if_neg h0, if_pos h1]) (Ev.now _)
    · by_cases h2 : (h.size : Int) > 1048576
      · exact Ev.congr (fun k => by unfold laws_FnExactLayMemory.f; rw [if_neg h0, if_neg h1, if_pos h2]) (Ev.now _)
      · have hl : (l.length : Int) ≤ 1048576 := by omega
        obtain ⟨r, r1, r2⟩ := place_both m l h hl
        have both : ∃ z, Ev (fun k => spec_LayMemory.f k m l h) z ∧ impl_LayMemory.f m l h = some z := by
          by_cases hr : r = 0
          · subst hr
            obtain ⟨⟨a1, a2, a3⟩, ⟨b1, b2, b3⟩, c, d⟩ := place_ok m l h r2
            have hall : l.all (layOk (h.size : Int)) = true := List.all_eq_true.mpr fun x hx => by
              have := d x hx
              unfold layOk
              rw [Bool.and_eq_true]
              exact ⟨decide_eq_true this.1, decide_eq_true (by omega)⟩
            have key : impl_ylay.f m l h = some ⟨(layL m.data.toList l 0 h.data.toList).toArray⟩ := by
              unfold impl_ylay.f
              rw [if_pos ⟨a2, b2, by omega, hall⟩]
            refine ⟨⟨(layL m.data.toList l 0 h.data.toList).toArray⟩, ?_, ?_⟩
            · unfold spec_LayMemory.f
              refine Ev.bind r1 ?_
              simp only [if_true]
              have := spec_lay_loop m l h.size (by omega) (by omega) (by omega) (fun x hx => by have := d x hx; omega) l.length 0 h (by omega) rfl
              rw [List.drop_zero] at this
              exact this
            · unfold impl_LayMemory.f
              rw [r2, Option.bind_some, if_pos rfl, key, Option.bind_some]
          · refine ⟨⟨#[]⟩, ?_, ?_⟩
            · unfold spec_LayMemory.f
              refine Ev.bind r1 ?_
              simp only [if_neg hr]
              exact Ev.now _
            · unfold impl_LayMemory.f
              rw [r2, Option.bind_some, if_neg hr]
        obtain ⟨z, z1, z2⟩ := both
        refine Ev.congr (fun k => by unfold laws_FnExactLayMemory.f; rw [if_neg h0, if_neg h1, if_neg h2]) ?_
        refine Ev.bind (toInt64S_ev l hl) (Ev.bind z1 (Ev.bind (toInt64S_ev l hl) ?_))
        refine Ev.congr (f := fun k => (laws_toInt64S.f k l).bind fun t127 => ((laws_eqInt64S.f k l t127).bind fun t130 => (if t130 = true then (some true) else (some false)))) (fun k => by rw [z2, Option.bind_some, if_pos rfl]) ?_
        refine Ev.bind (toInt64S_ev l hl) (Ev.bind (eqInt64S_ev l hl) ?_)
        rw [if_pos rfl]; exact Ev.now _

end Go.Proofs.Ytjpgelnhmcblmaa.Pure
