/- The program's TakeMemory returns what the reference's returns, for all arguments. Conditions: none. -/
import Derived.Test.YtjpgelnhmcblmaaQFnExactTakeMemoryx
import Derived.Test.YtjpgelnhmcblmaaPl
set_option linter.unusedVariables false
set_option linter.unusedSimpArgs false
namespace Go.Proofs.Ytjpgelnhmcblmaa.Pure
open Go.RowKit Go.Proofs.Ytjpgelnhmcblmaa.QFnExactTakeMemory Go.Proofs.YtjpgelnhmcblmaaW.PrintWords Go.Proofs.YtjpgelnhmcblmaaW.PrintLast Go.Proofs.Ytjpgelnhmcblmaa.Pl Go.Proofs.YtjpgelnhmcblmaaW.PrintMore
/-- A memory's size is right. -/
def memOk (s : ByteArray) : Prop := 256 ≤ (s.size : Int) ∧ (s.size : Int) ≤ 65536 ∧ (s.size : Int) % 256 = 0
theorem impl_ymemOk_eq (s : ByteArray) : (memOk s ∧ impl_ymemOk.f s = some true) ∨ (¬ memOk s ∧ impl_ymemOk.f s = some false) := by
  unfold impl_ymemOk.f memOk
  by_cases h0 : (s.size : Int) ≥ 256
  · rw [if_pos h0]
    by_cases h1 : (s.size : Int) ≤ 65536
    · rw [if_pos h1]
      by_cases h2 : (s.size : Int) % 256 = 0
      · left; exact ⟨⟨h0, h1, h2⟩, by simp [h2]⟩
      · right; exact ⟨fun h => h2 h.2.2, by simp [h2]⟩
    · rw [if_neg h1]; right; exact ⟨fun h => h1 h.2.1, rfl⟩
  · rw [if_neg h0]; right; exact ⟨fun h => h0 h.1, rfl⟩
theorem spec_MemFault_eq (s : ByteArray) : (memOk s ∧ spec_MemFault.f s = some 0) ∨ (¬ memOk s ∧ spec_MemFault.f s = some 1) := by
  unfold spec_MemFault.f memOk
  by_cases h0 : (s.size : Int) = 0
  · rw [if_pos h0]; right; exact ⟨fun h => by omega, rfl⟩
  · rw [if_neg h0]
    by_cases h1 : (s.size : Int) % 256 = 0
    · rw [if_pos h1]
      by_cases h2 : (s.size : Int) > 65536
      · rw [if_pos h2]; right; exact ⟨fun h => by omega, rfl⟩
      · rw [if_neg h2]; left; exact ⟨⟨by omega, by omega, h1⟩, rfl⟩
    · rw [if_neg h1]; right; exact ⟨fun h => h1 h.2.2, rfl⟩

theorem toInt64S_ends (l : List Int) (hl : (l.length : Int) ≤ 1048576) (d : Nat) : ∀ (i : Nat) (m : List Int), i + d = l.length → m.length = l.length → (∀ j, j < i → m.getD j 0 = l.getD j 0) → Ev (fun k => laws_toInt64S.l0 k l m i) l := by
  induction d with
  | zero =>
    intro i m hi hm hj
    have e : m = l := by
      refine List.ext_getElem hm (fun j h1 h2 => ?_)
      have := hj j (by omega)
      rw [List.getD_eq_getElem?_getD, List.getD_eq_getElem?_getD, List.getElem?_eq_getElem h1, List.getElem?_eq_getElem h2] at this
      simpa using this
    exact Ev.step (f := fun _ => some l) (fun k => by simp only [laws_toInt64S.l0]; rw [if_neg (by omega), e]) (Ev.now _)
  | succ d ih =>
    intro i m hi hm hj
    refine Ev.step (fun k => ?_) (ih (i + 1) (m.set i (rd l i)) (by omega) (by simpa using hm) (fun j hji => ?_))
    · simp only [laws_toInt64S.l0]
      rw [if_pos (by omega), if_pos (by omega), if_pos (by omega), w64 (a := (i : Int) + 1) (by omega) (by omega), Int.toNat_natCast]
      have e1 : ((i : Int) + 1) = ((i + 1 : Nat) : Int) := by omega
      rw [e1]
    · by_cases e : j = i
      · subst e
        rw [List.getD_eq_getElem?_getD, List.getElem?_set_self (by omega)]
        unfold rd; rw [Int.toNat_natCast]; rfl
      · rw [List.getD_eq_getElem?_getD, List.getElem?_set_ne (by omega), ← List.getD_eq_getElem?_getD]
        exact hj j (by omega)
theorem toInt64S_ev (l : List Int) (hl : (l.length : Int) ≤ 1048576) : Ev (fun k => laws_toInt64S.f k l) l := by
  refine Ev.congr (fun k => ?_) (toInt64S_ends l hl l.length 0 (List.replicate l.length 0) (by omega) (by simp) (fun j hj => absurd hj (Nat.not_lt_zero _)))
  unfold laws_toInt64S.f
  rw [if_pos (by omega), if_pos (by omega), Int.toNat_natCast]; rfl
theorem eqInt64S_ends (l : List Int) (hl : (l.length : Int) ≤ 1048576) (d : Nat) : ∀ i : Nat, i + d = l.length → Ev (fun k => laws_eqInt64S.l0 k l l i) true := by
  induction d with
  | zero =>
    intro i hi
    exact Ev.step (f := fun _ => some true) (fun k => by simp only [laws_eqInt64S.l0]; rw [if_neg (by omega)]) (Ev.now _)
  | succ d ih =>
    intro i hi
    refine Ev.step (fun k => ?_) (ih (i + 1) (by omega))
    simp only [laws_eqInt64S.l0]
    rw [if_pos (by omega), if_pos (by omega), if_pos (by omega), if_pos trivial, w64 (a := (i : Int) + 1) (by omega) (by omega)]
    have e1 : ((i : Int) + 1) = ((i + 1 : Nat) : Int) := by omega
    rw [e1]
theorem eqInt64S_ev (l : List Int) (hl : (l.length : Int) ≤ 1048576) : Ev (fun k => laws_eqInt64S.f k l l) true := by
  refine Ev.congr (fun k => ?_) (eqInt64S_ends l hl l.length 0 (by omega))
  unfold laws_eqInt64S.f
  rw [if_pos rfl]; rfl
theorem inInts_ends (xs : List Int) (x : Int) (hl : (xs.length : Int) ≤ 1048576) (d : Nat) : ∀ i : Nat, i + d = xs.length → Ev (fun k => spec_l01InInts.l0 k xs x i) (decide (x ∈ xs.drop i)) := by
  induction d with
  | zero =>
    intro i hi
    refine Ev.step (f := fun _ => some (decide (x ∈ xs.drop i))) (fun k => ?_) (Ev.now _)
    simp only [spec_l01InInts.l0]
    rw [if_neg (by omega), List.drop_eq_nil_of_le (by omega)]; simp
  | succ d ih =>
    intro i hi
    have hlt : i < xs.length := by omega
    have hr : rd xs i = xs[i] := by unfold rd; rw [Int.toNat_natCast, List.getD_eq_getElem?_getD, List.getElem?_eq_getElem hlt]; rfl
    have hd : xs.drop i = xs[i] :: xs.drop (i + 1) := List.drop_eq_getElem_cons hlt
    by_cases e : rd xs i = x
    · refine Ev.step (f := fun _ => some (decide (x ∈ xs.drop i))) (fun k => ?_) (Ev.now _)
      simp only [spec_l01InInts.l0]
      rw [if_pos (by omega), if_pos (by omega), if_pos e, hd, ← hr, e]; simp
    · have := ih (i + 1) (by omega)
      refine Ev.step (f := fun k => spec_l01InInts.l0 k xs x ((i + 1 : Nat) : Int)) (fun k => ?_) ?_
      · simp only [spec_l01InInts.l0]
        rw [if_pos (by omega), if_pos (by omega), if_neg e, w64 (a := (i : Int) + 1) (by omega) (by omega)]
        have e1 : ((i : Int) + 1) = ((i + 1 : Nat) : Int) := by omega
        rw [e1]
      · have e2 : decide (x ∈ xs.drop i) = decide (x ∈ xs.drop (i + 1)) := by
          rw [hd, ← hr]
          have : ¬ x = rd xs i := fun h => e h.symm
          simp [this]
        rw [e2]; exact this
theorem inInts_ev (xs : List Int) (x : Int) (hl : (xs.length : Int) ≤ 1048576) : Ev (fun k => spec_l01InInts.f k xs x) (decide (x ∈ xs)) := by
  have := inInts_ends xs x hl xs.length 0 (by omega)
  rw [List.drop_zero] at this
  exact Ev.congr (fun k => rfl) this
/-- All frames from place i on are good. -/
theorem frames_ends (l : List Int) (hl : (l.length : Int) ≤ 1048576) (s : ByteArray) (hs : (s.size : Int) ≤ 65536) (d : Nat) : ∀ i : Nat, i + d = l.length →
    Ev (fun k => spec_l06Frames.l0 k l s i) (((List.range l.length).drop i).all (placeGood ((s.size : Int) / 256) l)) := by
  have hw : wrap64 ((s.size : Int) / 256) = (s.size : Int) / 256 := w64 (by omega) (by omega)
  induction d with
  | zero =>
    intro i hi
    refine Ev.step (f := fun _ => some (((List.range l.length).drop i).all (placeGood ((s.size : Int) / 256) l))) (fun k => ?_) (Ev.now _)
    simp only [spec_l06Frames.l0]
    rw [if_neg (by omega), List.drop_eq_nil_of_le (by simp; omega)]; rfl
  | succ d ih =>
    intro i hi
    have hlt : i < l.length := by omega
    have hd : (List.range l.length).drop i = i :: (List.range l.length).drop (i + 1) := by
      rw [List.drop_eq_getElem_cons (by simpa using hlt)]; simp
    have h1 := ih (i + 1) (by omega)
    have hin : spec_l03In.f s (rd l i) = some (decide (0 ≤ rd l i) && decide (rd l i ≤ (s.size : Int) / 256 - 1)) := by
      unfold spec_l03In.f
      by_cases h0 : rd l i ≥ 0
      · rw [if_pos h0, hw, decide_eq_true h0, Bool.true_and]
        congr 1
        exact decide_eq_decide.mpr ⟨fun h => by omega, fun h => by omega⟩
      · rw [if_neg h0, decide_eq_false h0]; rfl
    have start : ∀ r, Ev (fun k => if (decide (0 ≤ rd l i) && decide (rd l i ≤ (s.size : Int) / 256 - 1)) = true then (if (i : Int) ≤ (l.length : Int) then ((spec_l01InInts.f k (l.take i) (rd l i)).bind fun t106 => (if t106 = true then (some false) else (spec_l06Frames.l0 k l s ((i + 1 : Nat) : Int)))) else (none)) else (some false)) r → Ev (fun k => spec_l06Frames.l0 k l s i) r := by
      intro r h
      refine Ev.step (fun k => ?_) h
      simp only [spec_l06Frames.l0]
      rw [if_pos (by omega), if_pos (by omega), hin, w64 (a := (i : Int) + 1) (by omega) (by omega), Int.toNat_natCast]
      have e1 : ((i : Int) + 1) = ((i + 1 : Nat) : Int) := by omega
      rw [e1]; rfl
    refine start _ ?_
    rw [hd, List.all_cons]
    have hp : placeGood ((s.size : Int) / 256) l i = ((decide (0 ≤ rd l i) && decide (rd l i ≤ (s.size : Int) / 256 - 1)) && !decide (rd l i ∈ l.take i)) := by unfold placeGood; rw [Bool.and_assoc]
    rw [hp]
    cases hb : (decide (0 ≤ rd l i) && decide (rd l i ≤ (s.size : Int) / 256 - 1)) with
    | false => simp only [Bool.false_and, Bool.false_eq_true, if_false]; exact Ev.now _
    | true =>
      refine Ev.congr (f := fun k => (spec_l01InInts.f k (l.take i) (rd l i)).bind fun t106 => (if t106 = true then (some false) else (spec_l06Frames.l0 k l s ((i + 1 : Nat) : Int)))) (fun k => by rw [if_pos rfl, if_pos (by omega)]) ?_
      refine Ev.bind (inInts_ev _ _ (by simp; omega)) ?_
      cases hc : decide (rd l i ∈ l.take i) with
      | true => simp only [if_true, Bool.not_true, Bool.and_false, Bool.false_and]; exact Ev.now _
      | false => simp only [Bool.false_eq_true, if_false, Bool.not_false, Bool.and_true, Bool.true_and]; exact h1
theorem frames_ev (l : List Int) (hl : (l.length : Int) ≤ 1048576) (s : ByteArray) (hs : (s.size : Int) ≤ 65536) : Ev (fun k => spec_l06Frames.f k l s) ((List.range l.length).all (placeGood ((s.size : Int) / 256) l)) := by
  have := frames_ends l hl s hs l.length 0 (by omega)
  rw [List.drop_zero] at this
  exact Ev.congr (fun k => rfl) this

theorem strOf_bytes (s : ByteArray) : strOfNums (bytesOf s) = s := by
  unfold strOfNums bytesOf
  apply ByteArray.ext
  apply Array.ext'
  rw [List.map_map]
  have : ((fun n : Int => UInt8.ofNat n.toNat) ∘ fun b : UInt8 => (b.toNat : Int)) = id := by
    funext b; simp
  rw [this, List.map_id]
theorem bytesOf_add (a b : ByteArray) : bytesOf (a ++ b) = bytesOf a ++ bytesOf b := by
  unfold bytesOf
  rw [ByteArray.data_append, Array.toList_append, List.map_append]
theorem frame_eq (s : ByteArray) (f : Int) (hs : (s.size : Int) ≤ 65536) (h0 : 0 ≤ f) (h1 : f ≤ (s.size : Int) / 256 - 1) :
    spec_l06Frame.f s f = some (s.extract (f * 256).toNat ((f + 1) * 256).toNat) := by
  unfold spec_l06Frame.f
  rw [w64 (a := f * 256) (by omega) (by omega), w64 (a := f + 1) (by omega) (by omega), w64 (a := (f + 1) * 256) (by omega) (by omega), if_pos (by omega), if_pos (by omega), if_pos (by omega)]
theorem take_both (l : List Int) (s : ByteArray) (hs : (s.size : Int) ≤ 65536) (hl : (l.length : Int) ≤ 256) (hp : ∀ j, j < l.length → 0 ≤ rd l (j : Int) ∧ rd l (j : Int) ≤ (s.size : Int) / 256 - 1) (d : Nat) :
    ∀ (i : Nat) (acc : ByteArray), i + d = l.length → acc.size = 256 * i → ∃ r, Ev (fun k => spec_TakeMemory.l0 k l s acc (i : Int)) r ∧ Ev (fun k => impl_TakeMemory.l0 k s (bytesOf acc) l (l.length : Int) (i : Int)) r := by
  induction d with
  | zero =>
    intro i acc hi ha
    refine ⟨acc, Ev.step (f := fun _ => some acc) (fun k => ?_) (Ev.now _), Ev.step (f := fun _ => some acc) (fun k => ?_) (Ev.now _)⟩
    · simp only [spec_TakeMemory.l0]
      rw [if_neg (by omega)]
    · simp only [impl_TakeMemory.l0]
      rw [if_neg (by omega), strOf_bytes]
  | succ d ih =>
    intro i acc hi ha
    obtain ⟨f0, f1⟩ := hp i (by omega)
    have hx : (s.extract (rd l (i : Int) * 256).toNat ((rd l (i : Int) + 1) * 256).toNat).size = 256 := by
      rw [ByteArray.size_extract]; omega
    obtain ⟨r, r1, r2⟩ := ih (i + 1) (acc ++ s.extract (rd l (i : Int) * 256).toNat ((rd l (i : Int) + 1) * 256).toNat) (by omega) (by rw [ByteArray.size_append, hx]; omega)
    have e1 : ((i : Int) + 1) = ((i + 1 : Nat) : Int) := by omega
    refine ⟨r, Ev.step (fun k => ?_) r1, Ev.step (fun k => ?_) r2⟩
    · simp only [spec_TakeMemory.l0]
      rw [if_pos (by omega), if_pos (by omega), frame_eq s _ hs f0 f1, Option.bind_some, if_pos (by rw [hx]; omega), w64 (a := (i : Int) + 1) (by omega) (by omega), e1]
    · simp only [impl_TakeMemory.l0]
      rw [w64 (a := rd l (i : Int) * 256) (by omega) (by omega), w64 (a := rd l (i : Int) + 1) (by omega) (by omega), w64 (a := (rd l (i : Int) + 1) * 256) (by omega) (by omega), if_pos (by omega), if_pos (by omega), if_pos (by omega), if_pos (by omega), if_pos (by omega), if_pos (by omega), if_pos (by rw [hx, bytesOf_length]; omega), w64 (a := (i : Int) + 1) (by omega) (by omega), e1, bytesOf_add]
theorem take_ends (l : List Int) (s : ByteArray) (hl : (l.length : Int) ≤ 1048576) : ∃ r, Ev (fun k => spec_TakeMemory.f k l s) r ∧ Ev (fun k => impl_TakeMemory.f k l s) r := by
  have stop : Ev (fun k => spec_TakeMemory.j0 k l s true) (⟨#[]⟩ : ByteArray) := Ev.step (f := fun _ => some (⟨#[]⟩ : ByteArray)) (fun k => by simp only [spec_TakeMemory.j0]; rw [if_pos trivial]) (Ev.now _)
  have istop : impl_yplaceOk.f l s = some false → Ev (fun k => impl_TakeMemory.f k l s) (⟨#[]⟩ : ByteArray) := fun h => Ev.congr (f := fun _ => some (⟨#[]⟩ : ByteArray)) (fun k => by unfold impl_TakeMemory.f; rw [h, Option.bind_some, if_neg (by simp)]) (Ev.now _)
  by_cases hm : memOk s
  · rcases spec_MemFault_eq s with ⟨_, em⟩ | ⟨hn, _⟩
    · rcases impl_ymemOk_eq s with ⟨_, ei⟩ | ⟨hn, _⟩
      · by_cases h1 : (l.length : Int) < 1
        · refine ⟨_, Ev.congr (fun k => ?_) stop, istop ?_⟩
          · unfold spec_TakeMemory.f; rw [em, Option.bind_some, if_pos rfl, if_pos h1]
          · unfold impl_yplaceOk.f; rw [ei]; rw [Option.bind_some, if_pos rfl, if_pos h1]
        · by_cases h2 : (l.length : Int) > 256
          · refine ⟨_, Ev.congr (fun k => ?_) stop, istop ?_⟩
            · unfold spec_TakeMemory.f; rw [em, Option.bind_some, if_pos rfl, if_neg h1, if_pos h2]
            · unfold impl_yplaceOk.f; rw [ei]; rw [Option.bind_some, if_pos rfl, if_neg h1, if_pos h2]
          · have fe := frames_ev l hl s hm.2.1
            have ip : impl_yplaceOk.f l s = some ((List.range l.length).all (placeGood ((s.size : Int) / 256) l)) := by
              unfold impl_yplaceOk.f; rw [ei]; rw [Option.bind_some, if_pos rfl, if_neg h1, if_neg h2]
            have sp : ∀ k, spec_TakeMemory.f k l s = (spec_l06Frames.f k l s).bind fun t108 => (spec_TakeMemory.j0 k l s (!t108)) := fun k => by
              unfold spec_TakeMemory.f; rw [em, Option.bind_some, if_pos rfl, if_neg h1, if_neg h2]
            cases hb : (List.range l.length).all (placeGood ((s.size : Int) / 256) l) with
            | false =>
              rw [hb] at fe ip
              exact ⟨_, Ev.congr sp (Ev.bind fe stop), istop ip⟩
            | true =>
              rw [hb] at fe ip
              have hp : ∀ j, j < l.length → 0 ≤ rd l (j : Int) ∧ rd l (j : Int) ≤ (s.size : Int) / 256 - 1 := fun j hj => by
                have := List.all_eq_true.mp hb j (List.mem_range.mpr hj)
                unfold placeGood at this
                simp only [Bool.and_eq_true, decide_eq_true_eq] at this
                exact ⟨this.1, this.2.1⟩
              obtain ⟨r, r1, r2⟩ := take_both l s hm.2.1 (by omega) hp l.length 0 (⟨#[]⟩ : ByteArray) (by omega) rfl
              refine ⟨r, Ev.congr sp (Ev.bind fe (Ev.step (fun k => ?_) r1)), Ev.congr (fun k => ?_) r2⟩
              · simp only [spec_TakeMemory.j0]; rw [if_neg (by simp)]; rfl
              · unfold impl_TakeMemory.f; rw [ip, Option.bind_some, if_pos rfl]; rfl
      · exact absurd hm hn
    · exact absurd hm hn
  · rcases spec_MemFault_eq s with ⟨hn, _⟩ | ⟨_, em⟩
    · exact absurd hn hm
    · rcases impl_ymemOk_eq s with ⟨hn, _⟩ | ⟨_, ei⟩
      · exact absurd hn hm
      · refine ⟨_, Ev.congr (fun k => ?_) stop, istop ?_⟩
        · unfold spec_TakeMemory.f; rw [em, Option.bind_some, if_neg (by decide)]
        · unfold impl_yplaceOk.f; rw [ei]; rw [Option.bind_some, if_neg (by simp)]
theorem FnExactTakeMemory : laws_FnExactTakeMemory.Pure := by
  intro l s _ _ _ hh0
  refine Ev.rounds (r := true) ?_
  by_cases h1 : (l.length : Int) > 1048576
  · exact Ev.congr (fun k => by unfold laws_FnExactTakeMemory.f; rw [if_pos h1]) (Ev.now _)
  · by_cases h2 : (s.size : Int) > 1048576
    · exact Ev.congr (fun k => by unfold laws_FnExactTakeMemory.f; rw [if_neg h1, if_pos h2]) (Ev.now _)
    · have hl : (l.length : Int) ≤ 1048576 := by omega
      obtain ⟨r, r1, r2⟩ := take_ends l s hl
      refine Ev.congr (fun k => by unfold laws_FnExactTakeMemory.f; rw [if_neg h1, if_neg h2]) ?_
      refine Ev.bind (toInt64S_ev l hl) (Ev.bind r1 (Ev.bind (toInt64S_ev l hl) (Ev.bind r2 ?_)))
      simp only [if_true]
      refine Ev.bind (toInt64S_ev l hl) (Ev.bind (eqInt64S_ev l hl) ?_)
      rw [if_pos rfl]; exact Ev.now _

end Go.Proofs.Ytjpgelnhmcblmaa.Pure
