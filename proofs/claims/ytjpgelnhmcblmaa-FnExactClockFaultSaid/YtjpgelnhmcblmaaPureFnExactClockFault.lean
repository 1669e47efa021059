/- The program's ClockFault returns what the reference's returns, for all arguments. Conditions: none. -/
import Derived.Test.YtjpgelnhmcblmaaQFnExactClockFaultx
import Derived.Test.YtjpgelnhmcblmaaPl
import Derived.Test.YtjpgelnhmcblmaaTFnExactClockFault
set_option linter.unusedVariables false
set_option linter.unusedSimpArgs false
namespace Go.Proofs.Ytjpgelnhmcblmaa.Pure
open Go.RowKit Go.Proofs.Ytjpgelnhmcblmaa.QFnExactClockFault Go.Proofs.YtjpgelnhmcblmaaW.PrintWords Go.Proofs.YtjpgelnhmcblmaaW.PrintLast Go.Proofs.Ytjpgelnhmcblmaa.Pl Go.Proofs.YtjpgelnhmcblmaaW.PrintMore
/-- A loop that takes the size of every element off a budget: it ends, below zero or with every element small. -/
theorem sz_loop {α : Type} (d : α) (M : Int) (ok : α → Prop) (L : Nat → List α → Int → Int → Option Int) (g : Nat → α → Int → Option Int)
    (hL : ∀ k xs s i, L (k + 1) xs s i = if i < (xs.length : Int) then (if 0 ≤ i then ((g k (xs.getD i.toNat d) s).bind fun t => (if t < 0 then (some (-1)) else (L k xs t (wrap64 (i + 1))))) else none) else some s)
    (xs : List α) (hlen : (xs.length : Int) ≤ 4611686018427387904)
    (hg : ∀ x s, x ∈ xs → 0 ≤ s → s ≤ M → ∃ t, Ev (fun k => g k x s) t ∧ (t < 0 ∨ (0 ≤ t ∧ t ≤ s ∧ ok x))) (e : Nat) :
    ∀ (j : Nat) (s : Int), 0 ≤ s → s ≤ M → j ≤ xs.length → xs.length - j = e → (∀ q, q < j → ok (xs.getD q d)) → ∃ r, Ev (fun k => L k xs s (j : Int)) r ∧ (r < 0 ∨ (0 ≤ r ∧ r ≤ s ∧ ∀ x, x ∈ xs → ok x)) := by
  induction e with
  | zero =>
    intro j s h0 hM hj he hok
    refine ⟨s, Ev.step (f := fun _ => some s) (fun k => by rw [hL, if_neg (by omega)]) (Ev.now _), Or.inr ⟨h0, Int.le_refl _, fun x hx => ?_⟩⟩
    obtain ⟨q, hq, rfl⟩ := List.getElem_of_mem hx
    have := hok q (by omega)
    rwa [List.getD_eq_getElem?_getD, List.getElem?_eq_getElem hq, Option.getD_some] at this
  | succ e ih =>
    intro j s h0 hM hj he hok
    have hlt : j < xs.length := by omega
    have hmem : xs.getD j d ∈ xs := by
      rw [List.getD_eq_getElem?_getD, List.getElem?_eq_getElem hlt, Option.getD_some]; exact List.getElem_mem hlt
    obtain ⟨t, ht, hc⟩ := hg (xs.getD j d) s hmem h0 hM
    have hs : ∀ k, L (k + 1) xs s (j : Int) = ((g k (xs.getD j d) s).bind fun t => (if t < 0 then (some (-1)) else (L k xs t (wrap64 ((j : Int) + 1))))) := fun k => by
      rw [hL, if_pos (by omega), if_pos (by omega), Int.toNat_natCast]
    by_cases hn : t < 0
    · refine ⟨-1, Ev.step (fun k => hs k) (Ev.bind ht ?_), Or.inl (by omega)⟩
      simp only [if_pos hn]
      exact Ev.now _
    · have hc' := hc.resolve_left hn
      obtain ⟨r, hr, hrc⟩ := ih (j + 1) t hc'.1 (by omega) (by omega) (by omega) (fun q hq => by
        by_cases hqj : q = j
        · subst hqj; exact hc'.2.2
        · exact hok q (by omega))
      refine ⟨r, Ev.step (fun k => hs k) (Ev.bind ht ?_), ?_⟩
      · simp only [if_neg hn]
        rw [w64 (by omega) (by omega), show ((j : Int) + 1) = ((j + 1 : Nat) : Int) from by omega]
        exact hr
      · rcases hrc with h | h
        · exact Or.inl h
        · exact Or.inr ⟨h.1, by omega, h.2.2⟩
/-- A loop that turns every element. -/
theorem to_loop {α β γ : Type} (d : α) (z : β) (mk : γ → β) (c : α → β) (L : Nat → List α → List β → Int → Option (List β)) (g : Nat → α → Option γ)
    (hL : ∀ k xs ys i, L (k + 1) xs ys i = if i < (xs.length : Int) then (if 0 ≤ i then ((g k (xs.getD i.toNat d)).bind fun b => (if i < (ys.length : Int) then (L k xs (ys.set i.toNat (mk b)) (wrap64 (i + 1))) else none)) else none) else some ys)
    (xs : List α) (hlen : (xs.length : Int) ≤ 4611686018427387904)
    (hg : ∀ x, x ∈ xs → ∃ b, Ev (fun k => g k x) b ∧ mk b = c x) (e : Nat) :
    ∀ (j : Nat), j ≤ xs.length → xs.length - j = e → Ev (fun k => L k xs ((xs.take j).map c ++ List.replicate (xs.length - j) z) (j : Int)) (xs.map c) := by
  induction e with
  | zero =>
    intro j hj he
    obtain rfl : j = xs.length := by omega
    refine Ev.step (f := fun _ => some (xs.map c)) (fun k => ?_) (Ev.now _)
    rw [hL, if_neg (by omega), List.take_length, Nat.sub_self, List.replicate_zero, List.append_nil]
  | succ e ih =>
    intro j hj he
    have hlt : j < xs.length := by omega
    have hx : xs.getD j d = xs[j] := by rw [List.getD_eq_getElem?_getD, List.getElem?_eq_getElem hlt, Option.getD_some]
    obtain ⟨b, hb, hbc⟩ := hg xs[j] (List.getElem_mem hlt)
    have hlm : ((xs.take j).map c).length = j := by rw [List.length_map, List.length_take]; omega
    have hly : (((xs.take j).map c ++ List.replicate (xs.length - j) z).length : Int) = (xs.length : Int) := by
      rw [List.length_append, hlm, List.length_replicate]; omega
    have hset : (((xs.take j).map c ++ List.replicate (xs.length - j) z).set j (mk b)) = (xs.take (j + 1)).map c ++ List.replicate (xs.length - (j + 1)) z := by
      rw [List.set_append_right _ _ (by omega), hlm, Nat.sub_self, show xs.length - j = (xs.length - (j + 1)) + 1 from by omega, List.replicate_succ, List.set_cons_zero, hbc, List.take_succ_eq_append_getElem hlt, List.map_append, List.append_assoc]
      rfl
    refine Ev.step (f := fun k => (g k xs[j]).bind fun b => L k xs (((xs.take j).map c ++ List.replicate (xs.length - j) z).set j (mk b)) (((j + 1 : Nat) : Int))) (fun k => ?_) (Ev.bind (f := fun k b => L k xs (((xs.take j).map c ++ List.replicate (xs.length - j) z).set j (mk b)) (((j + 1 : Nat) : Int))) hb ?_)
    · have hlj : (j : Int) < (xs.length : Int) := by omega
      rw [hL, if_pos (by omega), if_pos (by omega), Int.toNat_natCast, hx, hly, w64 (by omega) (by omega)]
      simp only [if_pos hlj]
      rfl
    · rw [hset]
      exact ih (j + 1) (by omega) (by omega)
/-- A loop that asks every pair of elements. -/
theorem eq_loop {α : Type} (d : α) (L : Nat → List α → List α → Int → Option Bool) (g : Nat → α → α → Option Bool)
    (hL : ∀ k xs ys i, L (k + 1) xs ys i = if i < (xs.length : Int) then (if 0 ≤ i then (if i < (ys.length : Int) then ((g k (xs.getD i.toNat d) (ys.getD i.toNat d)).bind fun t => (if t = true then (L k xs ys (wrap64 (i + 1))) else (some false))) else none) else none) else some true)
    (xs : List α) (hlen : (xs.length : Int) ≤ 4611686018427387904)
    (hg : ∀ x, x ∈ xs → Ev (fun k => g k x x) true) (e : Nat) :
    ∀ (j : Nat), j ≤ xs.length → xs.length - j = e → Ev (fun k => L k xs xs (j : Int)) true := by
  induction e with
  | zero =>
    intro j hj he
    exact Ev.step (f := fun _ => some true) (fun k => by rw [hL, if_neg (by omega)]) (Ev.now _)
  | succ e ih =>
    intro j hj he
    have hlt : j < xs.length := by omega
    have hx : xs.getD j d = xs[j] := by rw [List.getD_eq_getElem?_getD, List.getElem?_eq_getElem hlt, Option.getD_some]
    refine Ev.step (f := fun k => (g k xs[j] xs[j]).bind fun t => (if t = true then L k xs xs (((j + 1 : Nat) : Int)) else (some false))) (fun k => ?_) (Ev.bind (f := fun k t => (if t = true then L k xs xs (((j + 1 : Nat) : Int)) else (some false))) (hg xs[j] (List.getElem_mem hlt)) ?_)
    · rw [hL, if_pos (by omega), if_pos (by omega), Int.toNat_natCast, hx, if_pos (by omega), w64 (by omega) (by omega)]
      rfl
    · simp only [if_true]
      exact ih (j + 1) (by omega) (by omega)

def toTm (x : S168) : S120 := ⟨x.f0, x.f1, x.f2⟩
theorem to_all (xs : List S168) (h0 : xs.length ≤ 11728124029610) : Ev (fun k => laws_toTimerS.f k xs) (xs.map toTm) := by
  have := to_loop z168 z120 (fun b : Int × Int × Int => (⟨b.1, b.2.1, b.2.2⟩ : S120)) toTm laws_toTimerS.l0 (fun _ x => laws_toTimer.f x.f0 x.f1 x.f2) (fun k xs ys i => by simp only [laws_toTimerS.l0]; rfl) xs (by omega) (fun x hx => ⟨_, Ev.now _, rfl⟩) xs.length 0 (Nat.zero_le _) rfl
  refine Ev.congr (fun k => ?_) this
  unfold laws_toTimerS.f
  rw [if_pos (by omega), if_pos (by omega), Int.toNat_natCast]
  rfl
theorem eq_all (xs : List S120) (h0 : xs.length ≤ 11728124029610) : Ev (fun k => laws_eqTimerS.f k xs xs) true := by
  have := eq_loop z120 laws_eqTimerS.l0 (fun _ x y => laws_eqTimer.f x.f0 x.f1 x.f2 y.f0 y.f1 y.f2) (fun k xs ys i => by simp only [laws_eqTimerS.l0]; rfl) xs (by omega) (fun x _ => Ev.congr (fun k => by unfold laws_eqTimer.f; rw [if_pos rfl, if_pos rfl, if_pos rfl]) (Ev.now _)) xs.length 0 (Nat.zero_le _) rfl
  refine Ev.congr (fun k => ?_) this
  unfold laws_eqTimerS.f
  rw [if_pos rfl]
  rfl
theorem inB_iff (a lo hi : Int) : inB a lo hi = true ↔ lo ≤ a ∧ a ≤ hi := by unfold inB; simp
theorem inB_dec (a lo hi : Int) : inB a lo hi = decide (lo ≤ a ∧ a ≤ hi) := by unfold inB; simp
theorem timer_eq (x : S120) : spec_l09Timer.f x.f0 x.f1 x.f2 = some (!ClockFaultBad x) := by
  unfold spec_l09Timer.f ClockFaultBad inB
  rw [Bool.not_not]
  by_cases h0 : x.f0 ≥ 0
  · rw [if_pos h0, decide_eq_true h0]
    by_cases h1 : x.f0 ≤ 2199023255552
    · rw [if_pos h1, decide_eq_true h1]
      by_cases h2 : x.f1 ≥ 0
      · rw [if_pos h2, decide_eq_true h2]
        by_cases h3 : x.f1 ≤ 1099511627776
        · rw [if_pos h3, decide_eq_true h3]
          by_cases h4 : x.f2 ≥ 1
          · rw [if_pos h4, decide_eq_true h4]; rfl
          · rw [if_neg h4, decide_eq_false h4]; rfl
        · rw [if_neg h3, decide_eq_false h3]; rfl
      · rw [if_neg h2, decide_eq_false h2]; rfl
    · rw [if_neg h1, decide_eq_false h1]; rfl
  · rw [if_neg h0, decide_eq_false h0]; rfl
theorem rate_eq (a b : Int) : spec_l09Rate.f a b = some (decide (0 ≤ a ∧ a ≤ 1000 ∧ 1 ≤ b ∧ b ≤ 1000)) := by
  unfold spec_l09Rate.f
  by_cases h0 : a ≥ 0
  · rw [if_pos h0]
    by_cases h1 : a ≤ 1000
    · rw [if_pos h1]
      by_cases h2 : b ≥ 1
      · rw [if_pos h2]
        congr 1
        exact decide_eq_decide.mpr ⟨fun h => ⟨h0, h1, h2, h⟩, fun h => h.2.2.2⟩
      · rw [if_neg h2, decide_eq_false (by omega)]
    · rw [if_neg h1, decide_eq_false (by omega)]
  · rw [if_neg h0, decide_eq_false (by omega)]
theorem clock_loop (a0 a1 a2 a3 a4 : Int) (a5 : Bool) (xs : List S120) (hlen : xs.length ≤ 20) (e : Nat) : ∀ j : Nat, j ≤ xs.length → xs.length - j = e → Ev (fun k => spec_ClockFault.l0 k (j : Int) a0 a1 a2 a3 a4 a5 xs) (if (xs.drop j).any ClockFaultBad = true then 1 else 0) := by
  induction e with
  | zero =>
    intro j hj he
    rw [List.drop_eq_nil_of_le (by omega)]
    exact Ev.step (f := fun _ => some 0) (fun k => by simp only [spec_ClockFault.l0]; rw [if_neg (by omega)]) (Ev.now _)
  | succ e ih =>
    intro j hj he
    have hlt : j < xs.length := by omega
    have hx : rd_T120 xs (j : Int) = xs[j] := by unfold rd_T120; rw [Int.toNat_natCast, List.getD_eq_getElem?_getD, List.getElem?_eq_getElem hlt, Option.getD_some]
    rw [List.drop_eq_getElem_cons hlt, List.any_cons]
    have hstep : ∀ k, spec_ClockFault.l0 (k + 1) (j : Int) a0 a1 a2 a3 a4 a5 xs = if ClockFaultBad xs[j] = true then some 1 else spec_ClockFault.l0 k (((j + 1 : Nat) : Int)) a0 a1 a2 a3 a4 a5 xs := by
      intro k
      simp only [spec_ClockFault.l0]
      rw [if_pos (by omega), if_pos (by omega), hx, timer_eq, Option.bind_some, w64 (by omega) (by omega)]
      cases ClockFaultBad xs[j] <;> rfl
    cases hv : ClockFaultBad xs[j] with
    | true =>
      refine Ev.step (f := fun _ => some 1) (fun k => by rw [hstep, hv, if_pos rfl]) ?_
      rw [Bool.true_or, if_pos rfl]; exact Ev.now _
    | false =>
      refine Ev.step (fun k => by rw [hstep, hv, if_neg (by simp)]) ?_
      rw [Bool.false_or]; exact ih (j + 1) (by omega) (by omega)
theorem clock_eq (a0 a1 a2 a3 a4 : Int) (a5 : Bool) (xs : List S120) : ∃ v, impl_ClockFault.f a0 a1 a2 a3 a4 a5 xs = some v ∧ Ev (fun k => spec_ClockFault.f k a0 a1 a2 a3 a4 a5 xs) v := by
  have hj0 : Ev (fun k => spec_ClockFault.j0 k true a0 a1 a2 a3 a4 a5 xs) 1 := Ev.step (f := fun _ => some 1) (fun k => by simp only [spec_ClockFault.j0]; rw [if_pos trivial]) (Ev.now _)
  have bad : ¬ (inB a0 0 1099511627776 = true ∧ inB a1 0 1099511627776 = true ∧ (inB a2 0 1000 && inB a3 1 1000) = true ∧ inB a4 0 (wrap64 (a3 - 1)) = true) → impl_ClockFault.f a0 a1 a2 a3 a4 a5 xs = some 1 := fun h => by unfold impl_ClockFault.f; rw [if_neg h]
  unfold spec_ClockFault.f
  by_cases h0 : a0 < 0
  · refine ⟨1, bad (fun h => by have := (inB_iff _ _ _).mp h.1; omega), ?_⟩
    simp only [if_pos h0]; exact hj0
  · simp only [if_neg h0]
    by_cases h1 : a0 > 1099511627776
    · refine ⟨1, bad (fun h => by have := (inB_iff _ _ _).mp h.1; omega), ?_⟩
      simp only [if_pos h1]; exact hj0
    · simp only [if_neg h1]
      by_cases h2 : a1 < 0
      · refine ⟨1, bad (fun h => by have := (inB_iff _ _ _).mp h.2.1; omega), ?_⟩
        simp only [if_pos h2]; exact hj0
      · simp only [if_neg h2]
        by_cases h3 : a1 > 1099511627776
        · refine ⟨1, bad (fun h => by have := (inB_iff _ _ _).mp h.2.1; omega), ?_⟩
          simp only [if_pos h3]; exact hj0
        · simp only [if_neg h3, rate_eq, Option.bind_some]
          by_cases h4 : 0 ≤ a2 ∧ a2 ≤ 1000 ∧ 1 ≤ a3 ∧ a3 ≤ 1000
          · simp only [decide_eq_true h4, if_true]
            have w1 : wrap64 (a3 - 1) = a3 - 1 := w64 (by omega) (by omega)
            by_cases h5 : a4 < 0
            · refine ⟨1, bad (fun h => by have := (inB_iff _ _ _).mp h.2.2.2; omega), ?_⟩
              simp only [if_pos h5]; exact hj0
            · simp only [if_neg h5]
              by_cases h6 : a4 ≥ a3
              · refine ⟨1, bad (fun h => by have := (inB_iff _ _ _).mp h.2.2.2; rw [w1] at this; omega), ?_⟩
                simp only [if_pos h6]; exact hj0
              · simp only [if_neg h6]
                have good : inB a0 0 1099511627776 = true ∧ inB a1 0 1099511627776 = true ∧ (inB a2 0 1000 && inB a3 1 1000) = true ∧ inB a4 0 (wrap64 (a3 - 1)) = true := by
                  refine ⟨(inB_iff _ _ _).mpr (by omega), (inB_iff _ _ _).mpr (by omega), ?_, (inB_iff _ _ _).mpr (by rw [w1]; omega)⟩
                  rw [(inB_iff a2 0 1000).mpr (by omega), (inB_iff a3 1 1000).mpr (by omega)]; rfl
                unfold impl_ClockFault.f
                rw [if_pos good]
                by_cases h7 : (xs.length : Int) > 20
                · refine ⟨1, by rw [if_pos h7], ?_⟩
                  simp only [decide_eq_true h7]; exact hj0
                · refine ⟨if xs.any ClockFaultBad = true then 1 else 0, by rw [if_neg h7]; split <;> rfl, ?_⟩
                  simp only [decide_eq_false h7]
                  have := clock_loop a0 a1 a2 a3 a4 a5 xs (by omega) xs.length 0 (Nat.zero_le _) rfl
                  rw [List.drop_zero] at this
                  exact Ev.step (fun k => by simp only [spec_ClockFault.j0]; rw [if_neg (by simp)]; rfl) this
          · refine ⟨1, bad (fun h => ?_), ?_⟩
            · have h' := h.2.2.1
              rw [Bool.and_eq_true] at h'
              have i1 := (inB_iff _ _ _).mp h'.1; have i2 := (inB_iff _ _ _).mp h'.2; omega
            · simp only [decide_eq_false h4, Bool.false_eq_true, if_false]; exact hj0
theorem FnExactClockFault : laws_FnExactClockFault.Pure := by
  intro a0 a1 a2 a3 a4 a5 xs _ _ _ _ _ _ hQ
  obtain ⟨hlm, _⟩ := hQ
  refine Ev.rounds (r := true) ?_
  have sz : ∃ r, laws_szClock.f a0 a1 a2 a3 a4 a5 xs 1048576 = some r ∧ (r < 0 ∨ (xs.length : Int) ≤ 1048576) := by
    unfold laws_szClock.f laws_szTimerS.f
    rw [w64 (by omega) (by omega)]
    by_cases hn : 1048576 - (xs.length : Int) < 0
    · rw [if_pos hn]; exact ⟨-1, by rw [Option.bind_some, if_pos (by omega)], Or.inl (by omega)⟩
    · rw [if_neg hn]; exact ⟨_, by rw [Option.bind_some, if_neg hn], Or.inr (by omega)⟩
  obtain ⟨r, hr, hc⟩ := sz
  unfold laws_FnExactClockFault.f
  refine Ev.bind (Ev.congr (fun _ => hr) (Ev.now r)) ?_
  by_cases hrn : r < 0
  · simp only [if_pos hrn]; exact Ev.now _
  · simp only [if_neg hrn]
    have hl : xs.length ≤ 11728124029610 := by omega
    obtain ⟨v, i1, s1⟩ := clock_eq a0 a1 a2 a3 a4 a5 (xs.map toTm)
    have tov : Ev (fun k => laws_toClock.f k a0 a1 a2 a3 a4 a5 xs) (a0, a1, a2, a3, a4, a5, xs.map toTm) := Ev.bind (to_all xs hl) (Ev.now _)
    have eqv : Ev (fun k => laws_eqClock.f k a0 a1 a2 a3 a4 a5 (xs.map toTm) a0 a1 a2 a3 a4 a5 (xs.map toTm)) true := by
      have hb : (a5 != a5) = false := by simp
      unfold laws_eqClock.f
      simp only [if_true, hb, Bool.false_eq_true, if_false]
      refine Ev.bind (eq_all (xs.map toTm) (by rw [List.length_map]; exact hl)) ?_
      simp only [if_true]
      exact Ev.now _
    refine Ev.bind tov (Ev.bind s1 (Ev.bind tov ?_))
    simp only [i1]
    refine Ev.bind (Ev.now _) ?_
    simp only [if_true]
    refine Ev.bind tov (Ev.bind eqv ?_)
    simp only [if_true]
    exact Ev.now _

end Go.Proofs.Ytjpgelnhmcblmaa.Pure
