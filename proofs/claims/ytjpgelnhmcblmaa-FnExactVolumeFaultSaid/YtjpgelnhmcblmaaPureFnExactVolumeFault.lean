/- The program's VolumeFault returns what the reference's returns, for all arguments. Conditions: none. -/
import Derived.Test.YtjpgelnhmcblmaaQFnExactVolumeFaultx
import Derived.Test.YtjpgelnhmcblmaaPl
import Derived.Test.YtjpgelnhmcblmaaTFnExactVolumeFault
set_option linter.unusedVariables false
set_option linter.unusedSimpArgs false
namespace Go.Proofs.Ytjpgelnhmcblmaa.Pure
open Go.RowKit Go.Proofs.Ytjpgelnhmcblmaa.QFnExactVolumeFault Go.Proofs.YtjpgelnhmcblmaaW.PrintWords Go.Proofs.YtjpgelnhmcblmaaW.PrintLast Go.Proofs.Ytjpgelnhmcblmaa.Pl Go.Proofs.YtjpgelnhmcblmaaW.PrintMore
/-- A loop that takes the size of every element off a budget: it ends, below zero or with every element small. -/
theorem sz_loop {α : Type} (d : α) (M : Int) (ok : α → Prop) (L : Nat → List α → Int → Int → Option Int) (g : Nat → α → Int → Option Int)
    (hL : ∀ k xs s i, L (k + 1) xs s i = if i < (xs.length : Int) then (if 0 ≤ i then ((g k (xs.getD i.toNat d) s).bind fun t => (if t < 0 then (some (-1)) else (L k xs t (wrap64 (i + 1))))) else none) else some s)
    (xs : List α) (hlen : (xs.length : Int) ≤ 4611686018427387904)
    (hg : ∀ x s, x ∈ xs → 0 ≤ s → s ≤ M → ∃ t, Ev (fun k => g k x s) t ∧ (t < 0 ∨ (0 ≤ t ∧ t ≤ s ∧ ok x))) (e : Nat) :
    ∀ (j : Nat) (s : Int), 0 ≤ s → s ≤ M → j ≤ xs.length → xs.length - j = e → (∀ q, q < j → ok (xs.getD q d)) → ∃ r, Ev (fun k => L k xs s (j : Int)) r ∧ (r < 0 ∨ (0 ≤ r ∧ r ≤ s ∧ ∀ x, x ∈ xs → ok x)) := by
  induction e with
  | zero =>
    intro j s h0 hM hj he hok
    refine ⟨s, Ev.step (f := fun _ => some s) (fun k => by rw [hL, if_neg (by omega)]) (Ev.now _), Or.inr ⟨h0, Int.le_refl _, fun x hx => ?_⟩⟩
    obtain ⟨q, hq, rfl⟩ := List.getElem_of_mem hx
    have := hok q (by omega)
    rwa [List.getD_eq_getElem?_getD, List.getElem?_eq_getElem hq, Option.getD_some] at this
  | succ e ih =>
    intro j s h0 hM hj he hok
    have hlt : j < xs.length := by omega
    have hmem : xs.getD j d ∈ xs := by
      rw [List.getD_eq_getElem?_getD, List.getElem?_eq_getElem hlt, Option.getD_some]; exact List.getElem_mem hlt
    obtain ⟨t, ht, hc⟩ := hg (xs.getD j d) s hmem h0 hM
    have hs : ∀ k, L (k + 1) xs s (j : Int) = ((g k (xs.getD j d) s).bind fun t => (if t < 0 then (some (-1)) else (L k xs t (wrap64 ((j : Int) + 1))))) := fun k => by
      rw [hL, if_pos (by omega), if_pos (by omega), Int.toNat_natCast]
    by_cases hn : t < 0
    · refine ⟨-1, Ev.step (fun k => hs k) (Ev.bind ht ?_), Or.inl (by omega)⟩
      simp only [if_pos hn]
      exact Ev.now _
    · have hc' := hc.resolve_left hn
      obtain ⟨r, hr, hrc⟩ := ih (j + 1) t hc'.1 (by omega) (by omega) (by omega) (fun q hq => by
        by_cases hqj : q = j
        · subst hqj; exact hc'.2.2
        · exact hok q (by omega))
      refine ⟨r, Ev.step (fun k => hs k) (Ev.bind ht ?_), ?_⟩
      · simp only [if_neg hn]
        rw [w64 (by omega) (by omega), show ((j : Int) + 1) = ((j + 1 : Nat) : Int) from by omega]
        exact hr
      · rcases hrc with h | h
        · exact Or.inl h
        · exact Or.inr ⟨h.1, by omega, h.2.2⟩
/-- A loop that turns every element. -/
theorem to_loop {α β γ : Type} (d : α) (z : β) (mk : γ → β) (c : α → β) (L : Nat → List α → List β → Int → Option (List β)) (g : Nat → α → Option γ)
    (hL : ∀ k xs ys i, L (k + 1) xs ys i = if i < (xs.length : Int) then (if 0 ≤ i then ((g k (xs.getD i.toNat d)).bind fun b => (if i < (ys.length : Int) then (L k xs (ys.set i.toNat (mk b)) (wrap64 (i + 1))) else none)) else none) else some ys)
    (xs : List α) (hlen : (xs.length : Int) ≤ 4611686018427387904)
    (hg : ∀ x, x ∈ xs → ∃ b, Ev (fun k => g k x) b ∧ mk b = c x) (e : Nat) :
    ∀ (j : Nat), j ≤ xs.length → xs.length - j = e → Ev (fun k => L k xs ((xs.take j).map c ++ List.replicate (xs.length - j) z) (j : Int)) (xs.map c) := by
  induction e with
  | zero =>
    intro j hj he
    obtain rfl : j = xs.length := by omega
    refine Ev.step (f := fun _ => some (xs.map c)) (fun k => ?_) (Ev.now _)
    rw [hL, if_neg (by omega), List.take_length, Nat.sub_self, List.replicate_zero, List.append_nil]
  | succ e ih =>
    intro j hj he
    have hlt : j < xs.length := by omega
    have hx : xs.getD j d = xs[j] := by rw [List.getD_eq_getElem?_getD, List.getElem?_eq_getElem hlt, Option.getD_some]
    obtain ⟨b, hb, hbc⟩ := hg xs[j] (List.getElem_mem hlt)
    have hlm : ((xs.take j).map c).length = j := by rw [List.length_map, List.length_take]; omega
    have hly : (((xs.take j).map c ++ List.replicate (xs.length - j) z).length : Int) = (xs.length : Int) := by
      rw [List.length_append, hlm, List.length_replicate]; omega
    have hset : (((xs.take j).map c ++ List.replicate (xs.length - j) z).set j (mk b)) = (xs.take (j + 1)).map c ++ List.replicate (xs.length - (j + 1)) z := by
      rw [List.set_append_right _ _ (by omega), hlm, Nat.sub_self, show xs.length - j = (xs.length - (j + 1)) + 1 from by omega, List.replicate_succ, List.set_cons_zero, hbc, List.take_succ_eq_append_getElem hlt, List.map_append, List.append_assoc]
      rfl
    refine Ev.step (f := fun k => (g k xs[j]).bind fun b => L k xs (((xs.take j).map c ++ List.replicate (xs.length - j) z).set j (mk b)) (((j + 1 : Nat) : Int))) (fun k => ?_) (Ev.bind (f := fun k b => L k xs (((xs.take j).map c ++ List.replicate (xs.length - j) z).set j (mk b)) (((j + 1 : Nat) : Int))) hb ?_)
    · have hlj : (j : Int) < (xs.length : Int) := by omega
      rw [hL, if_pos (by omega), if_pos (by omega), Int.toNat_natCast, hx, hly, w64 (by omega) (by omega)]
      simp only [if_pos hlj]
      rfl
    · rw [hset]
      exact ih (j + 1) (by omega) (by omega)
/-- A loop that asks every pair of elements. -/
theorem eq_loop {α : Type} (d : α) (L : Nat → List α → List α → Int → Option Bool) (g : Nat → α → α → Option Bool)
    (hL : ∀ k xs ys i, L (k + 1) xs ys i = if i < (xs.length : Int) then (if 0 ≤ i then (if i < (ys.length : Int) then ((g k (xs.getD i.toNat d) (ys.getD i.toNat d)).bind fun t => (if t = true then (L k xs ys (wrap64 (i + 1))) else (some false))) else none) else none) else some true)
    (xs : List α) (hlen : (xs.length : Int) ≤ 4611686018427387904)
    (hg : ∀ x, x ∈ xs → Ev (fun k => g k x x) true) (e : Nat) :
    ∀ (j : Nat), j ≤ xs.length → xs.length - j = e → Ev (fun k => L k xs xs (j : Int)) true := by
  induction e with
  | zero =>
    intro j hj he
    exact Ev.step (f := fun _ => some true) (fun k => by rw [hL, if_neg (by omega)]) (Ev.now _)
  | succ e ih =>
    intro j hj he
    have hlt : j < xs.length := by omega
    have hx : xs.getD j d = xs[j] := by rw [List.getD_eq_getElem?_getD, List.getElem?_eq_getElem hlt, Option.getD_some]
    refine Ev.step (f := fun k => (g k xs[j] xs[j]).bind fun t => (if t = true then L k xs xs (((j + 1 : Nat) : Int)) else (some false))) (fun k => ?_) (Ev.bind (f := fun k t => (if t = true then L k xs xs (((j + 1 : Nat) : Int)) else (some false))) (hg xs[j] (List.getElem_mem hlt)) ?_)
    · rw [hL, if_pos (by omega), if_pos (by omega), Int.toNat_natCast, hx, if_pos (by omega), w64 (by omega) (by omega)]
      rfl
    · simp only [if_true]
      exact ih (j + 1) (by omega) (by omega)

def toK (x : S163) : S109 := ⟨x.f0, x.f1, x.f2⟩
theorem sz_all (xs : List S163) (h0 : xs.length ≤ 9223372036854775807) (hQ : ∀ x, x ∈ xs → Q163 x) (a1 : Int) (ha : 0 ≤ a1) (ha1 : a1 ≤ 4611686018427387904) : ∃ r, Ev (fun k => laws_szKeySlotS.f k xs a1) r ∧ (r < 0 ∨ (0 ≤ r ∧ r ≤ a1 ∧ (xs.length : Int) ≤ a1)) := by
  unfold laws_szKeySlotS.f
  rw [w64 (by omega) (by omega)]
  by_cases hn : a1 - (xs.length : Int) < 0
  · simp only [if_pos hn]; exact ⟨-1, Ev.now _, Or.inl (by omega)⟩
  · simp only [if_neg hn]
    obtain ⟨r, hr, hc⟩ := sz_loop z163 4611686018427387904 (fun _ => True) laws_szKeySlotS.l0 (fun _ x s => laws_szKeySlot.f x.f0 x.f1 x.f2 s) (fun k xs s i => by simp only [laws_szKeySlotS.l0]; rfl) xs (by omega) (fun x s hx h0 h1 => by
      have hq := hQ x hx
      obtain ⟨_, q1, q2⟩ := hq
      unfold laws_szKeySlot.f
      rw [w64 (a := s - (x.f1.size : Int)) (by omega) (by omega)]
      by_cases c0 : s - (x.f1.size : Int) < 0
      · rw [if_pos c0]; exact ⟨-1, Ev.now _, Or.inl (by omega)⟩
      · rw [if_neg c0, w64 (by omega) (by omega)]
        by_cases c1 : s - (x.f1.size : Int) - (x.f2.size : Int) < 0
        · rw [if_pos c1]; exact ⟨-1, Ev.now _, Or.inl (by omega)⟩
        · rw [if_neg c1]; exact ⟨_, Ev.now _, Or.inr ⟨by omega, by omega, trivial⟩⟩) xs.length 0 (a1 - (xs.length : Int)) (by omega) (by omega) (Nat.zero_le _) rfl (fun q hq => absurd hq (Nat.not_lt_zero _))
    refine ⟨r, hr, ?_⟩
    rcases hc with h | h
    · exact Or.inl h
    · exact Or.inr ⟨h.1, by omega, by omega⟩
theorem to_all (xs : List S163) (h0 : xs.length ≤ 7036874417766) : Ev (fun k => laws_toKeySlotS.f k xs) (xs.map toK) := by
  have := to_loop z163 z109 (fun b : Int × ByteArray × ByteArray => (⟨b.1, b.2.1, b.2.2⟩ : S109)) toK laws_toKeySlotS.l0 (fun _ x => laws_toKeySlot.f x.f0 x.f1 x.f2) (fun k xs ys i => by simp only [laws_toKeySlotS.l0]; rfl) xs (by omega) (fun x hx => ⟨_, Ev.now _, rfl⟩) xs.length 0 (Nat.zero_le _) rfl
  refine Ev.congr (fun k => ?_) this
  unfold laws_toKeySlotS.f
  rw [if_pos (by omega), if_pos (by omega), Int.toNat_natCast]
  rfl
theorem eq_all (xs : List S109) (h0 : xs.length ≤ 7036874417766) : Ev (fun k => laws_eqKeySlotS.f k xs xs) true := by
  have := eq_loop z109 laws_eqKeySlotS.l0 (fun _ x y => laws_eqKeySlot.f x.f0 x.f1 x.f2 y.f0 y.f1 y.f2) (fun k xs ys i => by simp only [laws_eqKeySlotS.l0]; rfl) xs (by omega) (fun x _ => Ev.congr (fun k => by unfold laws_eqKeySlot.f; rw [if_pos rfl, if_pos rfl, if_pos rfl]) (Ev.now _)) xs.length 0 (Nat.zero_le _) rfl
  refine Ev.congr (fun k => ?_) this
  unfold laws_eqKeySlotS.f
  rw [if_pos rfl]
  rfl
theorem spec_isWord_eq (n : Int) : spec_l01IsWord.f n = some (decide (0 ≤ n) && decide (n < 4294967296)) := by
  unfold spec_l01IsWord.f
  by_cases h : n ≥ 0
  · rw [if_pos h, decide_eq_true h]; simp
  · rw [if_neg h, decide_eq_false h]; rfl
theorem spec_loop (xs : List S109) (t : ByteArray) (hlen : xs.length ≤ 4) (e : Nat) : ∀ j : Nat, j ≤ xs.length → xs.length - j = e → Ev (fun k => spec_VolumeFault.l0 k (j : Int) xs t) (if (xs.drop j).any VolumeFaultBad = true then 1 else 0) := by
  induction e with
  | zero =>
    intro j hj he
    rw [List.drop_eq_nil_of_le (by omega)]
    exact Ev.step (f := fun _ => some 0) (fun k => by simp only [spec_VolumeFault.l0]; rw [if_neg (by omega)]) (Ev.now _)
  | succ e ih =>
    intro j hj he
    have hlt : j < xs.length := by omega
    have hx : rd_T109 xs (j : Int) = xs[j] := by unfold rd_T109; rw [Int.toNat_natCast, List.getD_eq_getElem?_getD, List.getElem?_eq_getElem hlt, Option.getD_some]
    rw [List.drop_eq_getElem_cons hlt, List.any_cons]
    have hstep : ∀ k, spec_VolumeFault.l0 (k + 1) (j : Int) xs t = if VolumeFaultBad xs[j] = true then some 1 else spec_VolumeFault.l0 k (((j + 1 : Nat) : Int)) xs t := by
      intro k
      simp only [spec_VolumeFault.l0]
      rw [if_pos (by omega), if_pos (by omega), hx, spec_isWord_eq, Option.bind_some, w64 (by omega) (by omega)]
      unfold VolumeFaultBad
      cases hb : (decide (0 ≤ xs[j].f0) && decide (xs[j].f0 < 4294967296)) with
      | false => rw [if_neg (by simp), if_pos (by simp)]
      | true =>
        rw [if_pos rfl]
        by_cases h1 : (xs[j].f1.size : Int) = 16
        · rw [if_pos h1]
          by_cases h2 : (xs[j].f2.size : Int) = 8
          · rw [if_pos h2, if_neg (by simp [h1, h2])]; rfl
          · rw [if_neg h2, if_pos (by simp [h2])]
        · rw [if_neg h1, if_pos (by simp [h1])]
    cases hv : VolumeFaultBad xs[j] with
    | true =>
      refine Ev.step (f := fun _ => some 1) (fun k => by rw [hstep, hv, if_pos rfl]) ?_
      rw [Bool.true_or, if_pos rfl]; exact Ev.now _
    | false =>
      refine Ev.step (fun k => by rw [hstep, hv, if_neg (by simp)]) ?_
      rw [Bool.false_or]; exact ih (j + 1) (by omega) (by omega)
theorem spec_eq (xs : List S109) (t : ByteArray) : ∃ v, impl_VolumeFault.f xs t = some v ∧ Ev (fun k => spec_VolumeFault.f k xs t) v := by
  have hj0 : ∀ b : Bool, Ev (fun k => spec_VolumeFault.j0 k true xs t) 1 := fun _ => Ev.step (f := fun _ => some 1) (fun k => by simp only [spec_VolumeFault.j0]; rw [if_pos trivial]) (Ev.now _)
  unfold impl_VolumeFault.f spec_VolumeFault.f
  by_cases h1 : (xs.length : Int) < 1
  · refine ⟨1, by rw [if_neg (by omega)], ?_⟩
    simp only [if_pos h1]; exact hj0 true
  · by_cases h2 : (xs.length : Int) > 4
    · refine ⟨1, by rw [if_neg (by omega)], ?_⟩
      simp only [if_neg h1, if_pos h2]; exact hj0 true
    · rw [if_pos (by omega)]
      simp only [if_neg h1, if_neg h2]
      by_cases h3 : (t.size : Int) = 8
      · have hb : ((t.size : Int) != 8) = false := bne_eq_false_iff_eq.mpr h3
        rw [if_pos h3, hb]
        refine ⟨if xs.any VolumeFaultBad = true then 1 else 0, by split <;> rfl, ?_⟩
        have := spec_loop xs t (by omega) xs.length 0 (Nat.zero_le _) rfl
        rw [List.drop_zero] at this
        exact Ev.step (fun k => by simp only [spec_VolumeFault.j0]; rw [if_neg (by simp)]; rfl) this
      · have hb : ((t.size : Int) != 8) = true := bne_iff_ne.mpr h3
        rw [if_neg h3, hb]
        exact ⟨1, rfl, hj0 true⟩
theorem FnExactVolumeFault : laws_FnExactVolumeFault.Pure := by
  intro xs t hQ0 ht
  obtain ⟨hlm, hQ⟩ := hQ0
  refine Ev.rounds (r := true) ?_
  obtain ⟨s, hs, hc⟩ := sz_all xs hlm hQ 1048576 (by omega) (by omega)
  have szv : ∃ r, Ev (fun k => laws_szVolume.f k xs t 1048576) r ∧ (r < 0 ∨ 0 ≤ s) := by
    unfold laws_szVolume.f
    by_cases hn : s < 0
    · refine ⟨-1, Ev.bind hs ?_, Or.inl (by omega)⟩
      simp only [if_pos hn]; exact Ev.now _
    · by_cases hm : wrap64 (s - (t.size : Int)) < 0
      · refine ⟨-1, Ev.bind hs ?_, Or.inl (by omega)⟩
        simp only [if_neg hn, if_pos hm]; exact Ev.now _
      · refine ⟨wrap64 (s - (t.size : Int)), Ev.bind hs ?_, Or.inr (by omega)⟩
        simp only [if_neg hn, if_neg hm]; exact Ev.now _
  obtain ⟨r, hr, hrc⟩ := szv
  unfold laws_FnExactVolumeFault.f
  refine Ev.bind hr ?_
  by_cases hrn : r < 0
  · simp only [if_pos hrn]; exact Ev.now _
  · simp only [if_neg hrn]
    have hl : xs.length ≤ 7036874417766 := by
      rcases hc with h | h
      · omega
      · omega
    obtain ⟨v, i1, s1⟩ := spec_eq (xs.map toK) t
    have hto := to_all xs hl
    have tov : Ev (fun k => laws_toVolume.f k xs t) (xs.map toK, t) := Ev.bind hto (Ev.now _)
    have eqv : Ev (fun k => laws_eqVolume.f k (xs.map toK) t (xs.map toK) t) true := by
      refine Ev.bind (eq_all (xs.map toK) (by rw [List.length_map]; exact hl)) ?_
      simp only [if_true]
      exact Ev.now _
    refine Ev.bind tov (Ev.bind s1 (Ev.bind tov ?_))
    simp only [i1]
    refine Ev.bind (Ev.now _) ?_
    simp only [if_true]
    refine Ev.bind tov (Ev.bind eqv ?_)
    simp only [if_true]
    exact Ev.now _

end Go.Proofs.Ytjpgelnhmcblmaa.Pure
