/- The program's PackImage returns what the reference's returns, for all arguments. Conditions: none. -/
import Derived.Test.YtoifdnnjdohfmaaQFnExactPackImagex
import Derived.Test.YtoifdnnjdohfmaaPl
import Derived.Test.YtoifdnnjdohfmaaTFnExactPackImage
set_option linter.unusedVariables false
set_option linter.unusedSimpArgs false
namespace Go.Proofs.Ytoifdnnjdohfmaa.Pure
open Go.RowKit Go.Proofs.Ytoifdnnjdohfmaa.QFnExactPackImage Go.Proofs.YtoifdnnjdohfmaaW.PrintWords Go.Proofs.YtoifdnnjdohfmaaW.PrintLast Go.Proofs.Ytoifdnnjdohfmaa.Pl Go.Proofs.YtoifdnnjdohfmaaW.PrintMore
/-- A loop that takes the size of every element off a budget: it ends, below zero or with every element small. -/
theorem sz_loop {α : Type} (d : α) (M : Int) (ok : α → Prop) (L : Nat → List α → Int → Int → Option Int) (g : Nat → α → Int → Option Int)
    (hL : ∀ k xs s i, L (k + 1) xs s i = if i < (xs.length : Int) then (if 0 ≤ i then ((g k (xs.getD i.toNat d) s).bind fun t => (if t < 0 then (some (-1)) else (L k xs t (wrap64 (i + 1))))) else none) else some s)
    (xs : List α) (hlen : (xs.length : Int) ≤ 4611686018427387904)
    (hg : ∀ x s, x ∈ xs → 0 ≤ s → s ≤ M → ∃ t, Ev (fun k => g k x s) t ∧ (t < 0 ∨ (0 ≤ t ∧ t ≤ s ∧ ok x))) (e : Nat) :
    ∀ (j : Nat) (s : Int), 0 ≤ s → s ≤ M → j ≤ xs.length → xs.length - j = e → (∀ q, q < j → ok (xs.getD q d)) → ∃ r, Ev (fun k => L k xs s (j : Int)) r ∧ (r < 0 ∨ (0 ≤ r ∧ r ≤ s ∧ ∀ x, x ∈ xs → ok x)) := by
  induction e with
  | zero =>
    intro j s h0 hM hj he hok
    refine ⟨s, Ev.step (f := fun _ => some s) (fun k => by rw [hL, if_neg (by omega)]) (Ev.now _), Or.inr ⟨h0, Int.le_refl _, fun x hx => ?_⟩⟩
    obtain ⟨q, hq, rfl⟩ := List.getElem_of_mem hx
    have := hok q (by omega)
    rwa [List.getD_eq_getElem?_getD, List.getElem?_eq_getElem hq, Option.getD_some] at this
  | succ e ih =>
    intro j s h0 hM hj he hok
    have hlt : j < xs.length := by omega
    have hmem : xs.getD j d ∈ xs := by
      rw [List.getD_eq_getElem?_getD, List.getElem?_eq_getElem hlt, Option.getD_some]; exact List.getElem_mem hlt
    obtain ⟨t, ht, hc⟩ := hg (xs.getD j d) s hmem h0 hM
    have hs : ∀ k, L (k + 1) xs s (j : Int) = ((g k (xs.getD j d) s).bind fun t => (if t < 0 then (some (-1)) else (L k xs t (wrap64 ((j : Int) + 1))))) := fun k => by
      rw [hL, if_pos (by omega), if_pos (by omega), Int.toNat_natCast]
    by_cases hn : t < 0
    · refine ⟨-1, Ev.step (fun k => hs k) (Ev.bind ht ?_), Or.inl (by omega)⟩
      simp only [if_pos hn]
      exact Ev.now _
    · have hc' := hc.resolve_left hn
      obtain ⟨r, hr, hrc⟩ := ih (j + 1) t hc'.1 (by omega) (by omega) (by omega) (fun q hq => by
        by_cases hqj : q = j
        · subst hqj; exact hc'.2.2
        · exact hok q (by omega))
      refine ⟨r, Ev.step (fun k => hs k) (Ev.bind ht ?_), ?_⟩
      · simp only [if_neg hn]
        rw [w64 (by omega) (by omega), show ((j : Int) + 1) = ((j + 1 : Nat) : Int) from by omega]
        exact hr
      · rcases hrc with h | h
        · exact Or.inl h
        · exact Or.inr ⟨h.1, by omega, h.2.2⟩
/-- A loop that turns every element. -/
theorem to_loop {α β γ : Type} (d : α) (z : β) (mk : γ → β) (c : α → β) (L : Nat → List α → List β → Int → Option (List β)) (g : Nat → α → Option γ)
    (hL : ∀ k xs ys i, L (k + 1) xs ys i = if i < (xs.length : Int) then (if 0 ≤ i then ((g k (xs.getD i.toNat d)).bind fun b => (if i < (ys.length : Int) then (L k xs (ys.set i.toNat (mk b)) (wrap64 (i + 1))) else none)) else none) else some ys)
    (xs : List α) (hlen : (xs.length : Int) ≤ 4611686018427387904)
    (hg : ∀ x, x ∈ xs → ∃ b, Ev (fun k => g k x) b ∧ mk b = c x) (e : Nat) :
    ∀ (j : Nat), j ≤ xs.length → xs.length - j = e → Ev (fun k => L k xs ((xs.take j).map c ++ List.replicate (xs.length - j) z) (j : Int)) (xs.map c) := by
  induction e with
  | zero =>
    intro j hj he
    obtain rfl : j = xs.length := by omega
    refine Ev.step (f := fun _ => some (xs.map c)) (fun k => ?_) (Ev.now _)
    rw [hL, if_neg (by omega), List.take_length, Nat.sub_self, List.replicate_zero, List.append_nil]
  | succ e ih =>
    intro j hj he
    have hlt : j < xs.length := by omega
    have hx : xs.getD j d = xs[j] := by rw [List.getD_eq_getElem?_getD, List.getElem?_eq_getElem hlt, Option.getD_some]
    obtain ⟨b, hb, hbc⟩ := hg xs[j] (List.getElem_mem hlt)
    have hlm : ((xs.take j).map c).length = j := by rw [List.length_map, List.length_take]; omega
    have hly : (((xs.take j).map c ++ List.replicate (xs.length - j) z).length : Int) = (xs.length : Int) := by
      rw [List.length_append, hlm, List.length_replicate]; omega
    have hset : (((xs.take j).map c ++ List.replicate (xs.length - j) z).set j (mk b)) = (xs.take (j + 1)).map c ++ List.replicate (xs.length - (j + 1)) z := by
      rw [List.set_append_right _ _ (by omega), hlm, Nat.sub_self, show xs.length - j = (xs.length - (j + 1)) + 1 from by omega, List.replicate_succ, List.set_cons_zero, hbc, List.take_succ_eq_append_getElem hlt, List.map_append, List.append_assoc]
      rfl
    refine Ev.step (f := fun k => (g k xs[j]).bind fun b => L k xs (((xs.take j).map c ++ List.replicate (xs.length - j) z).set j (mk b)) (((j + 1 : Nat) : Int))) (fun k => ?_) (Ev.bind (f := fun k b => L k xs (((xs.take j).map c ++ List.replicate (xs.length - j) z).set j (mk b)) (((j + 1 : Nat) : Int))) hb ?_)
    · have hlj : (j : Int) < (xs.length : Int) := by omega
      rw [hL, if_pos (by omega), if_pos (by omega), Int.toNat_natCast, hx, hly, w64 (by omega) (by omega)]
      simp only [if_pos hlj]
      rfl
    · rw [hset]
      exact ih (j + 1) (by omega) (by omega)
/-- A loop that asks every pair of elements. -/
theorem eq_loop {α : Type} (d : α) (L : Nat → List α → List α → Int → Option Bool) (g : Nat → α → α → Option Bool)
    (hL : ∀ k xs ys i, L (k + 1) xs ys i = if i < (xs.length : Int) then (if 0 ≤ i then (if i < (ys.length : Int) then ((g k (xs.getD i.toNat d) (ys.getD i.toNat d)).bind fun t => (if t = true then (L k xs ys (wrap64 (i + 1))) else (some false))) else none) else none) else some true)
    (xs : List α) (hlen : (xs.length : Int) ≤ 4611686018427387904)
    (hg : ∀ x, x ∈ xs → Ev (fun k => g k x x) true) (e : Nat) :
    ∀ (j : Nat), j ≤ xs.length → xs.length - j = e → Ev (fun k => L k xs xs (j : Int)) true := by
  induction e with
  | zero =>
    intro j hj he
    exact Ev.step (f := fun _ => some true) (fun k => by rw [hL, if_neg (by omega)]) (Ev.now _)
  | succ e ih =>
    intro j hj he
    have hlt : j < xs.length := by omega
    have hx : xs.getD j d = xs[j] := by rw [List.getD_eq_getElem?_getD, List.getElem?_eq_getElem hlt, Option.getD_some]
    refine Ev.step (f := fun k => (g k xs[j] xs[j]).bind fun t => (if t = true then L k xs xs (((j + 1 : Nat) : Int)) else (some false))) (fun k => ?_) (Ev.bind (f := fun k t => (if t = true then L k xs xs (((j + 1 : Nat) : Int)) else (some false))) (hg xs[j] (List.getElem_mem hlt)) ?_)
    · rw [hL, if_pos (by omega), if_pos (by omega), Int.toNat_natCast, hx, if_pos (by omega), w64 (by omega) (by omega)]
      rfl
    · simp only [if_true]
      exact ih (j + 1) (by omega) (by omega)

theorem toInt64S_ends (l : List Int) (hl : (l.length : Int) ≤ 1048576) (d : Nat) : ∀ (i : Nat) (m : List Int), i + d = l.length → m.length = l.length → (∀ j, j < i → m.getD j 0 = l.getD j 0) → Ev (fun k => laws_toInt64S.l0 k l m i) l := by
  induction d with
  | zero =>
    intro i m hi hm hj
    have e : m = l := by
      refine List.ext_getElem hm (fun j h1 h2 => ?_)
      have := hj j (by omega)
      rw [List.getD_eq_getElem?_getD, List.getD_eq_getElem?_getD, List.getElem?_eq_getElem h1, List.getElem?_eq_getElem h2] at this
      simpa using this
    exact Ev.step (f := fun _ => some l) (fun k => by simp only [laws_toInt64S.l0]; rw [if_neg (by omega), e]) (Ev.now _)
  | succ d ih =>
    intro i m hi hm hj
    refine Ev.step (fun k => ?_) (ih (i + 1) (m.set i (rd l i)) (by omega) (by simpa using hm) (fun j hji => ?_))
    · simp only [laws_toInt64S.l0]
      rw [if_pos (by omega), if_pos (by omega), if_pos (by omega), w64 (a := (i : Int) + 1) (by omega) (by omega), Int.toNat_natCast]
      have e1 : ((i : Int) + 1) = ((i + 1 : Nat) : Int) := by omega
      rw [e1]
    · by_cases e : j = i
      · subst e
        rw [List.getD_eq_getElem?_getD, List.getElem?_set_self (by omega)]
        unfold rd; rw [Int.toNat_natCast]; rfl
      · rw [List.getD_eq_getElem?_getD, List.getElem?_set_ne (by omega), ← List.getD_eq_getElem?_getD]
        exact hj j (by omega)
theorem toInt64S_ev (l : List Int) (hl : (l.length : Int) ≤ 1048576) : Ev (fun k => laws_toInt64S.f k l) l := by
  refine Ev.congr (fun k => ?_) (toInt64S_ends l hl l.length 0 (List.replicate l.length 0) (by omega) (by simp) (fun j hj => absurd hj (Nat.not_lt_zero _)))
  unfold laws_toInt64S.f
  rw [if_pos (by omega), if_pos (by omega), Int.toNat_natCast]; rfl
theorem eqInt64S_ends (l : List Int) (hl : (l.length : Int) ≤ 1048576) (d : Nat) : ∀ i : Nat, i + d = l.length → Ev (fun k => laws_eqInt64S.l0 k l l i) true := by
  induction d with
  | zero =>
    intro i hi
    exact Ev.step (f := fun _ => some true) (fun k => by simp only [laws_eqInt64S.l0]; rw [if_neg (by omega)]) (Ev.now _)
  | succ d ih =>
    intro i hi
    refine Ev.step (fun k => ?_) (ih (i + 1) (by omega))
    simp only [laws_eqInt64S.l0]
    rw [if_pos (by omega), if_pos (by omega), if_pos (by omega), if_pos trivial, w64 (a := (i : Int) + 1) (by omega) (by omega)]
    have e1 : ((i : Int) + 1) = ((i + 1 : Nat) : Int) := by omega
    rw [e1]
theorem eqInt64S_ev (l : List Int) (hl : (l.length : Int) ≤ 1048576) : Ev (fun k => laws_eqInt64S.f k l l) true := by
  refine Ev.congr (fun k => ?_) (eqInt64S_ends l hl l.length 0 (by omega))
  unfold laws_eqInt64S.f
  rw [if_pos rfl]; rfl

/-- p holds of i, i + 1, .., d numbers. -/
def allF (p : Nat → Bool) : Nat → Nat → Bool
  | _, 0 => true
  | i, d + 1 => p i && allF p (i + 1) d
theorem allF_and (p q : Nat → Bool) : ∀ d i, allF (fun j => p j && q j) i d = (allF p i d && allF q i d)
  | 0, _ => rfl
  | d + 1, i => by simp only [allF, allF_and p q d (i + 1)]; ac_rfl
theorem allF_congr (p q : Nat → Bool) : ∀ d i, (∀ j, i ≤ j → j < i + d → p j = q j) → allF p i d = allF q i d
  | 0, _, _ => rfl
  | d + 1, i, h => by simp only [allF]; rw [h i (Nat.le_refl _) (by omega), allF_congr p q d (i + 1) (fun j h1 h2 => h j (by omega) (by omega))]
theorem allF_const (b : Bool) (p : Nat → Bool) : ∀ d i, allF (fun j => b && p j) i (d + 1) = (b && allF p i (d + 1))
  | 0, i => by simp [allF]
  | d + 1, i => by
    have := allF_const b p d (i + 1)
    simp only [allF] at this ⊢
    rw [this]
    cases b <;> simp
/-- A loop that asks p of every number below n: at the first that fails it ends with bad, else it goes on to good. -/
theorem ev_all {ρ : Type} (L : Nat → Int → Option ρ) (p : Nat → Bool) (bad good : ρ) (n : Nat)
    (hs : ∀ i, i < n → p i = true → ∀ r, Ev (fun k => L k ((i + 1 : Nat) : Int)) r → Ev (fun k => L k (i : Int)) r)
    (hb : ∀ i, i < n → p i = false → Ev (fun k => L k (i : Int)) bad)
    (he : Ev (fun k => L k (n : Int)) good) : ∀ d i, i + d = n → Ev (fun k => L k (i : Int)) (if allF p i d = true then good else bad)
  | 0, i, h => by
    obtain rfl : i = n := by omega
    simp only [allF, if_true]; exact he
  | d + 1, i, h => by
    cases hp : p i with
    | true =>
      simp only [allF, hp, Bool.true_and]
      exact hs i (by omega) hp _ (ev_all L p bad good n hs hb he d (i + 1) (by omega))
    | false =>
      simp only [allF, hp, Bool.false_and, Bool.false_eq_true, if_false]
      exact hb i (by omega) hp
theorem ww (a : Int) : wrap64 (wrap64 a) = wrap64 a := by unfold wrap64; omega
theorem ev_all2 {ρ : Type} (L : Nat → Int → Option ρ) (p : Nat → Bool) (bad good : ρ) (lo n : Nat)
    (hs : ∀ i, lo ≤ i → i < n → ∀ r, Ev (fun k => L k ((i + 1 : Nat) : Int)) r → Ev (fun k => L k (i : Int)) (if p i = true then r else bad))
    (he : Ev (fun k => L k (n : Int)) good) : ∀ d i, lo ≤ i → i + d = n → Ev (fun k => L k (i : Int)) (if allF p i d = true then good else bad)
  | 0, i, _, h => by
    obtain rfl : i = n := by omega
    simp only [allF, if_true]; exact he
  | d + 1, i, hl, h => by
    have := hs i hl (by omega) _ (ev_all2 L p bad good lo n hs he d (i + 1) (by omega) (by omega))
    cases hp : p i with
    | true => rw [hp, if_pos rfl] at this; simp only [allF, hp, Bool.true_and]; exact this
    | false => rw [hp, if_neg (by simp)] at this; simp only [allF, hp, Bool.false_and, Bool.false_eq_true, if_false]; exact this
theorem allF_split (p : Nat → Bool) : ∀ d1 d2 i, allF p i (d1 + d2) = (allF p i d1 && allF p (i + d1) d2)
  | 0, d2, i => by simp [allF]
  | d1 + 1, d2, i => by
    rw [show d1 + 1 + d2 = (d1 + d2) + 1 from by omega]
    simp only [allF]
    rw [allF_split p d1 d2 (i + 1), show i + 1 + d1 = i + (d1 + 1) from by omega, Bool.and_assoc]
theorem allF_true (p : Nat → Bool) : ∀ d i, (∀ j, i ≤ j → j < i + d → p j = true) → allF p i d = true
  | 0, _, _ => rfl
  | d + 1, i, h => by simp only [allF]; rw [h i (Nat.le_refl _) (by omega), allF_true p d (i + 1) (fun j h1 h2 => h j (by omega) (by omega))]; rfl
theorem nat1 (i : Nat) : ((i : Int) + 1) = ((i + 1 : Nat) : Int) := by omega
theorem ite_b (b : Bool) : (if b = true then true else false) = b := by cases b <;> rfl

theorem szS_ev (l : List ByteArray) (m : Int) (h0 : 0 ≤ m) (hm : m ≤ 1048576) (hl : l.length ≤ 9223372036854775807) (hx : ∀ x, x ∈ l → x.size ≤ 9223372036854775807) :
    ∃ r, Ev (fun k => laws_szStringS.f k l m) r ∧ (r < 0 ∨ (0 ≤ r ∧ r ≤ m ∧ (l.length : Int) ≤ 1048576)) := by
  unfold laws_szStringS.f
  rw [w64 (a := m - (l.length : Int)) (by omega) (by omega)]
  by_cases hn : m - (l.length : Int) < 0
  · simp only [if_pos hn]; exact ⟨-1, Ev.now _, Or.inl (by omega)⟩
  · simp only [if_neg hn]
    obtain ⟨r, hr, hc⟩ := sz_loop ByteArray.empty 1048576 (fun _ => True) laws_szStringS.l0 (fun _ (x : ByteArray) s => some (wrap64 (s - (x.size : Int)))) (fun k xs s i => by simp only [laws_szStringS.l0]; rfl) l (by omega) (fun x s hxl h1 h2 => by
      have := hx x hxl
      refine ⟨wrap64 (s - (x.size : Int)), Ev.now _, ?_⟩
      rw [w64 (by omega) (by omega)]
      by_cases h : s - (x.size : Int) < 0
      · exact Or.inl h
      · exact Or.inr ⟨by omega, by omega, trivial⟩) l.length 0 (m - (l.length : Int)) (by omega) (by omega) (Nat.zero_le _) rfl (fun q hq => absurd hq (Nat.not_lt_zero _))
    refine ⟨r, hr, ?_⟩
    rcases hc with h | h
    · exact Or.inl h
    · exact Or.inr ⟨h.1, by omega, by omega⟩
theorem szI_ev (l : List Int) (m : Int) (h0 : 0 ≤ m) (hm : m ≤ 1048576) (hl : l.length ≤ 9223372036854775807) : ∃ r, laws_szInt64S.f l m = some r ∧ (r < 0 ∨ (0 ≤ r ∧ r ≤ m ∧ (l.length : Int) ≤ 1048576)) := by
  unfold laws_szInt64S.f
  rw [w64 (a := m - (l.length : Int)) (by omega) (by omega)]
  by_cases hn : m - (l.length : Int) < 0
  · rw [if_pos hn]; exact ⟨-1, rfl, Or.inl (by omega)⟩
  · rw [if_neg hn]; exact ⟨_, rfl, Or.inr (by omega)⟩
def okSn (x : S71) : Prop := (x.f0.size : Int) ≤ 1048576 ∧ (x.f1.length : Int) ≤ 1048576
theorem szSn_ev (x : S71) (m : Int) (h0 : 0 ≤ m) (hm : m ≤ 1048576) (l0 : x.f0.size ≤ 9223372036854775807) (l1 : x.f1.length ≤ 9223372036854775807) :
    ∃ r, laws_szSnap.f x.f0 x.f1 m = some r ∧ (r < 0 ∨ (0 ≤ r ∧ r ≤ m ∧ okSn x)) := by
  unfold laws_szSnap.f
  rw [w64 (a := m - (x.f0.size : Int)) (by omega) (by omega)]
  by_cases n1 : m - (x.f0.size : Int) < 0
  · rw [if_pos n1]; exact ⟨_, rfl, Or.inl (by omega)⟩
  · rw [if_neg n1]
    obtain ⟨r2, e2, c2⟩ := szI_ev x.f1 (m - (x.f0.size : Int)) (by omega) (by omega) l1
    rw [e2, Option.bind_some]
    by_cases n2 : r2 < 0
    · rw [if_pos n2]; exact ⟨_, rfl, Or.inl (by omega)⟩
    · rw [if_neg n2]
      obtain ⟨a2, b2, d2⟩ := c2.resolve_left n2
      exact ⟨_, rfl, Or.inr ⟨a2, by omega, by omega, d2⟩⟩
theorem szSns_ev (l : List S71) (m : Int) (h0 : 0 ≤ m) (hm : m ≤ 1048576) (hl : l.length ≤ 9223372036854775807) (hx : ∀ x, x ∈ l → x.f0.size ≤ 9223372036854775807 ∧ x.f1.length ≤ 9223372036854775807) :
    ∃ r, Ev (fun k => laws_szSnapS.f k l m) r ∧ (r < 0 ∨ (0 ≤ r ∧ r ≤ m ∧ (l.length : Int) ≤ 1048576 ∧ ∀ x, x ∈ l → okSn x)) := by
  unfold laws_szSnapS.f
  rw [w64 (a := m - (l.length : Int)) (by omega) (by omega)]
  by_cases hn : m - (l.length : Int) < 0
  · simp only [if_pos hn]; exact ⟨-1, Ev.now _, Or.inl (by omega)⟩
  · simp only [if_neg hn]
    obtain ⟨r, hr, hc⟩ := sz_loop z71 1048576 okSn laws_szSnapS.l0 (fun _ (x : S71) s => laws_szSnap.f x.f0 x.f1 s) (fun k xs s i => by simp only [laws_szSnapS.l0]; rfl) l (by omega) (fun x s hxl h1 h2 => by
      obtain ⟨u0, u1⟩ := hx x hxl
      obtain ⟨r, e, c⟩ := szSn_ev x s h1 h2 u0 u1
      exact ⟨r, Ev.congr (fun _ => e) (Ev.now r), c⟩) l.length 0 (m - (l.length : Int)) (by omega) (by omega) (Nat.zero_le _) rfl (fun q hq => absurd hq (Nat.not_lt_zero _))
    refine ⟨r, hr, ?_⟩
    rcases hc with h | h
    · exact Or.inl h
    · exact Or.inr ⟨h.1, by omega, by omega, h.2.2⟩
def okIm (a0 a1 : ByteArray) (l2 : List Int) (l3 : List ByteArray) (l4 : List S71) : Prop := (a0.size : Int) ≤ 1048576 ∧ (a1.size : Int) ≤ 1048576 ∧ (l2.length : Int) ≤ 1048576 ∧ (l3.length : Int) ≤ 1048576 ∧ (l4.length : Int) ≤ 1048576 ∧ ∀ x, x ∈ l4 → okSn x
theorem szIm_ev (a0 a1 : ByteArray) (l2 : List Int) (l3 : List ByteArray) (l4 : List S71) (m : Int) (h0 : 0 ≤ m) (hm : m ≤ 1048576) (ha0 : a0.size ≤ 9223372036854775807) (ha1 : a1.size ≤ 9223372036854775807) (hl2 : l2.length ≤ 9223372036854775807) (hl3 : l3.length ≤ 9223372036854775807) (hx3 : ∀ x, x ∈ l3 → x.size ≤ 9223372036854775807) (hl4 : l4.length ≤ 9223372036854775807) (hx4 : ∀ x, x ∈ l4 → x.f0.size ≤ 9223372036854775807 ∧ x.f1.length ≤ 9223372036854775807) :
    ∃ r, Ev (fun k => laws_szImage.f k a0 a1 l2 l3 l4 m) r ∧ (r < 0 ∨ (0 ≤ r ∧ r ≤ m ∧ okIm a0 a1 l2 l3 l4)) := by
  unfold laws_szImage.f
  rw [w64 (a := m - (a0.size : Int)) (by omega) (by omega)]
  by_cases n0 : m - (a0.size : Int) < 0
  · simp only [if_pos n0]; exact ⟨-1, Ev.now _, Or.inl (by omega)⟩
  simp only [if_neg n0]
  rw [w64 (a := m - (a0.size : Int) - (a1.size : Int)) (by omega) (by omega)]
  by_cases n1 : m - (a0.size : Int) - (a1.size : Int) < 0
  · simp only [if_pos n1]; exact ⟨-1, Ev.now _, Or.inl (by omega)⟩
  simp only [if_neg n1]
  obtain ⟨r2, e2, c2⟩ := szI_ev l2 (m - (a0.size : Int) - (a1.size : Int)) (by omega) (by omega) hl2
  simp only [e2, Option.bind_some]
  by_cases n2 : r2 < 0
  · simp only [if_pos n2]; exact ⟨-1, Ev.now _, Or.inl (by omega)⟩
  simp only [if_neg n2]
  obtain ⟨a2, b2, d2⟩ := c2.resolve_left n2
  obtain ⟨r3, e3, c3⟩ := szS_ev l3 r2 a2 (by omega) hl3 hx3
  by_cases n3 : r3 < 0
  · exact ⟨-1, Ev.bind e3 (by simp only [if_pos n3]; exact Ev.now _), Or.inl (by omega)⟩
  obtain ⟨a3, b3, d3⟩ := c3.resolve_left n3
  obtain ⟨r4, e4, c4⟩ := szSns_ev l4 r3 a3 (by omega) hl4 hx4
  by_cases n4 : r4 < 0
  · exact ⟨-1, Ev.bind e3 (by simp only [if_neg n3]; exact Ev.bind e4 (by simp only [if_pos n4]; exact Ev.now _)), Or.inl (by omega)⟩
  obtain ⟨a4, b4, d4, d5⟩ := c4.resolve_left n4
  exact ⟨r4, Ev.bind e3 (by simp only [if_neg n3]; exact Ev.bind e4 (by simp only [if_neg n4]; exact Ev.now _)), Or.inr ⟨a4, by omega, by omega, by omega, d2, d3, d4, d5⟩⟩
theorem toS_ev (l : List ByteArray) (hl : (l.length : Int) ≤ 1048576) : Ev (fun k => laws_toStringS.f k l) l := by
  have := to_loop ByteArray.empty (⟨#[]⟩ : ByteArray) id id laws_toStringS.l0 (fun _ x => some x) (fun k xs ys i => by simp only [laws_toStringS.l0]; rfl) l (by omega) (fun x hx => ⟨_, Ev.now _, rfl⟩) l.length 0 (Nat.zero_le _) rfl
  rw [show l.map id = l from List.map_id l] at this
  refine Ev.congr (fun k => ?_) this
  unfold laws_toStringS.f
  rw [if_pos (by omega), if_pos (by omega), Int.toNat_natCast]
  rfl
def toSn (x : S71) : S42 := ⟨x.f0, x.f1⟩
theorem toSns_ev (l : List S71) (hl : (l.length : Int) ≤ 1048576) (hx : ∀ x, x ∈ l → okSn x) : Ev (fun k => laws_toSnapS.f k l) (l.map toSn) := by
  have := to_loop z71 z42 (fun b : ByteArray × List Int => (⟨b.1, b.2⟩ : S42)) toSn laws_toSnapS.l0 (fun k x => laws_toSnap.f k x.f0 x.f1) (fun k xs ys i => by simp only [laws_toSnapS.l0]; rfl) l (by omega) (fun x hxl => ⟨(x.f0, x.f1), by
    unfold laws_toSnap.f
    exact Ev.bind (toInt64S_ev x.f1 (hx x hxl).2) (Ev.now _), rfl⟩) l.length 0 (Nat.zero_le _) rfl
  refine Ev.congr (fun k => ?_) this
  unfold laws_toSnapS.f
  rw [if_pos (by omega), if_pos (by omega), Int.toNat_natCast]
  rfl
theorem toIm_ev (a0 a1 : ByteArray) (l2 : List Int) (l3 : List ByteArray) (l4 : List S71) (h : okIm a0 a1 l2 l3 l4) : Ev (fun k => laws_toImage.f k a0 a1 l2 l3 l4) (a0, a1, l2, l3, l4.map toSn) := by
  obtain ⟨h0, h1, h2, h3, h4, h5⟩ := h
  unfold laws_toImage.f
  exact Ev.bind (toInt64S_ev l2 h2) (Ev.bind (toS_ev l3 h3) (Ev.bind (toSns_ev l4 h4 h5) (Ev.now _)))
theorem eqS_ev (l : List ByteArray) (hl : (l.length : Int) ≤ 1048576) : Ev (fun k => laws_eqStringS.f k l l) true := by
  have := eq_loop ByteArray.empty laws_eqStringS.l0 (fun _ x y => some (decide (x.toList = y.toList))) (fun k xs ys i => by
    simp only [laws_eqStringS.l0, Option.bind_some, decide_eq_true_eq]
    rfl) l (by omega) (fun x _ => Ev.congr (fun k => by rw [decide_eq_true rfl]) (Ev.now _)) l.length 0 (Nat.zero_le _) rfl
  refine Ev.congr (fun k => ?_) this
  unfold laws_eqStringS.f
  rw [if_pos rfl]
  rfl
def okS (x : S42) : Prop := (x.f0.size : Int) ≤ 1048576 ∧ (x.f1.length : Int) ≤ 1048576
theorem eqSns_ev (l : List S42) (hl : (l.length : Int) ≤ 1048576) (hx : ∀ x, x ∈ l → okS x) : Ev (fun k => laws_eqSnapS.f k l l) true := by
  have := eq_loop z42 laws_eqSnapS.l0 (fun k x y => laws_eqSnap.f k x.f0 x.f1 y.f0 y.f1) (fun k xs ys i => by simp only [laws_eqSnapS.l0]; rfl) l (by omega) (fun x hxl => by
    unfold laws_eqSnap.f
    simp only [if_true]
    refine Ev.bind (eqInt64S_ev x.f1 (hx x hxl).2) ?_
    simp only [if_true]
    exact Ev.now _) l.length 0 (Nat.zero_le _) rfl
  refine Ev.congr (fun k => ?_) this
  unfold laws_eqSnapS.f
  rw [if_pos rfl]
  rfl
def okI (a0 a1 : ByteArray) (l2 : List Int) (l3 : List ByteArray) (l4 : List S42) : Prop := (a0.size : Int) ≤ 1048576 ∧ (a1.size : Int) ≤ 1048576 ∧ (l2.length : Int) ≤ 1048576 ∧ (l3.length : Int) ≤ 1048576 ∧ (l4.length : Int) ≤ 1048576 ∧ ∀ x, x ∈ l4 → okS x
theorem okI_of {a0 a1 : ByteArray} {l2 : List Int} {l3 : List ByteArray} {l4 : List S71} (h : okIm a0 a1 l2 l3 l4) : okI a0 a1 l2 l3 (l4.map toSn) := by
  obtain ⟨h0, h1, h2, h3, h4, h5⟩ := h
  refine ⟨h0, h1, h2, h3, by rw [List.length_map]; exact h4, fun x hx => ?_⟩
  obtain ⟨y, hy, rfl⟩ := List.mem_map.mp hx
  exact h5 y hy
theorem eqIm_ev (a0 a1 : ByteArray) (l2 : List Int) (l3 : List ByteArray) (l4 : List S42) (h : okI a0 a1 l2 l3 l4) : Ev (fun k => laws_eqImage.f k a0 a1 l2 l3 l4 a0 a1 l2 l3 l4) true := by
  obtain ⟨h0, h1, h2, h3, h4, h5⟩ := h
  unfold laws_eqImage.f
  simp only [if_true]
  refine Ev.bind (eqInt64S_ev l2 h2) ?_
  simp only [if_true]
  refine Ev.bind (eqS_ev l3 h3) ?_
  simp only [if_true]
  refine Ev.bind (eqSns_ev l4 h4 h5) ?_
  simp only [if_true]
  exact Ev.now _

theorem allF_range (p : Nat → Bool) : ∀ d i, allF p i d = (List.range' i d).all p
  | 0, _ => rfl
  | d + 1, i => by rw [List.range'_succ, List.all_cons]; simp only [allF]; rw [allF_range p d (i + 1)]
theorem allF_all (p : Nat → Bool) (n : Nat) : allF p 0 n = (List.range n).all p := by rw [allF_range, List.range_eq_range']
theorem bite (b : Bool) : (if b = true then true else false) = b := by cases b <;> rfl
theorem rd42 (xs : List S42) (i : Nat) (h : i < xs.length) : rd_T42 xs (i : Int) = xs[i] := by unfold rd_T42; rw [Int.toNat_natCast, List.getD_eq_getElem?_getD, List.getElem?_eq_getElem h, Option.getD_some]
theorem sName_step (s : ByteArray) (k : Nat) (j : Int) (h0 : 0 ≤ j) (h : j < (s.size : Int)) : spec_l13Name.l0 (k + 1) s j = if nameCh (bt s j) = true then spec_l13Name.l0 k s (wrap64 (j + 1)) else some false := by
  simp only [spec_l13Name.l0]
  rw [if_pos h, if_pos h0]
  generalize bt s j = c
  unfold nameCh
  by_cases h1 : c ≥ 97 <;> by_cases h2 : c ≤ 122 <;> by_cases h3 : c ≥ 48 <;> by_cases h4 : c ≤ 57 <;> by_cases h5 : c = 45 <;> simp [h1, h2, h3, h4, h5] <;> omega
theorem sName_ev (s : ByteArray) (hs : (s.size : Int) ≤ 1048576) : Ev (fun k => spec_l13Name.f k s) (nameB s) := by
  have hloop : Ev (fun k => spec_l13Name.l0 k s 0) (if allF (fun i => nameCh (bt s (i : Int))) 0 s.size = true then true else false) :=
    ev_all2 (fun k i => spec_l13Name.l0 k s i) (fun i => nameCh (bt s (i : Int))) false true 0 s.size (fun i _ hi r hr => by
      by_cases hc : nameCh (bt s (i : Int)) = true
      · rw [if_pos hc]
        refine Ev.step (fun k => ?_) hr
        show spec_l13Name.l0 (k + 1) s (i : Int) = _
        rw [sName_step s k (i : Int) (by omega) (by omega), if_pos hc, w64 (by omega) (by omega), show ((i : Int) + 1) = ((i + 1 : Nat) : Int) from by omega]
      · rw [if_neg hc]
        refine Ev.step (f := fun _ => some false) (fun k => ?_) (Ev.now _)
        show spec_l13Name.l0 (k + 1) s (i : Int) = _
        rw [sName_step s k (i : Int) (by omega) (by omega), if_neg hc])
      (Ev.step (f := fun _ => some true) (fun k => by simp only [spec_l13Name.l0]; rw [if_neg (by omega)]) (Ev.now _)) s.size 0 (Nat.le_refl _) (by omega)
  rw [bite, allF_all] at hloop
  unfold spec_l13Name.f nameB
  by_cases h1 : (s.size : Int) < 1
  · simp only [if_pos h1]
    rw [decide_eq_false (show ¬ 1 ≤ (s.size : Int) by omega), Bool.false_and, Bool.and_false]
    exact Ev.step (f := fun _ => some false) (fun k => by simp only [spec_l13Name.j0]; rfl) (Ev.now _)
  · simp only [if_neg h1]
    rw [decide_eq_true (show 1 ≤ (s.size : Int) by omega), Bool.true_and]
    by_cases h2 : (s.size : Int) > 20
    · rw [decide_eq_true h2, decide_eq_false (show ¬ (s.size : Int) ≤ 20 by omega), Bool.and_false]
      exact Ev.step (f := fun _ => some false) (fun k => by simp only [spec_l13Name.j0]; rfl) (Ev.now _)
    · rw [decide_eq_false h2, decide_eq_true (show (s.size : Int) ≤ 20 by omega), Bool.and_true]
      exact Ev.step (fun k => by simp only [spec_l13Name.j0]; rfl) hloop
theorem sTable_ev (t : List Int) (n m : Nat) (hn : (n : Int) ≤ 1048576) (ht : (t.length : Int) ≤ 1048576) : Ev (fun k => spec_l13Table.f k t (m : Int) (n : Int)) (tabB n m t) := by
  unfold spec_l13Table.f
  by_cases hl : (t.length : Int) = (m : Int)
  · simp only [if_pos hl]
    have hm : t.length = m := by omega
    subst hm
    have hloop : Ev (fun k => spec_l13Table.l0 k t (t.length : Int) (n : Int) 0) (if allF (fun i => inB (rd t (i : Int)) (-2) ((n : Int) - 1)) 0 t.length = true then true else false) :=
      ev_all2 (fun k i => spec_l13Table.l0 k t (t.length : Int) (n : Int) i) (fun i => inB (rd t (i : Int)) (-2) ((n : Int) - 1)) false true 0 t.length (fun i _ hi r hr => by
        by_cases c1 : rd t (i : Int) < (-2)
        · rw [show inB (rd t (i : Int)) (-2) ((n : Int) - 1) = false from by unfold inB; rw [decide_eq_false (show ¬ (-2 : Int) ≤ rd t (i : Int) by omega), Bool.false_and], if_neg (by decide)]
          exact Ev.step (f := fun _ => some false) (fun k => by simp only [spec_l13Table.l0]; rw [if_pos (by omega), if_pos (by omega), if_pos (by omega), if_pos c1]) (Ev.now _)
        · by_cases c2 : rd t (i : Int) ≥ (n : Int)
          · rw [show inB (rd t (i : Int)) (-2) ((n : Int) - 1) = false from by unfold inB; rw [decide_eq_false (show ¬ rd t (i : Int) ≤ (n : Int) - 1 by omega), Bool.and_false], if_neg (by decide)]
            exact Ev.step (f := fun _ => some false) (fun k => by simp only [spec_l13Table.l0]; rw [if_pos (by omega), if_pos (by omega), if_pos (by omega), if_neg c1, if_pos c2]) (Ev.now _)
          · rw [show inB (rd t (i : Int)) (-2) ((n : Int) - 1) = true from by unfold inB; rw [decide_eq_true (show (-2 : Int) ≤ rd t (i : Int) by omega), decide_eq_true (show rd t (i : Int) ≤ (n : Int) - 1 by omega)]; rfl, if_pos rfl]
            refine Ev.step (fun k => ?_) hr
            simp only [spec_l13Table.l0]
            rw [if_pos (by omega), if_pos (by omega), if_pos (by omega), if_neg c1, if_neg c2, w64 (by omega) (by omega), show ((i : Int) + 1) = ((i + 1 : Nat) : Int) from by omega])
        (Ev.step (f := fun _ => some true) (fun k => by simp only [spec_l13Table.l0]; rw [if_neg (by omega)]) (Ev.now _)) t.length 0 (Nat.le_refl _) (by omega)
    rw [bite] at hloop
    have he : tabB n t.length t = allF (fun i => inB (rd t (i : Int)) (-2) ((n : Int) - 1)) 0 t.length := by
      unfold tabB
      rw [allF_all, beq_self_eq_true, Bool.and_true, Bool.eq_iff_iff, List.all_eq_true, List.all_eq_true]
      constructor
      · intro h i hi
        have hi' := List.mem_range.mp hi
        have := h _ (List.getElem_mem hi')
        unfold rd
        rw [Int.toNat_natCast, List.getD_eq_getElem?_getD, List.getElem?_eq_getElem hi', Option.getD_some]
        exact this
      · intro h e he
        obtain ⟨i, hi, rfl⟩ := List.getElem_of_mem he
        have := h i (List.mem_range.mpr hi)
        unfold rd at this
        rw [Int.toNat_natCast, List.getD_eq_getElem?_getD, List.getElem?_eq_getElem hi, Option.getD_some] at this
        exact this
    rw [he]
    exact hloop
  · simp only [if_neg hl]
    have : tabB n m t = false := by
      unfold tabB
      rw [show (t.length == m) = false from beq_eq_false_iff_ne.mpr (fun h => hl (by omega)), Bool.and_false]
    rw [this]
    exact Ev.now _
section
variable (a0 a1 : ByteArray) (l2 : List Int) (l3 : List ByteArray) (l4 : List S42)
theorem bool_ev (x y : Int) : spec_l01Bool.f (x == y) = some (if x = y then 1 else 0) := by
  unfold spec_l01Bool.f
  by_cases h : x = y
  · subst h; rw [if_pos (beq_self_eq_true _), if_pos rfl]
  · rw [if_neg (by simpa using h), if_neg h]
theorem count_drop (t : List Int) (x : Int) (i : Nat) (h : i < t.length) : (((t.drop i).count x : Nat) : Int) = (if t[i] = x then 1 else 0) + (((t.drop (i + 1)).count x : Nat) : Int) := by
  rw [List.drop_eq_getElem_cons h, List.count_cons]
  by_cases e : t[i] = x
  · rw [if_pos e, if_pos (by simpa using e)]; omega
  · rw [if_neg e, if_neg (by simpa using e)]; omega
theorem count_le (t : List Int) (x : Int) (i : Nat) : (((t.drop i).count x : Nat) : Int) ≤ (t.length : Int) := by
  have := List.count_le_length (a := x) (l := t.drop i)
  rw [List.length_drop] at this
  omega
theorem rdi (t : List Int) (i : Nat) (h : i < t.length) : rd t (i : Int) = t[i] := by unfold rd; rw [Int.toNat_natCast, List.getD_eq_getElem?_getD, List.getElem?_eq_getElem h, Option.getD_some]
theorem uses2 (x : Int) (j : Nat) (hj : j < l4.length) (hjl : (l4.length : Int) ≤ 1048576) (hl : (l4[j].f1.length : Int) ≤ 1048576) (d : Nat) : ∀ (i : Nat) (c r : Int), i + d = l4[j].f1.length → 0 ≤ c → c + (d : Int) ≤ 4611686018427387904 →
    Ev (fun k => spec_l13Uses.l1 k x (c + (((l4[j].f1.drop i).count x : Nat) : Int)) ((j + 1 : Nat) : Int) a0 a1 l2 l3 l4) r → Ev (fun k => spec_l13Uses.l2 k x c (j : Int) (i : Int) a0 a1 l2 l3 l4) r := by
  induction d with
  | zero =>
    intro i c r hi h0 h1 h
    rw [List.drop_eq_nil_of_le (by omega), List.count_nil, Int.natCast_zero, Int.add_zero] at h
    refine Ev.step (fun k => ?_) h
    simp only [spec_l13Uses.l2]
    rw [if_pos (by omega), if_pos (by omega), rd42 l4 j hj, if_neg (by omega), w64 (by omega) (by omega), show ((j : Int) + 1) = ((j + 1 : Nat) : Int) from by omega]
  | succ d ih =>
    intro i c r hi h0 h1 h
    have hlt : i < l4[j].f1.length := by omega
    rw [count_drop _ _ _ hlt] at h
    have hc := count_le l4[j].f1 x (i + 1)
    by_cases e : l4[j].f1[i] = x
    · rw [if_pos e, ← Int.add_assoc] at h
      refine Ev.step (fun k => ?_) (ih (i + 1) (c + 1) r (by omega) (by omega) (by omega) h)
      simp only [spec_l13Uses.l2]
      rw [if_pos (by omega), if_pos (by omega), rd42 l4 j hj, if_pos (by omega), if_pos (by omega), rdi _ _ hlt, bool_ev, if_pos e, Option.bind_some, w64 (a := c + 1) (by omega) (by omega), w64 (by omega) (by omega), show ((i : Int) + 1) = ((i + 1 : Nat) : Int) from by omega]
    · rw [if_neg e, Int.zero_add] at h
      refine Ev.step (fun k => ?_) (ih (i + 1) c r (by omega) (by omega) (by omega) h)
      simp only [spec_l13Uses.l2]
      rw [if_pos (by omega), if_pos (by omega), rd42 l4 j hj, if_pos (by omega), if_pos (by omega), rdi _ _ hlt, bool_ev, if_neg e, Option.bind_some, Int.add_zero, w64 (a := c) (by omega) (by omega), w64 (by omega) (by omega), show ((i : Int) + 1) = ((i + 1 : Nat) : Int) from by omega]
theorem uses1 (x : Int) (hjl : (l4.length : Int) ≤ 1048576) (hx : ∀ y, y ∈ l4 → (y.f1.length : Int) ≤ 1048576) (d : Nat) : ∀ (j : Nat) (c : Int), j + d = l4.length → 0 ≤ c → c + (d : Int) * 1048576 ≤ 4611686018427387904 →
    Ev (fun k => spec_l13Uses.l1 k x c (j : Int) a0 a1 l2 l3 l4) (c + ((((l4.drop j).flatMap (fun y => y.f1)).count x : Nat) : Int)) := by
  induction d with
  | zero =>
    intro j c hj h0 h1
    rw [List.drop_eq_nil_of_le (by omega), List.flatMap_nil, List.count_nil, Int.natCast_zero, Int.add_zero]
    exact Ev.step (f := fun _ => some c) (fun k => by simp only [spec_l13Uses.l1]; rw [if_neg (by omega)]) (Ev.now _)
  | succ d ih =>
    intro j c hj h0 h1
    have hlt : j < l4.length := by omega
    have hl := hx _ (List.getElem_mem hlt)
    have hc := count_le l4[j].f1 x 0
    rw [List.drop_zero] at hc
    have := ih (j + 1) (c + ((l4[j].f1.count x : Nat) : Int)) (by omega) (by omega) (by omega)
    rw [List.drop_eq_getElem_cons hlt, List.flatMap_cons, List.count_append, Int.natCast_add, ← Int.add_assoc]
    refine Ev.step (fun k => ?_) (uses2 a0 a1 l2 l3 l4 x j hlt hjl hl l4[j].f1.length 0 c _ (by omega) h0 (by omega) (by rw [List.drop_zero]; exact this))
    simp only [spec_l13Uses.l1]
    rw [if_pos (by omega)]
    rfl
theorem uses0 (x : Int) (h2 : (l2.length : Int) ≤ 1048576) (hjl : (l4.length : Int) ≤ 1048576) (hx : ∀ y, y ∈ l4 → (y.f1.length : Int) ≤ 1048576) (d : Nat) : ∀ (i : Nat) (c : Int), i + d = l2.length → 0 ≤ c → c ≤ 1048576 - (d : Int) →
    Ev (fun k => spec_l13Uses.l0 k x c (i : Int) a0 a1 l2 l3 l4) (c + ((((l2.drop i) ++ l4.flatMap (fun y => y.f1)).count x : Nat) : Int)) := by
  induction d with
  | zero =>
    intro i c hi h0 h1
    rw [List.drop_eq_nil_of_le (by omega), List.nil_append]
    have := uses1 a0 a1 l2 l3 l4 x hjl hx l4.length 0 c (by omega) h0 (by omega)
    rw [List.drop_zero] at this
    refine Ev.step (fun k => ?_) this
    simp only [spec_l13Uses.l0]
    rw [if_neg (by omega)]
    rfl
  | succ d ih =>
    intro i c hi h0 h1
    have hlt : i < l2.length := by omega
    rw [List.count_append, Int.natCast_add, count_drop _ _ _ hlt]
    by_cases e : l2[i] = x
    · rw [if_pos e]
      have := ih (i + 1) (c + 1) (by omega) (by omega) (by omega)
      rw [List.count_append, Int.natCast_add ((l2.drop (i + 1)).count x)] at this
      rw [show c + ((1 : Int) + (((l2.drop (i + 1)).count x : Nat) : Int) + (((l4.flatMap (fun y => y.f1)).count x : Nat) : Int)) = c + 1 + ((((l2.drop (i + 1)).count x : Nat) : Int) + (((l4.flatMap (fun y => y.f1)).count x : Nat) : Int)) from by omega]
      refine Ev.step (fun k => ?_) this
      simp only [spec_l13Uses.l0]
      rw [if_pos (by omega), if_pos (by omega), rdi _ _ hlt, bool_ev, if_pos e, Option.bind_some, w64 (a := c + 1) (by omega) (by omega), w64 (by omega) (by omega), show ((i : Int) + 1) = ((i + 1 : Nat) : Int) from by omega]
    · rw [if_neg e, Int.zero_add]
      have := ih (i + 1) c (by omega) (by omega) (by omega)
      rw [List.count_append, Int.natCast_add ((l2.drop (i + 1)).count x)] at this
      refine Ev.step (fun k => ?_) this
      simp only [spec_l13Uses.l0]
      rw [if_pos (by omega), if_pos (by omega), rdi _ _ hlt, bool_ev, if_neg e, Option.bind_some, Int.add_zero, w64 (a := c) (by omega) (by omega), w64 (by omega) (by omega), show ((i : Int) + 1) = ((i + 1 : Nat) : Int) from by omega]
theorem uses_ev (x : Int) (h2 : (l2.length : Int) ≤ 1048576) (hjl : (l4.length : Int) ≤ 1048576) (hx : ∀ y, y ∈ l4 → (y.f1.length : Int) ≤ 1048576) : Ev (fun k => spec_l13Uses.f k a0 a1 l2 l3 l4 x) (((l2 ++ l4.flatMap (fun y => y.f1)).count x : Nat) : Int) := by
  have := uses0 a0 a1 l2 l3 l4 x h2 hjl hx l2.length 0 0 (by omega) (by omega) (by omega)
  rw [List.drop_zero, Int.zero_add] at this
  exact this
theorem data_ev (h2 : (l2.length : Int) ≤ 1048576) (h3 : (l3.length : Int) ≤ 1048576) (hjl : (l4.length : Int) ≤ 1048576) (hx : ∀ y, y ∈ l4 → (y.f1.length : Int) ≤ 1048576) : Ev (fun k => spec_ImageFault.l2 k 0 a0 a1 l2 l3 l4) (if (List.range l3.length).all (dataB l3 (l2 ++ l4.flatMap (fun x => x.f1))) = true then 0 else 1) := by
  rw [← allF_all]
  refine ev_all2 (fun k i => spec_ImageFault.l2 k i a0 a1 l2 l3 l4) (dataB l3 (l2 ++ l4.flatMap (fun x => x.f1))) 1 0 0 l3.length (fun i _ hi r hr => ?_) (Ev.step (f := fun _ => some 0) (fun k => by simp only [spec_ImageFault.l2]; rw [if_neg (by omega)]) (Ev.now _)) l3.length 0 (Nat.le_refl _) (by omega)
  unfold dataB
  by_cases c1 : ((rdOf ByteArray.empty l3 (i : Int)).size : Int) = 16
  · rw [beq_iff_eq.mpr c1, Bool.true_and]
    have hu := uses_ev a0 a1 l2 l3 l4 (i : Int) h2 hjl hx
    refine Ev.step (f := fun k => (spec_l13Uses.f k a0 a1 l2 l3 l4 (i : Int)).bind fun t => (if t = 0 then (some 1) else (spec_ImageFault.l2 k (((i + 1 : Nat) : Int)) a0 a1 l2 l3 l4))) (fun k => ?_) (Ev.bind (f := fun k t => (if t = 0 then (some 1) else (spec_ImageFault.l2 k (((i + 1 : Nat) : Int)) a0 a1 l2 l3 l4))) hu ?_)
    · simp only [spec_ImageFault.l2]
      rw [if_pos (by omega), if_pos (by omega), if_pos c1, w64 (by omega) (by omega), show ((i : Int) + 1) = ((i + 1 : Nat) : Int) from by omega]
    · by_cases hm : (i : Int) ∈ l2 ++ l4.flatMap (fun x => x.f1)
      · have hp := List.count_pos_iff.mpr hm
        rw [decide_eq_true hm, if_pos rfl]
        simp only [if_neg (show ¬ (((l2 ++ l4.flatMap (fun y => y.f1)).count (i : Int) : Nat) : Int) = 0 by omega)]
        exact hr
      · have hz := List.count_eq_zero.mpr hm
        rw [decide_eq_false hm, if_neg (by decide)]
        simp only [if_pos (show (((l2 ++ l4.flatMap (fun y => y.f1)).count (i : Int) : Nat) : Int) = 0 by omega)]
        exact Ev.now _
  · rw [beq_eq_false_iff_ne.mpr c1, Bool.false_and, if_neg (by decide)]
    refine Ev.step (f := fun _ => some 1) (fun k => ?_) (Ev.now _)
    simp only [spec_ImageFault.l2]
    rw [if_pos (by omega), if_pos (by omega), if_neg c1]
theorem any_allF (y : S42) (j : Nat) (hj : j ≤ l4.length) : ((l4.take j).any (fun x => x.f0.toList == y.f0.toList)) = !(allF (fun i => !((rd_T42 l4 (i : Int)).f0.toList == y.f0.toList)) 0 j) := by
  rw [allF_all, Bool.eq_iff_iff, Bool.not_eq_true', List.all_eq_false, List.any_eq_true]
  constructor
  · rintro ⟨x, hx, he⟩
    obtain ⟨i, hi, rfl⟩ := List.getElem_of_mem hx
    rw [List.length_take] at hi
    refine ⟨i, List.mem_range.mpr (by omega), ?_⟩
    rw [rd42 l4 i (by omega)]
    rw [List.getElem_take] at he
    rw [he]; decide
  · rintro ⟨i, hi, he⟩
    have hi' := List.mem_range.mp hi
    rw [rd42 l4 i (by omega)] at he
    refine ⟨l4[i], List.mem_iff_getElem.mpr ⟨i, by rw [List.length_take]; omega, by rw [List.getElem_take]⟩, by simpa using he⟩
theorem snaps_ev (hh : okI a0 a1 l2 l3 l4) : Ev (fun k => spec_ImageFault.l0 k (l2.length : Int) 0 a0 a1 l2 l3 l4) (if (List.range l4.length).all (snapB l3.length l2.length l4) = true then (if (List.range l3.length).all (dataB l3 (l2 ++ l4.flatMap (fun x => x.f1))) = true then 0 else 1) else 1) := by
  obtain ⟨h0, h1, h2, h3, h4, h5⟩ := hh
  rw [← allF_all]
  refine ev_all2 (fun k i => spec_ImageFault.l0 k (l2.length : Int) i a0 a1 l2 l3 l4) (snapB l3.length l2.length l4) 1 _ 0 l4.length (fun i _ hi r hr => ?_) (Ev.step (fun k => by simp only [spec_ImageFault.l0]; rw [if_neg (by omega)]) (data_ev a0 a1 l2 l3 l4 h2 h3 h4 (fun y hy => (h5 y hy).2))) l4.length 0 (Nat.le_refl _) (by omega)
  obtain ⟨y, hy⟩ : ∃ y, rd_T42 l4 (i : Int) = y := ⟨_, rfl⟩
  have hym : y ∈ l4 := by rw [← hy, rd42 l4 i hi]; exact List.getElem_mem hi
  have hbad : Ev (fun k => spec_ImageFault.j2 k (l2.length : Int) (i : Int) true a0 a1 l2 l3 l4) 1 := Ev.step (f := fun _ => some 1) (fun k => by simp only [spec_ImageFault.j2]; rfl) (Ev.now _)
  unfold snapB
  rw [hy]
  have hl1 : Ev (fun k => spec_ImageFault.l1 k (l2.length : Int) (i : Int) 0 a0 a1 l2 l3 l4) (if allF (fun q => !((rd_T42 l4 (q : Int)).f0.toList == y.f0.toList)) 0 i = true then r else 1) := by
    refine ev_all2 (fun k q => spec_ImageFault.l1 k (l2.length : Int) (i : Int) q a0 a1 l2 l3 l4) (fun q => !((rd_T42 l4 (q : Int)).f0.toList == y.f0.toList)) 1 r 0 i (fun q _ hq r' hr' => ?_) (Ev.step (fun k => by simp only [spec_ImageFault.l1]; rw [if_neg (by omega), w64 (by omega) (by omega), show ((i : Int) + 1) = ((i + 1 : Nat) : Int) from by omega]) hr) i 0 (Nat.le_refl _) (by omega)
    by_cases he : (rd_T42 l4 (q : Int)).f0.toList = y.f0.toList
    · rw [beq_iff_eq.mpr he, if_neg (by decide)]
      refine Ev.step (f := fun _ => some 1) (fun k => ?_) (Ev.now _)
      simp only [spec_ImageFault.l1]
      rw [if_pos (by omega), if_pos (by omega), if_pos (by omega), if_pos (by omega), if_pos (by omega), hy, if_pos he]
    · rw [beq_eq_false_iff_ne.mpr he, if_pos (by decide)]
      refine Ev.step (fun k => ?_) hr'
      simp only [spec_ImageFault.l1]
      rw [if_pos (by omega), if_pos (by omega), if_pos (by omega), if_pos (by omega), if_pos (by omega), hy, if_neg he, w64 (by omega) (by omega), show ((q : Int) + 1) = ((q + 1 : Nat) : Int) from by omega]
  refine Ev.step (f := fun k => (spec_l13Name.f k y.f0).bind fun t125 => (if t125 = true then ((spec_l13Table.f k y.f1 (l2.length : Int) (l3.length : Int)).bind fun t127 => (spec_ImageFault.j2 k (l2.length : Int) (i : Int) (!t127) a0 a1 l2 l3 l4)) else (spec_ImageFault.j2 k (l2.length : Int) (i : Int) true a0 a1 l2 l3 l4))) (fun k => ?_) (Ev.bind (f := fun k t125 => (if t125 = true then ((spec_l13Table.f k y.f1 (l2.length : Int) (l3.length : Int)).bind fun t127 => (spec_ImageFault.j2 k (l2.length : Int) (i : Int) (!t127) a0 a1 l2 l3 l4)) else (spec_ImageFault.j2 k (l2.length : Int) (i : Int) true a0 a1 l2 l3 l4))) (sName_ev y.f0 (h5 y hym).1) ?_)
  · simp only [spec_ImageFault.l0]
    rw [if_pos (by omega), if_pos (by omega), hy]
  · cases hn : nameB y.f0 with
    | false =>
      simp only [Bool.false_eq_true, if_false, Bool.false_and]
      exact hbad
    | true =>
      simp only [if_true, Bool.true_and]
      refine Ev.bind (sTable_ev y.f1 l3.length l2.length h3 (h5 y hym).2) ?_
      cases ht : tabB l3.length l2.length y.f1 with
      | false =>
        simp only [Bool.not_false, Bool.false_and, Bool.false_eq_true, if_false]
        exact hbad
      | true =>
        simp only [Bool.not_true, Bool.true_and]
        rw [any_allF l4 y i (by omega), Bool.not_not]
        exact Ev.step (fun k => by simp only [spec_ImageFault.j2]; rfl) hl1
theorem sImage_ev (hh : okI a0 a1 l2 l3 l4) : Ev (fun k => spec_ImageFault.f k a0 a1 l2 l3 l4) (if imgB a0 a1 l2 l3 l4 = true then 0 else 1) := by
  have hs := snaps_ev a0 a1 l2 l3 l4 hh
  obtain ⟨h0, h1, h2, h3, h4, h5⟩ := hh
  have hbad : Ev (fun k => spec_ImageFault.j0 k (l2.length : Int) true a0 a1 l2 l3 l4) 1 := Ev.step (f := fun _ => some 1) (fun k => by simp only [spec_ImageFault.j0]; rfl) (Ev.now _)
  have tailEv : nameB a0 = true → ((a1.toList == ([] : List UInt8)) || nameB a1) = true → Ev (fun k => (if (l2.length : Int) < 1 then (spec_ImageFault.j0 k (l2.length : Int) true a0 a1 l2 l3 l4) else (if (l2.length : Int) > 64 then (spec_ImageFault.j0 k (l2.length : Int) true a0 a1 l2 l3 l4) else (if (l3.length : Int) > 128 then (spec_ImageFault.j0 k (l2.length : Int) true a0 a1 l2 l3 l4) else (if (l4.length : Int) > 8 then (spec_ImageFault.j0 k (l2.length : Int) true a0 a1 l2 l3 l4) else ((spec_l13Table.f k l2 (l2.length : Int) (l3.length : Int)).bind fun t121 => (spec_ImageFault.j0 k (l2.length : Int) (!t121) a0 a1 l2 l3 l4))))))) (if imgB a0 a1 l2 l3 l4 = true then 0 else 1) := by
    intro e0 e1
    unfold imgB imgHead
    rw [e0, e1, Bool.true_and, Bool.true_and]
    by_cases c1 : (l2.length : Int) < 1
    · simp only [if_pos c1]
      rw [show inB (l2.length : Int) 1 64 = false from by unfold inB; rw [decide_eq_false (show ¬ (1 : Int) ≤ (l2.length : Int) by omega), Bool.false_and], Bool.false_and, Bool.false_and, if_neg (by decide)]
      exact hbad
    simp only [if_neg c1]
    by_cases c2 : (l2.length : Int) > 64
    · simp only [if_pos c2]
      rw [show inB (l2.length : Int) 1 64 = false from by unfold inB; rw [decide_eq_false (show ¬ (l2.length : Int) ≤ 64 by omega), Bool.and_false], Bool.false_and, Bool.false_and, if_neg (by decide)]
      exact hbad
    simp only [if_neg c2]
    rw [show inB (l2.length : Int) 1 64 = true from by unfold inB; rw [decide_eq_true (show (1 : Int) ≤ (l2.length : Int) by omega), decide_eq_true (show (l2.length : Int) ≤ 64 by omega)]; rfl, Bool.true_and]
    by_cases c3 : (l3.length : Int) > 128
    · simp only [if_pos c3]
      rw [decide_eq_false (show ¬ (l3.length : Int) ≤ 128 by omega), Bool.false_and, Bool.false_and, if_neg (by decide)]
      exact hbad
    simp only [if_neg c3]
    rw [decide_eq_true (show (l3.length : Int) ≤ 128 by omega), Bool.true_and]
    by_cases c4 : (l4.length : Int) > 8
    · simp only [if_pos c4]
      rw [decide_eq_false (show ¬ (l4.length : Int) ≤ 8 by omega), Bool.false_and, if_neg (by decide)]
      exact hbad
    simp only [if_neg c4]
    rw [decide_eq_true (show (l4.length : Int) ≤ 8 by omega), Bool.true_and]
    refine Ev.bind (sTable_ev l2 l3.length l2.length h3 h2) ?_
    cases ht : tabB l3.length l2.length l2 with
    | false =>
      simp only [Bool.not_false, Bool.false_and, Bool.false_eq_true, if_false]
      exact hbad
    | true =>
      simp only [Bool.not_true, Bool.true_and]
      refine Ev.step (fun k => by simp only [spec_ImageFault.j0]; rfl) ?_
      cases hq : (List.range l4.length).all (snapB l3.length l2.length l4) with
      | false => rw [hq] at hs; simpa using hs
      | true => rw [hq] at hs; simpa using hs
  unfold spec_ImageFault.f
  refine Ev.bind (sName_ev a0 h0) ?_
  cases hn : nameB a0 with
  | false =>
    simp only [Bool.false_eq_true, if_false]
    rw [show imgB a0 a1 l2 l3 l4 = false from imgB_head (by unfold imgHead; rw [hn]; rfl), if_neg (by decide)]
    exact hbad
  | true =>
    simp only [if_true]
    by_cases he : a1.toList = ([] : List UInt8)
    · simp only [if_pos he]
      exact tailEv hn (by rw [beq_iff_eq.mpr he]; rfl)
    · simp only [if_neg he]
      refine Ev.bind (sName_ev a1 h1) ?_
      cases hn1 : nameB a1 with
      | false =>
        simp only [Bool.false_eq_true, if_false]
        rw [show imgB a0 a1 l2 l3 l4 = false from imgB_head (by unfold imgHead; rw [hn, beq_eq_false_iff_ne.mpr he, hn1]; rfl), if_neg (by decide)]
        exact hbad
      | true =>
        simp only [if_true]
        exact tailEv hn (by rw [hn1, Bool.or_true])
theorem iImage_eq (hh : okI a0 a1 l2 l3 l4) : impl_ImageFault.f a0 a1 l2 l3 l4 = some (if imgB a0 a1 l2 l3 l4 = true then 0 else 1) := by
  obtain ⟨h0, h1, h2, h3, h4, h5⟩ := hh
  unfold impl_ImageFault.f
  rw [if_pos]
  unfold imgSized
  simp only [Bool.and_eq_true, decide_eq_true_eq, List.all_eq_true]
  exact ⟨by omega, by omega, fun x hx => by have := (h5 x hx).1; omega⟩
end

theorem spec_l01Mod_eq (a m : Int) (hm : 0 < m) (hm1 : m ≤ 4611686018427387904) : spec_l01Mod.f a m = some (a % m) := by
  unfold spec_l01Mod.f; rw [if_neg (by omega)]; exact go_mod a m hm hm1
theorem spec_Word_eq (a : Int) : spec_Word.f a = some (a % 4294967296) := by
  unfold spec_Word.f; rw [spec_l01Mod_eq _ _ (by omega) (by omega)]; rfl

/-- One step of the checksum, as the machine reckons it. -/
def mixStep (x b : Int) : Int := Int.tmod (wrap64 ((wrap64 ((wrap64 (x * 65599)) + (wrap64 b))) + 1)) 2147483629
def mixEnd (x : Int) : Int := Int.tmod (wrap64 ((wrap64 (x * 40503)) + 77)) 2147483629
def mixFrom (s : ByteArray) (x : Int) : Nat → Int
  | 0 => x
  | n + 1 => mixStep (mixFrom s x n) (bt s n)
/-- The checksum of a text. -/
def mixOf (s : ByteArray) (seed : Int) : Int := mixEnd (mixFrom s (seed % 2147483629 + 1) s.size)

theorem impl_mix_ends (s : ByteArray) (hs : (s.size : Int) ≤ 140737488351232) (x : Int) (d : Nat) : ∀ i : Nat, i + d = s.size → Ev (fun k => impl_ymix.l0 k s (mixFrom s x i) s.size i) (mixEnd (mixFrom s x s.size)) := by
  induction d with
  | zero =>
    intro i hi
    obtain rfl : i = s.size := by omega
    exact Ev.step (f := fun _ => some (mixEnd (mixFrom s x s.size))) (fun k => by simp only [impl_ymix.l0]; rw [if_neg (by omega)]; rfl) (Ev.now _)
  | succ d ih =>
    intro i hi
    refine Ev.step (fun k => ?_) (ih (i + 1) (by omega))
    simp only [impl_ymix.l0]
    rw [if_pos (by omega), if_pos (by omega), if_pos (by omega), w64 (a := (i : Int) + 1) (by omega) (by omega)]
    have e1 : ((i : Int) + 1) = ((i + 1 : Nat) : Int) := by omega
    rw [e1]; rfl
theorem impl_ymod_eq (a m : Int) (hm : 0 < m) (hm1 : m ≤ 4611686018427387904) : impl_ymod.f a m = some (a % m) := by
  unfold impl_ymod.f; rw [if_neg (by omega)]; exact go_mod a m hm hm1
theorem impl_ymix_ev (s : ByteArray) (seed : Int) (hs : (s.size : Int) ≤ 140737488351232) : Ev (fun k => impl_ymix.f k s seed) (mixOf s seed) := by
  have h0 := Int.emod_nonneg seed (show (2147483629:Int) ≠ 0 by decide)
  have h1 := Int.emod_lt_of_pos seed (show (0:Int) < 2147483629 by decide)
  refine Ev.congr (f := fun k => impl_ymix.l0 k s (mixFrom s (seed % 2147483629 + 1) 0) s.size (0 : Nat)) (fun k => ?_) (impl_mix_ends s hs _ s.size 0 (by omega))
  unfold impl_ymix.f
  rw [impl_ymod_eq _ _ (by omega) (by omega)]
  simp only [Option.bind_some]
  rw [w64 (by omega) (by omega)]; rfl

theorem spec_mix_ends (s : ByteArray) (hs : (s.size : Int) ≤ 140737488351232) (x : Int) (d : Nat) : ∀ i : Nat, i + d = s.size → Ev (fun k => spec_Mix.l0 k s (mixFrom s x i) i) (mixEnd (mixFrom s x s.size)) := by
  induction d with
  | zero =>
    intro i hi
    obtain rfl : i = s.size := by omega
    exact Ev.step (f := fun _ => some (mixEnd (mixFrom s x s.size))) (fun k => by simp only [spec_Mix.l0]; rw [if_neg (by omega)]; rfl) (Ev.now _)
  | succ d ih =>
    intro i hi
    refine Ev.step (fun k => ?_) (ih (i + 1) (by omega))
    simp only [spec_Mix.l0]
    rw [if_pos (by omega), if_pos (by omega), w64 (a := (i : Int) + 1) (by omega) (by omega)]
    have e1 : ((i : Int) + 1) = ((i + 1 : Nat) : Int) := by omega
    rw [e1]; rfl
theorem spec_Mix_ev (s : ByteArray) (seed : Int) (hs : (s.size : Int) ≤ 65536) : Ev (fun k => spec_Mix.f k s seed) (mixOf s seed) := by
  have h0 := Int.emod_nonneg seed (show (2147483629:Int) ≠ 0 by decide)
  have h1 := Int.emod_lt_of_pos seed (show (0:Int) < 2147483629 by decide)
  refine Ev.congr (f := fun k => spec_Mix.l0 k s (mixFrom s (seed % 2147483629 + 1) 0) (0 : Nat)) (fun k => ?_) (spec_mix_ends s (by omega) _ s.size 0 (by omega))
  unfold spec_Mix.f
  rw [if_neg (by omega), spec_l01Mod_eq _ _ (by omega) (by omega)]
  simp only [Option.bind_some]
  rw [w64 (by omega) (by omega)]; rfl

def mkB (l : List UInt8) : ByteArray := ⟨l.toArray⟩
theorem mkB_of (b : ByteArray) : mkB b.data.toList = b := by
  unfold mkB
  apply ByteArray.ext
  exact Array.toArray_toList
theorem mkB_list (l : List UInt8) : (mkB l).data.toList = l := by unfold mkB; exact List.toList_toArray
theorem mkB_size (l : List UInt8) : (mkB l).size = l.length := by show l.toArray.size = _; rw [List.size_toArray]
theorem mkB_app (l : List UInt8) (b : ByteArray) : mkB l ++ b = mkB (l ++ b.data.toList) := by
  apply ByteArray.ext
  apply Array.toList_inj.1
  rw [ByteArray.data_append, Array.toList_append, mkB_list, mkB_list]
theorem spW (x : Int) : spec_PutWord.f x = some (pkW x) := by
  unfold spec_PutWord.f pkW impl_PutWord.f
  rw [spec_Word_eq]
  simp only [Option.bind_some, Option.getD_some]
  rw [Int.emod_eq_of_lt (a := x % 4294967296 / 16777216) (b := 256) (by omega) (by omega)]
theorem spShort (s : ByteArray) (hs : (s.size : Int) ≤ 1048576) : spec_l13Short.f s = some (pkN s) := by
  unfold spec_l13Short.f pkN
  rw [Option.bind_some, if_pos]
  rw [strOfNums_size]
  simp only [List.length_cons, List.length_nil]
  omega
theorem flat_bound {α : Type} (g : α → List UInt8) (b : Nat) : ∀ (l : List α), (∀ x, x ∈ l → (g x).length ≤ b) → (l.flatMap g).length ≤ l.length * b
  | [], _ => by simp
  | x :: xs, h => by
    have h1 := flat_bound g b xs (fun y hy => h y (List.mem_cons_of_mem _ hy))
    have h2 := h x List.mem_cons_self
    rw [List.flatMap_cons, List.length_append, List.length_cons, Nat.add_mul]
    omega
theorem pkTab_len (t : List Int) : (pkTab t).length ≤ t.length * 4 := flat_bound _ 4 t (fun x _ => by rw [pkW_len]; exact Nat.le_refl _)
theorem nameB_len {s : ByteArray} (h : nameB s = true) : s.size ≤ 20 := by
  unfold nameB at h
  simp only [Bool.and_eq_true, decide_eq_true_eq] at h
  have := h.2.2
  omega
theorem pkName_len {s : ByteArray} (h : s.size ≤ 20) : (pkName s).length ≤ 21 := by unfold pkName; rw [pkS_len, pkN_size]; omega
theorem pkText_len {a0 a1 : ByteArray} {l2 : List Int} {l3 : List ByteArray} {l4 : List S42} (h : imgB a0 a1 l2 l3 l4 = true) : (pkText a0 a1 l2 l3 l4).length ≤ 60000 := by
  unfold imgB imgHead at h
  simp only [Bool.and_eq_true, Bool.or_eq_true, decide_eq_true_eq, List.all_eq_true, beq_iff_eq] at h
  obtain ⟨⟨h0, h1, h2, h3, h4⟩, _, h6, h7⟩ := h
  have e0 := pkName_len (nameB_len h0)
  have e1 : (pkName a1).length ≤ 21 := by
    rcases h1 with h1 | h1
    · refine pkName_len ?_
      have : a1.size = a1.toList.length := by rw [ByteArray.toList_eq]; rw [Array.length_toList]; rfl
      rw [this, h1]; decide
    · exact pkName_len (nameB_len h1)
  have e2 : l2.length ≤ 64 := by unfold inB at h2; simp only [Bool.and_eq_true, decide_eq_true_eq] at h2; have := h2.2; omega
  have e3 : (pkDat l3).length ≤ l3.length * 16 := flat_bound _ 16 l3 (fun x hx => by
    obtain ⟨i, hi, rfl⟩ := List.getElem_of_mem hx
    have := h7 i (List.mem_range.mpr hi)
    unfold dataB rdOf at this
    rw [Int.toNat_natCast, List.getD_eq_getElem?_getD, List.getElem?_eq_getElem hi, Option.getD_some] at this
    simp only [Bool.and_eq_true, beq_iff_eq] at this
    rw [pkS_len]
    have := this.1
    omega)
  have e4 : (l4.flatMap pkSnap).length ≤ l4.length * 300 := flat_bound _ 300 l4 (fun x hx => by
    obtain ⟨i, hi, rfl⟩ := List.getElem_of_mem hx
    have := h6 i (List.mem_range.mpr hi)
    unfold snapB tabB at this
    rw [rd42 l4 i hi] at this
    simp only [Bool.and_eq_true, beq_iff_eq] at this
    have q1 := pkName_len (nameB_len this.1)
    have q2 := pkTab_len l4[i].f1
    have q3 := this.2.1.2
    unfold pkSnap
    rw [List.length_append]
    omega)
  have e5 := pkTab_len l2
  have e6 : (pkHead l2 l3 l4).length = 16 := by unfold pkHead; rw [pkS_len, ByteArray.size_append, ByteArray.size_append, ByteArray.size_append, pkW_size, pkW_size, pkW_size]; rfl
  unfold pkText
  simp only [List.length_append]
  omega
section
variable (a0 a1 : ByteArray) (l2 : List Int) (l3 : List ByteArray) (l4 : List S42)
theorem spTab_loop (t : List Int) (d : Nat) : ∀ (i : Nat) (p : List UInt8), i + d = t.length → (t.length : Int) ≤ 1048576 → p.length + d * 4 ≤ 100000000 → Ev (fun k => spec_l13PutTable.l0 k t (mkB p) (i : Int)) (mkB (p ++ pkTab (t.drop i))) := by
  induction d with
  | zero =>
    intro i p hi _ _
    rw [List.drop_eq_nil_of_le (by omega)]
    unfold pkTab
    rw [List.flatMap_nil, List.append_nil]
    exact Ev.step (f := fun _ => some (mkB p)) (fun k => by simp only [spec_l13PutTable.l0]; rw [if_neg (by omega)]) (Ev.now _)
  | succ d ih =>
    intro i p hi ht hp
    have hlt : i < t.length := by omega
    have := ih (i + 1) (p ++ (pkW (wrap64 (t[i] + 2))).data.toList) (by omega) ht (by rw [List.length_append, pkW_len]; omega)
    rw [List.append_assoc] at this
    rw [List.drop_eq_getElem_cons hlt]
    unfold pkTab at this ⊢
    rw [List.flatMap_cons]
    refine Ev.step (fun k => ?_) this
    simp only [spec_l13PutTable.l0]
    rw [if_pos (by omega), if_pos (by omega), rdi _ _ hlt, spW, Option.bind_some, if_pos (by rw [mkB_size, pkW_size]; omega), mkB_app, w64 (a := (i : Int) + 1) (by omega) (by omega), show ((i : Int) + 1) = ((i + 1 : Nat) : Int) from by omega]
theorem spTab_ev (t : List Int) (ht : (t.length : Int) ≤ 1048576) : Ev (fun k => spec_l13PutTable.f k t) (mkB (pkTab t)) := by
  have := spTab_loop t t.length 0 [] (by omega) ht (by simp only [List.length_nil]; omega)
  rw [List.nil_append, List.drop_zero] at this
  exact this
theorem spSnap_loop (hx : ∀ y, y ∈ l4 → okS y) (hl : (l4.length : Int) ≤ 1048576) (d : Nat) : ∀ (i : Nat) (p : List UInt8), i + d = l4.length → (p ++ (l4.drop i).flatMap pkSnap).length ≤ 60000 →
    Ev (fun k => spec_PackImage.l1 k (mkB p) (i : Int) a0 a1 l2 l3 l4) (mkB (p ++ (l4.drop i).flatMap pkSnap) ++ pkW (mixOf (mkB (p ++ (l4.drop i).flatMap pkSnap)) 7)) := by
  induction d with
  | zero =>
    intro i p hi hp
    rw [List.drop_eq_nil_of_le (by omega), List.flatMap_nil, List.append_nil] at hp ⊢
    have hm := spec_Mix_ev (mkB p) 7 (by rw [mkB_size]; omega)
    refine Ev.step (f := fun k => (spec_Mix.f k (mkB p) 7).bind fun t208 => ((spec_PutWord.f t208).bind fun t209 => (if (mkB p).size + t209.size ≤ 9223372036854775807 then (some (mkB p ++ t209)) else (none)))) (fun k => ?_) (Ev.bind hm ?_)
    · simp only [spec_PackImage.l1]
      rw [if_neg (by omega)]
    · simp only [spW, Option.bind_some]
      simp only [if_pos (show (mkB p).size + (pkW (mixOf (mkB p) 7)).size ≤ 9223372036854775807 by rw [mkB_size, pkW_size]; omega)]
      exact Ev.now _
  | succ d ih =>
    intro i p hi hp
    have hlt : i < l4.length := by omega
    rw [List.drop_eq_getElem_cons hlt, List.flatMap_cons] at hp ⊢
    have hy := hx _ (List.getElem_mem hlt)
    have hlen : p.length + (pkName l4[i].f0).length + (pkTab l4[i].f1).length ≤ 60000 := by
      unfold pkSnap at hp
      simp only [List.length_append] at hp
      omega
    have := ih (i + 1) (p ++ pkSnap l4[i]) (by omega) (by rw [List.append_assoc]; exact hp)
    rw [List.append_assoc] at this
    have ht := spTab_ev l4[i].f1 hy.2
    have hn1 : (pkN l4[i].f0).size = (pkName l4[i].f0).length := by unfold pkName; rw [pkS_len]
    refine Ev.step (f := fun k => (spec_l13PutTable.f k l4[i].f1).bind fun t207 => (if (mkB p ++ pkN l4[i].f0).size + t207.size ≤ 9223372036854775807 then (spec_PackImage.l1 k ((mkB p ++ pkN l4[i].f0) ++ t207) (((i + 1 : Nat) : Int)) a0 a1 l2 l3 l4) else (none))) (fun k => ?_) (Ev.bind ht ?_)
    · simp only [spec_PackImage.l1]
      rw [if_pos (by omega), if_pos (by omega), rd42 l4 i hlt, spShort _ hy.1, Option.bind_some, if_pos (by rw [mkB_size, hn1]; omega), w64 (by omega) (by omega), show ((i : Int) + 1) = ((i + 1 : Nat) : Int) from by omega]
    · simp only [if_pos (show (mkB p ++ pkN l4[i].f0).size + (mkB (pkTab l4[i].f1)).size ≤ 9223372036854775807 by rw [ByteArray.size_append, mkB_size, mkB_size, hn1]; omega)]
      rw [mkB_app, mkB_app, mkB_list, List.append_assoc]
      exact this
theorem spDat_loop (hl : (l3.length : Int) ≤ 1048576) (r : ByteArray) (d : Nat) : ∀ (i : Nat) (p : List UInt8), i + d = l3.length → (p ++ pkDat (l3.drop i)).length ≤ 60000 →
    Ev (fun k => spec_PackImage.l1 k (mkB (p ++ pkDat (l3.drop i))) 0 a0 a1 l2 l3 l4) r → Ev (fun k => spec_PackImage.l0 k (mkB p) (i : Int) a0 a1 l2 l3 l4) r := by
  induction d with
  | zero =>
    intro i p hi hp h
    rw [List.drop_eq_nil_of_le (by omega)] at h
    unfold pkDat at h
    rw [List.flatMap_nil, List.append_nil] at h
    exact Ev.step (fun k => by simp only [spec_PackImage.l0]; rw [if_neg (by omega)]) h
  | succ d ih =>
    intro i p hi hp h
    have hlt : i < l3.length := by omega
    have hr : rdOf ByteArray.empty l3 (i : Int) = l3[i] := by unfold rdOf; rw [Int.toNat_natCast, List.getD_eq_getElem?_getD, List.getElem?_eq_getElem hlt, Option.getD_some]
    have hd : pkDat (l3.drop i) = (l3[i]).data.toList ++ pkDat (l3.drop (i + 1)) := by rw [List.drop_eq_getElem_cons hlt]; unfold pkDat; rw [List.flatMap_cons]
    rw [hd, ← List.append_assoc] at h hp
    have := ih (i + 1) (p ++ (l3[i]).data.toList) (by omega) hp h
    have hs : p.length + (l3[i]).size ≤ 60000 := by
      simp only [List.length_append, pkS_len] at hp
      omega
    refine Ev.step (fun k => ?_) this
    simp only [spec_PackImage.l0]
    rw [if_pos (by omega), if_pos (by omega), hr, if_pos (by rw [mkB_size]; omega), mkB_app, w64 (by omega) (by omega), show ((i : Int) + 1) = ((i + 1 : Nat) : Int) from by omega]
def packR : ByteArray := mkB (pkText a0 a1 l2 l3 l4) ++ pkW (mixOf (mkB (pkText a0 a1 l2 l3 l4)) 7)
theorem sPack_ev (hh : okI a0 a1 l2 l3 l4) : Ev (fun k => spec_PackImage.f k a0 a1 l2 l3 l4) (if imgB a0 a1 l2 l3 l4 = true then packR a0 a1 l2 l3 l4 else (⟨#[]⟩ : ByteArray)) := by
  have hs := sImage_ev a0 a1 l2 l3 l4 hh
  obtain ⟨h0, h1, h2, h3, h4, h5⟩ := hh
  unfold spec_PackImage.f
  refine Ev.bind hs ?_
  cases hi : imgB a0 a1 l2 l3 l4 with
  | false =>
    simp only [Bool.false_eq_true, if_false, show ¬ ((1 : Int) = 0) from by decide]
    exact Ev.now _
  | true =>
    have hlen := pkText_len hi
    have hl := hlen
    unfold pkText at hl
    simp only [List.length_append] at hl
    have hn0 : (pkN a0).size = (pkName a0).length := by unfold pkName; rw [pkS_len]
    have hn1 : (pkN a1).size = (pkName a1).length := by unfold pkName; rw [pkS_len]
    have hhd : (((⟨#[73, 77, 71, 49]⟩ : ByteArray) ++ pkW (l2.length : Int)) ++ pkW (l3.length : Int)) ++ pkW (l4.length : Int) = mkB (pkHead l2 l3 l4) := by unfold pkHead; rw [mkB_of]
    have hz : (⟨#[73, 77, 71, 49]⟩ : ByteArray).size = 4 := rfl
    simp only [if_true, spW, Option.bind_some]
    simp only [pkW_size, ByteArray.size_append, hz, if_pos (show 4 + 4 ≤ 9223372036854775807 by decide), if_pos (show 4 + 4 + 4 ≤ 9223372036854775807 by decide), if_pos (show 4 + 4 + 4 + 4 ≤ 9223372036854775807 by decide), spShort a0 h0, spShort a1 h1, Option.bind_some, hn0, hn1]
    simp only [if_pos (show 4 + 4 + 4 + 4 + (pkName a0).length ≤ 9223372036854775807 by omega), if_pos (show 4 + 4 + 4 + 4 + (pkName a0).length + (pkName a1).length ≤ 9223372036854775807 by omega)]
    refine Ev.bind (spTab_ev l2 h2) ?_
    simp only [mkB_size, if_pos (show 4 + 4 + 4 + 4 + (pkName a0).length + (pkName a1).length + (pkTab l2).length ≤ 9223372036854775807 by omega)]
    rw [hhd, mkB_app, mkB_app, mkB_app, mkB_list]
    refine spDat_loop a0 a1 l2 l3 l4 h3 _ l3.length 0 _ (by omega) ?_ ?_
    · rw [List.drop_zero]
      show ((((pkHead l2 l3 l4 ++ pkName a0) ++ pkName a1) ++ pkTab l2) ++ pkDat l3).length ≤ 60000
      simp only [List.length_append]; omega
    · have := spSnap_loop a0 a1 l2 l3 l4 h5 h4 l4.length 0 ((((pkHead l2 l3 l4 ++ pkName a0) ++ pkName a1) ++ pkTab l2) ++ pkDat l3) (by omega) (by rw [List.drop_zero]; exact hlen)
      rw [List.drop_zero] at this ⊢
      exact this
theorem iPack_ev (hh : okI a0 a1 l2 l3 l4) : Ev (fun k => impl_PackImage.f k a0 a1 l2 l3 l4) (if imgB a0 a1 l2 l3 l4 = true then packR a0 a1 l2 l3 l4 else (⟨#[]⟩ : ByteArray)) := by
  obtain ⟨h0, h1, h2, h3, h4, h5⟩ := hh
  have hsz : imgSized a0 a1 l4 = true := by
    unfold imgSized
    simp only [Bool.and_eq_true, decide_eq_true_eq, List.all_eq_true]
    exact ⟨by omega, by omega, fun x hx => by have := (h5 x hx).1; omega⟩
  unfold impl_PackImage.f
  simp only [if_pos hsz]
  cases hi : imgB a0 a1 l2 l3 l4 with
  | false => simp only [Bool.false_eq_true, if_false]; exact Ev.now _
  | true =>
    have hlen := pkText_len hi
    simp only [if_true, if_pos (show (pkText a0 a1 l2 l3 l4).length ≤ 1000000 by omega)]
    exact Ev.bind (impl_ymix_ev (mkB (pkText a0 a1 l2 l3 l4)) 7 (by rw [mkB_size]; omega)) (Ev.now _)
end

theorem FnExactPackImage : laws_FnExactPackImage.Pure := by
  intro a0 a1 l2 l3 l4 h0 h1 h2 h3 h4
  refine Ev.rounds (r := true) ?_
  obtain ⟨r, hr, hc⟩ := szIm_ev a0 a1 l2 l3 l4 1048576 (by omega) (by omega) h0 h1 h2.1 h3.1 h3.2 h4.1 (fun x hx => by
    have := h4.2 x hx
    unfold Q71 at this
    exact ⟨this.1, this.2.1⟩)
  unfold laws_FnExactPackImage.f
  refine Ev.bind hr ?_
  by_cases hn : r < 0
  · simp only [if_pos hn]; exact Ev.now _
  · simp only [if_neg hn]
    obtain ⟨_, _, hok⟩ := hc.resolve_left hn
    have tov := toIm_ev a0 a1 l2 l3 l4 hok
    have hoi := okI_of hok
    refine Ev.bind tov (Ev.bind (sPack_ev a0 a1 l2 l3 (l4.map toSn) hoi) (Ev.bind tov (Ev.bind (iPack_ev a0 a1 l2 l3 (l4.map toSn) hoi) ?_)))
    simp only [if_true]
    refine Ev.bind tov (Ev.bind (eqIm_ev a0 a1 l2 l3 (l4.map toSn) hoi) ?_)
    simp only [if_true]
    exact Ev.now _

end Go.Proofs.Ytoifdnnjdohfmaa.Pure
