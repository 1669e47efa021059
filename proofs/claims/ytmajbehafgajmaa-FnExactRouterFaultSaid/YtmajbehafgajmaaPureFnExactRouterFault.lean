/- The program's RouterFault returns what the reference's returns, for all arguments. Conditions: none. -/
import Derived.Test.YtmajbehafgajmaaQFnExactRouterFaultx
import Derived.Test.YtmajbehafgajmaaPl
import Derived.Test.YtmajbehafgajmaaTFnExactRouterFault
set_option linter.unusedVariables false
set_option linter.unusedSimpArgs false
namespace Go.Proofs.Ytmajbehafgajmaa.Pure
open Go.RowKit Go.Proofs.Ytmajbehafgajmaa.QFnExactRouterFault Go.Proofs.YtmajbehafgajmaaW.PrintWords Go.Proofs.YtmajbehafgajmaaW.PrintLast Go.Proofs.Ytmajbehafgajmaa.Pl Go.Proofs.YtmajbehafgajmaaW.PrintMore
/-- p holds of i, i + 1, .., d numbers. -/
def allF (p : Nat → Bool) : Nat → Nat → Bool
  | _, 0 => true
  | i, d + 1 => p i && allF p (i + 1) d
theorem allF_and (p q : Nat → Bool) : ∀ d i, allF (fun j => p j && q j) i d = (allF p i d && allF q i d)
  | 0, _ => rfl
  | d + 1, i => by simp only [allF, allF_and p q d (i + 1)]; ac_rfl
theorem allF_congr (p q : Nat → Bool) : ∀ d i, (∀ j, i ≤ j → j < i + d → p j = q j) → allF p i d = allF q i d
  | 0, _, _ => rfl
  | d + 1, i, h => by simp only [allF]; rw [h i (Nat.le_refl _) (by omega), allF_congr p q d (i + 1) (fun j h1 h2 => h j (by omega) (by omega))]
theorem allF_const (b : Bool) (p : Nat → Bool) : ∀ d i, allF (fun j => b && p j) i (d + 1) = (b && allF p i (d + 1))
  | 0, i => by simp [allF]
  | d + 1, i => by
    have := allF_const b p d (i + 1)
    simp only [allF] at this ⊢
    rw [this]
    cases b <;> simp
/-- A loop that asks p of every number below n: at the first that fails it ends with bad, else it goes on to good. -/
theorem ev_all {ρ : Type} (L : Nat → Int → Option ρ) (p : Nat → Bool) (bad good : ρ) (n : Nat)
    (hs : ∀ i, i < n → p i = true → ∀ r, Ev (fun k => L k ((i + 1 : Nat) : Int)) r → Ev (fun k => L k (i : Int)) r)
    (hb : ∀ i, i < n → p i = false → Ev (fun k => L k (i : Int)) bad)
    (he : Ev (fun k => L k (n : Int)) good) : ∀ d i, i + d = n → Ev (fun k => L k (i : Int)) (if allF p i d = true then good else bad)
  | 0, i, h => by
    obtain rfl : i = n := by omega
    simp only [allF, if_true]; exact he
  | d + 1, i, h => by
    cases hp : p i with
    | true =>
      simp only [allF, hp, Bool.true_and]
      exact hs i (by omega) hp _ (ev_all L p bad good n hs hb he d (i + 1) (by omega))
    | false =>
      simp only [allF, hp, Bool.false_and, Bool.false_eq_true, if_false]
      exact hb i (by omega) hp
theorem ww (a : Int) : wrap64 (wrap64 a) = wrap64 a := by unfold wrap64; omega
theorem ev_all2 {ρ : Type} (L : Nat → Int → Option ρ) (p : Nat → Bool) (bad good : ρ) (lo n : Nat)
    (hs : ∀ i, lo ≤ i → i < n → ∀ r, Ev (fun k => L k ((i + 1 : Nat) : Int)) r → Ev (fun k => L k (i : Int)) (if p i = true then r else bad))
    (he : Ev (fun k => L k (n : Int)) good) : ∀ d i, lo ≤ i → i + d = n → Ev (fun k => L k (i : Int)) (if allF p i d = true then good else bad)
  | 0, i, _, h => by
    obtain rfl : i = n := by omega
    simp only [allF, if_true]; exact he
  | d + 1, i, hl, h => by
    have := hs i hl (by omega) _ (ev_all2 L p bad good lo n hs he d (i + 1) (by omega) (by omega))
    cases hp : p i with
    | true => rw [hp, if_pos rfl] at this; simp only [allF, hp, Bool.true_and]; exact this
    | false => rw [hp, if_neg (by simp)] at this; simp only [allF, hp, Bool.false_and, Bool.false_eq_true, if_false]; exact this
theorem allF_split (p : Nat → Bool) : ∀ d1 d2 i, allF p i (d1 + d2) = (allF p i d1 && allF p (i + d1) d2)
  | 0, d2, i => by simp [allF]
  | d1 + 1, d2, i => by
    rw [show d1 + 1 + d2 = (d1 + d2) + 1 from by omega]
    simp only [allF]
    rw [allF_split p d1 d2 (i + 1), show i + 1 + d1 = i + (d1 + 1) from by omega, Bool.and_assoc]
theorem allF_true (p : Nat → Bool) : ∀ d i, (∀ j, i ≤ j → j < i + d → p j = true) → allF p i d = true
  | 0, _, _ => rfl
  | d + 1, i, h => by simp only [allF]; rw [h i (Nat.le_refl _) (by omega), allF_true p d (i + 1) (fun j h1 h2 => h j (by omega) (by omega))]; rfl
theorem nat1 (i : Nat) : ((i : Int) + 1) = ((i + 1 : Nat) : Int) := by omega
theorem ite_b (b : Bool) : (if b = true then true else false) = b := by cases b <;> rfl

/-- A loop that takes the size of every element off a budget: it ends, below zero or with every element small. -/
theorem sz_loop {α : Type} (d : α) (M : Int) (ok : α → Prop) (L : Nat → List α → Int → Int → Option Int) (g : Nat → α → Int → Option Int)
    (hL : ∀ k xs s i, L (k + 1) xs s i = if i < (xs.length : Int) then (if 0 ≤ i then ((g k (xs.getD i.toNat d) s).bind fun t => (if t < 0 then (some (-1)) else (L k xs t (wrap64 (i + 1))))) else none) else some s)
    (xs : List α) (hlen : (xs.length : Int) ≤ 4611686018427387904)
    (hg : ∀ x s, x ∈ xs → 0 ≤ s → s ≤ M → ∃ t, Ev (fun k => g k x s) t ∧ (t < 0 ∨ (0 ≤ t ∧ t ≤ s ∧ ok x))) (e : Nat) :
    ∀ (j : Nat) (s : Int), 0 ≤ s → s ≤ M → j ≤ xs.length → xs.length - j = e → (∀ q, q < j → ok (xs.getD q d)) → ∃ r, Ev (fun k => L k xs s (j : Int)) r ∧ (r < 0 ∨ (0 ≤ r ∧ r ≤ s ∧ ∀ x, x ∈ xs → ok x)) := by
  induction e with
  | zero =>
    intro j s h0 hM hj he hok
    refine ⟨s, Ev.step (f := fun _ => some s) (fun k => by rw [hL, if_neg (by omega)]) (Ev.now _), Or.inr ⟨h0, Int.le_refl _, fun x hx => ?_⟩⟩
    obtain ⟨q, hq, rfl⟩ := List.getElem_of_mem hx
    have := hok q (by omega)
    rwa [List.getD_eq_getElem?_getD, List.getElem?_eq_getElem hq, Option.getD_some] at this
  | succ e ih =>
    intro j s h0 hM hj he hok
    have hlt : j < xs.length := by omega
    have hmem : xs.getD j d ∈ xs := by
      rw [List.getD_eq_getElem?_getD, List.getElem?_eq_getElem hlt, Option.getD_some]; exact List.getElem_mem hlt
    obtain ⟨t, ht, hc⟩ := hg (xs.getD j d) s hmem h0 hM
    have hs : ∀ k, L (k + 1) xs s (j : Int) = ((g k (xs.getD j d) s).bind fun t => (if t < 0 then (some (-1)) else (L k xs t (wrap64 ((j : Int) + 1))))) := fun k => by
      rw [hL, if_pos (by omega), if_pos (by omega), Int.toNat_natCast]
    by_cases hn : t < 0
    · refine ⟨-1, Ev.step (fun k => hs k) (Ev.bind ht ?_), Or.inl (by omega)⟩
      simp only [if_pos hn]
      exact Ev.now _
    · have hc' := hc.resolve_left hn
      obtain ⟨r, hr, hrc⟩ := ih (j + 1) t hc'.1 (by omega) (by omega) (by omega) (fun q hq => by
        by_cases hqj : q = j
        · subst hqj; exact hc'.2.2
        · exact hok q (by omega))
      refine ⟨r, Ev.step (fun k => hs k) (Ev.bind ht ?_), ?_⟩
      · simp only [if_neg hn]
        rw [w64 (by omega) (by omega), show ((j : Int) + 1) = ((j + 1 : Nat) : Int) from by omega]
        exact hr
      · rcases hrc with h | h
        · exact Or.inl h
        · exact Or.inr ⟨h.1, by omega, h.2.2⟩
/-- A loop that turns every element. -/
theorem to_loop {α β γ : Type} (d : α) (z : β) (mk : γ → β) (c : α → β) (L : Nat → List α → List β → Int → Option (List β)) (g : Nat → α → Option γ)
    (hL : ∀ k xs ys i, L (k + 1) xs ys i = if i < (xs.length : Int) then (if 0 ≤ i then ((g k (xs.getD i.toNat d)).bind fun b => (if i < (ys.length : Int) then (L k xs (ys.set i.toNat (mk b)) (wrap64 (i + 1))) else none)) else none) else some ys)
    (xs : List α) (hlen : (xs.length : Int) ≤ 4611686018427387904)
    (hg : ∀ x, x ∈ xs → ∃ b, Ev (fun k => g k x) b ∧ mk b = c x) (e : Nat) :
    ∀ (j : Nat), j ≤ xs.length → xs.length - j = e → Ev (fun k => L k xs ((xs.take j).map c ++ List.replicate (xs.length - j) z) (j : Int)) (xs.map c) := by
  induction e with
  | zero =>
    intro j hj he
    obtain rfl : j = xs.length := by omega
    refine Ev.step (f := fun _ => some (xs.map c)) (fun k => ?_) (Ev.now _)
    rw [hL, if_neg (by omega), List.take_length, Nat.sub_self, List.replicate_zero, List.append_nil]
  | succ e ih =>
    intro j hj he
    have hlt : j < xs.length := by omega
    have hx : xs.getD j d = xs[j] := by rw [List.getD_eq_getElem?_getD, List.getElem?_eq_getElem hlt, Option.getD_some]
    obtain ⟨b, hb, hbc⟩ := hg xs[j] (List.getElem_mem hlt)
    have hlm : ((xs.take j).map c).length = j := by rw [List.length_map, List.length_take]; omega
    have hly : (((xs.take j).map c ++ List.replicate (xs.length - j) z).length : Int) = (xs.length : Int) := by
      rw [List.length_append, hlm, List.length_replicate]; omega
    have hset : (((xs.take j).map c ++ List.replicate (xs.length - j) z).set j (mk b)) = (xs.take (j + 1)).map c ++ List.replicate (xs.length - (j + 1)) z := by
      rw [List.set_append_right _ _ (by omega), hlm, Nat.sub_self, show xs.length - j = (xs.length - (j + 1)) + 1 from by omega, List.replicate_succ, List.set_cons_zero, hbc, List.take_succ_eq_append_getElem hlt, List.map_append, List.append_assoc]
      rfl
    refine Ev.step (f := fun k => (g k xs[j]).bind fun b => L k xs (((xs.take j).map c ++ List.replicate (xs.length - j) z).set j (mk b)) (((j + 1 : Nat) : Int))) (fun k => ?_) (Ev.bind (f := fun k b => L k xs (((xs.take j).map c ++ List.replicate (xs.length - j) z).set j (mk b)) (((j + 1 : Nat) : Int))) hb ?_)
    · have hlj : (j : Int) < (xs.length : Int) := by omega
      rw [hL, if_pos (by omega), if_pos (by omega), Int.toNat_natCast, hx, hly, w64 (by omega) (by omega)]
      simp only [if_pos hlj]
      rfl
    · rw [hset]
      exact ih (j + 1) (by omega) (by omega)
/-- A loop that asks every pair of elements. -/
theorem eq_loop {α : Type} (d : α) (L : Nat → List α → List α → Int → Option Bool) (g : Nat → α → α → Option Bool)
    (hL : ∀ k xs ys i, L (k + 1) xs ys i = if i < (xs.length : Int) then (if 0 ≤ i then (if i < (ys.length : Int) then ((g k (xs.getD i.toNat d) (ys.getD i.toNat d)).bind fun t => (if t = true then (L k xs ys (wrap64 (i + 1))) else (some false))) else none) else none) else some true)
    (xs : List α) (hlen : (xs.length : Int) ≤ 4611686018427387904)
    (hg : ∀ x, x ∈ xs → Ev (fun k => g k x x) true) (e : Nat) :
    ∀ (j : Nat), j ≤ xs.length → xs.length - j = e → Ev (fun k => L k xs xs (j : Int)) true := by
  induction e with
  | zero =>
    intro j hj he
    exact Ev.step (f := fun _ => some true) (fun k => by rw [hL, if_neg (by omega)]) (Ev.now _)
  | succ e ih =>
    intro j hj he
    have hlt : j < xs.length := by omega
    have hx : xs.getD j d = xs[j] := by rw [List.getD_eq_getElem?_getD, List.getElem?_eq_getElem hlt, Option.getD_some]
    refine Ev.step (f := fun k => (g k xs[j] xs[j]).bind fun t => (if t = true then L k xs xs (((j + 1 : Nat) : Int)) else (some false))) (fun k => ?_) (Ev.bind (f := fun k t => (if t = true then L k xs xs (((j + 1 : Nat) : Int)) else (some false))) (hg xs[j] (List.getElem_mem hlt)) ?_)
    · rw [hL, if_pos (by omega), if_pos (by omega), Int.toNat_natCast, hx, if_pos (by omega), w64 (by omega) (by omega)]
      rfl
    · simp only [if_true]
      exact ih (j + 1) (by omega) (by omega)

theorem toInt64S_ends (l : List Int) (hl : (l.length : Int) ≤ 1048576) (d : Nat) : ∀ (i : Nat) (m : List Int), i + d = l.length → m.length = l.length → (∀ j, j < i → m.getD j 0 = l.getD j 0) → Ev (fun k => laws_toInt64S.l0 k l m i) l := by
  induction d with
  | zero =>
    intro i m hi hm hj
    have e : m = l := by
      refine List.ext_getElem hm (fun j h1 h2 => ?_)
      have := hj j (by omega)
      rw [List.getD_eq_getElem?_getD, List.getD_eq_getElem?_getD, List.getElem?_eq_getElem h1, List.getElem?_eq_getElem h2] at this
      simpa using this
    exact Ev.step (f := fun _ => some l) (fun k => by simp only [laws_toInt64S.l0]; rw [if_neg (by omega), e]) (Ev.now _)
  | succ d ih =>
    intro i m hi hm hj
    refine Ev.step (fun k => ?_) (ih (i + 1) (m.set i (rd l i)) (by omega) (by simpa using hm) (fun j hji => ?_))
    · simp only [laws_toInt64S.l0]
      rw [if_pos (by omega), if_pos (by omega), if_pos (by omega), w64 (a := (i : Int) + 1) (by omega) (by omega), Int.toNat_natCast]
      have e1 : ((i : Int) + 1) = ((i + 1 : Nat) : Int) := by omega
      rw [e1]
    · by_cases e : j = i
      · subst e
        rw [List.getD_eq_getElem?_getD, List.getElem?_set_self (by omega)]
        unfold rd; rw [Int.toNat_natCast]; rfl
      · rw [List.getD_eq_getElem?_getD, List.getElem?_set_ne (by omega), ← List.getD_eq_getElem?_getD]
        exact hj j (by omega)
theorem toInt64S_ev (l : List Int) (hl : (l.length : Int) ≤ 1048576) : Ev (fun k => laws_toInt64S.f k l) l := by
  refine Ev.congr (fun k => ?_) (toInt64S_ends l hl l.length 0 (List.replicate l.length 0) (by omega) (by simp) (fun j hj => absurd hj (Nat.not_lt_zero _)))
  unfold laws_toInt64S.f
  rw [if_pos (by omega), if_pos (by omega), Int.toNat_natCast]; rfl
theorem eqInt64S_ends (l : List Int) (hl : (l.length : Int) ≤ 1048576) (d : Nat) : ∀ i : Nat, i + d = l.length → Ev (fun k => laws_eqInt64S.l0 k l l i) true := by
  induction d with
  | zero =>
    intro i hi
    exact Ev.step (f := fun _ => some true) (fun k => by simp only [laws_eqInt64S.l0]; rw [if_neg (by omega)]) (Ev.now _)
  | succ d ih =>
    intro i hi
    refine Ev.step (fun k => ?_) (ih (i + 1) (by omega))
    simp only [laws_eqInt64S.l0]
    rw [if_pos (by omega), if_pos (by omega), if_pos (by omega), if_pos trivial, w64 (a := (i : Int) + 1) (by omega) (by omega)]
    have e1 : ((i : Int) + 1) = ((i + 1 : Nat) : Int) := by omega
    rw [e1]
theorem eqInt64S_ev (l : List Int) (hl : (l.length : Int) ≤ 1048576) : Ev (fun k => laws_eqInt64S.f k l l) true := by
  refine Ev.congr (fun k => ?_) (eqInt64S_ends l hl l.length 0 (by omega))
  unfold laws_eqInt64S.f
  rw [if_pos rfl]; rfl

theorem szI_ev (l : List Int) (m : Int) (h0 : 0 ≤ m) (hm : m ≤ 1048576) (hl : l.length ≤ 9223372036854775807) : ∃ r, laws_szInt64S.f l m = some r ∧ (r < 0 ∨ (0 ≤ r ∧ r ≤ m ∧ (l.length : Int) ≤ 1048576)) := by
  unfold laws_szInt64S.f
  rw [w64 (a := m - (l.length : Int)) (by omega) (by omega)]
  by_cases hn : m - (l.length : Int) < 0
  · rw [if_pos hn]; exact ⟨-1, rfl, Or.inl (by omega)⟩
  · rw [if_neg hn]; exact ⟨_, rfl, Or.inr (by omega)⟩
theorem szL_ev (l : List S166) (m : Int) (h0 : 0 ≤ m) (hm : m ≤ 1048576) (hl : l.length ≤ 9223372036854775807) : ∃ r, laws_szLaneS.f l m = some r ∧ (r < 0 ∨ (0 ≤ r ∧ r ≤ m ∧ (l.length : Int) ≤ 1048576)) := by
  unfold laws_szLaneS.f
  rw [w64 (a := m - (l.length : Int)) (by omega) (by omega)]
  by_cases hn : m - (l.length : Int) < 0
  · rw [if_pos hn]; exact ⟨-1, rfl, Or.inl (by omega)⟩
  · rw [if_neg hn]; exact ⟨_, rfl, Or.inr (by omega)⟩
theorem szR_ev (l : List S169) (m : Int) (h0 : 0 ≤ m) (hm : m ≤ 1048576) (hl : l.length ≤ 9223372036854775807) : ∃ r, laws_szRemapS.f l m = some r ∧ (r < 0 ∨ (0 ≤ r ∧ r ≤ m ∧ (l.length : Int) ≤ 1048576)) := by
  unfold laws_szRemapS.f
  rw [w64 (a := m - (l.length : Int)) (by omega) (by omega)]
  by_cases hn : m - (l.length : Int) < 0
  · rw [if_pos hn]; exact ⟨-1, rfl, Or.inl (by omega)⟩
  · rw [if_neg hn]; exact ⟨_, rfl, Or.inr (by omega)⟩
def okC (g : S164) : Prop := (g.f1.length : Int) ≤ 1048576 ∧ (g.f2.length : Int) ≤ 1048576
theorem szC_ev (g : S164) (m : Int) (h0 : 0 ≤ m) (hm : m ≤ 1048576) (l1 : g.f1.length ≤ 9223372036854775807) (l2 : g.f2.length ≤ 9223372036854775807) :
    ∃ r, laws_szRouterCpu.f g.f0 g.f1 g.f2 m = some r ∧ (r < 0 ∨ (0 ≤ r ∧ r ≤ m ∧ okC g)) := by
  unfold laws_szRouterCpu.f
  obtain ⟨r1, e1, c1⟩ := szI_ev g.f1 m h0 hm l1
  rw [e1, Option.bind_some]
  by_cases n1 : r1 < 0
  · rw [if_pos n1]; exact ⟨_, rfl, Or.inl (by omega)⟩
  · rw [if_neg n1]
    obtain ⟨a1, b1, d1⟩ := c1.resolve_left n1
    obtain ⟨r3, e3, c3⟩ := szI_ev g.f2 r1 (by omega) (by omega) l2
    rw [e3, Option.bind_some]
    by_cases n3 : r3 < 0
    · rw [if_pos n3]; exact ⟨_, rfl, Or.inl (by omega)⟩
    · rw [if_neg n3]
      obtain ⟨a3, b3, d3⟩ := c3.resolve_left n3
      exact ⟨_, rfl, Or.inr ⟨a3, by omega, d1, d3⟩⟩
theorem szCs_ev (l : List S164) (m : Int) (h0 : 0 ≤ m) (hm : m ≤ 1048576) (hl : l.length ≤ 9223372036854775807) (hx : ∀ x, x ∈ l → x.f1.length ≤ 9223372036854775807 ∧ x.f2.length ≤ 9223372036854775807) :
    ∃ r, Ev (fun k => laws_szRouterCpuS.f k l m) r ∧ (r < 0 ∨ (0 ≤ r ∧ r ≤ m ∧ (l.length : Int) ≤ 1048576 ∧ ∀ x, x ∈ l → okC x)) := by
  unfold laws_szRouterCpuS.f
  rw [w64 (a := m - (l.length : Int)) (by omega) (by omega)]
  by_cases hn : m - (l.length : Int) < 0
  · simp only [if_pos hn]; exact ⟨-1, Ev.now _, Or.inl (by omega)⟩
  · simp only [if_neg hn]
    obtain ⟨r, hr, hc⟩ := sz_loop z164 1048576 okC laws_szRouterCpuS.l0 (fun _ (x : S164) s => laws_szRouterCpu.f x.f0 x.f1 x.f2 s) (fun k xs s i => by simp only [laws_szRouterCpuS.l0]; rfl) l (by omega) (fun x s hxl h1 h2 => by
      obtain ⟨u1, u2⟩ := hx x hxl
      obtain ⟨r, e, c⟩ := szC_ev x s h1 h2 u1 u2
      exact ⟨r, Ev.congr (fun _ => e) (Ev.now r), c⟩) l.length 0 (m - (l.length : Int)) (by omega) (by omega) (Nat.zero_le _) rfl (fun q hq => absurd hq (Nat.not_lt_zero _))
    refine ⟨r, hr, ?_⟩
    rcases hc with h | h
    · exact Or.inl h
    · exact Or.inr ⟨h.1, by omega, by omega, h.2.2⟩
theorem szRouter_ev (a : List S166) (b : List S164) (c : List S169) (ha : a.length ≤ 9223372036854775807) (hb : b.length ≤ 9223372036854775807) (hc : c.length ≤ 9223372036854775807) (hx : ∀ x, x ∈ b → x.f1.length ≤ 9223372036854775807 ∧ x.f2.length ≤ 9223372036854775807) :
    ∃ r, Ev (fun k => laws_szRouter.f k a b c 1048576) r ∧ (r < 0 ∨ ((a.length : Int) ≤ 1048576 ∧ (b.length : Int) ≤ 1048576 ∧ (c.length : Int) ≤ 1048576 ∧ ∀ x, x ∈ b → okC x)) := by
  unfold laws_szRouter.f
  obtain ⟨r1, e1, c1⟩ := szL_ev a 1048576 (by omega) (by omega) ha
  simp only [e1, Option.bind_some]
  by_cases n1 : r1 < 0
  · exact ⟨-1, by simp only [if_pos n1]; exact Ev.now _, Or.inl (by omega)⟩
  · obtain ⟨a1, b1, d1⟩ := c1.resolve_left n1
    simp only [if_neg n1]
    obtain ⟨r2, e2, c2⟩ := szCs_ev b r1 a1 (by omega) hb hx
    by_cases n2 : r2 < 0
    · exact ⟨-1, Ev.bind e2 (by simp only [if_pos n2]; exact Ev.now _), Or.inl (by omega)⟩
    · obtain ⟨a2, b2, d2, d4⟩ := c2.resolve_left n2
      obtain ⟨r3, e3, c3⟩ := szR_ev c r2 a2 (by omega) hc
      by_cases n3 : r3 < 0
      · exact ⟨-1, Ev.bind e2 (by simp only [if_neg n2, e3, Option.bind_some, if_pos n3]; exact Ev.now _), Or.inl (by omega)⟩
      · obtain ⟨a3, b3, d3⟩ := c3.resolve_left n3
        exact ⟨r3, Ev.bind e2 (by simp only [if_neg n2, e3, Option.bind_some, if_neg n3]; exact Ev.now _), Or.inr ⟨d1, d2, d3, d4⟩⟩
def toL (x : S166) : S107 := ⟨x.f0, x.f1, x.f2, x.f3, x.f4⟩
theorem toL_ev (l : List S166) (hl : (l.length : Int) ≤ 1048576) : Ev (fun k => laws_toLaneS.f k l) (l.map toL) := by
  have := to_loop z166 z107 (fun b : Int × Int × Bool × Bool × Bool => (⟨b.1, b.2.1, b.2.2.1, b.2.2.2.1, b.2.2.2.2⟩ : S107)) toL laws_toLaneS.l0 (fun _ x => laws_toLane.f x.f0 x.f1 x.f2 x.f3 x.f4) (fun k xs ys i => by simp only [laws_toLaneS.l0]; rfl) l (by omega) (fun x hx => ⟨_, Ev.now _, rfl⟩) l.length 0 (Nat.zero_le _) rfl
  refine Ev.congr (fun k => ?_) this
  unfold laws_toLaneS.f
  rw [if_pos (by omega), if_pos (by omega), Int.toNat_natCast]
  rfl
def toR (x : S169) : S113 := ⟨x.f0, x.f1, x.f2, x.f3⟩
theorem toR_ev (l : List S169) (hl : (l.length : Int) ≤ 1048576) : Ev (fun k => laws_toRemapS.f k l) (l.map toR) := by
  have := to_loop z169 z113 (fun b : Int × Int × Int × Int => (⟨b.1, b.2.1, b.2.2.1, b.2.2.2⟩ : S113)) toR laws_toRemapS.l0 (fun _ x => laws_toRemap.f x.f0 x.f1 x.f2 x.f3) (fun k xs ys i => by simp only [laws_toRemapS.l0]; rfl) l (by omega) (fun x hx => ⟨_, Ev.now _, rfl⟩) l.length 0 (Nat.zero_le _) rfl
  refine Ev.congr (fun k => ?_) this
  unfold laws_toRemapS.f
  rw [if_pos (by omega), if_pos (by omega), Int.toNat_natCast]
  rfl
def toC (x : S164) : S111 := ⟨x.f0, x.f1, x.f2⟩
theorem toC_ev (l : List S164) (hl : (l.length : Int) ≤ 1048576) (hx : ∀ x, x ∈ l → okC x) : Ev (fun k => laws_toRouterCpuS.f k l) (l.map toC) := by
  have := to_loop z164 z111 (fun b : Int × List Int × List Int => (⟨b.1, b.2.1, b.2.2⟩ : S111)) toC laws_toRouterCpuS.l0 (fun k x => laws_toRouterCpu.f k x.f0 x.f1 x.f2) (fun k xs ys i => by simp only [laws_toRouterCpuS.l0]; rfl) l (by omega) (fun x hxl => ⟨(x.f0, x.f1, x.f2), by
    unfold laws_toRouterCpu.f
    exact Ev.bind (toInt64S_ev x.f1 (hx x hxl).1) (Ev.bind (toInt64S_ev x.f2 (hx x hxl).2) (Ev.now _)), rfl⟩) l.length 0 (Nat.zero_le _) rfl
  refine Ev.congr (fun k => ?_) this
  unfold laws_toRouterCpuS.f
  rw [if_pos (by omega), if_pos (by omega), Int.toNat_natCast]
  rfl
theorem eqL_ev (l : List S107) (hl : (l.length : Int) ≤ 1048576) : Ev (fun k => laws_eqLaneS.f k l l) true := by
  have := eq_loop z107 laws_eqLaneS.l0 (fun _ x y => laws_eqLane.f x.f0 x.f1 x.f2 x.f3 x.f4 y.f0 y.f1 y.f2 y.f3 y.f4) (fun k xs ys i => by simp only [laws_eqLaneS.l0]; rfl) l (by omega) (fun x _ => Ev.congr (fun k => by unfold laws_eqLane.f; rw [if_pos rfl, if_pos rfl]; cases x.f2 <;> cases x.f3 <;> cases x.f4 <;> rfl) (Ev.now _)) l.length 0 (Nat.zero_le _) rfl
  refine Ev.congr (fun k => ?_) this
  unfold laws_eqLaneS.f
  rw [if_pos rfl]
  rfl
theorem eqR_ev (l : List S113) (hl : (l.length : Int) ≤ 1048576) : Ev (fun k => laws_eqRemapS.f k l l) true := by
  have := eq_loop z113 laws_eqRemapS.l0 (fun _ x y => laws_eqRemap.f x.f0 x.f1 x.f2 x.f3 y.f0 y.f1 y.f2 y.f3) (fun k xs ys i => by simp only [laws_eqRemapS.l0]; rfl) l (by omega) (fun x _ => Ev.congr (fun k => by unfold laws_eqRemap.f; rw [if_pos rfl, if_pos rfl, if_pos rfl, if_pos rfl]) (Ev.now _)) l.length 0 (Nat.zero_le _) rfl
  refine Ev.congr (fun k => ?_) this
  unfold laws_eqRemapS.f
  rw [if_pos rfl]
  rfl
theorem eqC_ev (l : List S111) (hl : (l.length : Int) ≤ 1048576) (hx : ∀ x, x ∈ l → (x.f1.length : Int) ≤ 1048576 ∧ (x.f2.length : Int) ≤ 1048576) : Ev (fun k => laws_eqRouterCpuS.f k l l) true := by
  have := eq_loop z111 laws_eqRouterCpuS.l0 (fun k x y => laws_eqRouterCpu.f k x.f0 x.f1 x.f2 y.f0 y.f1 y.f2) (fun k xs ys i => by simp only [laws_eqRouterCpuS.l0]; rfl) l (by omega) (fun x hxl => by
    unfold laws_eqRouterCpu.f
    simp only [if_true]
    refine Ev.bind (eqInt64S_ev x.f1 (hx x hxl).1) ?_
    simp only [if_true]
    refine Ev.bind (eqInt64S_ev x.f2 (hx x hxl).2) ?_
    simp only [if_true]
    exact Ev.now _) l.length 0 (Nat.zero_le _) rfl
  refine Ev.congr (fun k => ?_) this
  unfold laws_eqRouterCpuS.f
  rw [if_pos rfl]
  rfl
/-! what the two sides ask -/
def vecB (x : Int) : Bool := decide (0 ≤ x) && decide (x < 64)
def inB (n x : Int) : Bool := decide (0 ≤ x) && decide (x < n)
theorem svec_eq (a : Int) : spec_l08Vector.f a = some (vecB a) := by
  unfold spec_l08Vector.f vecB
  by_cases h : a ≥ 0
  · rw [if_pos h, decide_eq_true (show (0 : Int) ≤ a from h)]; rfl
  · rw [if_neg h, decide_eq_false (show ¬ (0 : Int) ≤ a from h)]; rfl
theorem yin_eq (a lo hi : Int) : impl_yin.f a lo hi = some (decide (lo ≤ a) && decide (a ≤ hi)) := by
  unfold impl_yin.f
  by_cases h : a ≥ lo
  · rw [if_pos h, decide_eq_true (show lo ≤ a from h)]; rfl
  · rw [if_neg h, decide_eq_false (show ¬ lo ≤ a from h)]; rfl
theorem ivec_eq (a : Int) : impl_RouterFault_2.f a = some (vecB a) := by
  unfold impl_RouterFault_2.f vecB
  rw [yin_eq, Option.bind_some, show decide (a ≤ 63) = decide (a < 64) from decide_eq_decide.mpr (by omega)]
theorem icpu_eq (a : Int) (l0 : List S107) (l1 : List S111) (l2 : List S113) (h : (l1.length : Int) ≤ 1048576) : impl_RouterFault_1.f a l0 l1 l2 = some (inB l1.length a) := by
  unfold impl_RouterFault_1.f inB
  show impl_yin.f a 0 (wrap64 ((l1.length : Int) - 1)) = _
  rw [yin_eq, w64 (by omega) (by omega), show decide (a ≤ (l1.length : Int) - 1) = decide (a < (l1.length : Int)) from decide_eq_decide.mpr (by omega)]
theorem ev_if {ρ : Type} {f g : Nat → Option ρ} {b : Bool} {r bad : ρ} (hs : ∀ k, f (k + 1) = if b = true then g k else some bad) (h : Ev g r) : Ev f (if b = true then r else bad) := by
  cases b
  · exact Ev.step (f := fun _ => some bad) (fun k => by rw [hs]; rfl) (Ev.now _)
  · exact Ev.step (f := g) (fun k => by rw [hs]; rfl) h
theorem guard2 {ρ : Type} (i len : Nat) (hi : i < len) (hl : (len : Int) ≤ 1048576) (Q : Prop) [Decidable Q] (L bad : Option ρ) :
    (if (i : Int) > 0 then (if 0 ≤ wrap64 ((i : Int) - 1) then (if wrap64 ((i : Int) - 1) < (len : Int) then (if Q then bad else L) else none) else none) else L) = if (decide (i = 0) || decide (¬ Q)) = true then L else bad := by
  by_cases h0 : i = 0
  · subst h0; rfl
  · rw [if_pos (by omega), w64 (a := (i : Int) - 1) (by omega) (by omega), if_pos (by omega), if_pos (by omega), decide_eq_false h0]
    by_cases hq : Q
    · rw [if_pos hq, decide_eq_false (not_not_intro hq)]; rfl
    · rw [if_neg hq, decide_eq_true hq]; rfl
theorem guard3 {ρ : Type} (v : Bool) (i len : Nat) (hi : i < len) (hl : (len : Int) ≤ 1048576) (Q : Prop) [Decidable Q] (L bad : Option ρ) :
    (if v = true then (if (i : Int) > 0 then (if 0 ≤ wrap64 ((i : Int) - 1) then (if wrap64 ((i : Int) - 1) < (len : Int) then (if Q then bad else L) else none) else none) else L) else bad) = if (v && (decide (i = 0) || decide (¬ Q))) = true then L else bad := by
  cases v
  · rfl
  · rw [guard2 i len hi hl]; rfl
def laneB (n : Int) (x : S107) : Bool := inB n x.f0 && vecB x.f1
def lanesB (n : Int) (l : List S107) : Bool := allF (fun i => laneB n (rd_T107 l (i : Int))) 0 l.length
theorem slanes (l0 : List S107) (l1 : List S111) (l2 : List S113) (hl : (l0.length : Int) ≤ 1048576) (n r : Int) (he : Ev (fun k => spec_RouterFault.l1 k n 0 l0 l1 l2) r) :
    Ev (fun k => spec_RouterFault.l0 k n 0 l0 l1 l2) (if lanesB n l0 = true then r else 1) := by
  refine ev_all2 (fun k x => spec_RouterFault.l0 k n x l0 l1 l2) (fun i => laneB n (rd_T107 l0 (i : Int))) 1 r 0 l0.length (fun i _ hi q h => ev_if (fun k => ?_) h) ?_ l0.length 0 (Nat.le_refl _) (by omega)
  · simp only [spec_RouterFault.l0]
    rw [if_pos (by omega), if_pos (by omega), svec_eq, w64 (a := (i : Int) + 1) (by omega) (by omega), nat1]
    generalize rd_T107 l0 (i : Int) = x
    unfold laneB inB
    by_cases h1 : x.f0 < 0
    · rw [if_pos h1, decide_eq_false (show ¬ 0 ≤ x.f0 by omega)]; rfl
    · rw [if_neg h1, decide_eq_true (show 0 ≤ x.f0 by omega)]
      by_cases h2 : x.f0 ≥ n
      · rw [if_pos h2, decide_eq_false (show ¬ x.f0 < n by omega)]; rfl
      · rw [if_neg h2, decide_eq_true (show x.f0 < n by omega)]; rfl
  · exact Ev.step (fun k => by simp only [spec_RouterFault.l0]; rw [if_neg (by omega)]) he
theorem ilanes (l0 : List S107) (l1 : List S111) (l2 : List S113) (hl : (l0.length : Int) ≤ 1048576) (hl1 : (l1.length : Int) ≤ 1048576) (r : Int) (he : Ev (fun k => impl_RouterFault.l1 k l1 l1.length 0 l0 l1 l2) r) :
    Ev (fun k => impl_RouterFault.l0 k l0 l0.length 0 l0 l1 l2) (if lanesB l1.length l0 = true then r else 1) := by
  refine ev_all2 (fun k x => impl_RouterFault.l0 k l0 l0.length x l0 l1 l2) (fun i => laneB l1.length (rd_T107 l0 (i : Int))) 1 r 0 l0.length (fun i _ hi q h => ev_if (fun k => ?_) h) ?_ l0.length 0 (Nat.le_refl _) (by omega)
  · simp only [impl_RouterFault.l0]
    rw [if_pos (by omega), if_pos (by omega), if_pos (by omega), icpu_eq _ _ _ _ hl1, ivec_eq, w64 (a := (i : Int) + 1) (by omega) (by omega), nat1]
    generalize rd_T107 l0 (i : Int) = x
    unfold laneB
    cases inB (l1.length : Int) x.f0 <;> rfl
  · exact Ev.step (fun k => by simp only [impl_RouterFault.l0]; rw [if_neg (by omega)]) he
def riseB (l : List Int) (i : Nat) : Bool := decide (¬ rd l (wrap64 ((i : Int) - 1)) ≥ rd l (i : Int))
def servB (l : List Int) (i : Nat) : Bool := decide (¬ wrap64 (Int.tdiv (rd l (wrap64 ((i : Int) - 1))) 4) ≥ wrap64 (Int.tdiv (rd l (i : Int)) 4))
def allPend (l : List Int) : Bool := allF (fun i => vecB (rd l (i : Int)) && (decide (i = 0) || riseB l i)) 0 l.length
def allServ (l : List Int) : Bool := allF (fun i => vecB (rd l (i : Int)) && (decide (i = 0) || servB l i)) 0 l.length
theorem pend_eq (l : List Int) : allPend l = (allF (riseB l) 1 (max l.length 1 - 1) && allF (fun i => vecB (rd l (i : Int))) 0 l.length) := by
  unfold allPend
  rw [allF_and, Bool.and_comm]
  congr 1
  cases h : l.length with
  | zero => rfl
  | succ m =>
    rw [show max (m + 1) 1 - 1 = m by omega]
    simp only [allF, decide_true, Bool.true_or, Bool.true_and]
    exact allF_congr _ _ m 1 (fun j h1 _ => by rw [decide_eq_false (show ¬ j = 0 by omega)]; rfl)
theorem srise (l : List Int) (hl : (l.length : Int) ≤ 1048576) : Ev (fun k => spec_l08Rising.f k l) (allF (riseB l) 1 (max l.length 1 - 1)) := by
  unfold spec_l08Rising.f
  have := ev_all2 (fun k x => spec_l08Rising.l0 k l x) (riseB l) false true 1 (max l.length 1) (fun i h1 hi q h => ev_if (fun k => ?_) h) ?_ (max l.length 1 - 1) 1 (Nat.le_refl _) (by omega)
  · rw [ite_b] at this; exact this
  · simp only [spec_l08Rising.l0]
    rw [if_pos (by omega), w64 (a := (i : Int) + 1) (by omega) (by omega), nat1, if_pos (by rw [w64 (by omega) (by omega)]; omega), if_pos (by rw [w64 (by omega) (by omega)]; omega), if_pos (by omega)]
    unfold riseB
    by_cases hq : rd l (wrap64 ((i : Int) - 1)) ≥ rd l (i : Int)
    · rw [if_pos hq, decide_eq_false (not_not_intro hq)]; rfl
    · rw [if_neg hq, decide_eq_true hq]; rfl
  · exact Ev.step (f := fun _ => some true) (fun k => by simp only [spec_l08Rising.l0]; rw [if_neg (by omega)]) (Ev.now _)
def cpuB (x : S111) : Bool := (decide (0 ≤ x.f0) && decide (x.f0 ≤ 16)) && (!decide ((x.f2.length : Int) > 16) && (allPend x.f1 && allServ x.f2))
theorem scpu (a : Int) (p s : List Int) (hp : (p.length : Int) ≤ 1048576) (hs : (s.length : Int) ≤ 1048576) : Ev (fun k => spec_l08Cpu.f k a p s) (cpuB ⟨a, p, s⟩) := by
  have e1 : Ev (fun k => spec_l08Cpu.l1 k 0 a p s) (allServ s) := by
    have := ev_all2 (fun k x => spec_l08Cpu.l1 k x a p s) (fun i => vecB (rd s (i : Int)) && (decide (i = 0) || servB s i)) false true 0 s.length (fun i _ hi q h => ev_if (fun k => ?_) h) ?_ s.length 0 (Nat.le_refl _) (by omega)
    · rw [ite_b] at this; exact this
    · simp only [spec_l08Cpu.l1]
      rw [if_pos (by omega), if_pos (by omega), svec_eq, w64 (a := (i : Int) + 1) (by omega) (by omega), nat1]
      exact guard3 _ i s.length hi hs _ _ _
    · exact Ev.step (f := fun _ => some true) (fun k => by simp only [spec_l08Cpu.l1]; rw [if_neg (by omega)]) (Ev.now _)
  have e0 : Ev (fun k => spec_l08Cpu.l0 k 0 a p s) (allF (fun i => vecB (rd p (i : Int))) 0 p.length && allServ s) := by
    have := ev_all2 (fun k x => spec_l08Cpu.l0 k x a p s) (fun i => vecB (rd p (i : Int))) false (allServ s) 0 p.length (fun i _ hi q h => ev_if (fun k => ?_) h) ?_ p.length 0 (Nat.le_refl _) (by omega)
    · have e : ∀ b c : Bool, (if b = true then c else false) = (b && c) := by decide
      rw [e] at this; exact this
    · simp only [spec_l08Cpu.l0]
      rw [if_pos (by omega), if_pos (by omega), svec_eq, w64 (a := (i : Int) + 1) (by omega) (by omega), nat1]
      rfl
    · exact Ev.step (fun k => by simp only [spec_l08Cpu.l0]; rw [if_neg (by omega)]) e1
  have ej : ∀ b : Bool, Ev (fun k => spec_l08Cpu.j0 k b a p s) (!b && (allF (fun i => vecB (rd p (i : Int))) 0 p.length && allServ s)) := by
    intro b
    cases b
    · exact Ev.step (fun k => by simp only [spec_l08Cpu.j0]; rw [if_neg (by simp)]) e0
    · exact Ev.step (f := fun _ => some false) (fun k => by simp only [spec_l08Cpu.j0]; rw [if_pos trivial]) (Ev.now _)
  unfold spec_l08Cpu.f cpuB
  dsimp only
  by_cases h1 : a < 0
  · simp only [if_pos h1]
    rw [decide_eq_false (show ¬ 0 ≤ a by omega)]
    exact ej true
  · simp only [if_neg h1]
    rw [decide_eq_true (show 0 ≤ a by omega)]
    by_cases h2 : a > 16
    · simp only [if_pos h2]
      rw [decide_eq_false (show ¬ a ≤ 16 by omega)]
      exact ej true
    · simp only [if_neg h2]
      rw [decide_eq_true (show a ≤ 16 by omega), pend_eq]
      refine Ev.bind (srise p hp) ?_
      cases allF (riseB p) 1 (max p.length 1 - 1)
      · simp only [Bool.false_eq_true, if_false]
        have := ej true
        simpa using this
      · simp only [if_true]
        have := ej (decide ((s.length : Int) > 16))
        simpa using this
def cpusB (l : List S111) : Bool := allF (fun i => cpuB (rd_T111 l (i : Int))) 0 l.length
theorem rdC_mem (l : List S111) (i : Nat) (hi : i < l.length) : rd_T111 l (i : Int) ∈ l := by
  unfold rd_T111
  rw [Int.toNat_natCast, List.getD_eq_getElem?_getD, List.getElem?_eq_getElem hi, Option.getD_some]
  exact List.getElem_mem hi
theorem ev_ifb {ρ : Type} {f g : Nat → Option ρ} {c : Nat → Option Bool} {b : Bool} {r bad : ρ} (hs : ∀ k, f (k + 1) = (c k).bind fun t => if t = true then g k else some bad) (hc : Ev c b) (h : Ev g r) : Ev f (if b = true then r else bad) := by
  refine Ev.step (fun k => hs k) (Ev.bind (f := fun k t => if t = true then g k else some bad) hc ?_)
  cases b
  · exact Ev.now _
  · exact h
theorem scpus (l0 : List S107) (l1 : List S111) (l2 : List S113) (hl : (l1.length : Int) ≤ 1048576) (hx : ∀ x, x ∈ l1 → (x.f1.length : Int) ≤ 1048576 ∧ (x.f2.length : Int) ≤ 1048576) (n r : Int) (he : Ev (fun k => spec_RouterFault.l2 k n 0 l0 l1 l2) r) :
    Ev (fun k => spec_RouterFault.l1 k n 0 l0 l1 l2) (if cpusB l1 = true then r else 1) := by
  refine ev_all2 (fun k x => spec_RouterFault.l1 k n x l0 l1 l2) (fun i => cpuB (rd_T111 l1 (i : Int))) 1 r 0 l1.length (fun i _ hi q h => ?_) ?_ l1.length 0 (Nat.le_refl _) (by omega)
  · obtain ⟨u, v⟩ := hx _ (rdC_mem l1 i hi)
    refine ev_ifb (fun k => ?_) (scpu (rd_T111 l1 (i : Int)).f0 (rd_T111 l1 (i : Int)).f1 (rd_T111 l1 (i : Int)).f2 u v) h
    simp only [spec_RouterFault.l1]
    rw [if_pos (by omega), if_pos (by omega), w64 (a := (i : Int) + 1) (by omega) (by omega), nat1]
  · exact Ev.step (fun k => by simp only [spec_RouterFault.l1]; rw [if_neg (by omega)]) he
theorem icpu1 (l0 : List S107) (l1 : List S111) (l2 : List S113) (hl : (l1.length : Int) ≤ 1048576) (i : Nat) (hi : i < l1.length) (hx : ∀ x, x ∈ l1 → (x.f1.length : Int) ≤ 1048576 ∧ (x.f2.length : Int) ≤ 1048576) (r : Int)
    (h : Ev (fun k => impl_RouterFault.l1 k l1 l1.length ((i + 1 : Nat) : Int) l0 l1 l2) r) : Ev (fun k => impl_RouterFault.l1 k l1 l1.length (i : Int) l0 l1 l2) (if cpuB (rd_T111 l1 (i : Int)) = true then r else 1) := by
  obtain ⟨u, v⟩ := hx _ (rdC_mem l1 i hi)
  generalize hy : rd_T111 l1 (i : Int) = y at u v
  obtain ⟨a, p, s⟩ := y
  dsimp only at u v
  have e3 : Ev (fun k => impl_RouterFault.l3 k l1 l1.length (i : Int) s s.length 0 l0 l1 l2 a p s) (if allServ s = true then r else 1) := by
    refine ev_all2 (fun k x => impl_RouterFault.l3 k l1 l1.length (i : Int) s s.length x l0 l1 l2 a p s) (fun i => vecB (rd s (i : Int)) && (decide (i = 0) || servB s i)) 1 r 0 s.length (fun j _ hj q h => ev_if (fun k => ?_) h) ?_ s.length 0 (Nat.le_refl _) (by omega)
    · simp only [impl_RouterFault.l3]
      rw [if_pos (by omega), if_pos (by omega), if_pos (by omega), ivec_eq, w64 (a := (j : Int) + 1) (by omega) (by omega), nat1]
      exact guard3 _ j s.length hj v _ _ _
    · exact Ev.step (fun k => by simp only [impl_RouterFault.l3]; rw [if_neg (by omega), w64 (a := (i : Int) + 1) (by omega) (by omega), nat1]) h
  have e2 : Ev (fun k => impl_RouterFault.l2 k l1 l1.length (i : Int) p p.length 0 l0 l1 l2 a p s) (if allPend p = true then (if allServ s = true then r else 1) else 1) := by
    refine ev_all2 (fun k x => impl_RouterFault.l2 k l1 l1.length (i : Int) p p.length x l0 l1 l2 a p s) (fun i => vecB (rd p (i : Int)) && (decide (i = 0) || riseB p i)) 1 _ 0 p.length (fun j _ hj q h => ev_if (fun k => ?_) h) ?_ p.length 0 (Nat.le_refl _) (by omega)
    · simp only [impl_RouterFault.l2]
      rw [if_pos (by omega), if_pos (by omega), if_pos (by omega), ivec_eq, w64 (a := (j : Int) + 1) (by omega) (by omega), nat1]
      exact guard3 _ j p.length hj u _ _ _
    · exact Ev.step (fun k => by simp only [impl_RouterFault.l2]; rw [if_neg (by omega)]) e3
  have ej : ∀ b : Bool, Ev (fun k => impl_RouterFault.j3 k l1 l1.length (i : Int) b l0 l1 l2 a p s) (if b = true then 1 else (if allPend p = true then (if allServ s = true then r else 1) else 1)) := by
    intro b
    cases b
    · exact Ev.step (fun k => by simp only [impl_RouterFault.j3]; rw [if_neg (by simp)]) e2
    · exact Ev.step (f := fun _ => some 1) (fun k => by simp only [impl_RouterFault.j3]; rw [if_pos trivial]) (Ev.now _)
  refine Ev.step (f := fun k => if (decide (0 ≤ a) && decide (a ≤ 16)) = true then impl_RouterFault.j3 k l1 l1.length (i : Int) (decide ((s.length : Int) > 16)) l0 l1 l2 a p s else impl_RouterFault.j3 k l1 l1.length (i : Int) true l0 l1 l2 a p s) (fun k => ?_) ?_
  · simp only [impl_RouterFault.l1]
    rw [if_pos (by omega), if_pos (by omega), if_pos (by omega), hy, yin_eq]
    rfl
  · unfold cpuB
    dsimp only
    cases (decide (0 ≤ a) && decide (a ≤ 16))
    · exact ej true
    · have := ej (decide ((s.length : Int) > 16))
      simp only [if_true]
      revert this
      cases decide ((s.length : Int) > 16) <;> cases allPend p <;> cases allServ s <;> exact fun h => h
theorem icpus (l0 : List S107) (l1 : List S111) (l2 : List S113) (hl : (l1.length : Int) ≤ 1048576) (hx : ∀ x, x ∈ l1 → (x.f1.length : Int) ≤ 1048576 ∧ (x.f2.length : Int) ≤ 1048576) (r : Int) (he : Ev (fun k => impl_RouterFault.l4 k l2 l2.length 0 l0 l1 l2) r) :
    Ev (fun k => impl_RouterFault.l1 k l1 l1.length 0 l0 l1 l2) (if cpusB l1 = true then r else 1) := by
  refine ev_all2 (fun k x => impl_RouterFault.l1 k l1 l1.length x l0 l1 l2) (fun i => cpuB (rd_T111 l1 (i : Int))) 1 r 0 l1.length (fun i _ hi q h => icpu1 l0 l1 l2 hl i hi hx q h) ?_ l1.length 0 (Nat.le_refl _) (by omega)
  exact Ev.step (fun k => by simp only [impl_RouterFault.l1]; rw [if_neg (by omega)]) he

def mapB (n : Int) (x : S113) : Bool := (decide (0 ≤ x.f0) && decide (x.f0 ≤ 255)) && ((decide (0 ≤ x.f1) && decide (x.f1 ≤ 255)) && (inB n x.f2 && vecB x.f3))
def sordB (l : List S113) (i : Nat) : Bool := decide (¬ wrap64 (wrap64 ((rd_T113 l (wrap64 ((i : Int) - 1))).f0 * 256) + (rd_T113 l (wrap64 ((i : Int) - 1))).f1) ≥ wrap64 (wrap64 ((rd_T113 l (i : Int)).f0 * 256) + (rd_T113 l (i : Int)).f1))
def iordB (l : List S113) (i : Nat) : Bool := decide (¬ ((rd_T113 l (wrap64 ((i : Int) - 1))).f0 > (rd_T113 l (i : Int)).f0 ∨ ((rd_T113 l (wrap64 ((i : Int) - 1))).f0 = (rd_T113 l (i : Int)).f0 ∧ (rd_T113 l (wrap64 ((i : Int) - 1))).f1 ≥ (rd_T113 l (i : Int)).f1)))
def mapsS (n : Int) (l : List S113) : Bool := allF (fun i => mapB n (rd_T113 l (i : Int)) && (decide (i = 0) || sordB l i)) 0 l.length
def mapsI (n : Int) (l : List S113) : Bool := allF (fun i => mapB n (rd_T113 l (i : Int)) && (decide (i = 0) || iordB l i)) 0 l.length
theorem ord_eq (x y : S113) (n : Int) (hx : mapB n x = true) (hy : mapB n y = true) : (¬ wrap64 (wrap64 (x.f0 * 256) + x.f1) ≥ wrap64 (wrap64 (y.f0 * 256) + y.f1)) ↔ ¬ (x.f0 > y.f0 ∨ (x.f0 = y.f0 ∧ x.f1 ≥ y.f1)) := by
  unfold mapB at hx hy
  simp only [Bool.and_eq_true, decide_eq_true_eq] at hx hy
  rw [w64 (a := x.f0 * 256) (by omega) (by omega), w64 (a := y.f0 * 256) (by omega) (by omega), w64 (a := x.f0 * 256 + x.f1) (by omega) (by omega), w64 (a := y.f0 * 256 + y.f1) (by omega) (by omega)]
  omega
theorem maps_eq (n : Int) (l : List S113) (hl : (l.length : Int) ≤ 1048576) : ∀ d i, i + d ≤ l.length → (i = 0 ∨ mapB n (rd_T113 l (wrap64 ((i : Int) - 1))) = true) →
    allF (fun i => mapB n (rd_T113 l (i : Int)) && (decide (i = 0) || sordB l i)) i d = allF (fun i => mapB n (rd_T113 l (i : Int)) && (decide (i = 0) || iordB l i)) i d
  | 0, _, _, _ => rfl
  | d + 1, i, hi, hp => by
    simp only [allF]
    cases hb : mapB n (rd_T113 l (i : Int)) with
    | false => rfl
    | true =>
      have ho : (decide (i = 0) || sordB l i) = (decide (i = 0) || iordB l i) := by
        by_cases h0 : i = 0
        · rw [decide_eq_true h0]; rfl
        · rw [decide_eq_false h0]
          show sordB l i = iordB l i
          unfold sordB iordB
          exact decide_eq_decide.mpr (ord_eq _ _ n (hp.resolve_left h0) hb)
      rw [ho, maps_eq n l hl d (i + 1) (by omega) (Or.inr (by rw [w64 (by omega) (by omega), show ((i + 1 : Nat) : Int) - 1 = (i : Int) by omega]; exact hb))]
theorem smaps (l0 : List S107) (l1 : List S111) (l2 : List S113) (hl : (l2.length : Int) ≤ 1048576) (n : Int) :
    Ev (fun k => spec_RouterFault.l2 k n 0 l0 l1 l2) (if mapsS n l2 = true then 0 else 1) := by
  refine ev_all2 (fun k x => spec_RouterFault.l2 k n x l0 l1 l2) (fun i => mapB n (rd_T113 l2 (i : Int)) && (decide (i = 0) || sordB l2 i)) 1 0 0 l2.length (fun i _ hi q h => ?_) ?_ l2.length 0 (Nat.le_refl _) (by omega)
  · have hs : ∀ k, spec_RouterFault.l2 (k + 1) n (i : Int) l0 l1 l2 = spec_RouterFault.j4 k n (i : Int) (!mapB n (rd_T113 l2 (i : Int))) l0 l1 l2 (rd_T113 l2 (i : Int)).f0 (rd_T113 l2 (i : Int)).f1 (rd_T113 l2 (i : Int)).f2 (rd_T113 l2 (i : Int)).f3 := by
      intro k
      simp only [spec_RouterFault.l2]
      rw [if_pos (by omega), if_pos (by omega), svec_eq]
      generalize rd_T113 l2 (i : Int) = x
      unfold mapB inB
      by_cases h1 : x.f0 < 0
      · rw [if_pos h1, decide_eq_false (show ¬ 0 ≤ x.f0 by omega)]; rfl
      · rw [if_neg h1, decide_eq_true (show 0 ≤ x.f0 by omega)]
        by_cases h2 : x.f0 > 255
        · rw [if_pos h2, decide_eq_false (show ¬ x.f0 ≤ 255 by omega)]; rfl
        · rw [if_neg h2, decide_eq_true (show x.f0 ≤ 255 by omega)]
          by_cases h3 : x.f1 < 0
          · rw [if_pos h3, decide_eq_false (show ¬ 0 ≤ x.f1 by omega)]; rfl
          · rw [if_neg h3, decide_eq_true (show 0 ≤ x.f1 by omega)]
            by_cases h4 : x.f1 > 255
            · rw [if_pos h4, decide_eq_false (show ¬ x.f1 ≤ 255 by omega)]; rfl
            · rw [if_neg h4, decide_eq_true (show x.f1 ≤ 255 by omega)]
              by_cases h5 : x.f2 < 0
              · rw [if_pos h5, decide_eq_false (show ¬ 0 ≤ x.f2 by omega)]; rfl
              · rw [if_neg h5, decide_eq_true (show 0 ≤ x.f2 by omega)]
                by_cases h6 : x.f2 ≥ n
                · rw [if_pos h6, decide_eq_false (show ¬ x.f2 < n by omega)]; rfl
                · rw [if_neg h6, decide_eq_true (show x.f2 < n by omega)]; rfl
    refine Ev.step (fun k => hs k) (ev_if (fun k => ?_) h)
    simp only [spec_RouterFault.j4]
    rw [w64 (a := (i : Int) + 1) (by omega) (by omega), nat1]
    unfold sordB
    cases mapB n (rd_T113 l2 (i : Int))
    · rfl
    · exact guard2 i l2.length hi hl _ _ _
  · exact Ev.step (f := fun _ => some 0) (fun k => by simp only [spec_RouterFault.l2]; rw [if_neg (by omega)]) (Ev.now _)
theorem ite_or {ρ : Type} (A B C : Prop) [Decidable A] [Decidable B] [Decidable C] (bad L : Option ρ) : (if A then bad else (if B then (if C then bad else L) else L)) = if A ∨ (B ∧ C) then bad else L := by
  by_cases a : A
  · rw [if_pos a, if_pos (Or.inl a)]
  · by_cases b : B
    · by_cases c : C
      · rw [if_neg a, if_pos b, if_pos c, if_pos (Or.inr ⟨b, c⟩)]
      · rw [if_neg a, if_pos b, if_neg c, if_neg (fun h => h.elim a (fun h => c h.2))]
    · rw [if_neg a, if_neg b, if_neg (fun h => h.elim a (fun h => b h.1))]
theorem imaps (l0 : List S107) (l1 : List S111) (l2 : List S113) (hl1 : (l1.length : Int) ≤ 1048576) (hl : (l2.length : Int) ≤ 1048576) :
    Ev (fun k => impl_RouterFault.l4 k l2 l2.length 0 l0 l1 l2) (if mapsI l1.length l2 = true then 0 else 1) := by
  refine ev_all2 (fun k x => impl_RouterFault.l4 k l2 l2.length x l0 l1 l2) (fun i => mapB l1.length (rd_T113 l2 (i : Int)) && (decide (i = 0) || iordB l2 i)) 1 0 0 l2.length (fun i _ hi q h => ?_) ?_ l2.length 0 (Nat.le_refl _) (by omega)
  · have hs : ∀ k, impl_RouterFault.l4 (k + 1) l2 l2.length (i : Int) l0 l1 l2 = impl_RouterFault.j7 k (i : Int) l2 l2.length (i : Int) (!mapB l1.length (rd_T113 l2 (i : Int))) l0 l1 l2 (rd_T113 l2 (i : Int)).f0 (rd_T113 l2 (i : Int)).f1 (rd_T113 l2 (i : Int)).f2 (rd_T113 l2 (i : Int)).f3 := by
      intro k
      simp only [impl_RouterFault.l4]
      rw [if_pos (by omega), if_pos (by omega), if_pos (by omega), yin_eq, yin_eq, icpu_eq _ _ _ _ hl1, ivec_eq]
      generalize rd_T113 l2 (i : Int) = x
      unfold mapB
      simp only [Option.bind_some]
      cases (decide (0 ≤ x.f0) && decide (x.f0 ≤ 255))
      · rfl
      · cases (decide (0 ≤ x.f1) && decide (x.f1 ≤ 255))
        · rfl
        · cases inB (l1.length : Int) x.f2 <;> rfl
    refine Ev.step (fun k => hs k) (ev_if (fun k => ?_) h)
    simp only [impl_RouterFault.j7]
    rw [w64 (a := (i : Int) + 1) (by omega) (by omega), nat1]
    unfold iordB
    cases mapB (l1.length : Int) (rd_T113 l2 (i : Int))
    · rfl
    · rw [ite_or]
      exact guard2 i l2.length hi hl _ _ _
  · exact Ev.step (f := fun _ => some 0) (fun k => by simp only [impl_RouterFault.l4]; rw [if_neg (by omega)]) (Ev.now _)
def routerV (l0 : List S107) (l1 : List S111) (l2 : List S113) : Int := if lanesB l1.length l0 = true then (if cpusB l1 = true then (if mapsS l1.length l2 = true then 0 else 1) else 1) else 1
def routerW (l0 : List S107) (l1 : List S111) (l2 : List S113) : Int := if (l0.length : Int) > 64 then 1 else if (l1.length : Int) < 1 then 1 else if (l1.length : Int) > 8 then 1 else if (l2.length : Int) > 1000 then 1 else routerV l0 l1 l2
theorem spec_router (l0 : List S107) (l1 : List S111) (l2 : List S113) (h0 : (l0.length : Int) ≤ 1048576) (h1 : (l1.length : Int) ≤ 1048576) (h2 : (l2.length : Int) ≤ 1048576) (hx : ∀ x, x ∈ l1 → (x.f1.length : Int) ≤ 1048576 ∧ (x.f2.length : Int) ≤ 1048576) :
    Ev (fun k => spec_RouterFault.f k l0 l1 l2) (routerW l0 l1 l2) := by
  have e0 : Ev (fun k => spec_RouterFault.l0 k l1.length 0 l0 l1 l2) (routerV l0 l1 l2) := slanes l0 l1 l2 h0 _ _ (scpus l0 l1 l2 h1 hx _ _ (smaps l0 l1 l2 h2 _))
  have et : Ev (fun k => spec_RouterFault.j0 k true l0 l1 l2) 1 := Ev.step (f := fun _ => some 1) (fun k => by simp only [spec_RouterFault.j0]; rw [if_pos trivial]) (Ev.now _)
  have ef : Ev (fun k => spec_RouterFault.j0 k false l0 l1 l2) (routerV l0 l1 l2) := Ev.step (fun k => by simp only [spec_RouterFault.j0]; rw [if_neg (by simp)]) e0
  unfold spec_RouterFault.f routerW
  by_cases c0 : (l0.length : Int) > 64
  · simp only [if_pos c0]; exact et
  · simp only [if_neg c0]
    by_cases c1 : (l1.length : Int) < 1
    · simp only [if_pos c1]; exact et
    · simp only [if_neg c1]
      by_cases c2 : (l1.length : Int) > 8
      · simp only [if_pos c2]; exact et
      · simp only [if_neg c2]
        by_cases c3 : (l2.length : Int) > 1000
        · simp only [if_pos c3, decide_eq_true c3]; exact et
        · simp only [if_neg c3, decide_eq_false c3]; exact ef
theorem impl_router (l0 : List S107) (l1 : List S111) (l2 : List S113) (h0 : (l0.length : Int) ≤ 1048576) (h1 : (l1.length : Int) ≤ 1048576) (h2 : (l2.length : Int) ≤ 1048576) (hx : ∀ x, x ∈ l1 → (x.f1.length : Int) ≤ 1048576 ∧ (x.f2.length : Int) ≤ 1048576) :
    Ev (fun k => impl_RouterFault.f k l0 l1 l2) (routerW l0 l1 l2) := by
  have e0 : Ev (fun k => impl_RouterFault.l0 k l0 l0.length 0 l0 l1 l2) (routerV l0 l1 l2) := by
    have := ilanes l0 l1 l2 h0 h1 _ (icpus l0 l1 l2 h1 hx _ (imaps l0 l1 l2 h1 h2))
    have e : mapsI (l1.length : Int) l2 = mapsS (l1.length : Int) l2 := (maps_eq (l1.length : Int) l2 h2 l2.length 0 (by omega) (Or.inl rfl)).symm
    rw [e] at this
    exact this
  have et : Ev (fun k => impl_RouterFault.j0 k true l0 l1 l2) 1 := Ev.step (f := fun _ => some 1) (fun k => by simp only [impl_RouterFault.j0]; rw [if_pos trivial]) (Ev.now _)
  have ef : Ev (fun k => impl_RouterFault.j0 k false l0 l1 l2) (routerV l0 l1 l2) := Ev.step (fun k => by simp only [impl_RouterFault.j0]; rw [if_neg (by simp)]) e0
  unfold impl_RouterFault.f routerW
  by_cases c0 : (l0.length : Int) > 64
  · simp only [if_pos c0]; exact et
  · simp only [if_neg c0, yin_eq, Option.bind_some]
    by_cases c1 : (l1.length : Int) < 1
    · simp only [if_pos c1, decide_eq_false (show ¬ 1 ≤ (l1.length : Int) by omega), Bool.false_and, Bool.false_eq_true, if_false]; exact et
    · simp only [if_neg c1, decide_eq_true (show 1 ≤ (l1.length : Int) by omega), Bool.true_and]
      by_cases c2 : (l1.length : Int) > 8
      · simp only [if_pos c2, decide_eq_false (show ¬ (l1.length : Int) ≤ 8 by omega), Bool.false_eq_true, if_false]; exact et
      · simp only [if_neg c2, decide_eq_true (show (l1.length : Int) ≤ 8 by omega), if_true]
        by_cases c3 : (l2.length : Int) > 1000
        · simp only [if_pos c3, decide_eq_true c3]; exact et
        · simp only [if_neg c3, decide_eq_false c3]; exact ef
theorem FnExactRouterFault : laws_FnExactRouterFault.Pure := by
  intro a b c ha hb hc
  obtain ⟨ha, _⟩ := ha; obtain ⟨hb, hbx⟩ := hb; obtain ⟨hc, _⟩ := hc
  refine Ev.rounds (r := true) ?_
  obtain ⟨r, hr, hcc⟩ := szRouter_ev a b c ha hb hc (fun x hx => by
    have := hbx x hx
    unfold Q164 at this
    exact ⟨this.2.1.1, this.2.2.1⟩)
  unfold laws_FnExactRouterFault.f
  refine Ev.bind hr ?_
  by_cases hn : r < 0
  · simp only [if_pos hn]; exact Ev.now _
  · simp only [if_neg hn]
    obtain ⟨l1, l2, l3, l4⟩ := hcc.resolve_left hn
    have tov : Ev (fun k => laws_toRouter.f k a b c) (a.map toL, b.map toC, c.map toR) := by
      unfold laws_toRouter.f
      exact Ev.bind (toL_ev a l1) (Ev.bind (toC_ev b l2 l4) (Ev.bind (toR_ev c l3) (Ev.now _)))
    have m1 : ((a.map toL).length : Int) ≤ 1048576 := by rw [List.length_map]; exact l1
    have m2 : ((b.map toC).length : Int) ≤ 1048576 := by rw [List.length_map]; exact l2
    have m3 : ((c.map toR).length : Int) ≤ 1048576 := by rw [List.length_map]; exact l3
    have m4 : ∀ g, g ∈ b.map toC → (g.f1.length : Int) ≤ 1048576 ∧ (g.f2.length : Int) ≤ 1048576 := by
      intro g hgm
      obtain ⟨x, hx, rfl⟩ := List.mem_map.mp hgm
      exact l4 x hx
    have hsp := spec_router (a.map toL) (b.map toC) (c.map toR) m1 m2 m3 m4
    have him := impl_router (a.map toL) (b.map toC) (c.map toR) m1 m2 m3 m4
    have eqv : Ev (fun k => laws_eqRouter.f k (a.map toL) (b.map toC) (c.map toR) (a.map toL) (b.map toC) (c.map toR)) true := by
      unfold laws_eqRouter.f
      refine Ev.bind (eqL_ev _ m1) ?_
      simp only [if_true]
      refine Ev.bind (eqC_ev _ m2 m4) ?_
      simp only [if_true]
      refine Ev.bind (eqR_ev _ m3) ?_
      simp only [if_true]
      exact Ev.now _
    refine Ev.bind tov (Ev.bind hsp (Ev.bind tov (Ev.bind him ?_)))
    simp only [if_true]
    refine Ev.bind tov (Ev.bind eqv ?_)
    simp only [if_true]
    exact Ev.now _

end Go.Proofs.Ytmajbehafgajmaa.Pure
