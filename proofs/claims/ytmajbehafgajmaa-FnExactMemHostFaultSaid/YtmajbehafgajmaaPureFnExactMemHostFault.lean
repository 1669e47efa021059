/- The program's MemHostFault returns what the reference's returns, for all arguments. Conditions: none. -/
import Derived.Test.YtmajbehafgajmaaQFnExactMemHostFaultx
import Derived.Test.YtmajbehafgajmaaPl
import Derived.Test.YtmajbehafgajmaaTFnExactMemHostFault
set_option linter.unusedVariables false
set_option linter.unusedSimpArgs false
namespace Go.Proofs.Ytmajbehafgajmaa.Pure
open Go.RowKit Go.Proofs.Ytmajbehafgajmaa.QFnExactMemHostFault Go.Proofs.YtmajbehafgajmaaW.PrintWords Go.Proofs.YtmajbehafgajmaaW.PrintLast Go.Proofs.Ytmajbehafgajmaa.Pl Go.Proofs.YtmajbehafgajmaaW.PrintMore
/-- A loop that takes the size of every element off a budget: it ends, below zero or with every element small. -/
theorem sz_loop {α : Type} (d : α) (M : Int) (ok : α → Prop) (L : Nat → List α → Int → Int → Option Int) (g : Nat → α → Int → Option Int)
    (hL : ∀ k xs s i, L (k + 1) xs s i = if i < (xs.length : Int) then (if 0 ≤ i then ((g k (xs.getD i.toNat d) s).bind fun t => (if t < 0 then (some (-1)) else (L k xs t (wrap64 (i + 1))))) else none) else some s)
    (xs : List α) (hlen : (xs.length : Int) ≤ 4611686018427387904)
    (hg : ∀ x s, x ∈ xs → 0 ≤ s → s ≤ M → ∃ t, Ev (fun k => g k x s) t ∧ (t < 0 ∨ (0 ≤ t ∧ t ≤ s ∧ ok x))) (e : Nat) :
    ∀ (j : Nat) (s : Int), 0 ≤ s → s ≤ M → j ≤ xs.length → xs.length - j = e → (∀ q, q < j → ok (xs.getD q d)) → ∃ r, Ev (fun k => L k xs s (j : Int)) r ∧ (r < 0 ∨ (0 ≤ r ∧ r ≤ s ∧ ∀ x, x ∈ xs → ok x)) := by
  induction e with
  | zero =>
    intro j s h0 hM hj he hok
    refine ⟨s, Ev.step (f := fun _ => some s) (fun k => by rw [hL, if_neg (by omega)]) (Ev.now _), Or.inr ⟨h0, Int.le_refl _, fun x hx => ?_⟩⟩
    obtain ⟨q, hq, rfl⟩ := List.getElem_of_mem hx
    have := hok q (by omega)
    rwa [List.getD_eq_getElem?_getD, List.getElem?_eq_getElem hq, Option.getD_some] at this
  | succ e ih =>
    intro j s h0 hM hj he hok
    have hlt : j < xs.length := by omega
    have hmem : xs.getD j d ∈ xs := by
      rw [List.getD_eq_getElem?_getD, List.getElem?_eq_getElem hlt, Option.getD_some]; exact List.getElem_mem hlt
    obtain ⟨t, ht, hc⟩ := hg (xs.getD j d) s hmem h0 hM
    have hs : ∀ k, L (k + 1) xs s (j : Int) = ((g k (xs.getD j d) s).bind fun t => (if t < 0 then (some (-1)) else (L k xs t (wrap64 ((j : Int) + 1))))) := fun k => by
      rw [hL, if_pos (by omega), if_pos (by omega), Int.toNat_natCast]
    by_cases hn : t < 0
    · refine ⟨-1, Ev.step (fun k => hs k) (Ev.bind ht ?_), Or.inl (by omega)⟩
      simp only [if_pos hn]
      exact Ev.now _
    · have hc' := hc.resolve_left hn
      obtain ⟨r, hr, hrc⟩ := ih (j + 1) t hc'.1 (by omega) (by omega) (by omega) (fun q hq => by
        by_cases hqj : q = j
        · subst hqj; exact hc'.2.2
        · exact hok q (by omega))
      refine ⟨r, Ev.step (fun k => hs k) (Ev.bind ht ?_), ?_⟩
      · simp only [if_neg hn]
        rw [w64 (by omega) (by omega), show ((j : Int) + 1) = ((j + 1 : Nat) : Int) from by omega]
        exact hr
      · rcases hrc with h | h
        · exact Or.inl h
        · exact Or.inr ⟨h.1, by omega, h.2.2⟩
/-- A loop that turns every element. -/
theorem to_loop {α β γ : Type} (d : α) (z : β) (mk : γ → β) (c : α → β) (L : Nat → List α → List β → Int → Option (List β)) (g : Nat → α → Option γ)
    (hL : ∀ k xs ys i, L (k + 1) xs ys i = if i < (xs.length : Int) then (if 0 ≤ i then ((g k (xs.getD i.toNat d)).bind fun b => (if i < (ys.length : Int) then (L k xs (ys.set i.toNat (mk b)) (wrap64 (i + 1))) else none)) else none) else some ys)
    (xs : List α) (hlen : (xs.length : Int) ≤ 4611686018427387904)
    (hg : ∀ x, x ∈ xs → ∃ b, Ev (fun k => g k x) b ∧ mk b = c x) (e : Nat) :
    ∀ (j : Nat), j ≤ xs.length → xs.length - j = e → Ev (fun k => L k xs ((xs.take j).map c ++ List.replicate (xs.length - j) z) (j : Int)) (xs.map c) := by
  induction e with
  | zero =>
    intro j hj he
    obtain rfl : j = xs.length := by omega
    refine Ev.step (f := fun _ => some (xs.map c)) (fun k => ?_) (Ev.now _)
    rw [hL, if_neg (by omega), List.take_length, Nat.sub_self, List.replicate_zero, List.append_nil]
  | succ e ih =>
    intro j hj he
    have hlt : j < xs.length := by omega
    have hx : xs.getD j d = xs[j] := by rw [List.getD_eq_getElem?_getD, List.getElem?_eq_getElem hlt, Option.getD_some]
    obtain ⟨b, hb, hbc⟩ := hg xs[j] (List.getElem_mem hlt)
    have hlm : ((xs.take j).map c).length = j := by rw [List.length_map, List.length_take]; omega
    have hly : (((xs.take j).map c ++ List.replicate (xs.length - j) z).length : Int) = (xs.length : Int) := by
      rw [List.length_append, hlm, List.length_replicate]; omega
    have hset : (((xs.take j).map c ++ List.replicate (xs.length - j) z).set j (mk b)) = (xs.take (j + 1)).map c ++ List.replicate (xs.length - (j + 1)) z := by
      rw [List.set_append_right _ _ (by omega), hlm, Nat.sub_self, show xs.length - j = (xs.length - (j + 1)) + 1 from by omega, List.replicate_succ, List.set_cons_zero, hbc, List.take_succ_eq_append_getElem hlt, List.map_append, List.append_assoc]
      rfl
    refine Ev.step (f := fun k => (g k xs[j]).bind fun b => L k xs (((xs.take j).map c ++ List.replicate (xs.length - j) z).set j (mk b)) (((j + 1 : Nat) : Int))) (fun k => ?_) (Ev.bind (f := fun k b => L k xs (((xs.take j).map c ++ List.replicate (xs.length - j) z).set j (mk b)) (((j + 1 : Nat) : Int))) hb ?_)
    · have hlj : (j : Int) < (xs.length : Int) := by omega
      rw [hL, if_pos (by omega), if_pos (by omega), Int.toNat_natCast, hx, hly, w64 (by omega) (by omega)]
      simp only [if_pos hlj]
      rfl
    · rw [hset]
      exact ih (j + 1) (by omega) (by omega)
/-- A loop that asks every pair of elements. -/
theorem eq_loop {α : Type} (d : α) (L : Nat → List α → List α → Int → Option Bool) (g : Nat → α → α → Option Bool)
    (hL : ∀ k xs ys i, L (k + 1) xs ys i = if i < (xs.length : Int) then (if 0 ≤ i then (if i < (ys.length : Int) then ((g k (xs.getD i.toNat d) (ys.getD i.toNat d)).bind fun t => (if t = true then (L k xs ys (wrap64 (i + 1))) else (some false))) else none) else none) else some true)
    (xs : List α) (hlen : (xs.length : Int) ≤ 4611686018427387904)
    (hg : ∀ x, x ∈ xs → Ev (fun k => g k x x) true) (e : Nat) :
    ∀ (j : Nat), j ≤ xs.length → xs.length - j = e → Ev (fun k => L k xs xs (j : Int)) true := by
  induction e with
  | zero =>
    intro j hj he
    exact Ev.step (f := fun _ => some true) (fun k => by rw [hL, if_neg (by omega)]) (Ev.now _)
  | succ e ih =>
    intro j hj he
    have hlt : j < xs.length := by omega
    have hx : xs.getD j d = xs[j] := by rw [List.getD_eq_getElem?_getD, List.getElem?_eq_getElem hlt, Option.getD_some]
    refine Ev.step (f := fun k => (g k xs[j] xs[j]).bind fun t => (if t = true then L k xs xs (((j + 1 : Nat) : Int)) else (some false))) (fun k => ?_) (Ev.bind (f := fun k t => (if t = true then L k xs xs (((j + 1 : Nat) : Int)) else (some false))) (hg xs[j] (List.getElem_mem hlt)) ?_)
    · rw [hL, if_pos (by omega), if_pos (by omega), Int.toNat_natCast, hx, if_pos (by omega), w64 (by omega) (by omega)]
      rfl
    · simp only [if_true]
      exact ih (j + 1) (by omega) (by omega)

/-- p holds of i, i + 1, .., d numbers. -/
def allF (p : Nat → Bool) : Nat → Nat → Bool
  | _, 0 => true
  | i, d + 1 => p i && allF p (i + 1) d
theorem allF_and (p q : Nat → Bool) : ∀ d i, allF (fun j => p j && q j) i d = (allF p i d && allF q i d)
  | 0, _ => rfl
  | d + 1, i => by simp only [allF, allF_and p q d (i + 1)]; ac_rfl
theorem allF_congr (p q : Nat → Bool) : ∀ d i, (∀ j, i ≤ j → j < i + d → p j = q j) → allF p i d = allF q i d
  | 0, _, _ => rfl
  | d + 1, i, h => by simp only [allF]; rw [h i (Nat.le_refl _) (by omega), allF_congr p q d (i + 1) (fun j h1 h2 => h j (by omega) (by omega))]
theorem allF_const (b : Bool) (p : Nat → Bool) : ∀ d i, allF (fun j => b && p j) i (d + 1) = (b && allF p i (d + 1))
  | 0, i => by simp [allF]
  | d + 1, i => by
    have := allF_const b p d (i + 1)
    simp only [allF] at this ⊢
    rw [this]
    cases b <;> simp
/-- A loop that asks p of every number below n: at the first that fails it ends with bad, else it goes on to good. -/
theorem ev_all {ρ : Type} (L : Nat → Int → Option ρ) (p : Nat → Bool) (bad good : ρ) (n : Nat)
    (hs : ∀ i, i < n → p i = true → ∀ r, Ev (fun k => L k ((i + 1 : Nat) : Int)) r → Ev (fun k => L k (i : Int)) r)
    (hb : ∀ i, i < n → p i = false → Ev (fun k => L k (i : Int)) bad)
    (he : Ev (fun k => L k (n : Int)) good) : ∀ d i, i + d = n → Ev (fun k => L k (i : Int)) (if allF p i d = true then good else bad)
  | 0, i, h => by
    obtain rfl : i = n := by omega
    simp only [allF, if_true]; exact he
  | d + 1, i, h => by
    cases hp : p i with
    | true =>
      simp only [allF, hp, Bool.true_and]
      exact hs i (by omega) hp _ (ev_all L p bad good n hs hb he d (i + 1) (by omega))
    | false =>
      simp only [allF, hp, Bool.false_and, Bool.false_eq_true, if_false]
      exact hb i (by omega) hp
theorem ww (a : Int) : wrap64 (wrap64 a) = wrap64 a := by unfold wrap64; omega
theorem ev_all2 {ρ : Type} (L : Nat → Int → Option ρ) (p : Nat → Bool) (bad good : ρ) (lo n : Nat)
    (hs : ∀ i, lo ≤ i → i < n → ∀ r, Ev (fun k => L k ((i + 1 : Nat) : Int)) r → Ev (fun k => L k (i : Int)) (if p i = true then r else bad))
    (he : Ev (fun k => L k (n : Int)) good) : ∀ d i, lo ≤ i → i + d = n → Ev (fun k => L k (i : Int)) (if allF p i d = true then good else bad)
  | 0, i, _, h => by
    obtain rfl : i = n := by omega
    simp only [allF, if_true]; exact he
  | d + 1, i, hl, h => by
    have := hs i hl (by omega) _ (ev_all2 L p bad good lo n hs he d (i + 1) (by omega) (by omega))
    cases hp : p i with
    | true => rw [hp, if_pos rfl] at this; simp only [allF, hp, Bool.true_and]; exact this
    | false => rw [hp, if_neg (by simp)] at this; simp only [allF, hp, Bool.false_and, Bool.false_eq_true, if_false]; exact this
theorem allF_split (p : Nat → Bool) : ∀ d1 d2 i, allF p i (d1 + d2) = (allF p i d1 && allF p (i + d1) d2)
  | 0, d2, i => by simp [allF]
  | d1 + 1, d2, i => by
    rw [show d1 + 1 + d2 = (d1 + d2) + 1 from by omega]
    simp only [allF]
    rw [allF_split p d1 d2 (i + 1), show i + 1 + d1 = i + (d1 + 1) from by omega, Bool.and_assoc]
theorem allF_true (p : Nat → Bool) : ∀ d i, (∀ j, i ≤ j → j < i + d → p j = true) → allF p i d = true
  | 0, _, _ => rfl
  | d + 1, i, h => by simp only [allF]; rw [h i (Nat.le_refl _) (by omega), allF_true p d (i + 1) (fun j h1 h2 => h j (by omega) (by omega))]; rfl
theorem nat1 (i : Nat) : ((i : Int) + 1) = ((i + 1 : Nat) : Int) := by omega
theorem ite_b (b : Bool) : (if b = true then true else false) = b := by cases b <;> rfl

theorem toInt64S_ends (l : List Int) (hl : (l.length : Int) ≤ 1048576) (d : Nat) : ∀ (i : Nat) (m : List Int), i + d = l.length → m.length = l.length → (∀ j, j < i → m.getD j 0 = l.getD j 0) → Ev (fun k => laws_toInt64S.l0 k l m i) l := by
  induction d with
  | zero =>
    intro i m hi hm hj
    have e : m = l := by
      refine List.ext_getElem hm (fun j h1 h2 => ?_)
      have := hj j (by omega)
      rw [List.getD_eq_getElem?_getD, List.getD_eq_getElem?_getD, List.getElem?_eq_getElem h1, List.getElem?_eq_getElem h2] at this
      simpa using this
    exact Ev.step (f := fun _ => some l) (fun k => by simp only [laws_toInt64S.l0]; rw [if_neg (by omega), e]) (Ev.now _)
  | succ d ih =>
    intro i m hi hm hj
    refine Ev.step (fun k => ?_) (ih (i + 1) (m.set i (rd l i)) (by omega) (by simpa using hm) (fun j hji => ?_))
    · simp only [laws_toInt64S.l0]
      rw [if_pos (by omega), if_pos (by omega), if_pos (by omega), w64 (a := (i : Int) + 1) (by omega) (by omega), Int.toNat_natCast]
      have e1 : ((i : Int) + 1) = ((i + 1 : Nat) : Int) := by omega
      rw [e1]
    · by_cases e : j = i
      · subst e
        rw [List.getD_eq_getElem?_getD, List.getElem?_set_self (by omega)]
        unfold rd; rw [Int.toNat_natCast]; rfl
      · rw [List.getD_eq_getElem?_getD, List.getElem?_set_ne (by omega), ← List.getD_eq_getElem?_getD]
        exact hj j (by omega)
theorem toInt64S_ev (l : List Int) (hl : (l.length : Int) ≤ 1048576) : Ev (fun k => laws_toInt64S.f k l) l := by
  refine Ev.congr (fun k => ?_) (toInt64S_ends l hl l.length 0 (List.replicate l.length 0) (by omega) (by simp) (fun j hj => absurd hj (Nat.not_lt_zero _)))
  unfold laws_toInt64S.f
  rw [if_pos (by omega), if_pos (by omega), Int.toNat_natCast]; rfl
theorem eqInt64S_ends (l : List Int) (hl : (l.length : Int) ≤ 1048576) (d : Nat) : ∀ i : Nat, i + d = l.length → Ev (fun k => laws_eqInt64S.l0 k l l i) true := by
  induction d with
  | zero =>
    intro i hi
    exact Ev.step (f := fun _ => some true) (fun k => by simp only [laws_eqInt64S.l0]; rw [if_neg (by omega)]) (Ev.now _)
  | succ d ih =>
    intro i hi
    refine Ev.step (fun k => ?_) (ih (i + 1) (by omega))
    simp only [laws_eqInt64S.l0]
    rw [if_pos (by omega), if_pos (by omega), if_pos (by omega), if_pos trivial, w64 (a := (i : Int) + 1) (by omega) (by omega)]
    have e1 : ((i : Int) + 1) = ((i + 1 : Nat) : Int) := by omega
    rw [e1]
theorem eqInt64S_ev (l : List Int) (hl : (l.length : Int) ≤ 1048576) : Ev (fun k => laws_eqInt64S.f k l l) true := by
  refine Ev.congr (fun k => ?_) (eqInt64S_ends l hl l.length 0 (by omega))
  unfold laws_eqInt64S.f
  rw [if_pos rfl]; rfl

/-- Bit n of a text of bytes. -/
def bitAt (s : ByteArray) (n : Int) : Bool := bt s (n / 8) / 2 ^ (n % 8).toNat % 2 == 1
theorem shr_and (x c : Int) (h0 : 0 ≤ x) (h1 : x ≤ 255) (hc : 0 ≤ c) (hc1 : c ≤ 8) : Go.bits .and .u8 (shr .u8 x c) 1 = x / 2 ^ c.toNat % 2 := by
  rw [shr8 hc1]
  have hp : (0:Int) < 2 ^ c.toNat := by
    have h := Nat.two_pow_pos c.toNat
    have h3 : ((2 : Int) ^ c.toNat) = ((2 ^ c.toNat : Nat) : Int) := by simp
    omega
  exact u8and1 _ (Int.ediv_nonneg h0 (Int.le_of_lt hp)) (Int.lt_of_le_of_lt (Int.ediv_le_self _ h0) (by omega))
theorem spec_HasBit_eq (s : ByteArray) (n : Int) (hn : n ≤ 9223372036854775807) : spec_HasBit.f s n = some (decide ((s.size : Int) ≤ 65536) && (decide (0 ≤ n) && (decide (n / 8 < (s.size : Int)) && bitAt s n))) := by
  unfold spec_HasBit.f
  by_cases hs : (s.size : Int) ≤ 65536
  · rw [if_pos hs, decide_eq_true hs]
    by_cases h0 : n ≥ 0
    · rw [if_pos h0, decide_eq_true h0, tdiv_nn h0, tmod_nn h0, w64 (by omega) (by omega)]
      by_cases h2 : n / 8 < (s.size : Int)
      · obtain ⟨b0, b1⟩ := bt_range s (n / 8)
        rw [if_pos h2, if_pos (by omega), u64w (by omega) (by omega), if_pos (by omega), decide_eq_true h2, shr_and _ _ b0 b1 (by omega) (by omega)]
        rfl
      · rw [if_neg h2, decide_eq_false h2]; rfl
    · rw [if_neg h0, decide_eq_false h0]; rfl
  · rw [if_neg hs, decide_eq_false hs]; rfl

theorem impl_yhasBit_eq (s : ByteArray) (n : Int) (hn : n ≤ 9223372036854775807) : impl_yhasBit.f s n = some (decide (0 ≤ n) && (decide (n / 8 < (s.size : Int)) && bitAt s n)) := by
  unfold impl_yhasBit.f
  by_cases h0 : n ≥ 0
  · rw [if_pos h0, decide_eq_true h0, tdiv_nn h0, tmod_nn h0, w64 (by omega) (by omega)]
    by_cases h2 : n / 8 < (s.size : Int)
    · obtain ⟨b0, b1⟩ := bt_range s (n / 8)
      rw [if_pos h2, if_pos (by omega), if_pos (by omega), decide_eq_true h2, shr_and _ _ b0 b1 (by omega) (by omega)]
      rfl
    · rw [if_neg h2, decide_eq_false h2]; rfl
  · rw [if_neg h0, decide_eq_false h0]; rfl

theorem rd97 (xs : List S97) (i : Nat) (h : i < xs.length) : rd_T97 xs (i : Int) = xs[i] := by unfold rd_T97; rw [Int.toNat_natCast, List.getD_eq_getElem?_getD, List.getElem?_eq_getElem h, Option.getD_some]
theorem rd90 (xs : List S90) (i : Nat) (h : i < xs.length) : rd_T90 xs (i : Int) = xs[i] := by unfold rd_T90; rw [Int.toNat_natCast, List.getD_eq_getElem?_getD, List.getElem?_eq_getElem h, Option.getD_some]
theorem empty_iff (s : ByteArray) : s.toList = ([] : List UInt8) ↔ (s.size : Int) = 0 := by
  rw [ByteArray.toList_eq]
  constructor
  · intro h
    have := data_length s
    rw [h] at this; simp at this; omega
  · intro h
    apply List.eq_nil_of_length_eq_zero
    rw [data_length]; omega
/-- The text at a place is the empty one. -/
def noText (l : List ByteArray) (i : Nat) : Bool := decide (((rdOf ByteArray.empty l (i : Int)).size : Int) = 0)
def textB (l : List ByteArray) (i : Nat) : Bool := noText l i || decide (((rdOf ByteArray.empty l (i : Int)).size : Int) = 16)
theorem texts_spec (l : List ByteArray) (hl : (l.length : Int) ≤ 1048576) : Ev (fun k => spec_l12Texts.f k l) (decide ((l.length : Int) ≤ 64) && allF (textB l) 0 l.length) := by
  unfold spec_l12Texts.f
  by_cases h : (l.length : Int) > 64
  · simp only [if_pos h, decide_eq_false (show ¬ (l.length : Int) ≤ 64 by omega), Bool.false_and]; exact Ev.now _
  · simp only [if_neg h, decide_eq_true (show (l.length : Int) ≤ 64 by omega), Bool.true_and]
    have := ev_all (fun k i => spec_l12Texts.l0 k l i) (textB l) false true l.length (fun i hi hp r hr => ?_) (fun i hi hp => ?_) ?_ l.length 0 (by omega)
    · cases hq : allF (textB l) 0 l.length with
      | true => rw [hq, if_pos rfl] at this; exact this
      | false => rw [hq, if_neg (by simp)] at this; exact this
    · refine Ev.step (fun k => ?_) hr
      simp only [spec_l12Texts.l0]
      rw [if_pos (by omega), if_pos (by omega), w64 (by omega) (by omega), show ((i : Int) + 1) = ((i + 1 : Nat) : Int) from by omega]
      unfold textB noText at hp
      by_cases h1 : ((rdOf ByteArray.empty l (i : Int)).size : Int) = 0
      · rw [if_pos ((empty_iff _).mpr h1)]
      · rw [if_neg (fun e => h1 ((empty_iff _).mp e))]
        rw [decide_eq_false h1, Bool.false_or] at hp
        rw [if_pos (of_decide_eq_true hp)]
    · refine Ev.step (f := fun _ => some false) (fun k => ?_) (Ev.now _)
      simp only [spec_l12Texts.l0]
      rw [if_pos (by omega), if_pos (by omega)]
      unfold textB noText at hp
      rw [Bool.or_eq_false_iff] at hp
      rw [if_neg (fun e => (of_decide_eq_false hp.1) ((empty_iff _).mp e)), if_neg (of_decide_eq_false hp.2)]
    · exact Ev.step (f := fun _ => some true) (fun k => by simp only [spec_l12Texts.l0]; rw [if_neg (by omega)]) (Ev.now _)
/-- How many slots of a row stand for a place of a kind, counted on from n. -/
def cntS (kind at_ : Int) : List S97 → Int → Int
  | [], n => n
  | x :: xs, n => cntS kind at_ xs (if x.f0 = kind ∧ x.f1 = at_ then wrap64 (n + 1) else n)
def cntG (kind at_ : Int) : List S90 → Int → Int
  | [], n => n
  | g :: gs, n => cntG kind at_ gs (cntS kind at_ g.f0 n)
theorem cntS_w (kind at_ : Int) : ∀ xs n, wrap64 n = n → wrap64 (cntS kind at_ xs n) = cntS kind at_ xs n
  | [], n, h => h
  | x :: xs, n, h => by
    simp only [cntS]
    apply cntS_w
    split
    · exact ww _
    · exact h
theorem drop97 (xs : List S97) (i : Nat) (h : i < xs.length) : xs.drop i = xs[i] :: xs.drop (i + 1) := List.drop_eq_getElem_cons h
theorem drop90 (xs : List S90) (i : Nat) (h : i < xs.length) : xs.drop i = xs[i] :: xs.drop (i + 1) := List.drop_eq_getElem_cons h
section
variable (c s : List ByteArray) (gs : List S90) (t : Int)
theorem cnt1_spec (kind at_ : Int) (j : Nat) (hj : j < gs.length) (hgl : (gs.length : Int) ≤ 1048576) (hsl : ((gs[j]).f0.length : Int) ≤ 1048576) (d : Nat) : ∀ (i : Nat) (n : Int), i + d = (gs[j]).f0.length → wrap64 n = n → ∀ r,
    (Ev (fun k => spec_l12Count.l0 k kind at_ (cntS kind at_ ((gs[j]).f0.drop i) n) ((j + 1 : Nat) : Int) c s gs t) r) → Ev (fun k => spec_l12Count.l1 k kind at_ n (j : Int) (i : Int) c s gs t) r := by
  induction d with
  | zero =>
    intro i n hi hn r hr
    rw [List.drop_eq_nil_of_le (by omega)] at hr
    refine Ev.step (fun k => ?_) hr
    simp only [spec_l12Count.l1]
    rw [if_pos (by omega), if_pos (by omega), rd90 gs j hj, if_neg (by omega), w64 (a := (j : Int) + 1) (by omega) (by omega), show ((j : Int) + 1) = ((j + 1 : Nat) : Int) from by omega]
    rfl
  | succ d ih =>
    intro i n hi hn r hr
    have hlt : i < (gs[j]).f0.length := by omega
    rw [drop97 _ i hlt] at hr
    simp only [cntS] at hr
    refine Ev.step (fun k => ?_) (ih (i + 1) _ (by omega) ?_ r hr)
    · simp only [spec_l12Count.l1]
      rw [if_pos (by omega), if_pos (by omega), rd90 gs j hj, if_pos (by omega), if_pos (by omega), rd97 _ i hlt, w64 (a := (i : Int) + 1) (by omega) (by omega), show ((i : Int) + 1) = ((i + 1 : Nat) : Int) from by omega]
      generalize (gs[j]).f0[i] = x
      unfold spec_l01Bool.f
      by_cases h1 : x.f0 = kind
      · rw [if_pos h1]
        by_cases h2 : x.f1 = at_
        · rw [beq_iff_eq.mpr h2, if_pos rfl, Option.bind_some, if_pos ⟨h1, h2⟩]
        · rw [beq_eq_false_iff_ne.mpr h2, if_neg (by simp), Option.bind_some, if_neg (fun e => h2 e.2), show n + 0 = n from by omega, hn]
      · rw [if_neg h1, if_neg (by simp), Option.bind_some, if_neg (fun e => h1 e.1), show n + 0 = n from by omega, hn]
    · split
      · exact ww _
      · exact hn
theorem cnt_spec_loop (kind at_ : Int) (hgl : (gs.length : Int) ≤ 1048576) (hsl : ∀ g, g ∈ gs → (g.f0.length : Int) ≤ 1048576) (d : Nat) : ∀ (j : Nat) (n : Int), j + d = gs.length → wrap64 n = n → Ev (fun k => spec_l12Count.l0 k kind at_ n (j : Int) c s gs t) (cntG kind at_ (gs.drop j) n) := by
  induction d with
  | zero =>
    intro j n hj hn
    rw [List.drop_eq_nil_of_le (by omega)]
    exact Ev.step (f := fun _ => some n) (fun k => by simp only [spec_l12Count.l0]; rw [if_neg (by omega)]) (Ev.now _)
  | succ d ih =>
    intro j n hj hn
    have hlt : j < gs.length := by omega
    rw [drop90 gs j hlt]
    simp only [cntG]
    have := cnt1_spec c s gs t kind at_ j hlt hgl (hsl _ (List.getElem_mem hlt)) (gs[j]).f0.length 0 n (by omega) hn _ (by rw [List.drop_zero]; exact ih (j + 1) _ (by omega) (cntS_w _ _ _ _ hn))
    refine Ev.step (fun k => ?_) this
    simp only [spec_l12Count.l0]
    rw [if_pos (by omega)]
    rfl
theorem cnt_spec (kind at_ : Int) (hgl : (gs.length : Int) ≤ 1048576) (hsl : ∀ g, g ∈ gs → (g.f0.length : Int) ≤ 1048576) : Ev (fun k => spec_l12Count.f k c s gs t kind at_) (cntG kind at_ gs 0) :=
  cnt_spec_loop c s gs t kind at_ hgl hsl gs.length 0 0 (by omega) (w64 (by omega) (by omega))
theorem cnt1_impl (kind at_ : Int) (j : Nat) (sl : List S97) (hjl : (j : Int) ≤ 1048576) (hsl : (sl.length : Int) ≤ 1048576) (d : Nat) : ∀ (i : Nat) (n : Int), i + d = sl.length → ∀ r,
    (Ev (fun k => impl_MemHost_yusers.l0 k kind at_ (cntS kind at_ (sl.drop i) n) gs (gs.length : Int) ((j + 1 : Nat) : Int)) r) → Ev (fun k => impl_MemHost_yusers.l1 k kind at_ n gs (gs.length : Int) (j : Int) sl (sl.length : Int) (i : Int)) r := by
  induction d with
  | zero =>
    intro i n hi r hr
    rw [List.drop_eq_nil_of_le (by omega)] at hr
    refine Ev.step (fun k => ?_) hr
    simp only [impl_MemHost_yusers.l1]
    rw [if_neg (by omega), w64 (a := (j : Int) + 1) (by omega) (by omega), show ((j : Int) + 1) = ((j + 1 : Nat) : Int) from by omega]
    rfl
  | succ d ih =>
    intro i n hi r hr
    have hlt : i < sl.length := by omega
    rw [drop97 _ i hlt] at hr
    simp only [cntS] at hr
    refine Ev.step (fun k => ?_) (ih (i + 1) _ (by omega) r hr)
    simp only [impl_MemHost_yusers.l1]
    rw [if_pos (by omega), if_pos (by omega), if_pos (by omega), rd97 _ i hlt, w64 (a := (i : Int) + 1) (by omega) (by omega), show ((i : Int) + 1) = ((i + 1 : Nat) : Int) from by omega]
    generalize sl[i] = x
    by_cases h1 : x.f0 = kind
    · rw [if_pos h1]
      by_cases h2 : x.f1 = at_
      · rw [if_pos h2, if_pos ⟨h1, h2⟩]
      · rw [if_neg h2, if_neg (fun e => h2 e.2)]
    · rw [if_neg h1, if_neg (fun e => h1 e.1)]
theorem cnt_impl_loop (kind at_ : Int) (hgl : (gs.length : Int) ≤ 1048576) (hsl : ∀ g, g ∈ gs → (g.f0.length : Int) ≤ 1048576) (d : Nat) : ∀ (j : Nat) (n : Int), j + d = gs.length → Ev (fun k => impl_MemHost_yusers.l0 k kind at_ n gs (gs.length : Int) (j : Int)) (cntG kind at_ (gs.drop j) n) := by
  induction d with
  | zero =>
    intro j n hj
    rw [List.drop_eq_nil_of_le (by omega)]
    exact Ev.step (f := fun _ => some n) (fun k => by simp only [impl_MemHost_yusers.l0]; rw [if_neg (by omega)]) (Ev.now _)
  | succ d ih =>
    intro j n hj
    have hlt : j < gs.length := by omega
    rw [drop90 gs j hlt]
    simp only [cntG]
    have := cnt1_impl gs kind at_ j (gs[j]).f0 (by omega) (hsl _ (List.getElem_mem hlt)) (gs[j]).f0.length 0 n (by omega) _ (by rw [List.drop_zero]; exact ih (j + 1) _ (by omega))
    refine Ev.step (fun k => ?_) this
    simp only [impl_MemHost_yusers.l0]
    rw [if_pos (by omega), if_pos (by omega), if_pos (by omega), rd90 gs j hlt]
    rfl
theorem cnt_impl (kind at_ : Int) (hgl : (gs.length : Int) ≤ 1048576) (hsl : ∀ g, g ∈ gs → (g.f0.length : Int) ≤ 1048576) : Ev (fun k => impl_MemHost_yusers.f k c s gs t kind at_) (cntG kind at_ gs 0) :=
  cnt_impl_loop gs kind at_ hgl hsl gs.length 0 0 (by omega)
end

section
variable (c s : List ByteArray) (gs : List S90) (t : Int)
def leadsB (c s : List ByteArray) (x : S97) : Bool :=
  if x.f0 = 0 then x.f1 == 0 else if x.f0 = 1 then (decide (0 ≤ x.f1) && (decide (x.f1 < (c.length : Int)) && !decide (((rdOf ByteArray.empty c x.f1).size : Int) = 0)))
  else if x.f0 = 2 then (decide (0 ≤ x.f1) && (decide (x.f1 < (s.length : Int)) && !decide (((rdOf ByteArray.empty s x.f1).size : Int) = 0))) else false
theorem ne_size (b : ByteArray) : (b.toList != ([] : List UInt8)) = !decide ((b.size : Int) = 0) := by
  by_cases h : (b.size : Int) = 0
  · rw [decide_eq_true h, (empty_iff b).mpr h]; rfl
  · rw [decide_eq_false h]
    have : ¬ b.toList = [] := fun e => h ((empty_iff b).mp e)
    exact bne_iff_ne.mpr this
theorem leads_spec (x : S97) : spec_l12Leads.f c s gs t x.f0 x.f1 x.f2 = some (leadsB c s x) := by
  unfold spec_l12Leads.f leadsB
  by_cases h0 : x.f0 = 0
  · rw [if_pos h0, if_pos h0]
  · rw [if_neg h0, if_neg h0]
    by_cases h1 : x.f0 = 1
    · rw [if_pos h1, if_pos h1]
      by_cases a : x.f1 ≥ 0
      · rw [if_pos a, decide_eq_true (show 0 ≤ x.f1 from a), if_pos a]
        by_cases b : x.f1 < (c.length : Int)
        · rw [if_pos b, decide_eq_true b, ne_size]; rfl
        · rw [if_neg b, decide_eq_false b]; rfl
      · rw [if_neg a, decide_eq_false (show ¬ 0 ≤ x.f1 from a)]; rfl
    · rw [if_neg h1, if_neg h1]
      by_cases h2 : x.f0 = 2
      · rw [if_pos h2, if_pos h2]
        by_cases a : x.f1 ≥ 0
        · rw [if_pos a, decide_eq_true (show 0 ≤ x.f1 from a), if_pos a]
          by_cases b : x.f1 < (s.length : Int)
          · rw [if_pos b, decide_eq_true b, ne_size]; rfl
          · rw [if_neg b, decide_eq_false b]; rfl
        · rw [if_neg a, decide_eq_false (show ¬ 0 ≤ x.f1 from a)]; rfl
      · rw [if_neg h2, if_neg h2]
def slotB (c s : List ByteArray) (t : Int) (x : S97) : Bool := leadsB c s x && (decide (0 ≤ x.f2) && decide (x.f2 ≤ t))
def inB (a lo hi : Int) : Bool := decide (lo ≤ a) && decide (a ≤ hi)
theorem yin_eq (a lo hi : Int) : impl_yin.f a lo hi = some (inB a lo hi) := by
  unfold impl_yin.f inB
  by_cases h : a ≥ lo
  · rw [if_pos h, decide_eq_true h]; rfl
  · rw [if_neg h, decide_eq_false h]; rfl
def bitB (a : ByteArray) (i : Nat) : Bool := decide ((i : Int) / 8 < (a.size : Int)) && bitAt a i
theorem ybit (a : ByteArray) (i : Nat) (h : i ≤ 1048576) : impl_yhasBit.f a (i : Int) = some (bitB a i) := by
  rw [impl_yhasBit_eq a i (by omega), decide_eq_true (show (0 : Int) ≤ (i : Int) by omega)]; rfl
theorem sbit (a : ByteArray) (i : Nat) (h : i ≤ 1048576) (ha : (a.size : Int) ≤ 65536) : spec_HasBit.f a (i : Int) = some (bitB a i) := by
  rw [spec_HasBit_eq a i (by omega), decide_eq_true ha, decide_eq_true (show (0 : Int) ≤ (i : Int) by omega)]; rfl
/-- No bit is on from i on, of d bits. -/
def noBits (a : ByteArray) (i d : Nat) : Bool := allF (fun j => !bitB a j) i d
theorem next_loop (a : ByteArray) (x1 : Int) (ha : (a.size : Int) ≤ 4) (d : Nat) : ∀ i : Nat, i + d = 8 * a.size → ∃ r, Ev (fun k => spec_NextBit.l0 k a x1 true ((8 * a.size : Nat) : Int) (i : Int)) r ∧ decide (r ≥ 0) = !noBits a i d := by
  induction d with
  | zero =>
    intro i hi
    refine ⟨-1, Ev.step (f := fun _ => some (-1)) (fun k => ?_) (Ev.now _), rfl⟩
    simp only [spec_NextBit.l0]
    rw [if_neg (by omega), if_pos trivial]
  | succ d ih =>
    intro i hi
    obtain ⟨r, hr, hc⟩ := ih (i + 1) (by omega)
    have hb := sbit a i (by omega) (by omega)
    have hstep : ∀ k, spec_NextBit.l0 (k + 1) a x1 true ((8 * a.size : Nat) : Int) (i : Int) = if bitB a i = true then some (i : Int) else spec_NextBit.l0 k a x1 true ((8 * a.size : Nat) : Int) ((i + 1 : Nat) : Int) := by
      intro k
      simp only [spec_NextBit.l0]
      rw [if_pos (by omega), hb, Option.bind_some, w64 (a := (i : Int) + 1) (by omega) (by omega), nat1]
      cases bitB a i <;> rfl
    cases hv : bitB a i with
    | true =>
      refine ⟨(i : Int), Ev.step (f := fun _ => some (i : Int)) (fun k => by rw [hstep, hv, if_pos rfl]) (Ev.now _), ?_⟩
      unfold noBits
      simp only [allF, hv, Bool.not_true, Bool.false_and, Bool.not_false]
      exact decide_eq_true (by omega)
    | false =>
      refine ⟨r, Ev.step (fun k => by rw [hstep, hv, if_neg (by simp)]) hr, ?_⟩
      rw [hc]
      unfold noBits
      simp only [allF, hv, Bool.not_false, Bool.true_and]
theorem bit_high (a : ByteArray) (j : Nat) (h : 8 * a.size ≤ j) : bitB a j = false := by
  unfold bitB
  rw [decide_eq_false (by omega), Bool.false_and]
theorem next_ev (a : ByteArray) (n : Nat) (ha : (a.size : Int) ≤ 4) (hn : n ≤ 32) : ∃ r, Ev (fun k => spec_NextBit.f k a (n : Int) true) r ∧ decide (r ≥ 0) = !noBits a n (32 - n) := by
  have e8 : wrap64 (8 * (a.size : Int)) = ((8 * a.size : Nat) : Int) := by rw [w64 (by omega) (by omega)]; omega
  have hmx : spec_l01Max.f 0 (n : Int) = some (n : Int) := by unfold spec_l01Max.f; rw [if_neg (by omega)]
  have hsz : ¬ (a.size : Int) > 65536 := by omega
  by_cases h : n ≤ 8 * a.size
  · obtain ⟨r, hr, hc⟩ := next_loop a (n : Int) ha (8 * a.size - n) n (by omega)
    refine ⟨r, Ev.congr (fun k => ?_) hr, ?_⟩
    · unfold spec_NextBit.f; rw [if_neg hsz, hmx, Option.bind_some, e8]
    · rw [hc]
      unfold noBits
      have := allF_split (fun j => !bitB a j) (8 * a.size - n) (32 - 8 * a.size) n
      rw [show 8 * a.size - n + (32 - 8 * a.size) = 32 - n from by omega] at this
      rw [this, allF_true (fun j => !bitB a j) (32 - 8 * a.size) (n + (8 * a.size - n)) (fun j h1 _ => by show (!bitB a j) = true; rw [bit_high a j (by omega)]; rfl), Bool.and_true]
  · refine ⟨-1, Ev.congr (g := fun k => spec_NextBit.f k a (n : Int) true) (f := fun k => spec_NextBit.l0 k a (n : Int) true ((8 * a.size : Nat) : Int) (n : Int)) (fun k => by unfold spec_NextBit.f; rw [if_neg hsz, hmx, Option.bind_some, e8]) (Ev.step (f := fun _ => some (-1)) (fun k => ?_) (Ev.now _)), ?_⟩
    · simp only [spec_NextBit.l0]
      rw [if_neg (by omega), if_pos trivial]
    · unfold noBits
      rw [allF_true (fun j => !bitB a j) _ _ (fun j h1 _ => by show (!bitB a j) = true; rw [bit_high a j (by omega)]; rfl)]; rfl
def risB (l : List Int) (i : Nat) : Bool := decide (i = 0) || decide (rd l ((i : Int) - 1) < rd l (i : Int))
theorem rising_spec (l : List Int) (hl : (l.length : Int) ≤ 1048576) : Ev (fun k => spec_l08Rising.f k l) (allF (risB l) 0 l.length) := by
  unfold spec_l08Rising.f
  have hend : Ev (fun k => spec_l08Rising.l0 k l (l.length : Int)) true := Ev.step (f := fun _ => some true) (fun k => by simp only [spec_l08Rising.l0]; rw [if_neg (by omega)]) (Ev.now _)
  have hstep : ∀ (i : Nat), 1 ≤ i → i < l.length → ∀ k, spec_l08Rising.l0 (k + 1) l (i : Int) = if rd l ((i : Int) - 1) < rd l (i : Int) then spec_l08Rising.l0 k l ((i + 1 : Nat) : Int) else some false := by
    intro i h1 h2 k
    simp only [spec_l08Rising.l0]
    rw [if_pos (by omega), w64 (a := (i : Int) - 1) (by omega) (by omega), if_pos (by omega), if_pos (by omega), if_pos (by omega), w64 (a := (i : Int) + 1) (by omega) (by omega), nat1]
    by_cases hq : rd l ((i : Int) - 1) < rd l (i : Int)
    · rw [if_neg (by omega), if_pos hq]
    · rw [if_pos (by omega), if_neg hq]
  by_cases hn : l.length = 0
  · rw [hn]
    exact Ev.step (f := fun _ => some true) (fun k => by simp only [spec_l08Rising.l0]; rw [if_neg (by omega)]) (Ev.now _)
  · have h := ev_all2 (fun k i => spec_l08Rising.l0 k l i) (risB l) false true 1 l.length (fun i h1 h2 r hr => by
      unfold risB
      rw [decide_eq_false (show ¬ i = 0 by omega), Bool.false_or]
      by_cases hq : rd l ((i : Int) - 1) < rd l (i : Int)
      · rw [decide_eq_true hq, if_pos rfl]
        exact Ev.step (fun k => by rw [hstep i h1 h2, if_pos hq]) hr
      · rw [decide_eq_false hq, if_neg (by simp)]
        exact Ev.step (f := fun _ => some false) (fun k => by rw [hstep i h1 h2, if_neg hq]) (Ev.now _)) hend (l.length - 1) 1 (Nat.le_refl _) (by omega)
    rw [ite_b] at h
    have e : allF (risB l) 0 l.length = allF (risB l) 1 (l.length - 1) := by
      rw [show l.length = (l.length - 1) + 1 from by omega]
      simp only [allF, Nat.add_sub_cancel, Nat.zero_add]
      rw [show risB l 0 = true from rfl, Bool.true_and]
    rw [e]; exact h
/-- A group of four slots is as a huge one must be. -/
def gB (gs : List S90) (sl : List S97) (n : Int) (k : Nat) : Bool :=
  decide ((rd_T97 sl (n * 4 + (k : Int))).f0 = 1) && (decide ((rd_T97 sl (n * 4 + (k : Int))).f1 = wrap64 ((rd_T97 sl (n * 4)).f1 + (k : Int))) && decide (cntG 1 (rd_T97 sl (n * 4 + (k : Int))).f1 gs 0 = 1))
def groupB (gs : List S90) (sl : List S97) (n : Int) : Bool :=
  decide (0 ≤ n) && (decide (n < (sl.length : Int) / 4) && ((Int.tmod (rd_T97 sl (n * 4)).f1 4 == 0) && allF (gB gs sl n) 0 4))
theorem group_spec (sl : List S97) (a : ByteArray) (hu : List Int) (n : Int) (hgl : (gs.length : Int) ≤ 1048576) (hsl : ∀ g, g ∈ gs → (g.f0.length : Int) ≤ 1048576) (h32 : (sl.length : Int) ≤ 32) :
    Ev (fun k => spec_l12Group.f k c s gs t sl a hu n) (groupB gs sl n) := by
  have stop : Ev (fun k => spec_l12Group.j0 k n true c s gs t sl a hu) false := Ev.step (f := fun _ => some false) (fun k => by simp only [spec_l12Group.j0]; rw [if_pos trivial]) (Ev.now _)
  unfold spec_l12Group.f groupB
  by_cases h0 : n < 0
  · simp only [if_pos h0, decide_eq_false (show ¬ 0 ≤ n by omega), Bool.false_and]; exact stop
  · by_cases h1 : n ≥ 32
    · simp only [if_neg h0, if_pos h1, decide_eq_false (show ¬ n < (sl.length : Int) / 4 by omega), Bool.false_and, Bool.and_false]; exact stop
    · simp only [if_neg h0, if_neg h1]
      have ew : wrap64 ((wrap64 (n + 1)) * 4) = (n + 1) * 4 := by rw [w64 (a := n + 1) (by omega) (by omega), w64 (by omega) (by omega)]
      rw [ew]
      by_cases h2 : (n + 1) * 4 > (sl.length : Int)
      · simp only [decide_eq_true h2, decide_eq_false (show ¬ n < (sl.length : Int) / 4 by omega), Bool.false_and, Bool.and_false]; exact stop
      · simp only [decide_eq_false h2, decide_eq_true (show 0 ≤ n by omega), decide_eq_true (show n < (sl.length : Int) / 4 by omega), Bool.true_and]
        have e4 : wrap64 (n * 4) = n * 4 := w64 (by omega) (by omega)
        refine Ev.step (f := fun k => spec_l12Group.l0 k n ((rd_T97 sl (n * 4)).f1) ((0 : Nat) : Int) c s gs t sl a hu) (fun k => by simp only [spec_l12Group.j0]; rw [if_neg (by simp), e4, if_pos (by omega), if_pos (by omega)]; rfl) ?_
        have h := ev_all2 (fun k i => spec_l12Group.l0 k n ((rd_T97 sl (n * 4)).f1) i c s gs t sl a hu) (gB gs sl n) false (Int.tmod (rd_T97 sl (n * 4)).f1 4 == 0) 0 4 (fun i _ hi r hr => ?_) ?_ 4 0 (Nat.le_refl _) rfl
        · have e : ((Int.tmod (rd_T97 sl (n * 4)).f1 4 == 0) && allF (gB gs sl n) 0 4) = (if allF (gB gs sl n) 0 4 = true then (Int.tmod (rd_T97 sl (n * 4)).f1 4 == 0) else false) := by
            cases allF (gB gs sl n) 0 4 <;> simp
          rw [e]; exact h
        · have ei : wrap64 ((wrap64 (n * 4)) + (i : Int)) = n * 4 + (i : Int) := by rw [e4, w64 (by omega) (by omega)]
          unfold gB
          have hcnt := cnt_spec c s gs t 1 (rd_T97 sl (n * 4 + (i : Int))).f1 hgl hsl
          generalize hx : rd_T97 sl (n * 4 + (i : Int)) = x at hcnt
          generalize hf : (rd_T97 sl (n * 4)).f1 = f at hr
          have hst : ∀ k, spec_l12Group.l0 (k + 1) n f (i : Int) c s gs t sl a hu = if x.f0 = 1 then (if x.f1 = wrap64 (f + (i : Int)) then ((spec_l12Count.f k c s gs t 1 x.f1).bind fun t134 => if t134 = 1 then spec_l12Group.l0 k n f ((i + 1 : Nat) : Int) c s gs t sl a hu else some false) else some false) else some false := by
            intro k
            simp only [spec_l12Group.l0]
            rw [if_pos (by omega), ei, if_pos (by omega), if_pos (by omega), hx, w64 (a := (i : Int) + 1) (by omega) (by omega), nat1]
          by_cases q1 : x.f0 = 1
          · rw [decide_eq_true q1, Bool.true_and]
            by_cases q2 : x.f1 = wrap64 (f + (i : Int))
            · rw [decide_eq_true q2, Bool.true_and]
              refine Ev.step (fun k => by rw [hst, if_pos q1, if_pos q2]) (Ev.bind hcnt ?_)
              by_cases q3 : cntG 1 x.f1 gs 0 = 1
              · simp only [if_pos q3, decide_eq_true q3, if_true]; exact hr
              · simp only [if_neg q3, decide_eq_false q3, Bool.false_eq_true, if_false]; exact Ev.now _
            · rw [decide_eq_false q2, Bool.false_and, if_neg (by simp)]
              exact Ev.step (f := fun _ => some false) (fun k => by rw [hst, if_pos q1, if_neg q2]) (Ev.now _)
          · rw [decide_eq_false q1, Bool.false_and, if_neg (by simp)]
            exact Ev.step (f := fun _ => some false) (fun k => by rw [hst, if_neg q1]) (Ev.now _)
        · exact Ev.step (f := fun _ => some (Int.tmod (rd_T97 sl (n * 4)).f1 4 == 0)) (fun k => by simp only [spec_l12Group.l0]; rw [if_neg (by decide)]) (Ev.now _)
theorem group_impl (sl : List S97) (a : ByteArray) (hu : List Int) (n : Int) (hgl : (gs.length : Int) ≤ 1048576) (hsl : ∀ g, g ∈ gs → (g.f0.length : Int) ≤ 1048576) (h32 : (sl.length : Int) ≤ 1048576) :
    Ev (fun k => impl_MemHost_yhugeOk.f k c s gs t sl a hu n) (groupB gs sl n) := by
  have stop : Ev (fun k => impl_MemHost_yhugeOk.j0 k n true c s gs t sl a hu) false := Ev.step (f := fun _ => some false) (fun k => by simp only [impl_MemHost_yhugeOk.j0]; rw [if_pos trivial]) (Ev.now _)
  unfold impl_MemHost_yhugeOk.f groupB
  by_cases h0 : n < 0
  · simp only [if_pos h0, decide_eq_false (show ¬ 0 ≤ n by omega), Bool.false_and]; exact stop
  · simp only [if_neg h0]
    have ew : wrap64 ((sl.length : Int) / 4) = (sl.length : Int) / 4 := w64 (by omega) (by omega)
    rw [ew]
    by_cases h2 : n ≥ (sl.length : Int) / 4
    · simp only [decide_eq_true h2, decide_eq_false (show ¬ n < (sl.length : Int) / 4 by omega), Bool.false_and, Bool.and_false]; exact stop
    · simp only [decide_eq_false h2, decide_eq_true (show 0 ≤ n by omega), decide_eq_true (show n < (sl.length : Int) / 4 by omega), Bool.true_and]
      have e4 : wrap64 (n * 4) = n * 4 := w64 (by omega) (by omega)
      have e5 : wrap64 ((wrap64 (n + 1)) * 4) = (n + 1) * 4 := by rw [w64 (a := n + 1) (by omega) (by omega), w64 (by omega) (by omega)]
      obtain ⟨y, hy⟩ : ∃ y, (sl.take ((n + 1) * 4).toNat).drop (n * 4).toNat = y := ⟨_, rfl⟩
      have hyl : y.length = 4 := by rw [← hy, List.length_drop, List.length_take]; omega
      have hyr : ∀ i : Nat, i < 4 → rd_T97 y (i : Int) = rd_T97 sl (n * 4 + (i : Int)) := by
        intro i hi
        unfold rd_T97
        rw [← hy, Int.toNat_natCast, List.getD_eq_getElem?_getD, List.getD_eq_getElem?_getD, List.getElem?_drop, List.getElem?_take_of_lt (by omega), show (n * 4 + (i : Int)).toNat = (n * 4).toNat + i from by omega]
      refine Ev.step (f := fun k => impl_MemHost_yhugeOk.l0 k ((rd_T97 sl (n * 4)).f1) y 4 ((0 : Nat) : Int) c s gs t) (fun k => by
        simp only [impl_MemHost_yhugeOk.j0]
        rw [if_neg (by simp), e4, e5, if_pos (by omega), if_pos (by omega), if_pos (by omega), if_pos (by omega), Option.bind_some, hy, hyl]; rfl) ?_
      have h := ev_all2 (fun k i => impl_MemHost_yhugeOk.l0 k ((rd_T97 sl (n * 4)).f1) y 4 i c s gs t) (fun j => (Int.tmod (rd_T97 sl (n * 4)).f1 4 == 0) && gB gs sl n j) false true 0 4 (fun i _ hi r hr => ?_) ?_ 4 0 (Nat.le_refl _) rfl
      · rw [ite_b, allF_const] at h; exact h
      · unfold gB
        have hcnt := cnt_impl c s gs t 1 (rd_T97 sl (n * 4 + (i : Int))).f1 hgl hsl
        have hyi := hyr i hi
        generalize hx : rd_T97 sl (n * 4 + (i : Int)) = x at hcnt hyi
        generalize hf : (rd_T97 sl (n * 4)).f1 = f at hr
        have hst : ∀ k, impl_MemHost_yhugeOk.l0 (k + 1) f y 4 (i : Int) c s gs t = if x.f0 = 1 then (if Int.tmod f 4 = 0 then (if x.f1 = wrap64 (f + (i : Int)) then ((impl_MemHost_yusers.f k c s gs t 1 x.f1).bind fun t221 => if t221 = 1 then impl_MemHost_yhugeOk.l0 k f y 4 ((i + 1 : Nat) : Int) c s gs t else some false) else some false) else some false) else some false := by
          intro k
          simp only [impl_MemHost_yhugeOk.l0]
          rw [if_pos (by omega), if_pos (by omega), if_pos (by omega), hyi, w64 (a := (i : Int) + 1) (by omega) (by omega), nat1]
        by_cases q1 : x.f0 = 1
        · by_cases q0 : Int.tmod f 4 = 0
          · rw [beq_iff_eq.mpr q0, decide_eq_true q1, Bool.true_and, Bool.true_and]
            by_cases q2 : x.f1 = wrap64 (f + (i : Int))
            · rw [decide_eq_true q2, Bool.true_and]
              refine Ev.step (fun k => by rw [hst, if_pos q1, if_pos q0, if_pos q2]) (Ev.bind hcnt ?_)
              by_cases q3 : cntG 1 x.f1 gs 0 = 1
              · simp only [if_pos q3, decide_eq_true q3, if_true]; exact hr
              · simp only [if_neg q3, decide_eq_false q3, Bool.false_eq_true, if_false]; exact Ev.now _
            · rw [decide_eq_false q2, Bool.false_and, if_neg (by simp)]
              exact Ev.step (f := fun _ => some false) (fun k => by rw [hst, if_pos q1, if_pos q0, if_neg q2]) (Ev.now _)
          · rw [beq_eq_false_iff_ne.mpr q0, Bool.false_and, if_neg (by simp)]
            exact Ev.step (f := fun _ => some false) (fun k => by rw [hst, if_pos q1, if_neg q0]) (Ev.now _)
        · rw [decide_eq_false q1, Bool.false_and, Bool.and_false, if_neg (by simp)]
          exact Ev.step (f := fun _ => some false) (fun k => by rw [hst, if_neg q1]) (Ev.now _)
      · exact Ev.step (f := fun _ => some true) (fun k => by simp only [impl_MemHost_yhugeOk.l0]; rw [if_neg (by decide)]) (Ev.now _)
end

section
variable (c s : List ByteArray) (gs : List S90) (t : Int)
def gA (c s : List ByteArray) (t : Int) (g : S90) : Bool :=
  decide ((g.f0.length : Int) ≤ 32) && (decide ((g.f1.size : Int) ≤ 4) && (allF (fun i => slotB c s t (rd_T97 g.f0 (i : Int))) 0 g.f0.length && noBits g.f1 g.f0.length (32 - g.f0.length)))
def gH (gs : List S90) (g : S90) : Bool := allF (risB g.f2) 0 g.f2.length && allF (fun i => groupB gs g.f0 (rd g.f2 (i : Int))) 0 g.f2.length
theorem guest_spec (g : S90) (hgl : (gs.length : Int) ≤ 1048576) (hsl : ∀ g, g ∈ gs → (g.f0.length : Int) ≤ 1048576) (h0 : (g.f0.length : Int) ≤ 1048576) (h2 : (g.f2.length : Int) ≤ 1048576) :
    Ev (fun k => spec_l12Guest.f k c s gs t g.f0 g.f1 g.f2) (gA c s t g && gH gs g) := by
  have stop : Ev (fun k => spec_l12Guest.j0 k true c s gs t g.f0 g.f1 g.f2) false := Ev.step (f := fun _ => some false) (fun k => by simp only [spec_l12Guest.j0]; rw [if_pos trivial]) (Ev.now _)
  unfold spec_l12Guest.f gA gH
  by_cases q1 : (g.f0.length : Int) > 32
  · simp only [if_pos q1, decide_eq_false (show ¬ (g.f0.length : Int) ≤ 32 by omega), Bool.false_and]; exact stop
  · by_cases q2 : (g.f1.size : Int) > 4
    · simp only [if_neg q1, if_pos q2, decide_eq_false (show ¬ (g.f1.size : Int) ≤ 4 by omega), Bool.false_and, Bool.and_false]; exact stop
    · simp only [if_neg q1, if_neg q2, decide_eq_true (show (g.f0.length : Int) ≤ 32 by omega), decide_eq_true (show (g.f1.size : Int) ≤ 4 by omega), Bool.true_and]
      refine Ev.bind (rising_spec g.f2 h2) ?_
      cases hr : allF (risB g.f2) 0 g.f2.length with
      | false => simp only [Bool.false_eq_true, if_false, Bool.false_and, Bool.and_false]; exact stop
      | true =>
        simp only [if_true, Bool.true_and]
        obtain ⟨z, hz, hc⟩ := next_ev g.f1 g.f0.length (by omega) (by omega)
        refine Ev.bind hz ?_
        rw [hc]
        cases hn : noBits g.f1 g.f0.length (32 - g.f0.length) with
        | false => simp only [Bool.not_false, Bool.and_false, Bool.false_and]; exact stop
        | true =>
          simp only [Bool.not_true, Bool.and_true]
          refine Ev.step (f := fun k => spec_l12Guest.l0 k ((0 : Nat) : Int) c s gs t g.f0 g.f1 g.f2) (fun k => by simp only [spec_l12Guest.j0]; rw [if_neg (by simp)]; rfl) ?_
          have hl1 := ev_all2 (fun k i => spec_l12Guest.l1 k i c s gs t g.f0 g.f1 g.f2) (fun i => groupB gs g.f0 (rd g.f2 (i : Int))) false true 0 g.f2.length (fun i _ hi r hr => by
            refine Ev.step (f := fun k => (spec_l12Group.f k c s gs t g.f0 g.f1 g.f2 (rd g.f2 (i : Int))).bind fun t143 => if t143 = true then spec_l12Guest.l1 k ((i + 1 : Nat) : Int) c s gs t g.f0 g.f1 g.f2 else some false) (fun k => by simp only [spec_l12Guest.l1]; rw [if_pos (by omega), if_pos (by omega), w64 (a := (i : Int) + 1) (by omega) (by omega), nat1]) (Ev.bind (group_spec c s gs t g.f0 g.f1 g.f2 _ hgl hsl (by omega)) ?_)
            cases groupB gs g.f0 (rd g.f2 (i : Int)) with
            | true => simp only [if_true]; exact hr
            | false => simp only [Bool.false_eq_true, if_false]; exact Ev.now _) (Ev.step (f := fun _ => some true) (fun k => by simp only [spec_l12Guest.l1]; rw [if_neg (by omega)]) (Ev.now _)) g.f2.length 0 (Nat.le_refl _) (by omega)
          rw [ite_b] at hl1
          have hl0 := ev_all2 (fun k i => spec_l12Guest.l0 k i c s gs t g.f0 g.f1 g.f2) (fun i => slotB c s t (rd_T97 g.f0 (i : Int))) false _ 0 g.f0.length (fun i _ hi r hr => by
            have hst : ∀ k, spec_l12Guest.l0 (k + 1) (i : Int) c s gs t g.f0 g.f1 g.f2 = if slotB c s t (rd_T97 g.f0 (i : Int)) = true then spec_l12Guest.l0 k ((i + 1 : Nat) : Int) c s gs t g.f0 g.f1 g.f2 else some false := by
              intro k
              simp only [spec_l12Guest.l0]
              rw [if_pos (by omega), if_pos (by omega), leads_spec, Option.bind_some, w64 (a := (i : Int) + 1) (by omega) (by omega), nat1]
              unfold slotB
              generalize rd_T97 g.f0 (i : Int) = x
              cases leadsB c s x with
              | false => rfl
              | true =>
                rw [if_pos rfl, Bool.true_and]
                by_cases u1 : x.f2 < 0
                · rw [if_pos u1, decide_eq_false (by omega)]; rfl
                · rw [if_neg u1, decide_eq_true (show 0 ≤ x.f2 by omega)]
                  by_cases u2 : x.f2 > t
                  · rw [if_pos u2, decide_eq_false (show ¬ x.f2 ≤ t by omega)]; rfl
                  · rw [if_neg u2, decide_eq_true (show x.f2 ≤ t by omega)]; rfl
            cases hv : slotB c s t (rd_T97 g.f0 (i : Int)) with
            | true => rw [if_pos rfl]; exact Ev.step (fun k => by rw [hst, hv, if_pos rfl]) hr
            | false => rw [if_neg (by simp)]; exact Ev.step (f := fun _ => some false) (fun k => by rw [hst, hv, if_neg (by simp)]) (Ev.now _))
            (Ev.step (fun k => by simp only [spec_l12Guest.l0]; rw [if_neg (by omega)]; rfl) hl1) g.f0.length 0 (Nat.le_refl _) (by omega)
          cases hs : allF (fun i => slotB c s t (rd_T97 g.f0 (i : Int))) 0 g.f0.length with
          | true => rw [hs, if_pos rfl] at hl0; rw [Bool.true_and]; exact hl0
          | false => rw [hs, if_neg (by simp)] at hl0; rw [Bool.false_and]; exact hl0
def cellB (gs : List S90) (c : List ByteArray) (i : Nat) : Bool := noText c i || !decide (cntG 1 (i : Int) gs 0 = 0)
def swapB (gs : List S90) (s : List ByteArray) (i : Nat) : Bool := noText s i || decide (cntG 2 (i : Int) gs 0 = 1)
/-- What both come to behind the guests. -/
def tailB (c s : List ByteArray) (gs : List S90) : Bool := allF (cellB gs c) 0 c.length && allF (swapB gs s) 0 s.length
theorem noText_iff (l : List ByteArray) (i : Nat) : (rdOf ByteArray.empty l (i : Int)).toList = ([] : List UInt8) ↔ noText l i = true := by
  unfold noText; rw [empty_iff, decide_eq_true_iff]
theorem spec_tail (hgl : (gs.length : Int) ≤ 1048576) (hsl : ∀ g, g ∈ gs → (g.f0.length : Int) ≤ 1048576) (hc : (c.length : Int) ≤ 1048576) (hs : (s.length : Int) ≤ 1048576) :
    Ev (fun k => spec_MemHostFault.l1 k ((0 : Nat) : Int) c s gs t) (if tailB c s gs = true then 0 else 1) := by
  have h2 := ev_all2 (fun k i => spec_MemHostFault.l2 k i c s gs t) (swapB gs s) 1 0 0 s.length (fun i _ hi r hr => by
    have hcnt := cnt_spec c s gs t 2 (i : Int) hgl hsl
    unfold swapB
    cases hn : noText s i with
    | true =>
      rw [Bool.true_or, if_pos rfl]
      exact Ev.step (fun k => by simp only [spec_MemHostFault.l2]; rw [if_pos (by omega), if_pos (by omega), if_pos ((noText_iff s i).mpr hn), w64 (a := (i : Int) + 1) (by omega) (by omega), nat1]) hr
    | false =>
      rw [Bool.false_or]
      refine Ev.step (f := fun k => (spec_l12Count.f k c s gs t 2 (i : Int)).bind fun t152 => if t152 = 1 then spec_MemHostFault.l2 k ((i + 1 : Nat) : Int) c s gs t else some 1) (fun k => by simp only [spec_MemHostFault.l2]; rw [if_pos (by omega), if_pos (by omega), if_neg (fun e => by rw [(noText_iff s i).mp e] at hn; cases hn), w64 (a := (i : Int) + 1) (by omega) (by omega), nat1]) (Ev.bind hcnt ?_)
      by_cases q : cntG 2 (i : Int) gs 0 = 1
      · simp only [if_pos q, decide_eq_true q, if_true]; exact hr
      · simp only [if_neg q, decide_eq_false q, Bool.false_eq_true, if_false]; exact Ev.now _)
    (Ev.step (f := fun _ => some 0) (fun k => by simp only [spec_MemHostFault.l2]; rw [if_neg (by omega)]) (Ev.now _)) s.length 0 (Nat.le_refl _) (by omega)
  have h1 := ev_all2 (fun k i => spec_MemHostFault.l1 k i c s gs t) (cellB gs c) 1 _ 0 c.length (fun i _ hi r hr => by
    have hcnt := cnt_spec c s gs t 1 (i : Int) hgl hsl
    unfold cellB
    cases hn : noText c i with
    | true =>
      rw [Bool.true_or, if_pos rfl]
      exact Ev.step (fun k => by simp only [spec_MemHostFault.l1]; rw [if_pos (by omega), if_pos (by omega), if_pos ((noText_iff c i).mpr hn), w64 (a := (i : Int) + 1) (by omega) (by omega), nat1]) hr
    | false =>
      rw [Bool.false_or]
      refine Ev.step (f := fun k => (spec_l12Count.f k c s gs t 1 (i : Int)).bind fun t150 => if t150 = 0 then some 1 else spec_MemHostFault.l1 k ((i + 1 : Nat) : Int) c s gs t) (fun k => by simp only [spec_MemHostFault.l1]; rw [if_pos (by omega), if_pos (by omega), if_neg (fun e => by rw [(noText_iff c i).mp e] at hn; cases hn), w64 (a := (i : Int) + 1) (by omega) (by omega), nat1]) (Ev.bind hcnt ?_)
      by_cases q : cntG 1 (i : Int) gs 0 = 0
      · simp only [if_pos q, decide_eq_true q, Bool.not_true, Bool.false_eq_true, if_false]; exact Ev.now _
      · simp only [if_neg q, decide_eq_false q, Bool.not_false, if_true]; exact hr)
    (Ev.step (fun k => by simp only [spec_MemHostFault.l1]; rw [if_neg (by omega)]; rfl) h2) c.length 0 (Nat.le_refl _) (by omega)
  unfold tailB
  cases u : allF (cellB gs c) 0 c.length with
  | true => rw [u, if_pos rfl] at h1; rw [Bool.true_and]; exact h1
  | false => rw [u, if_neg (by simp)] at h1; rw [Bool.false_and, if_neg (by simp)]; exact h1
def gsA (c s : List ByteArray) (t : Int) (gs : List S90) : Bool := allF (fun j => gA c s t (rd_T90 gs (j : Int))) 0 gs.length
def gsH (gs : List S90) : Bool := allF (fun j => gH gs (rd_T90 gs (j : Int))) 0 gs.length
def headB (c s : List ByteArray) (gs : List S90) (t : Int) : Bool :=
  (decide ((c.length : Int) ≤ 64) && decide ((s.length : Int) ≤ 64)) && ((decide (1 ≤ (gs.length : Int)) && decide ((gs.length : Int) ≤ 8)) && (decide (0 ≤ t) && decide (t ≤ 1099511627776)))
def txtB (c s : List ByteArray) : Bool := allF (textB c) 0 c.length && allF (textB s) 0 s.length
def hostB (c s : List ByteArray) (gs : List S90) (t : Int) : Bool := (headB c s gs t && txtB c s) && ((gsA c s t gs && gsH gs) && tailB c s gs)
theorem spec_guests (hgl : (gs.length : Int) ≤ 1048576) (hsl : ∀ g, g ∈ gs → (g.f0.length : Int) ≤ 1048576 ∧ (g.f2.length : Int) ≤ 1048576) (hc : (c.length : Int) ≤ 1048576) (hs : (s.length : Int) ≤ 1048576) :
    Ev (fun k => spec_MemHostFault.l0 k ((0 : Nat) : Int) c s gs t) (if ((gsA c s t gs && gsH gs) && tailB c s gs) = true then 0 else 1) := by
  have h3 := spec_tail c s gs t hgl (fun g hg => (hsl g hg).1) hc hs
  have h := ev_all2 (fun k i => spec_MemHostFault.l0 k i c s gs t) (fun j => gA c s t (rd_T90 gs (j : Int)) && gH gs (rd_T90 gs (j : Int))) 1 _ 0 gs.length (fun i _ hi r hr => by
    have hm := hsl _ (List.getElem_mem hi)
    have hg := guest_spec c s gs t (rd_T90 gs (i : Int)) hgl (fun g hg => (hsl g hg).1) (by rw [rd90 gs i hi]; exact hm.1) (by rw [rd90 gs i hi]; exact hm.2)
    refine Ev.step (f := fun k => (spec_l12Guest.f k c s gs t ((rd_T90 gs (i : Int)).f0) ((rd_T90 gs (i : Int)).f1) ((rd_T90 gs (i : Int)).f2)).bind fun t148 => if t148 = true then spec_MemHostFault.l0 k ((i + 1 : Nat) : Int) c s gs t else some 1) (fun k => by simp only [spec_MemHostFault.l0]; rw [if_pos (by omega), if_pos (by omega), w64 (a := (i : Int) + 1) (by omega) (by omega), nat1]) (Ev.bind hg ?_)
    cases gA c s t (rd_T90 gs (i : Int)) && gH gs (rd_T90 gs (i : Int)) with
    | true => simp only [if_true]; exact hr
    | false => simp only [Bool.false_eq_true, if_false]; exact Ev.now _)
    (Ev.step (fun k => by simp only [spec_MemHostFault.l0]; rw [if_neg (by omega)]; rfl) h3) gs.length 0 (Nat.le_refl _) (by omega)
  rw [allF_and] at h
  unfold gsA gsH
  cases u : (allF (fun j => gA c s t (rd_T90 gs (j : Int))) 0 gs.length && allF (fun j => gH gs (rd_T90 gs (j : Int))) 0 gs.length) with
  | true => rw [u, if_pos rfl] at h; rw [Bool.true_and]; exact h
  | false => rw [u, if_neg (by simp)] at h; rw [Bool.false_and, if_neg (by simp)]; exact h
theorem spec_host (hgl : (gs.length : Int) ≤ 1048576) (hsl : ∀ g, g ∈ gs → (g.f0.length : Int) ≤ 1048576 ∧ (g.f2.length : Int) ≤ 1048576) (hc : (c.length : Int) ≤ 1048576) (hs : (s.length : Int) ≤ 1048576) :
    Ev (fun k => spec_MemHostFault.f k c s gs t) (if hostB c s gs t = true then 0 else 1) := by
  have stop : Ev (fun k => spec_MemHostFault.j0 k true c s gs t) 1 := Ev.step (f := fun _ => some 1) (fun k => by simp only [spec_MemHostFault.j0]; rw [if_pos trivial]) (Ev.now _)
  have hg := spec_guests c s gs t hgl hsl hc hs
  have go : Ev (fun k => spec_MemHostFault.j0 k false c s gs t) (if ((gsA c s t gs && gsH gs) && tailB c s gs) = true then 0 else 1) := Ev.step (fun k => by simp only [spec_MemHostFault.j0]; rw [if_neg (by simp)]; rfl) hg
  unfold spec_MemHostFault.f hostB headB txtB
  generalize ((gsA c s t gs && gsH gs) && tailB c s gs) = z at go
  refine Ev.bind (texts_spec c hc) ?_
  cases decide ((c.length : Int) ≤ 64) with
  | false => simp only [Bool.false_and, Bool.false_eq_true, if_false]; exact stop
  | true =>
    cases allF (textB c) 0 c.length with
    | false => simp only [Bool.and_false, Bool.false_and, Bool.false_eq_true, if_false]; exact stop
    | true =>
      simp only [Bool.true_and, if_true]
      refine Ev.bind (texts_spec s hs) ?_
      cases decide ((s.length : Int) ≤ 64) with
      | false => simp only [Bool.false_and, Bool.false_eq_true, if_false]; exact stop
      | true =>
        cases allF (textB s) 0 s.length with
        | false => simp only [Bool.and_false, Bool.false_and, Bool.false_eq_true, if_false]; exact stop
        | true =>
          simp only [Bool.true_and, Bool.and_true, if_true]
          by_cases q1 : (gs.length : Int) < 1
          · simp only [if_pos q1, decide_eq_false (show ¬ 1 ≤ (gs.length : Int) by omega), Bool.false_and, Bool.false_eq_true, if_false]; exact stop
          · by_cases q2 : (gs.length : Int) > 8
            · simp only [if_neg q1, if_pos q2, decide_eq_false (show ¬ (gs.length : Int) ≤ 8 by omega), Bool.and_false, Bool.false_and, Bool.false_eq_true, if_false]; exact stop
            · by_cases q3 : t < 0
              · simp only [if_neg q1, if_neg q2, if_pos q3, decide_eq_false (show ¬ 0 ≤ t by omega), Bool.and_false, Bool.false_and, Bool.false_eq_true, if_false]; exact stop
              · simp only [if_neg q1, if_neg q2, if_neg q3, decide_eq_true (show 1 ≤ (gs.length : Int) by omega), decide_eq_true (show (gs.length : Int) ≤ 8 by omega), decide_eq_true (show 0 ≤ t by omega), Bool.true_and]
                by_cases q4 : t > 1099511627776
                · simp only [decide_eq_true q4, decide_eq_false (show ¬ t ≤ 1099511627776 by omega), Bool.false_and, Bool.false_eq_true, if_false]; exact stop
                · simp only [decide_eq_false q4, decide_eq_true (show t ≤ 1099511627776 by omega), Bool.true_and]; exact go
end

section
variable (c s : List ByteArray) (gs : List S90) (t : Int)
theorem impl_l8 (j : Nat) (g : S90) (hgl : (gs.length : Int) ≤ 1048576) (hsl : ∀ g, g ∈ gs → (g.f0.length : Int) ≤ 1048576) (h0 : (g.f0.length : Int) ≤ 1048576) (h2 : (g.f2.length : Int) ≤ 1048576) (hj : (j : Int) ≤ 1048576) (r : Int)
    (hr : Ev (fun k => impl_MemHostFault.l7 k gs (gs.length : Int) ((j + 1 : Nat) : Int) c s gs t) r) :
    Ev (fun k => impl_MemHostFault.l8 k gs (gs.length : Int) (j : Int) g.f2 (g.f2.length : Int) ((0 : Nat) : Int) c s gs t g.f0 g.f1 g.f2) (if gH gs g = true then r else 1) := by
  have h := ev_all2 (fun k i => impl_MemHostFault.l8 k gs (gs.length : Int) (j : Int) g.f2 (g.f2.length : Int) i c s gs t g.f0 g.f1 g.f2) (fun i => risB g.f2 i && groupB gs g.f0 (rd g.f2 (i : Int))) 1 r 0 g.f2.length (fun i _ hi r' hr' => by
    have hgr := group_impl c s gs t g.f0 g.f1 g.f2 (rd g.f2 (i : Int)) hgl hsl h0
    have cont : Ev (fun k => (impl_MemHost_yhugeOk.f k c s gs t g.f0 g.f1 g.f2 (rd g.f2 (i : Int))).bind fun t249 => if t249 = true then impl_MemHostFault.l8 k gs (gs.length : Int) (j : Int) g.f2 (g.f2.length : Int) ((i + 1 : Nat) : Int) c s gs t g.f0 g.f1 g.f2 else some 1) (if groupB gs g.f0 (rd g.f2 (i : Int)) = true then r' else 1) := by
      refine Ev.bind hgr ?_
      cases groupB gs g.f0 (rd g.f2 (i : Int)) with
      | true => simp only [if_true]; exact hr'
      | false => simp only [Bool.false_eq_true, if_false]; exact Ev.now _
    unfold risB
    by_cases q0 : i = 0
    · rw [decide_eq_true q0, Bool.true_or, Bool.true_and]
      refine Ev.step (fun k => ?_) cont
      simp only [impl_MemHostFault.l8]
      rw [if_pos (by omega), if_pos (by omega), if_pos (by omega), if_neg (by omega), w64 (a := (i : Int) + 1) (by omega) (by omega), nat1]
    · rw [decide_eq_false q0, Bool.false_or]
      have hst : ∀ k, impl_MemHostFault.l8 (k + 1) gs (gs.length : Int) (j : Int) g.f2 (g.f2.length : Int) (i : Int) c s gs t g.f0 g.f1 g.f2 = if rd g.f2 ((i : Int) - 1) ≥ rd g.f2 (i : Int) then some 1 else ((impl_MemHost_yhugeOk.f k c s gs t g.f0 g.f1 g.f2 (rd g.f2 (i : Int))).bind fun t249 => if t249 = true then impl_MemHostFault.l8 k gs (gs.length : Int) (j : Int) g.f2 (g.f2.length : Int) ((i + 1 : Nat) : Int) c s gs t g.f0 g.f1 g.f2 else some 1) := by
        intro k
        simp only [impl_MemHostFault.l8]
        rw [if_pos (by omega), if_pos (by omega), if_pos (by omega), if_pos (by omega), w64 (a := (i : Int) - 1) (by omega) (by omega), if_pos (by omega), if_pos (by omega), w64 (a := (i : Int) + 1) (by omega) (by omega), nat1]
      by_cases q : rd g.f2 ((i : Int) - 1) < rd g.f2 (i : Int)
      · rw [decide_eq_true q, Bool.true_and]
        exact Ev.step (fun k => by rw [hst, if_neg (by omega)]) cont
      · rw [decide_eq_false q, Bool.false_and, if_neg (by simp)]
        exact Ev.step (f := fun _ => some 1) (fun k => by rw [hst, if_pos (by omega)]) (Ev.now _))
    (Ev.step (fun k => by simp only [impl_MemHostFault.l8]; rw [if_neg (by omega), w64 (a := (j : Int) + 1) (by omega) (by omega), nat1]) hr) g.f2.length 0 (Nat.le_refl _) (by omega)
  rw [allF_and] at h
  exact h
theorem impl_l7 (hgl : (gs.length : Int) ≤ 1048576) (hsl : ∀ g, g ∈ gs → (g.f0.length : Int) ≤ 1048576 ∧ (g.f2.length : Int) ≤ 1048576) :
    Ev (fun k => impl_MemHostFault.l7 k gs (gs.length : Int) ((0 : Nat) : Int) c s gs t) (if gsH gs = true then 0 else 1) :=
  ev_all2 (fun k i => impl_MemHostFault.l7 k gs (gs.length : Int) i c s gs t) (fun j => gH gs (rd_T90 gs (j : Int))) 1 0 0 gs.length (fun j _ hj r hr => by
    have hm := hsl _ (List.getElem_mem hj)
    have h := impl_l8 c s gs t j (rd_T90 gs (j : Int)) hgl (fun g hg => (hsl g hg).1) (by rw [rd90 gs j hj]; exact hm.1) (by rw [rd90 gs j hj]; exact hm.2) (by omega) r hr
    exact Ev.step (fun k => by simp only [impl_MemHostFault.l7]; rw [if_pos (by omega), if_pos (by omega), if_pos (by omega)]; rfl) h)
    (Ev.step (f := fun _ => some 0) (fun k => by simp only [impl_MemHostFault.l7]; rw [if_neg (by omega)]) (Ev.now _)) gs.length 0 (Nat.le_refl _) (by omega)
theorem impl_tail (hgl : (gs.length : Int) ≤ 1048576) (hsl : ∀ g, g ∈ gs → (g.f0.length : Int) ≤ 1048576 ∧ (g.f2.length : Int) ≤ 1048576) (hc : (c.length : Int) ≤ 1048576) (hs : (s.length : Int) ≤ 1048576) :
    Ev (fun k => impl_MemHostFault.l5 k c (c.length : Int) ((0 : Nat) : Int) c s gs t) (if (tailB c s gs && gsH gs) = true then 0 else 1) := by
  have h7 := impl_l7 c s gs t hgl hsl
  have h6 := ev_all2 (fun k i => impl_MemHostFault.l6 k s (s.length : Int) i c s gs t) (swapB gs s) 1 _ 0 s.length (fun i _ hi r hr => by
    have hcnt := cnt_impl c s gs t 2 (i : Int) hgl (fun g hg => (hsl g hg).1)
    unfold swapB
    cases hn : noText s i with
    | true =>
      rw [Bool.true_or, if_pos rfl]
      exact Ev.step (fun k => by simp only [impl_MemHostFault.l6]; rw [if_pos (by omega), if_pos (by omega), if_pos (by omega), if_pos ((noText_iff s i).mpr hn), w64 (a := (i : Int) + 1) (by omega) (by omega), nat1]) hr
    | false =>
      rw [Bool.false_or]
      refine Ev.step (f := fun k => (impl_MemHost_yusers.f k c s gs t 2 (i : Int)).bind fun t152 => if t152 = 1 then impl_MemHostFault.l6 k s (s.length : Int) ((i + 1 : Nat) : Int) c s gs t else some 1) (fun k => by simp only [impl_MemHostFault.l6]; rw [if_pos (by omega), if_pos (by omega), if_pos (by omega), if_neg (fun e => by rw [(noText_iff s i).mp e] at hn; cases hn), w64 (a := (i : Int) + 1) (by omega) (by omega), nat1]) (Ev.bind hcnt ?_)
      by_cases q : cntG 2 (i : Int) gs 0 = 1
      · simp only [if_pos q, decide_eq_true q, if_true]; exact hr
      · simp only [if_neg q, decide_eq_false q, Bool.false_eq_true, if_false]; exact Ev.now _)
    (Ev.step (fun k => by simp only [impl_MemHostFault.l6]; rw [if_neg (by omega)]; rfl) h7) s.length 0 (Nat.le_refl _) (by omega)
  have h5 := ev_all2 (fun k i => impl_MemHostFault.l5 k c (c.length : Int) i c s gs t) (cellB gs c) 1 _ 0 c.length (fun i _ hi r hr => by
    have hcnt := cnt_impl c s gs t 1 (i : Int) hgl (fun g hg => (hsl g hg).1)
    unfold cellB
    cases hn : noText c i with
    | true =>
      rw [Bool.true_or, if_pos rfl]
      exact Ev.step (fun k => by simp only [impl_MemHostFault.l5]; rw [if_pos (by omega), if_pos (by omega), if_pos (by omega), if_pos ((noText_iff c i).mpr hn), w64 (a := (i : Int) + 1) (by omega) (by omega), nat1]) hr
    | false =>
      rw [Bool.false_or]
      refine Ev.step (f := fun k => (impl_MemHost_yusers.f k c s gs t 1 (i : Int)).bind fun t150 => if t150 = 0 then some 1 else impl_MemHostFault.l5 k c (c.length : Int) ((i + 1 : Nat) : Int) c s gs t) (fun k => by simp only [impl_MemHostFault.l5]; rw [if_pos (by omega), if_pos (by omega), if_pos (by omega), if_neg (fun e => by rw [(noText_iff c i).mp e] at hn; cases hn), w64 (a := (i : Int) + 1) (by omega) (by omega), nat1]) (Ev.bind hcnt ?_)
      by_cases q : cntG 1 (i : Int) gs 0 = 0
      · simp only [if_pos q, decide_eq_true q, Bool.not_true, Bool.false_eq_true, if_false]; exact Ev.now _
      · simp only [if_neg q, decide_eq_false q, Bool.not_false, if_true]; exact hr)
    (Ev.step (fun k => by simp only [impl_MemHostFault.l5]; rw [if_neg (by omega)]; rfl) h6) c.length 0 (Nat.le_refl _) (by omega)
  unfold tailB
  cases u : allF (cellB gs c) 0 c.length with
  | false => rw [u, if_neg (by simp)] at h5; rw [Bool.false_and, Bool.false_and, if_neg (by simp)]; exact h5
  | true =>
    rw [u, if_pos rfl] at h5; rw [Bool.true_and]
    cases v : allF (swapB gs s) 0 s.length with
    | false => rw [v, if_neg (by simp)] at h5; rw [Bool.false_and, if_neg (by simp)]; exact h5
    | true => rw [v, if_pos rfl] at h5; rw [Bool.true_and]; exact h5
theorem slot_step (j : Nat) (g : S90) (i : Nat) (hi : i < g.f0.length) (hc : (c.length : Int) ≤ 1048576) (hs : (s.length : Int) ≤ 1048576) (h0 : (g.f0.length : Int) ≤ 1048576) (k : Nat) :
    impl_MemHostFault.l3 (k + 1) gs (gs.length : Int) (j : Int) g.f0 (g.f0.length : Int) (i : Int) c s gs t g.f0 g.f1 g.f2 = if slotB c s t (rd_T97 g.f0 (i : Int)) = true then impl_MemHostFault.l3 k gs (gs.length : Int) (j : Int) g.f0 (g.f0.length : Int) ((i + 1 : Nat) : Int) c s gs t g.f0 g.f1 g.f2 else some 1 := by
  simp only [impl_MemHostFault.l3]
  rw [if_pos (by omega), if_pos (by omega), if_pos (by omega), yin_eq, Option.bind_some, w64 (a := (i : Int) + 1) (by omega) (by omega), nat1, w64 (a := (c.length : Int) - 1) (by omega) (by omega), w64 (a := (s.length : Int) - 1) (by omega) (by omega)]
  unfold slotB
  have ein : ∀ a : Int, inB a 0 t = (decide (0 ≤ a) && decide (a ≤ t)) := fun _ => rfl
  rw [ein]
  generalize rd_T97 g.f0 (i : Int) = x
  generalize impl_MemHostFault.l3 k gs (gs.length : Int) (j : Int) g.f0 (g.f0.length : Int) ((i + 1 : Nat) : Int) c s gs t g.f0 g.f1 g.f2 = Z
  cases (decide (0 ≤ x.f2) && decide (x.f2 ≤ t)) with
  | false => rw [if_neg (by simp), Bool.and_false, if_neg (by simp)]
  | true =>
    rw [if_pos rfl, Bool.and_true]
    unfold leadsB
    have side : ∀ l : List ByteArray, ((impl_yin.f x.f1 0 ((l.length : Int) - 1)).bind fun t235 => if t235 = true then (if 0 ≤ x.f1 then (if x.f1 < (l.length : Int) then (if (rdOf ByteArray.empty l x.f1).toList = ([] : List UInt8) then some 1 else Z) else none) else none) else some 1) = if (decide (0 ≤ x.f1) && (decide (x.f1 < (l.length : Int)) && !decide (((rdOf ByteArray.empty l x.f1).size : Int) = 0))) = true then Z else some 1 := by
      intro l
      rw [yin_eq, Option.bind_some]
      unfold inB
      by_cases a : 0 ≤ x.f1
      · rw [decide_eq_true a, Bool.true_and, Bool.true_and]
        by_cases b : x.f1 < (l.length : Int)
        · rw [decide_eq_true (show x.f1 ≤ (l.length : Int) - 1 by omega), decide_eq_true b, Bool.true_and, if_pos rfl, if_pos a, if_pos b]
          by_cases e : ((rdOf ByteArray.empty l x.f1).size : Int) = 0
          · rw [if_pos ((empty_iff _).mpr e), decide_eq_true e, if_neg (by simp)]
          · rw [if_neg (fun h => e ((empty_iff _).mp h)), decide_eq_false e, if_pos (by simp)]
        · rw [decide_eq_false (show ¬ x.f1 ≤ (l.length : Int) - 1 by omega), decide_eq_false b, Bool.false_and, if_neg (by simp), if_neg (by simp)]
      · rw [decide_eq_false a, Bool.false_and, Bool.false_and, if_neg (by simp), if_neg (by simp)]
    by_cases k0 : x.f0 = 0
    · rw [if_pos k0, if_pos k0]
      by_cases a : x.f1 = 0
      · rw [if_pos a, beq_iff_eq.mpr a, if_pos rfl]
      · rw [if_neg a, beq_eq_false_iff_ne.mpr a, if_neg (by simp)]
    · rw [if_neg k0, if_neg k0]
      by_cases k1 : x.f0 = 1
      · rw [if_pos k1, if_pos k1]; exact side c
      · rw [if_neg k1, if_neg k1]
        by_cases k2 : x.f0 = 2
        · rw [if_pos k2, if_pos k2]; exact side s
        · rw [if_neg k2, if_neg k2, if_neg (by simp)]
theorem impl_l2 (hgl : (gs.length : Int) ≤ 1048576) (hsl : ∀ g, g ∈ gs → (g.f0.length : Int) ≤ 1048576 ∧ (g.f2.length : Int) ≤ 1048576) (hc : (c.length : Int) ≤ 1048576) (hs : (s.length : Int) ≤ 1048576) :
    Ev (fun k => impl_MemHostFault.l2 k gs (gs.length : Int) ((0 : Nat) : Int) c s gs t) (if (gsA c s t gs && (tailB c s gs && gsH gs)) = true then 0 else 1) := by
  have h5 := impl_tail c s gs t hgl hsl hc hs
  have h := ev_all2 (fun k i => impl_MemHostFault.l2 k gs (gs.length : Int) i c s gs t) (fun j => gA c s t (rd_T90 gs (j : Int))) 1 _ 0 gs.length (fun j _ hj r hr => by
    have hm := hsl _ (List.getElem_mem hj)
    rw [← rd90 gs j hj] at hm
    have hst : ∀ k, impl_MemHostFault.l2 (k + 1) gs (gs.length : Int) (j : Int) c s gs t = (if ((rd_T90 gs (j : Int)).f0.length : Int) > 32 then impl_MemHostFault.j4 k gs (gs.length : Int) (j : Int) true c s gs t (rd_T90 gs (j : Int)).f0 (rd_T90 gs (j : Int)).f1 (rd_T90 gs (j : Int)).f2 else impl_MemHostFault.j4 k gs (gs.length : Int) (j : Int) (decide (((rd_T90 gs (j : Int)).f1.size : Int) > 4)) c s gs t (rd_T90 gs (j : Int)).f0 (rd_T90 gs (j : Int)).f1 (rd_T90 gs (j : Int)).f2) := by
      intro k
      simp only [impl_MemHostFault.l2]
      rw [if_pos (by omega), if_pos (by omega), if_pos (by omega)]
    generalize rd_T90 gs (j : Int) = g at hm hst
    have stop : Ev (fun k => impl_MemHostFault.j4 k gs (gs.length : Int) (j : Int) true c s gs t g.f0 g.f1 g.f2) 1 := Ev.step (f := fun _ => some 1) (fun k => by simp only [impl_MemHostFault.j4]; rw [if_pos trivial]) (Ev.now _)
    unfold gA
    by_cases q1 : (g.f0.length : Int) > 32
    · rw [decide_eq_false (show ¬ (g.f0.length : Int) ≤ 32 by omega), Bool.false_and, if_neg (by simp)]
      exact Ev.step (fun k => by rw [hst, if_pos q1]) stop
    · by_cases q2 : (g.f1.size : Int) > 4
      · rw [decide_eq_false (show ¬ (g.f1.size : Int) ≤ 4 by omega), Bool.false_and, Bool.and_false, if_neg (by simp)]
        exact Ev.step (fun k => by rw [hst, if_neg q1, decide_eq_true q2]) stop
      · rw [decide_eq_true (show (g.f0.length : Int) ≤ 32 by omega), decide_eq_true (show (g.f1.size : Int) ≤ 4 by omega), Bool.true_and, Bool.true_and]
        have h4 : Ev (fun k => impl_MemHostFault.l4 k (g.f0.length : Int) gs (gs.length : Int) (j : Int) c s gs t g.f0 g.f1 g.f2) (if noBits g.f1 g.f0.length (32 - g.f0.length) = true then r else 1) :=
          ev_all2 (fun k i => impl_MemHostFault.l4 k i gs (gs.length : Int) (j : Int) c s gs t g.f0 g.f1 g.f2) (fun i => !bitB g.f1 i) 1 r 0 32 (fun i _ hi r' hr' => by
            have hb := ybit g.f1 i (by omega)
            have hs4 : ∀ k, impl_MemHostFault.l4 (k + 1) (i : Int) gs (gs.length : Int) (j : Int) c s gs t g.f0 g.f1 g.f2 = if bitB g.f1 i = true then some 1 else impl_MemHostFault.l4 k ((i + 1 : Nat) : Int) gs (gs.length : Int) (j : Int) c s gs t g.f0 g.f1 g.f2 := by
              intro k
              simp only [impl_MemHostFault.l4]
              rw [if_pos (by omega), hb, Option.bind_some, w64 (a := (i : Int) + 1) (by omega) (by omega), nat1]
            cases hv : bitB g.f1 i with
            | true => rw [Bool.not_true, if_neg (by simp)]; exact Ev.step (f := fun _ => some 1) (fun k => by rw [hs4, hv, if_pos rfl]) (Ev.now _)
            | false => rw [Bool.not_false, if_pos rfl]; exact Ev.step (fun k => by rw [hs4, hv, if_neg (by simp)]) hr')
            (Ev.step (fun k => by simp only [impl_MemHostFault.l4]; rw [if_neg (by decide), w64 (a := (j : Int) + 1) (by omega) (by omega), nat1]) hr) (32 - g.f0.length) g.f0.length (Nat.zero_le _) (by omega)
        have h3 := ev_all2 (fun k i => impl_MemHostFault.l3 k gs (gs.length : Int) (j : Int) g.f0 (g.f0.length : Int) i c s gs t g.f0 g.f1 g.f2) (fun i => slotB c s t (rd_T97 g.f0 (i : Int))) 1 _ 0 g.f0.length (fun i _ hi r' hr' => by
          have hs3 := slot_step c s gs t j g i hi hc hs hm.1
          cases hv : slotB c s t (rd_T97 g.f0 (i : Int)) with
          | true => rw [if_pos rfl]; exact Ev.step (fun k => by rw [hs3, hv, if_pos rfl]) hr'
          | false => rw [if_neg (by simp)]; exact Ev.step (f := fun _ => some 1) (fun k => by rw [hs3, hv, if_neg (by simp)]) (Ev.now _))
          (Ev.step (fun k => by simp only [impl_MemHostFault.l3]; rw [if_neg (by omega)]) h4) g.f0.length 0 (Nat.le_refl _) (by omega)
        refine Ev.step (fun k => by rw [hst, if_neg q1, decide_eq_false q2]) (Ev.step (f := fun k => impl_MemHostFault.l3 k gs (gs.length : Int) (j : Int) g.f0 (g.f0.length : Int) ((0 : Nat) : Int) c s gs t g.f0 g.f1 g.f2) (fun k => by simp only [impl_MemHostFault.j4]; rw [if_neg (by simp)]; rfl) ?_)
        cases hv : allF (fun i => slotB c s t (rd_T97 g.f0 (i : Int))) 0 g.f0.length with
        | true => rw [hv, if_pos rfl] at h3; rw [Bool.true_and]; exact h3
        | false => rw [hv, if_neg (by simp)] at h3; rw [Bool.false_and, if_neg (by simp)]; exact h3)
    (Ev.step (fun k => by simp only [impl_MemHostFault.l2]; rw [if_neg (by omega)]; rfl) h5) gs.length 0 (Nat.le_refl _) (by omega)
  unfold gsA
  cases u : allF (fun j => gA c s t (rd_T90 gs (j : Int))) 0 gs.length with
  | true => rw [u, if_pos rfl] at h; rw [Bool.true_and]; exact h
  | false => rw [u, if_neg (by simp)] at h; rw [Bool.false_and, if_neg (by simp)]; exact h
theorem impl_l1 (l : List ByteArray) (hl : (l.length : Int) ≤ 1048576) (i0 : Nat) (hi0 : i0 ≤ 2) (r : Int) (hr : Ev (fun k => impl_MemHostFault.l0 k [c, s] 2 ((i0 + 1 : Nat) : Int) c s gs t) r) :
    Ev (fun k => impl_MemHostFault.l1 k [c, s] 2 (i0 : Int) l (l.length : Int) ((0 : Nat) : Int) c s gs t) (if allF (textB l) 0 l.length = true then r else 1) :=
  ev_all2 (fun k i => impl_MemHostFault.l1 k [c, s] 2 (i0 : Int) l (l.length : Int) i c s gs t) (textB l) 1 r 0 l.length (fun i _ hi r' hr' => by
    have hst : ∀ k, impl_MemHostFault.l1 (k + 1) [c, s] 2 (i0 : Int) l (l.length : Int) (i : Int) c s gs t = if textB l i = true then impl_MemHostFault.l1 k [c, s] 2 (i0 : Int) l (l.length : Int) ((i + 1 : Nat) : Int) c s gs t else some 1 := by
      intro k
      simp only [impl_MemHostFault.l1]
      rw [if_pos (by omega), if_pos (by omega), if_pos (by omega), w64 (a := (i : Int) + 1) (by omega) (by omega), nat1]
      unfold textB noText
      by_cases h1 : ((rdOf ByteArray.empty l (i : Int)).size : Int) = 0
      · rw [if_pos h1, decide_eq_true h1, Bool.true_or, if_pos rfl]
      · rw [if_neg h1, decide_eq_false h1, Bool.false_or]
        by_cases h2 : ((rdOf ByteArray.empty l (i : Int)).size : Int) = 16
        · rw [if_pos h2, decide_eq_true h2, if_pos rfl]
        · rw [if_neg h2, decide_eq_false h2, if_neg (by simp)]
    cases hv : textB l i with
    | true => rw [if_pos rfl]; exact Ev.step (fun k => by rw [hst, hv, if_pos rfl]) hr'
    | false => rw [if_neg (by simp)]; exact Ev.step (f := fun _ => some 1) (fun k => by rw [hst, hv, if_neg (by simp)]) (Ev.now _))
    (Ev.step (fun k => by simp only [impl_MemHostFault.l1]; rw [if_neg (by omega), w64 (a := (i0 : Int) + 1) (by omega) (by omega), nat1]) hr) l.length 0 (Nat.le_refl _) (by omega)
theorem impl_host (hgl : (gs.length : Int) ≤ 1048576) (hsl : ∀ g, g ∈ gs → (g.f0.length : Int) ≤ 1048576 ∧ (g.f2.length : Int) ≤ 1048576) (hc : (c.length : Int) ≤ 1048576) (hs : (s.length : Int) ≤ 1048576) :
    Ev (fun k => impl_MemHostFault.f k c s gs t) (if hostB c s gs t = true then 0 else 1) := by
  have stop : Ev (fun k => impl_MemHostFault.j0 k true c s gs t) 1 := Ev.step (f := fun _ => some 1) (fun k => by simp only [impl_MemHostFault.j0]; rw [if_pos trivial]) (Ev.now _)
  have h2 := impl_l2 c s gs t hgl hsl hc hs
  have hA : Ev (fun k => impl_MemHostFault.l0 k [c, s] 2 ((2 : Nat) : Int) c s gs t) (if (gsA c s t gs && (tailB c s gs && gsH gs)) = true then 0 else 1) := Ev.step (fun k => by simp only [impl_MemHostFault.l0]; rw [if_neg (by decide)]; rfl) h2
  have hB := impl_l1 c s gs t s hs 1 (by decide) _ hA
  have hB' : Ev (fun k => impl_MemHostFault.l0 k [c, s] 2 ((1 : Nat) : Int) c s gs t) _ := Ev.step (fun k => by simp only [impl_MemHostFault.l0]; rw [if_pos (by decide), if_pos (by decide), if_pos (by simp)]; rfl) hB
  have hC := impl_l1 c s gs t c hc 0 (by decide) _ hB'
  have go : Ev (fun k => impl_MemHostFault.j0 k false c s gs t) _ := Ev.step (fun k => by simp only [impl_MemHostFault.j0]; rw [if_neg (by simp), Option.bind_some]) (Ev.step (f := fun k => impl_MemHostFault.l1 k [c, s] 2 ((0 : Nat) : Int) c (c.length : Int) ((0 : Nat) : Int) c s gs t) (fun k => by simp only [impl_MemHostFault.l0]; rw [if_pos (by simp), if_pos (by simp), if_pos (by simp)]; rfl) hC)
  have e : (if hostB c s gs t = true then (0 : Int) else 1) = if headB c s gs t = true then (if allF (textB c) 0 c.length = true then (if allF (textB s) 0 s.length = true then (if (gsA c s t gs && (tailB c s gs && gsH gs)) = true then 0 else 1) else 1) else 1) else 1 := by
    unfold hostB txtB
    cases headB c s gs t <;> cases allF (textB c) 0 c.length <;> cases allF (textB s) 0 s.length <;> cases gsA c s t gs <;> cases gsH gs <;> cases tailB c s gs <;> rfl
  rw [e]
  unfold impl_MemHostFault.f headB
  generalize (if allF (textB c) 0 c.length = true then (if allF (textB s) 0 s.length = true then (if (gsA c s t gs && (tailB c s gs && gsH gs)) = true then (0 : Int) else 1) else 1) else 1) = z at go
  by_cases q1 : (c.length : Int) > 64
  · simp only [if_pos q1, decide_eq_false (show ¬ (c.length : Int) ≤ 64 by omega), Bool.false_and, Bool.false_eq_true, if_false]; exact stop
  · by_cases q2 : (s.length : Int) > 64
    · simp only [if_neg q1, if_pos q2, decide_eq_false (show ¬ (s.length : Int) ≤ 64 by omega), Bool.and_false, Bool.false_and, Bool.false_eq_true, if_false]; exact stop
    · simp only [if_neg q1, if_neg q2, decide_eq_true (show (c.length : Int) ≤ 64 by omega), decide_eq_true (show (s.length : Int) ≤ 64 by omega), Bool.true_and, yin_eq, Option.bind_some]
      unfold inB
      cases (decide (1 ≤ (gs.length : Int)) && decide ((gs.length : Int) ≤ 8)) with
      | false => simp only [Bool.false_and, Bool.false_eq_true, if_false]; exact stop
      | true =>
        simp only [if_true, Bool.true_and]
        cases (decide (0 ≤ t) && decide (t ≤ 1099511627776)) with
        | false => simp only [Bool.not_false, Bool.false_eq_true, if_false]; exact stop
        | true => simp only [Bool.not_true, if_true]; exact go
end

theorem szS_ev (l : List ByteArray) (m : Int) (h0 : 0 ≤ m) (hm : m ≤ 1048576) (hl : l.length ≤ 9223372036854775807) (hx : ∀ x, x ∈ l → x.size ≤ 9223372036854775807) :
    ∃ r, Ev (fun k => laws_szStringS.f k l m) r ∧ (r < 0 ∨ (0 ≤ r ∧ r ≤ m ∧ (l.length : Int) ≤ 1048576)) := by
  unfold laws_szStringS.f
  rw [w64 (a := m - (l.length : Int)) (by omega) (by omega)]
  by_cases hn : m - (l.length : Int) < 0
  · simp only [if_pos hn]; exact ⟨-1, Ev.now _, Or.inl (by omega)⟩
  · simp only [if_neg hn]
    obtain ⟨r, hr, hc⟩ := sz_loop ByteArray.empty 1048576 (fun _ => True) laws_szStringS.l0 (fun _ (x : ByteArray) s => some (wrap64 (s - (x.size : Int)))) (fun k xs s i => by simp only [laws_szStringS.l0]; rfl) l (by omega) (fun x s hxl h1 h2 => by
      have := hx x hxl
      refine ⟨wrap64 (s - (x.size : Int)), Ev.now _, ?_⟩
      rw [w64 (by omega) (by omega)]
      by_cases h : s - (x.size : Int) < 0
      · exact Or.inl h
      · exact Or.inr ⟨by omega, by omega, trivial⟩) l.length 0 (m - (l.length : Int)) (by omega) (by omega) (Nat.zero_le _) rfl (fun q hq => absurd hq (Nat.not_lt_zero _))
    refine ⟨r, hr, ?_⟩
    rcases hc with h | h
    · exact Or.inl h
    · exact Or.inr ⟨h.1, by omega, by omega⟩
theorem szSlot_ev (l : List S218) (m : Int) (h0 : 0 ≤ m) (hm : m ≤ 1048576) (hl : l.length ≤ 9223372036854775807) : ∃ r, laws_szMemSlotS.f l m = some r ∧ (r < 0 ∨ (0 ≤ r ∧ r ≤ m ∧ (l.length : Int) ≤ 1048576)) := by
  unfold laws_szMemSlotS.f
  rw [w64 (a := m - (l.length : Int)) (by omega) (by omega)]
  by_cases hn : m - (l.length : Int) < 0
  · rw [if_pos hn]; exact ⟨-1, rfl, Or.inl (by omega)⟩
  · rw [if_neg hn]; exact ⟨_, rfl, Or.inr (by omega)⟩
theorem szI_ev (l : List Int) (m : Int) (h0 : 0 ≤ m) (hm : m ≤ 1048576) (hl : l.length ≤ 9223372036854775807) : ∃ r, laws_szInt64S.f l m = some r ∧ (r < 0 ∨ (0 ≤ r ∧ r ≤ m ∧ (l.length : Int) ≤ 1048576)) := by
  unfold laws_szInt64S.f
  rw [w64 (a := m - (l.length : Int)) (by omega) (by omega)]
  by_cases hn : m - (l.length : Int) < 0
  · rw [if_pos hn]; exact ⟨-1, rfl, Or.inl (by omega)⟩
  · rw [if_neg hn]; exact ⟨_, rfl, Or.inr (by omega)⟩
def okG (g : S155) : Prop := (g.f0.length : Int) ≤ 1048576 ∧ (g.f2.length : Int) ≤ 1048576
theorem szG_ev (g : S155) (m : Int) (h0 : 0 ≤ m) (hm : m ≤ 1048576) (l0 : g.f0.length ≤ 9223372036854775807) (l1 : g.f1.size ≤ 9223372036854775807) (l2 : g.f2.length ≤ 9223372036854775807) :
    ∃ r, laws_szMemGuest.f g.f0 g.f1 g.f2 m = some r ∧ (r < 0 ∨ (0 ≤ r ∧ r ≤ m ∧ okG g)) := by
  unfold laws_szMemGuest.f
  obtain ⟨r1, e1, c1⟩ := szSlot_ev g.f0 m h0 hm l0
  rw [e1, Option.bind_some]
  by_cases n1 : r1 < 0
  · rw [if_pos n1]; exact ⟨_, rfl, Or.inl (by omega)⟩
  · rw [if_neg n1]
    obtain ⟨a1, b1, d1⟩ := c1.resolve_left n1
    rw [w64 (a := r1 - (g.f1.size : Int)) (by omega) (by omega)]
    by_cases n2 : r1 - (g.f1.size : Int) < 0
    · rw [if_pos n2]; exact ⟨_, rfl, Or.inl (by omega)⟩
    · rw [if_neg n2]
      obtain ⟨r3, e3, c3⟩ := szI_ev g.f2 (r1 - (g.f1.size : Int)) (by omega) (by omega) l2
      rw [e3, Option.bind_some]
      by_cases n3 : r3 < 0
      · rw [if_pos n3]; exact ⟨_, rfl, Or.inl (by omega)⟩
      · rw [if_neg n3]
        obtain ⟨a3, b3, d3⟩ := c3.resolve_left n3
        exact ⟨_, rfl, Or.inr ⟨a3, by omega, d1, d3⟩⟩
theorem szGs_ev (l : List S155) (m : Int) (h0 : 0 ≤ m) (hm : m ≤ 1048576) (hl : l.length ≤ 9223372036854775807) (hx : ∀ x, x ∈ l → x.f0.length ≤ 9223372036854775807 ∧ x.f1.size ≤ 9223372036854775807 ∧ x.f2.length ≤ 9223372036854775807) :
    ∃ r, Ev (fun k => laws_szMemGuestS.f k l m) r ∧ (r < 0 ∨ (0 ≤ r ∧ r ≤ m ∧ (l.length : Int) ≤ 1048576 ∧ ∀ x, x ∈ l → okG x)) := by
  unfold laws_szMemGuestS.f
  rw [w64 (a := m - (l.length : Int)) (by omega) (by omega)]
  by_cases hn : m - (l.length : Int) < 0
  · simp only [if_pos hn]; exact ⟨-1, Ev.now _, Or.inl (by omega)⟩
  · simp only [if_neg hn]
    obtain ⟨r, hr, hc⟩ := sz_loop z155 1048576 okG laws_szMemGuestS.l0 (fun _ (x : S155) s => laws_szMemGuest.f x.f0 x.f1 x.f2 s) (fun k xs s i => by simp only [laws_szMemGuestS.l0]; rfl) l (by omega) (fun x s hxl h1 h2 => by
      obtain ⟨u0, u1, u2⟩ := hx x hxl
      obtain ⟨r, e, c⟩ := szG_ev x s h1 h2 u0 u1 u2
      exact ⟨r, Ev.congr (fun _ => e) (Ev.now r), c⟩) l.length 0 (m - (l.length : Int)) (by omega) (by omega) (Nat.zero_le _) rfl (fun q hq => absurd hq (Nat.not_lt_zero _))
    refine ⟨r, hr, ?_⟩
    rcases hc with h | h
    · exact Or.inl h
    · exact Or.inr ⟨h.1, by omega, by omega, h.2.2⟩
theorem szHost_ev (c s : List ByteArray) (gs : List S155) (t : Int) (hc : c.length ≤ 9223372036854775807) (hcx : ∀ x, x ∈ c → x.size ≤ 9223372036854775807) (hs : s.length ≤ 9223372036854775807) (hsx : ∀ x, x ∈ s → x.size ≤ 9223372036854775807)
    (hl : gs.length ≤ 9223372036854775807) (hx : ∀ x, x ∈ gs → x.f0.length ≤ 9223372036854775807 ∧ x.f1.size ≤ 9223372036854775807 ∧ x.f2.length ≤ 9223372036854775807) :
    ∃ r, Ev (fun k => laws_szMemHost.f k c s gs t 1048576) r ∧ (r < 0 ∨ ((c.length : Int) ≤ 1048576 ∧ (s.length : Int) ≤ 1048576 ∧ (gs.length : Int) ≤ 1048576 ∧ ∀ x, x ∈ gs → okG x)) := by
  unfold laws_szMemHost.f
  obtain ⟨r1, e1, c1⟩ := szS_ev c 1048576 (by omega) (by omega) hc hcx
  by_cases n1 : r1 < 0
  · exact ⟨-1, Ev.bind e1 (by simp only [if_pos n1]; exact Ev.now _), Or.inl (by omega)⟩
  · obtain ⟨a1, b1, d1⟩ := c1.resolve_left n1
    obtain ⟨r2, e2, c2⟩ := szS_ev s r1 a1 (by omega) hs hsx
    by_cases n2 : r2 < 0
    · exact ⟨-1, Ev.bind e1 (by simp only [if_neg n1]; exact Ev.bind e2 (by simp only [if_pos n2]; exact Ev.now _)), Or.inl (by omega)⟩
    · obtain ⟨a2, b2, d2⟩ := c2.resolve_left n2
      obtain ⟨r3, e3, c3⟩ := szGs_ev gs r2 a2 (by omega) hl hx
      by_cases n3 : r3 < 0
      · exact ⟨-1, Ev.bind e1 (by simp only [if_neg n1]; exact Ev.bind e2 (by simp only [if_neg n2]; exact Ev.bind e3 (by simp only [if_pos n3]; exact Ev.now _))), Or.inl (by omega)⟩
      · obtain ⟨a3, b3, d3, d4⟩ := c3.resolve_left n3
        exact ⟨r3, Ev.bind e1 (by simp only [if_neg n1]; exact Ev.bind e2 (by simp only [if_neg n2]; exact Ev.bind e3 (by simp only [if_neg n3]; exact Ev.now _))), Or.inr ⟨d1, d2, d3, d4⟩⟩
theorem toS_ev (l : List ByteArray) (hl : (l.length : Int) ≤ 1048576) : Ev (fun k => laws_toStringS.f k l) l := by
  have := to_loop ByteArray.empty (⟨#[]⟩ : ByteArray) id id laws_toStringS.l0 (fun _ x => some x) (fun k xs ys i => by simp only [laws_toStringS.l0]; rfl) l (by omega) (fun x hx => ⟨_, Ev.now _, rfl⟩) l.length 0 (Nat.zero_le _) rfl
  rw [show l.map id = l from List.map_id l] at this
  refine Ev.congr (fun k => ?_) this
  unfold laws_toStringS.f
  rw [if_pos (by omega), if_pos (by omega), Int.toNat_natCast]
  rfl
def toSl (x : S218) : S97 := ⟨x.f0, x.f1, x.f2⟩
theorem toSl_ev (l : List S218) (hl : (l.length : Int) ≤ 1048576) : Ev (fun k => laws_toMemSlotS.f k l) (l.map toSl) := by
  have := to_loop z218 z97 (fun b : Int × Int × Int => (⟨b.1, b.2.1, b.2.2⟩ : S97)) toSl laws_toMemSlotS.l0 (fun _ x => laws_toMemSlot.f x.f0 x.f1 x.f2) (fun k xs ys i => by simp only [laws_toMemSlotS.l0]; rfl) l (by omega) (fun x hx => ⟨_, Ev.now _, rfl⟩) l.length 0 (Nat.zero_le _) rfl
  refine Ev.congr (fun k => ?_) this
  unfold laws_toMemSlotS.f
  rw [if_pos (by omega), if_pos (by omega), Int.toNat_natCast]
  rfl
def toG (x : S155) : S90 := ⟨x.f0.map toSl, x.f1, x.f2⟩
theorem toGs_ev (l : List S155) (hl : (l.length : Int) ≤ 1048576) (hx : ∀ x, x ∈ l → okG x) : Ev (fun k => laws_toMemGuestS.f k l) (l.map toG) := by
  have := to_loop z155 z90 (fun b : List S97 × ByteArray × List Int => (⟨b.1, b.2.1, b.2.2⟩ : S90)) toG laws_toMemGuestS.l0 (fun k x => laws_toMemGuest.f k x.f0 x.f1 x.f2) (fun k xs ys i => by simp only [laws_toMemGuestS.l0]; rfl) l (by omega) (fun x hxl => ⟨(x.f0.map toSl, x.f1, x.f2), by
    unfold laws_toMemGuest.f
    exact Ev.bind (toSl_ev x.f0 (hx x hxl).1) (Ev.bind (toInt64S_ev x.f2 (hx x hxl).2) (Ev.now _)), rfl⟩) l.length 0 (Nat.zero_le _) rfl
  refine Ev.congr (fun k => ?_) this
  unfold laws_toMemGuestS.f
  rw [if_pos (by omega), if_pos (by omega), Int.toNat_natCast]
  rfl
theorem eqS_ev (l : List ByteArray) (hl : (l.length : Int) ≤ 1048576) : Ev (fun k => laws_eqStringS.f k l l) true := by
  have := eq_loop ByteArray.empty laws_eqStringS.l0 (fun _ x y => some (decide (x.toList = y.toList))) (fun k xs ys i => by
    simp only [laws_eqStringS.l0, Option.bind_some, decide_eq_true_eq]
    rfl) l (by omega) (fun x _ => Ev.congr (fun k => by rw [decide_eq_true rfl]) (Ev.now _)) l.length 0 (Nat.zero_le _) rfl
  refine Ev.congr (fun k => ?_) this
  unfold laws_eqStringS.f
  rw [if_pos rfl]
  rfl
theorem eqSl_ev (l : List S97) (hl : (l.length : Int) ≤ 1048576) : Ev (fun k => laws_eqMemSlotS.f k l l) true := by
  have := eq_loop z97 laws_eqMemSlotS.l0 (fun _ x y => laws_eqMemSlot.f x.f0 x.f1 x.f2 y.f0 y.f1 y.f2) (fun k xs ys i => by simp only [laws_eqMemSlotS.l0]; rfl) l (by omega) (fun x _ => Ev.congr (fun k => by unfold laws_eqMemSlot.f; rw [if_pos rfl, if_pos rfl, if_pos rfl]) (Ev.now _)) l.length 0 (Nat.zero_le _) rfl
  refine Ev.congr (fun k => ?_) this
  unfold laws_eqMemSlotS.f
  rw [if_pos rfl]
  rfl
theorem eqGs_ev (l : List S90) (hl : (l.length : Int) ≤ 1048576) (hx : ∀ x, x ∈ l → (x.f0.length : Int) ≤ 1048576 ∧ (x.f2.length : Int) ≤ 1048576) : Ev (fun k => laws_eqMemGuestS.f k l l) true := by
  have := eq_loop z90 laws_eqMemGuestS.l0 (fun k x y => laws_eqMemGuest.f k x.f0 x.f1 x.f2 y.f0 y.f1 y.f2) (fun k xs ys i => by simp only [laws_eqMemGuestS.l0]; rfl) l (by omega) (fun x hxl => by
    unfold laws_eqMemGuest.f
    refine Ev.bind (eqSl_ev x.f0 (hx x hxl).1) ?_
    simp only [if_true]
    refine Ev.bind (eqInt64S_ev x.f2 (hx x hxl).2) ?_
    simp only [if_true]
    exact Ev.now _) l.length 0 (Nat.zero_le _) rfl
  refine Ev.congr (fun k => ?_) this
  unfold laws_eqMemGuestS.f
  rw [if_pos rfl]
  rfl
theorem FnExactMemHostFault : laws_FnExactMemHostFault.Pure := by
  intro c s gs t hc hs hg _
  obtain ⟨hc, hcx⟩ := hc; obtain ⟨hs, hsx⟩ := hs; obtain ⟨hg, hgx⟩ := hg
  refine Ev.rounds (r := true) ?_
  obtain ⟨r, hr, hcc⟩ := szHost_ev c s gs t hc hcx hs hsx hg (fun x hx => by
    have := hgx x hx
    unfold Q155 at this
    exact ⟨this.1.1, this.2.1, this.2.2.1⟩)
  unfold laws_FnExactMemHostFault.f
  refine Ev.bind hr ?_
  by_cases hn : r < 0
  · simp only [if_pos hn]; exact Ev.now _
  · simp only [if_neg hn]
    obtain ⟨l1, l2, l3, l4⟩ := hcc.resolve_left hn
    have tov : Ev (fun k => laws_toMemHost.f k c s gs t) (c, s, gs.map toG, t) := by
      unfold laws_toMemHost.f
      exact Ev.bind (toS_ev c l1) (Ev.bind (toS_ev s l2) (Ev.bind (toGs_ev gs l3 l4) (Ev.now _)))
    have l5 : ((gs.map toG).length : Int) ≤ 1048576 := by rw [List.length_map]; exact l3
    have l6 : ∀ g, g ∈ gs.map toG → (g.f0.length : Int) ≤ 1048576 ∧ (g.f2.length : Int) ≤ 1048576 := by
      intro g hgm
      obtain ⟨x, hx, rfl⟩ := List.mem_map.mp hgm
      obtain ⟨u, v⟩ := l4 x hx
      exact ⟨by unfold toG; simp only [List.length_map]; exact u, v⟩
    have hsp := spec_host c s (gs.map toG) t l5 l6 l1 l2
    have him := impl_host c s (gs.map toG) t l5 l6 l1 l2
    have eqv : Ev (fun k => laws_eqMemHost.f k c s (gs.map toG) t c s (gs.map toG) t) true := by
      unfold laws_eqMemHost.f
      refine Ev.bind (eqS_ev c l1) ?_
      simp only [if_true]
      refine Ev.bind (eqS_ev s l2) ?_
      simp only [if_true]
      refine Ev.bind (eqGs_ev (gs.map toG) l5 l6) ?_
      simp only [if_true]
      exact Ev.now _
    refine Ev.bind tov (Ev.bind hsp (Ev.bind tov (Ev.bind him ?_)))
    simp only [if_true]
    refine Ev.bind tov (Ev.bind eqv ?_)
    simp only [if_true]
    exact Ev.now _

end Go.Proofs.Ytmajbehafgajmaa.Pure
