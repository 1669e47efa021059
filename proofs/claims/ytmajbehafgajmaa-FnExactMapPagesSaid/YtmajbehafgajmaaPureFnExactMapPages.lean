/- The program's MapPages returns what the reference's returns, for all arguments. Conditions: none. -/
import Derived.Test.YtmajbehafgajmaaQFnExactMapPagesx
import Derived.Test.YtmajbehafgajmaaPl
import Derived.Test.YtmajbehafgajmaaTFnExactMapPages
import Derived.Test.YtmajbehafgajmaaBy
set_option linter.unusedVariables false
set_option linter.unusedSimpArgs false
namespace Go.Proofs.Ytmajbehafgajmaa.Pure
open Go.RowKit Go.Proofs.Ytmajbehafgajmaa.QFnExactMapPages Go.Proofs.YtmajbehafgajmaaW.PrintWords Go.Proofs.YtmajbehafgajmaaW.PrintLast Go.Proofs.Ytmajbehafgajmaa.Pl Go.Proofs.YtmajbehafgajmaaW.PrintMore
/-- A loop that takes the size of every element off a budget: it ends, below zero or with every element small. -/
theorem sz_loop {α : Type} (d : α) (M : Int) (ok : α → Prop) (L : Nat → List α → Int → Int → Option Int) (g : Nat → α → Int → Option Int)
    (hL : ∀ k xs s i, L (k + 1) xs s i = if i < (xs.length : Int) then (if 0 ≤ i then ((g k (xs.getD i.toNat d) s).bind fun t => (if t < 0 then (some (-1)) else (L k xs t (wrap64 (i + 1))))) else none) else some s)
    (xs : List α) (hlen : (xs.length : Int) ≤ 4611686018427387904)
    (hg : ∀ x s, x ∈ xs → 0 ≤ s → s ≤ M → ∃ t, Ev (fun k => g k x s) t ∧ (t < 0 ∨ (0 ≤ t ∧ t ≤ s ∧ ok x))) (e : Nat) :
    ∀ (j : Nat) (s : Int), 0 ≤ s → s ≤ M → j ≤ xs.length → xs.length - j = e → (∀ q, q < j → ok (xs.getD q d)) → ∃ r, Ev (fun k => L k xs s (j : Int)) r ∧ (r < 0 ∨ (0 ≤ r ∧ r ≤ s ∧ ∀ x, x ∈ xs → ok x)) := by
  induction e with
  | zero =>
    intro j s h0 hM hj he hok
    refine ⟨s, Ev.step (f := fun _ => some s) (fun k => by rw [hL, if_neg (by omega)]) (Ev.now _), Or.inr ⟨h0, Int.le_refl _, fun x hx => ?_⟩⟩
    obtain ⟨q, hq, rfl⟩ := List.getElem_of_mem hx
    have := hok q (by omega)
    rwa [List.getD_eq_getElem?_getD, List.getElem?_eq_getElem hq, Option.getD_some] at this
  | succ e ih =>
    intro j s h0 hM hj he hok
    have hlt : j < xs.length := by omega
    have hmem : xs.getD j d ∈ xs := by
      rw [List.getD_eq_getElem?_getD, List.getElem?_eq_getElem hlt, Option.getD_some]; exact List.getElem_mem hlt
    obtain ⟨t, ht, hc⟩ := hg (xs.getD j d) s hmem h0 hM
    have hs : ∀ k, L (k + 1) xs s (j : Int) = ((g k (xs.getD j d) s).bind fun t => (if t < 0 then (some (-1)) else (L k xs t (wrap64 ((j : Int) + 1))))) := fun k => by
      rw [hL, if_pos (by omega), if_pos (by omega), Int.toNat_natCast]
    by_cases hn : t < 0
    · refine ⟨-1, Ev.step (fun k => hs k) (Ev.bind ht ?_), Or.inl (by omega)⟩
      simp only [if_pos hn]
      exact Ev.now _
    · have hc' := hc.resolve_left hn
      obtain ⟨r, hr, hrc⟩ := ih (j + 1) t hc'.1 (by omega) (by omega) (by omega) (fun q hq => by
        by_cases hqj : q = j
        · subst hqj; exact hc'.2.2
        · exact hok q (by omega))
      refine ⟨r, Ev.step (fun k => hs k) (Ev.bind ht ?_), ?_⟩
      · simp only [if_neg hn]
        rw [w64 (by omega) (by omega), show ((j : Int) + 1) = ((j + 1 : Nat) : Int) from by omega]
        exact hr
      · rcases hrc with h | h
        · exact Or.inl h
        · exact Or.inr ⟨h.1, by omega, h.2.2⟩
/-- A loop that turns every element. -/
theorem to_loop {α β γ : Type} (d : α) (z : β) (mk : γ → β) (c : α → β) (L : Nat → List α → List β → Int → Option (List β)) (g : Nat → α → Option γ)
    (hL : ∀ k xs ys i, L (k + 1) xs ys i = if i < (xs.length : Int) then (if 0 ≤ i then ((g k (xs.getD i.toNat d)).bind fun b => (if i < (ys.length : Int) then (L k xs (ys.set i.toNat (mk b)) (wrap64 (i + 1))) else none)) else none) else some ys)
    (xs : List α) (hlen : (xs.length : Int) ≤ 4611686018427387904)
    (hg : ∀ x, x ∈ xs → ∃ b, Ev (fun k => g k x) b ∧ mk b = c x) (e : Nat) :
    ∀ (j : Nat), j ≤ xs.length → xs.length - j = e → Ev (fun k => L k xs ((xs.take j).map c ++ List.replicate (xs.length - j) z) (j : Int)) (xs.map c) := by
  induction e with
  | zero =>
    intro j hj he
    obtain rfl : j = xs.length := by omega
    refine Ev.step (f := fun _ => some (xs.map c)) (fun k => ?_) (Ev.now _)
    rw [hL, if_neg (by omega), List.take_length, Nat.sub_self, List.replicate_zero, List.append_nil]
  | succ e ih =>
    intro j hj he
    have hlt : j < xs.length := by omega
    have hx : xs.getD j d = xs[j] := by rw [List.getD_eq_getElem?_getD, List.getElem?_eq_getElem hlt, Option.getD_some]
    obtain ⟨b, hb, hbc⟩ := hg xs[j] (List.getElem_mem hlt)
    have hlm : ((xs.take j).map c).length = j := by rw [List.length_map, List.length_take]; omega
    have hly : (((xs.take j).map c ++ List.replicate (xs.length - j) z).length : Int) = (xs.length : Int) := by
      rw [List.length_append, hlm, List.length_replicate]; omega
    have hset : (((xs.take j).map c ++ List.replicate (xs.length - j) z).set j (mk b)) = (xs.take (j + 1)).map c ++ List.replicate (xs.length - (j + 1)) z := by
      rw [List.set_append_right _ _ (by omega), hlm, Nat.sub_self, show xs.length - j = (xs.length - (j + 1)) + 1 from by omega, List.replicate_succ, List.set_cons_zero, hbc, List.take_succ_eq_append_getElem hlt, List.map_append, List.append_assoc]
      rfl
    refine Ev.step (f := fun k => (g k xs[j]).bind fun b => L k xs (((xs.take j).map c ++ List.replicate (xs.length - j) z).set j (mk b)) (((j + 1 : Nat) : Int))) (fun k => ?_) (Ev.bind (f := fun k b => L k xs (((xs.take j).map c ++ List.replicate (xs.length - j) z).set j (mk b)) (((j + 1 : Nat) : Int))) hb ?_)
    · have hlj : (j : Int) < (xs.length : Int) := by omega
      rw [hL, if_pos (by omega), if_pos (by omega), Int.toNat_natCast, hx, hly, w64 (by omega) (by omega)]
      simp only [if_pos hlj]
      rfl
    · rw [hset]
      exact ih (j + 1) (by omega) (by omega)
/-- A loop that asks every pair of elements. -/
theorem eq_loop {α : Type} (d : α) (L : Nat → List α → List α → Int → Option Bool) (g : Nat → α → α → Option Bool)
    (hL : ∀ k xs ys i, L (k + 1) xs ys i = if i < (xs.length : Int) then (if 0 ≤ i then (if i < (ys.length : Int) then ((g k (xs.getD i.toNat d) (ys.getD i.toNat d)).bind fun t => (if t = true then (L k xs ys (wrap64 (i + 1))) else (some false))) else none) else none) else some true)
    (xs : List α) (hlen : (xs.length : Int) ≤ 4611686018427387904)
    (hg : ∀ x, x ∈ xs → Ev (fun k => g k x x) true) (e : Nat) :
    ∀ (j : Nat), j ≤ xs.length → xs.length - j = e → Ev (fun k => L k xs xs (j : Int)) true := by
  induction e with
  | zero =>
    intro j hj he
    exact Ev.step (f := fun _ => some true) (fun k => by rw [hL, if_neg (by omega)]) (Ev.now _)
  | succ e ih =>
    intro j hj he
    have hlt : j < xs.length := by omega
    have hx : xs.getD j d = xs[j] := by rw [List.getD_eq_getElem?_getD, List.getElem?_eq_getElem hlt, Option.getD_some]
    refine Ev.step (f := fun k => (g k xs[j] xs[j]).bind fun t => (if t = true then L k xs xs (((j + 1 : Nat) : Int)) else (some false))) (fun k => ?_) (Ev.bind (f := fun k t => (if t = true then L k xs xs (((j + 1 : Nat) : Int)) else (some false))) (hg xs[j] (List.getElem_mem hlt)) ?_)
    · rw [hL, if_pos (by omega), if_pos (by omega), Int.toNat_natCast, hx, if_pos (by omega), w64 (by omega) (by omega)]
      rfl
    · simp only [if_true]
      exact ih (j + 1) (by omega) (by omega)

theorem toInt64S_ends (l : List Int) (hl : (l.length : Int) ≤ 1048576) (d : Nat) : ∀ (i : Nat) (m : List Int), i + d = l.length → m.length = l.length → (∀ j, j < i → m.getD j 0 = l.getD j 0) → Ev (fun k => laws_toInt64S.l0 k l m i) l := by
  induction d with
  | zero =>
    intro i m hi hm hj
    have e : m = l := by
      refine List.ext_getElem hm (fun j h1 h2 => ?_)
      have := hj j (by omega)
      rw [List.getD_eq_getElem?_getD, List.getD_eq_getElem?_getD, List.getElem?_eq_getElem h1, List.getElem?_eq_getElem h2] at this
      simpa using this
    exact Ev.step (f := fun _ => some l) (fun k => by simp only [laws_toInt64S.l0]; rw [if_neg (by omega), e]) (Ev.now _)
  | succ d ih =>
    intro i m hi hm hj
    refine Ev.step (fun k => ?_) (ih (i + 1) (m.set i (rd l i)) (by omega) (by simpa using hm) (fun j hji => ?_))
    · simp only [laws_toInt64S.l0]
      rw [if_pos (by omega), if_pos (by omega), if_pos (by omega), w64 (a := (i : Int) + 1) (by omega) (by omega), Int.toNat_natCast]
      have e1 : ((i : Int) + 1) = ((i + 1 : Nat) : Int) := by omega
      rw [e1]
    · by_cases e : j = i
      · subst e
        rw [List.getD_eq_getElem?_getD, List.getElem?_set_self (by omega)]
        unfold rd; rw [Int.toNat_natCast]; rfl
      · rw [List.getD_eq_getElem?_getD, List.getElem?_set_ne (by omega), ← List.getD_eq_getElem?_getD]
        exact hj j (by omega)
theorem toInt64S_ev (l : List Int) (hl : (l.length : Int) ≤ 1048576) : Ev (fun k => laws_toInt64S.f k l) l := by
  refine Ev.congr (fun k => ?_) (toInt64S_ends l hl l.length 0 (List.replicate l.length 0) (by omega) (by simp) (fun j hj => absurd hj (Nat.not_lt_zero _)))
  unfold laws_toInt64S.f
  rw [if_pos (by omega), if_pos (by omega), Int.toNat_natCast]; rfl
theorem eqInt64S_ends (l : List Int) (hl : (l.length : Int) ≤ 1048576) (d : Nat) : ∀ i : Nat, i + d = l.length → Ev (fun k => laws_eqInt64S.l0 k l l i) true := by
  induction d with
  | zero =>
    intro i hi
    exact Ev.step (f := fun _ => some true) (fun k => by simp only [laws_eqInt64S.l0]; rw [if_neg (by omega)]) (Ev.now _)
  | succ d ih =>
    intro i hi
    refine Ev.step (fun k => ?_) (ih (i + 1) (by omega))
    simp only [laws_eqInt64S.l0]
    rw [if_pos (by omega), if_pos (by omega), if_pos (by omega), if_pos trivial, w64 (a := (i : Int) + 1) (by omega) (by omega)]
    have e1 : ((i : Int) + 1) = ((i + 1 : Nat) : Int) := by omega
    rw [e1]
theorem eqInt64S_ev (l : List Int) (hl : (l.length : Int) ≤ 1048576) : Ev (fun k => laws_eqInt64S.f k l l) true := by
  refine Ev.congr (fun k => ?_) (eqInt64S_ends l hl l.length 0 (by omega))
  unfold laws_eqInt64S.f
  rw [if_pos rfl]; rfl

def markI : List Int → Int → List Int
  | [], _ => []
  | _ :: xs, m => m :: markI xs (m + 1)
theorem markI_len : ∀ (xs : List Int) (m : Int), (markI xs m).length = xs.length
  | [], _ => rfl
  | _ :: xs, m => by simp only [markI, List.length_cons, markI_len xs (m + 1)]
theorem markI_loop (e : Nat) : ∀ (pre suf : List Int) (m : Int), suf.length = e → (pre.length : Int) + (suf.length : Int) ≤ 1048576 → 0 ≤ m → m + (suf.length : Int) ≤ 1099511627776 →
    Ev (fun k => laws_markInt64S.l0 k (pre ++ suf) m (pre.length : Int)) (m + (suf.length : Int), pre ++ markI suf m) := by
  induction e with
  | zero =>
    intro pre suf m hs _ _ _
    have : suf = [] := List.eq_nil_of_length_eq_zero hs
    subst this
    refine Ev.step (f := fun _ => some (m, pre)) (fun k => ?_) ?_
    · simp only [laws_markInt64S.l0, List.append_nil]
      rw [if_neg (by omega)]
    · simp only [List.length_nil, markI, List.append_nil]
      rw [show m + ((0 : Nat) : Int) = m from by omega]
      exact Ev.now _
  | succ e ih =>
    intro pre suf m hs h1 h2 h3
    cases suf with
    | nil => simp at hs
    | cons a suf =>
      simp only [List.length_cons] at hs h1 h3
      have := ih (pre ++ [m]) suf (m + 1) (by omega) (by rw [List.length_append, List.length_cons, List.length_nil]; omega) (by omega) (by omega)
      rw [List.append_assoc, List.append_assoc, List.singleton_append, List.singleton_append] at this
      simp only [markI, List.length_cons]
      rw [show m + ((suf.length + 1 : Nat) : Int) = m + 1 + (suf.length : Int) from by omega]
      refine Ev.step (fun k => ?_) this
      simp only [laws_markInt64S.l0, Int.toNat_natCast]
      rw [if_pos (by rw [List.length_append, List.length_cons]; omega), if_pos (by omega), List.set_append_right _ _ (Nat.le_refl _), Nat.sub_self, List.set_cons_zero, w64 (a := m + 1) (by omega) (by omega), w64 (a := (pre.length : Int) + 1) (by omega) (by omega), List.length_append, List.length_cons, List.length_nil, show ((pre.length : Int) + 1) = ((pre.length + (0 + 1) : Nat) : Int) from by omega]
theorem heldI_loop (e : Nat) : ∀ (pre suf : List Int) (m : Int), suf.length = e → (pre.length : Int) + (suf.length : Int) ≤ 1048576 → 0 ≤ m → m + (suf.length : Int) ≤ 1099511627776 →
    Ev (fun k => laws_heldInt64S.l0 k (pre ++ markI suf m) m (pre.length : Int)) (m + (suf.length : Int)) := by
  induction e with
  | zero =>
    intro pre suf m hs _ _ _
    have : suf = [] := List.eq_nil_of_length_eq_zero hs
    subst this
    refine Ev.step (f := fun _ => some m) (fun k => ?_) ?_
    · simp only [laws_heldInt64S.l0, markI, List.append_nil]
      rw [if_neg (by omega)]
    · rw [List.length_nil, show m + ((0 : Nat) : Int) = m from by omega]
      exact Ev.now _
  | succ e ih =>
    intro pre suf m hs h1 h2 h3
    cases suf with
    | nil => simp at hs
    | cons a suf =>
      simp only [List.length_cons] at hs h1 h3
      have := ih (pre ++ [m]) suf (m + 1) (by omega) (by rw [List.length_append, List.length_cons, List.length_nil]; omega) (by omega) (by omega)
      rw [List.append_assoc, List.singleton_append] at this
      simp only [markI, List.length_cons]
      rw [show m + ((suf.length + 1 : Nat) : Int) = m + 1 + (suf.length : Int) from by omega]
      refine Ev.step (fun k => ?_) this
      have hrd : rd (pre ++ m :: markI suf (m + 1)) (pre.length : Int) = m := by
        unfold rd
        rw [Int.toNat_natCast, List.getD_eq_getElem?_getD, List.getElem?_append_right (Nat.le_refl _), Nat.sub_self]; rfl
      simp only [laws_heldInt64S.l0]
      rw [if_pos (by rw [List.length_append, List.length_cons]; omega), if_pos (by omega), hrd, if_pos rfl, w64 (a := m + 1) (by omega) (by omega), w64 (a := (pre.length : Int) + 1) (by omega) (by omega), List.length_append, List.length_cons, List.length_nil, show ((pre.length : Int) + 1) = ((pre.length + (0 + 1) : Nat) : Int) from by omega]
theorem markI_ev (l : List Int) (m : Int) (h : (l.length : Int) ≤ 1048576) (h0 : 0 ≤ m) (h1 : m ≤ 1000000000000) : Ev (fun k => laws_markInt64S.f k l m) (m + (l.length : Int), markI l m) :=
  markI_loop l.length [] l m rfl (by simp only [List.length_nil]; omega) h0 (by omega)
theorem heldI_ev (l : List Int) (m : Int) (h : (l.length : Int) ≤ 1048576) (h0 : 0 ≤ m) (h1 : m ≤ 1000000000000) : Ev (fun k => laws_heldInt64S.f k (markI l m) m) (m + (l.length : Int)) :=
  heldI_loop l.length [] l m rfl (by simp only [List.length_nil]; omega) h0 (by omega)

theorem rd124 (xs : List S124) (j : Nat) (hlt : j < xs.length) : rd_T124 xs (j : Int) = xs[j] := by unfold rd_T124; rw [Int.toNat_natCast, List.getD_eq_getElem?_getD, List.getElem?_eq_getElem hlt, Option.getD_some]
theorem rd124_set (xs : List S124) (j : Nat) (v : S124) (hlt : j < xs.length) : rd_T124 (xs.set j v) (j : Int) = v := by rw [rd124 _ _ (by rw [List.length_set]; exact hlt), List.getElem_set_self]
theorem eqPm_all (xs : List S124) (h0 : xs.length ≤ 1048576) : Ev (fun k => laws_eqPageMapS.f k xs xs) true := by
  have := eq_loop z124 laws_eqPageMapS.l0 (fun _ x y => laws_eqPageMap.f x.f0 x.f1 x.f2 x.f3 y.f0 y.f1 y.f2 y.f3) (fun k xs ys i => by simp only [laws_eqPageMapS.l0]; rfl) xs (by omega) (fun x _ => Ev.congr (fun k => by unfold laws_eqPageMap.f; rw [if_pos rfl, if_pos rfl, if_pos rfl, if_neg (by simp)]) (Ev.now _)) xs.length 0 (Nat.zero_le _) rfl
  refine Ev.congr (fun k => ?_) this
  unfold laws_eqPageMapS.f
  rw [if_pos rfl]
  rfl
def markP : List S124 → Int → List S124
  | [], _ => []
  | _ :: xs, m => (⟨m, m + 1, m + 2, ((m + 3) % 3 == 0)⟩ : S124) :: markP xs (m + 4)
theorem markP_loop (e : Nat) : ∀ (pre suf : List S124) (m : Int), suf.length = e → (pre.length : Int) + (suf.length : Int) ≤ 1048576 → 0 ≤ m → m + 4 * (suf.length : Int) ≤ 1099511627776 →
    Ev (fun k => laws_markPageMapS.l0 k (pre ++ suf) m (pre.length : Int)) (m + 4 * (suf.length : Int), pre ++ markP suf m) := by
  induction e with
  | zero =>
    intro pre suf m hs _ _ _
    have : suf = [] := List.eq_nil_of_length_eq_zero hs
    subst this
    refine Ev.step (f := fun _ => some (m, pre)) (fun k => ?_) ?_
    · simp only [laws_markPageMapS.l0, List.append_nil]
      rw [if_neg (by omega)]
    · simp only [List.length_nil, markP, List.append_nil]
      rw [show m + 4 * ((0 : Nat) : Int) = m from by omega]
      exact Ev.now _
  | succ e ih =>
    intro pre suf m hs h1 h2 h3
    cases suf with
    | nil => simp at hs
    | cons a suf =>
      simp only [List.length_cons] at hs h1 h3
      have := ih (pre ++ [(⟨m, m + 1, m + 2, ((m + 3) % 3 == 0)⟩ : S124)]) suf (m + 4) (by omega) (by rw [List.length_append, List.length_cons, List.length_nil]; omega) (by omega) (by omega)
      rw [List.append_assoc, List.append_assoc, List.singleton_append, List.singleton_append] at this
      simp only [markP, List.length_cons]
      rw [show m + 4 * ((suf.length + 1 : Nat) : Int) = m + 4 + 4 * (suf.length : Int) from by omega]
      refine Ev.step (fun k => ?_) this
      have hlt : pre.length < (pre ++ a :: suf).length := by rw [List.length_append, List.length_cons]; omega
      have w1 : wrap64 (m + 1) = m + 1 := w64 (by omega) (by omega)
      have w2 : wrap64 (m + 1 + 1) = m + 2 := by rw [w64 (by omega) (by omega)]; omega
      have w3 : wrap64 (m + 2 + 1) = m + 3 := by rw [w64 (by omega) (by omega)]; omega
      have w4 : wrap64 (m + 3 + 1) = m + 4 := by rw [w64 (by omega) (by omega)]; omega
      have ht : Int.tmod (m + 3) 3 = (m + 3) % 3 := tmod_nn (by omega)
      simp only [laws_markPageMapS.l0, Option.bind_some, Int.toNat_natCast]
      rw [if_pos (by omega), if_pos (by omega)]
      rw [rd124_set _ _ _ hlt, rd124_set _ _ _ (by rw [List.length_set]; exact hlt), rd124_set _ _ _ (by rw [List.length_set, List.length_set]; exact hlt)]
      rw [List.set_set, List.set_set, List.set_set, w1, w2, w3, w4, ht]
      rw [List.set_append_right _ _ (Nat.le_refl _), Nat.sub_self, List.set_cons_zero, w64 (a := (pre.length : Int) + 1) (by omega) (by omega), List.length_append, List.length_cons, List.length_nil, show ((pre.length : Int) + 1) = ((pre.length + (0 + 1) : Nat) : Int) from by omega]
theorem markP_ev (l : List S124) (h : (l.length : Int) ≤ 1048576) : Ev (fun k => laws_markPageMapS.f k l 1) (1 + 4 * (l.length : Int), markP l 1) :=
  markP_loop l.length [] l 1 rfl (by simp only [List.length_nil]; omega) (by omega) (by omega)
def toP (x : S126) : S124 := ⟨x.f0, x.f1, x.f2, x.f3⟩
theorem toP_all (xs : List S126) (h0 : (xs.length : Int) ≤ 1048576) : Ev (fun k => laws_toPageMapS.f k xs) (xs.map toP) := by
  have := to_loop z126 z124 (fun b : Int × Int × Int × Bool => (⟨b.1, b.2.1, b.2.2.1, b.2.2.2⟩ : S124)) toP laws_toPageMapS.l0 (fun _ x => laws_toPageMap.f x.f0 x.f1 x.f2 x.f3) (fun k xs ys i => by simp only [laws_toPageMapS.l0]; rfl) xs (by omega) (fun x _ => ⟨(x.f0, x.f1, x.f2, x.f3), Ev.congr (fun k => by unfold laws_toPageMap.f; rfl) (Ev.now _), rfl⟩) xs.length 0 (Nat.zero_le _) (by omega)
  refine Ev.congr (fun k => ?_) this
  unfold laws_toPageMapS.f
  rw [if_pos (by omega), if_pos (by omega), Int.toNat_natCast]
  rfl

theorem spec_l01Mod_eq (a m : Int) (hm : 0 < m) (hm1 : m ≤ 4611686018427387904) : spec_l01Mod.f a m = some (a % m) := by
  unfold spec_l01Mod.f; rw [if_neg (by omega)]; exact go_mod a m hm hm1
theorem spec_Word_eq (a : Int) : spec_Word.f a = some (a % 4294967296) := by
  unfold spec_Word.f; rw [spec_l01Mod_eq _ _ (by omega) (by omega)]; rfl

def wordAt (s : ByteArray) (n : Int) : Int := bt s n + bt s (n + 1) * 256 + bt s (n + 2) * 65536 + bt s (n + 3) * 16777216
theorem wordAt_range (s : ByteArray) (n : Int) : 0 ≤ wordAt s n ∧ wordAt s n ≤ 4294967295 := by
  unfold wordAt
  have h0 := bt_range s n; have h1 := bt_range s (n + 1); have h2 := bt_range s (n + 2); have h3 := bt_range s (n + 3)
  omega
theorem spec_l01Word_eq (s : ByteArray) (n : Int) (h0 : 0 ≤ n) (h1 : n + 3 < (s.size : Int)) (h2 : (s.size : Int) ≤ 140737488351232) : spec_l01Word.f s n = some (wordAt s n) := by
  unfold spec_l01Word.f wordAt
  have b0 := bt_range s n; have b1 := bt_range s (n + 1); have b2 := bt_range s (n + 2); have b3 := bt_range s (n + 3)
  rw [w64 (a := n + 1) (by omega) (by omega), w64 (a := n + 2) (by omega) (by omega), w64 (a := n + 3) (by omega) (by omega)]
  rw [if_pos (by omega), if_pos (by omega), if_pos (by omega), if_pos (by omega), if_pos (by omega), if_pos (by omega), if_pos (by omega), if_pos (by omega)]
  congr 1
  unfold wrap64
  omega

def getOk (s : ByteArray) (n : Int) : Prop := (s.size : Int) ≤ 65536 ∧ 0 ≤ n ∧ n + 4 ≤ (s.size : Int)
theorem spec_GetWord_eq (s : ByteArray) (n : Int) : (getOk s n ∧ spec_GetWord.f s n = some (true, wordAt s n)) ∨ (¬ getOk s n ∧ spec_GetWord.f s n = some (false, 0)) := by
  unfold spec_GetWord.f getOk
  by_cases h0 : (s.size : Int) > 65536
  · rw [if_pos h0]; right; exact ⟨fun h => by omega, rfl⟩
  · rw [if_neg h0]
    by_cases h1 : n < 0
    · rw [if_pos h1]; right; exact ⟨fun h => by omega, rfl⟩
    · rw [if_neg h1, w64 (by omega) (by omega)]
      by_cases h2 : n > (s.size : Int) - 4
      · rw [if_pos h2]; right; exact ⟨fun h => by omega, rfl⟩
      · rw [if_neg h2, spec_l01Word_eq s n (by omega) (by omega) (by omega)]; left; exact ⟨by omega, rfl⟩

theorem bt_bB (s : ByteArray) (j : Nat) : bt s (j : Int) = bB s.data.toList j := by
  unfold bt bB
  rw [Int.toNat_natCast]
  split
  · rename_i h
    have hl : j < s.data.toList.length := by rw [data_length]; exact h
    rw [List.getD_eq_getElem?_getD, List.getElem?_eq_getElem hl, Option.getD_some, Array.getElem_toList]
    rfl
  · rename_i h
    have hl : s.data.toList.length ≤ j := by rw [data_length]; omega
    rw [List.getD_eq_getElem?_getD, List.getElem?_eq_none hl, Option.getD_none]
    rfl
theorem specWord_gw (s : ByteArray) (o : Nat) (h1 : o + 4 ≤ s.size) (h2 : s.size ≤ 65536) : spec_l01Word.f s (o : Int) = some (gwB s.data.toList o) := by
  rw [spec_l01Word_eq s _ (by omega) (by omega) (by omega)]
  unfold wordAt gwB
  rw [show (o : Int) + 1 = ((o + 1 : Nat) : Int) from by omega, show (o : Int) + 2 = ((o + 2 : Nat) : Int) from by omega, show (o : Int) + 3 = ((o + 3 : Nat) : Int) from by omega, bt_bB, bt_bB, bt_bB, bt_bB]
theorem put4_flat (bs : List UInt8) (o : Nat) (v : Int) (h : o + 4 ≤ bs.length) : put4 bs o v = bs.take o ++ [byte8 v, byte8 (v / 256), byte8 (v / 65536), byte8 (v / 16777216)] ++ bs.drop (o + 4) := by
  unfold put4
  have z1 : (By.putAt bs o [byte8 v]).length = bs.length := By.putAt_length _ _ _ (by simp only [List.length_cons, List.length_nil]; omega)
  have z2 : (By.putAt (By.putAt bs o [byte8 v]) (o + 1) [byte8 (v / 256)]).length = bs.length := by rw [By.putAt_length _ _ _ (by simp only [List.length_cons, List.length_nil]; omega), z1]
  rw [By.putAt_cons (By.putAt (By.putAt bs o [byte8 v]) (o + 1) [byte8 (v / 256)]) (o + 2) (byte8 (v / 65536)) [byte8 (v / 16777216)] (by omega), By.putAt_cons (By.putAt bs o [byte8 v]) (o + 1) (byte8 (v / 256)) _ (by omega), By.putAt_cons bs o (byte8 v) _ (by omega)]
  rfl
theorem specSet_put (s : ByteArray) (o : Nat) (v : Int) (h1 : o + 4 ≤ s.size) (h2 : s.size ≤ 65536) : ∃ m, spec_SetWord.f s (o : Int) v = some m ∧ m.data.toList = put4 s.data.toList o v := by
  have hp : spec_PutWord.f v = some (strOfNums [v % 4294967296 % 256, v % 4294967296 / 256 % 256, v % 4294967296 / 65536 % 256, v % 4294967296 / 16777216 % 256]) := by
    unfold spec_PutWord.f
    rw [spec_Word_eq]; rfl
  have hz : (strOfNums [v % 4294967296 % 256, v % 4294967296 / 256 % 256, v % 4294967296 / 65536 % 256, v % 4294967296 / 16777216 % 256]).size = 4 := strOfNums_size _
  have hx : (s.extract 0 o).size = o := by rw [ByteArray.size_extract]; omega
  have hy : (s.extract (o + 4) s.size).size = s.size - (o + 4) := by rw [ByteArray.size_extract]; omega
  have hl : s.data.toList.length = s.size := data_length s
  refine ⟨s.extract 0 o ++ strOfNums [v % 4294967296 % 256, v % 4294967296 / 256 % 256, v % 4294967296 / 65536 % 256, v % 4294967296 / 16777216 % 256] ++ s.extract (o + 4) s.size, ?_, ?_⟩
  · unfold spec_SetWord.f
    rcases spec_GetWord_eq s (o : Int) with ⟨_, e⟩ | ⟨h, _⟩
    · have w4 : wrap64 ((o : Int) + 4) = ((o + 4 : Nat) : Int) := by rw [w64 (by omega) (by omega)]; omega
      rw [e, Option.bind_some, if_pos rfl, if_pos (by omega), if_pos (by omega), hp, Option.bind_some, Int.toNat_natCast, hx, hz, if_pos (by omega), w4, if_pos (by omega), if_pos (by omega), Int.toNat_natCast, ByteArray.size_append, hx, hz, hy, if_pos (by omega)]
    · exact absurd ⟨by omega, by omega, by omega⟩ h
  · rw [put4_flat _ _ _ (by omega), ByteArray.data_append, ByteArray.data_append, Array.toList_append, Array.toList_append, By.extract_toList, strOfNums_data]
    have e1 : (s.extract 0 o).data.toList = s.data.toList.take o := by
      rw [ByteArray.data_extract, Array.toList_extract]
      simp [List.extract_eq_take_drop]
    rw [e1]
    congr 2
    unfold byte8
    simp only [List.map_cons, List.map_nil]
    rw [show v % 4294967296 % 256 = v % 256 from by omega, show v % 4294967296 / 256 % 256 = v / 256 % 256 from by omega, show v % 4294967296 / 65536 % 256 = v / 65536 % 256 from by omega, show v % 4294967296 / 16777216 % 256 = v / 16777216 % 256 from by omega]
theorem wrap_inj (a b : Nat) (ha : a < 18446744073709551616) (hb : b < 18446744073709551616) (h : wrap64 (a : Int) = wrap64 (b : Int)) : a = b := by
  unfold wrap64 at h
  omega
theorem lt64 (x : BitVec 64) : x.toNat < 18446744073709551616 := x.isLt
theorem flag_bits (fl : Int) (h0 : -9223372036854775808 ≤ fl) (h1 : fl ≤ 9223372036854775807) : (Go.bits .andNot .i64 fl 158 == 0) = (fl == Go.bits .and .i64 fl 158) := by
  have e1 : Go.bits .andNot .i64 fl 158 = wrap64 (((BitVec.ofInt 64 fl &&& ~~~(BitVec.ofInt 64 158)).toNat : Nat) : Int) := by
    simp only [Go.bits]; rw [i64w]; rfl
  have e2 : Go.bits .and .i64 fl 158 = wrap64 (((BitVec.ofInt 64 fl &&& BitVec.ofInt 64 158).toNat : Nat) : Int) := by
    simp only [Go.bits]; rw [i64w]; rfl
  have e3 : fl = wrap64 (((BitVec.ofInt 64 fl).toNat : Nat) : Int) := by
    rw [BitVec.toNat_ofInt]
    unfold wrap64
    omega
  rw [e1, e2]
  generalize hx : BitVec.ofInt 64 fl = x at e3 ⊢
  rw [e3]
  generalize BitVec.ofInt 64 158 = c
  rw [Bool.eq_iff_iff, beq_iff_eq, beq_iff_eq]
  constructor
  · intro h
    have hz : (x &&& ~~~c).toNat = 0 := wrap_inj _ 0 (lt64 _) (by decide) (by rw [h]; unfold wrap64; omega)
    have hb : x &&& ~~~c = 0#64 := BitVec.eq_of_toNat_eq hz
    have : x = x &&& c := by
      apply BitVec.eq_of_getLsbD_eq
      intro i hi
      have := congrArg (fun y => BitVec.getLsbD y i) hb
      simp only [BitVec.getLsbD_and, BitVec.getLsbD_not, BitVec.getLsbD_zero] at this
      rw [BitVec.getLsbD_and]
      generalize x.getLsbD i = p at this ⊢
      generalize c.getLsbD i = q at this ⊢
      have hd : decide (i < 64) = true := decide_eq_true hi
      rw [hd] at this
      revert this
      cases p <;> cases q <;> decide
    rw [← this]
  · intro h
    have hz := wrap_inj _ _ (lt64 x) (lt64 _) h
    have hb : x = x &&& c := BitVec.eq_of_toNat_eq hz
    have : x &&& ~~~c = 0#64 := by
      apply BitVec.eq_of_getLsbD_eq
      intro i hi
      have := congrArg (fun y => BitVec.getLsbD y i) hb
      simp only [BitVec.getLsbD_and] at this
      rw [BitVec.getLsbD_and, BitVec.getLsbD_not, BitVec.getLsbD_zero]
      generalize x.getLsbD i = p at this ⊢
      generalize c.getLsbD i = q at this ⊢
      generalize decide (i < 64) = d
      revert this
      cases p <;> cases q <;> cases d <;> decide
    rw [this]
    have h0 : (0#64 : BitVec 64).toNat = 0 := by decide
    rw [h0]; unfold wrap64; omega

theorem inM_false {a lo hi : Int} (h : a < lo ∨ hi < a) : inMB a lo hi = false := by
  unfold inMB
  rcases h with h | h
  · rw [decide_eq_false (by omega)]; rfl
  · rw [decide_eq_false (show ¬ a ≤ hi by omega), Bool.and_false]
theorem inM_true {a lo hi : Int} (h0 : lo ≤ a) (h1 : a ≤ hi) : inMB a lo hi = true := by
  unfold inMB
  rw [decide_eq_true h0, decide_eq_true h1]; rfl
def unitOf (lg : Bool) : Int := if lg = true then 8192 else 256
theorem j0_eq (k : Nat) (m : ByteArray) (root : Int) (free : List Int) (va fr fl : Int) (lg : Bool) (h0 : -9223372036854775808 ≤ fl) (h1 : fl ≤ 9223372036854775807) :
    spec_l03Map.j0 (k + 1) m root free (unitOf lg) va fr fl lg = spec_l03Map.j1 k m root free (mapBad va fr fl lg) va fr fl lg := by
  simp only [spec_l03Map.j0]
  have hu : ¬ unitOf lg = 0 := by unfold unitOf; split <;> decide
  have hfb := flag_bits fl h0 h1
  unfold mapBad
  by_cases c0 : va < 0
  · rw [if_pos c0, inM_false (Or.inl c0)]; rfl
  · rw [if_neg c0]
    by_cases c1 : va ≥ 262144
    · rw [if_pos c1, inM_false (Or.inr (by omega))]; rfl
    · rw [if_neg c1, if_neg hu, inM_true (by omega) (by omega)]
      have hun : (if lg = true then (8192 : Int) else 256) = unitOf lg := rfl
      rw [hun]
      by_cases c2 : Int.tmod va (unitOf lg) = 0
      · rw [if_pos c2, c2]
        by_cases c3 : fr < 0
        · rw [if_pos c3, inM_false (Or.inl c3)]; rfl
        · rw [if_neg c3]
          by_cases c4 : fr > 1023
          · rw [if_pos c4, inM_false (Or.inr (by omega))]; rfl
          · rw [if_neg c4, inM_true (by omega) (by omega), hfb]
            have last : (if Go.bits .and .i64 fl 14 = 0 then spec_l03Map.j1 k m root free true va fr fl lg else spec_l03Map.j1 k m root free (fl != Go.bits .and .i64 fl 158) va fr fl lg) = spec_l03Map.j1 k m root free (!(fl == Go.bits .and .i64 fl 158) || (Go.bits .and .i64 fl 14 == 0)) va fr fl lg := by
              by_cases c6 : Go.bits .and .i64 fl 14 = 0
              · rw [if_pos c6, c6]; simp
              · rw [if_neg c6, beq_eq_false_iff_ne.mpr c6, Bool.or_false]; rfl
            cases lg with
            | true =>
              rw [if_pos rfl, if_pos rfl]
              by_cases c5 : Int.tmod fr 32 = 0
              · rw [if_pos c5, c5, last]; rfl
              · rw [if_neg c5, beq_eq_false_iff_ne.mpr c5]; rfl
            | false =>
              rw [if_neg Bool.false_ne_true, if_neg Bool.false_ne_true, last, Int.tmod_one]; rfl
      · rw [if_neg c2, beq_eq_false_iff_ne.mpr c2]; rfl
/-- What the reference's map of one page answers, told by the program's. -/
def MapRel (r : ByteArray × List Int × Int) (p : Int × List UInt8 × List Int) : Prop := r.2.2 = p.1 ∧ (p.1 = 0 → r.1.data.toList = p.2.1 ∧ r.2.1 = p.2.2)
theorem MapRel.ok {m : ByteArray} {free : List Int} {bs : List UInt8} (h : m.data.toList = bs) : MapRel (m, free, 0) (0, bs, free) := ⟨rfl, fun _ => ⟨h, rfl⟩⟩
theorem MapRel.bad {m : ByteArray} {free free2 : List Int} {bs : List UInt8} {c : Int} (h : ¬ c = 0) : MapRel (m, free, c) (c, bs, free2) := ⟨rfl, fun e => absurd e h⟩
theorem at_eq (root vn F : Nat) (hr : root < F) (hn : F ≤ 256) (hv : vn ≤ 262143) : wrap64 (wrap64 ((root : Int) * 256) + wrap64 (4 * ((vn : Int) / 8192))) = ((root * 256 + 4 * (vn / 8192) : Nat) : Int) := by
  rw [w64 (a := (root : Int) * 256) (by omega) (by omega), w64 (a := 4 * ((vn : Int) / 8192)) (by omega) (by omega), w64 (by omega) (by omega)]
  omega
theorem at2_eq (t vn F : Nat) (hr : t < F) (hn : F ≤ 256) (hv : vn ≤ 262143) : wrap64 (wrap64 ((t : Int) * 256) + wrap64 (4 * (Int.tmod ((vn : Int) / 256) 32))) = ((t * 256 + 4 * (vn / 256 % 32) : Nat) : Int) := by
  rw [tmod_nn (by omega), w64 (a := (t : Int) * 256) (by omega) (by omega), w64 (a := 4 * ((vn : Int) / 256 % 32)) (by omega) (by omega), w64 (by omega) (by omega)]
  omega
theorem j3_eq (m : ByteArray) (F : Nat) (t : Nat) (vn : Nat) (free : List Int) (ent e : Int) (fr fl : Int) (lg : Bool) (hs : m.size = F * 256) (hn : F ≤ 256) (ht : t < F) (hv : vn ≤ 262143) (he : e / 256 = (t : Int)) :
    ∃ r, (∀ k, spec_l03Map.j3 (k + 1) m free ent e (vn : Int) fr fl lg = some r) ∧ MapRel r ((ymapTail m.data.toList t vn ent).1, (ymapTail m.data.toList t vn ent).2, free) := by
  have hen : spec_l03Entry.f m (e / 256) (Int.tmod ((vn : Int) / 256) 32) = some (gwB m.data.toList (t * 256 + 4 * (vn / 256 % 32)), true) := by
    unfold spec_l03Entry.f
    rw [he, w64 (a := (t : Int) + 1) (by omega) (by omega), w64 (a := ((t : Int) + 1) * 256) (by omega) (by omega), if_neg (by omega), at2_eq t vn F ht hn hv, specWord_gw m _ (by omega) (by omega), Option.bind_some]
  obtain ⟨m2, hm2, hd2⟩ := specSet_put m (t * 256 + 4 * (vn / 256 % 32)) ent (by omega) (by omega)
  obtain ⟨ev, hev⟩ : ∃ x, gwB m.data.toList (t * 256 + 4 * (vn / 256 % 32)) = x := ⟨_, rfl⟩
  rw [hev] at hen
  by_cases c : Go.bits .and .i64 ev 1 = 0
  · have hT : ymapTail m.data.toList t vn ent = (0, put4 m.data.toList (t * 256 + 4 * (vn / 256 % 32)) ent) := by unfold ymapTail; rw [hev, if_pos c]
    obtain ⟨T, hTT⟩ : ∃ T, ymapTail m.data.toList t vn ent = T := ⟨_, rfl⟩
    rw [hTT] at hT ⊢
    subst hT
    refine ⟨(m2, free, 0), fun k => ?_, MapRel.ok hd2⟩
    simp only [spec_l03Map.j3]
    rw [hen]
    simp only [Option.bind_some, if_true]
    rw [if_pos c, he, at2_eq t vn F ht hn hv, hm2, Option.bind_some]
  · have hT : ymapTail m.data.toList t vn ent = (9, m.data.toList) := by unfold ymapTail; rw [hev, if_neg c]
    obtain ⟨T, hTT⟩ : ∃ T, ymapTail m.data.toList t vn ent = T := ⟨_, rfl⟩
    rw [hTT] at hT ⊢
    subst hT
    refine ⟨(m, free, 9), fun k => ?_, MapRel.bad (by decide)⟩
    simp only [spec_l03Map.j3]
    rw [hen]
    simp only [Option.bind_some, if_true]
    rw [if_neg c]
theorem entry_far (m : ByteArray) (F : Nat) (e j : Int) (hs : m.size = F * 256) (hn : F ≤ 256) (h0 : 0 ≤ e) (h1 : e ≤ 4294967295) (hf : (F : Int) ≤ e / 256) : spec_l03Entry.f m (e / 256) j = some (0, false) := by
  unfold spec_l03Entry.f
  rw [w64 (a := e / 256 + 1) (by omega) (by omega), w64 (a := (e / 256 + 1) * 256) (by omega) (by omega), if_pos (by omega)]
theorem zeros_map (n : Nat) : (List.replicate n (0 : Int)).map (fun n => UInt8.ofNat n.toNat) = List.replicate n 0 := by rw [List.map_replicate]; rfl
theorem zeros_len (n : Nat) : (List.replicate n (0 : UInt8)).length = n := List.length_replicate
theorem zero_put (m : ByteArray) (F t : Nat) (hs : m.size = F * 256) (ht : t < F) : (m.extract 0 (t * 256) ++ strOfNums (List.replicate 256 0) ++ m.extract (t * 256 + 256) m.size).data.toList = By.putAt m.data.toList (t * 256) (List.replicate 256 0) := by
  rw [ByteArray.data_append, ByteArray.data_append, Array.toList_append, Array.toList_append, By.extract_toList, strOfNums_data]
  have e1 : (m.extract 0 (t * 256)).data.toList = m.data.toList.take (t * 256) := by
    rw [ByteArray.data_extract, Array.toList_extract]
    simp [List.extract_eq_take_drop]
  have e2 : (List.replicate 256 (0 : Int)).map (fun n => UInt8.ofNat n.toNat) = List.replicate 256 0 := zeros_map 256
  rw [e1, e2]
  unfold By.putAt
  rw [zeros_len 256]
theorem map_small (k : Nat) (m : ByteArray) (F root vn : Nat) (fr fl : Int) (free : List Int) (hs : m.size = F * 256) (hn : F ≤ 256) (hr : root < F) (hv : vn ≤ 262143) (hft : ∀ t ∈ free, 0 ≤ t ∧ t < (F : Int)) (hfl : free.length ≤ 1000) :
    ∃ r, (∀ k, (if Go.bits .and .i64 (gwB m.data.toList (root * 256 + 4 * (vn / 8192))) 1 = 0 then (spec_l03Map.j2 (k + 2) m free (Go.bits .or .i64 (Go.bits .or .i64 (fr * 256) fl) 1) ((root * 256 + 4 * (vn / 8192) : Nat) : Int) (gwB m.data.toList (root * 256 + 4 * (vn / 8192))) false (vn : Int) fr fl false) else (spec_l03Map.j2 (k + 2) m free (Go.bits .or .i64 (Go.bits .or .i64 (fr * 256) fl) 1) ((root * 256 + 4 * (vn / 8192) : Nat) : Int) (gwB m.data.toList (root * 256 + 4 * (vn / 8192))) ((Go.bits .and .i64 (gwB m.data.toList (root * 256 + 4 * (vn / 8192))) 14) != 0) (vn : Int) fr fl false)) = some r) ∧ MapRel r (ymapS m.data.toList F root vn fr fl free) := by
  have hg := gwB_range m.data.toList (root * 256 + 4 * (vn / 8192))
  by_cases c1 : Go.bits .and .i64 (gwB m.data.toList (root * 256 + 4 * (vn / 8192))) 1 = 0
  · simp only [if_pos c1]
    cases free with
    | nil =>
      refine ⟨(m, [], 4), fun k => ?_, ?_⟩
      · simp only [spec_l03Map.j2]
        rw [if_neg Bool.false_ne_true, if_pos c1, if_pos (show ((([] : List Int).length : Nat) : Int) = 0 from rfl)]
      · rw [ymapS_nil _ _ _ _ _ _ c1]
        exact MapRel.bad (by decide)
    | cons t rest =>
      rw [ymapS_cons _ _ _ _ _ _ _ _ c1]
      generalize gwB m.data.toList (root * 256 + 4 * (vn / 8192)) = ev at c1 hg ⊢
      obtain ⟨t0, t1⟩ := hft t (List.mem_cons_self ..)
      obtain ⟨tn, rfl⟩ : ∃ x : Nat, t = (x : Int) := ⟨t.toNat, by omega⟩
      have htn : tn < F := by omega
      have hz := zero_put m F tn hs htn
      have hzs : (m.extract 0 (tn * 256) ++ strOfNums (List.replicate 256 0) ++ m.extract (tn * 256 + 256) m.size).size = m.size := by
        rw [← data_length, hz, put_zero_length _ _ 256 (by rw [data_length]; omega), data_length]
      have hx : (m.extract 0 (tn * 256)).size = tn * 256 := by rw [ByteArray.size_extract]; omega
      have hsz : (strOfNums (List.replicate 256 0)).size = 256 := by rw [strOfNums_size, List.length_replicate]
      have hy : (m.extract (tn * 256 + 256) m.size).size = m.size - (tn * 256 + 256) := by rw [ByteArray.size_extract]; omega
      have hrd : rd ((tn : Int) :: rest) 0 = (tn : Int) := rfl
      have w1 : wrap64 ((tn : Int) * 256) = ((tn * 256 : Nat) : Int) := by rw [w64 (by omega) (by omega)]; omega
      have w2 : wrap64 (wrap64 ((tn : Int) + 1) * 256) = ((tn * 256 + 256 : Nat) : Int) := by rw [w64 (a := (tn : Int) + 1) (by omega) (by omega), w64 (by omega) (by omega)]; omega
      have hor : Go.bits .or .i64 ((tn : Int) * 256) 1 = (tn : Int) * 256 + 1 := or_join 8 ((tn : Int) * 256) 1 (by omega) (by omega) (by omega) (by decide) (by decide) (by decide)
      have hor2 : Go.bits .or .i64 (((tn * 256 : Nat) : Int)) 1 = (tn : Int) * 256 + 1 := by rw [← hor, show (((tn * 256 : Nat)) : Int) = (tn : Int) * 256 from by omega]
      have hl : (((tn : Int) :: rest).length : Int) = (rest.length : Int) + 1 := by rw [List.length_cons]; omega
      rw [Int.toNat_natCast, hor]
      obtain ⟨m2, hm2, hd2⟩ := specSet_put (m.extract 0 (tn * 256) ++ strOfNums (List.replicate 256 0) ++ m.extract (tn * 256 + 256) m.size) (root * 256 + 4 * (vn / 8192)) ((tn : Int) * 256 + 1) (by rw [hzs]; omega) (by rw [hzs]; omega)
      rw [hz] at hd2
      have hm2s : m2.size = F * 256 := by
        rw [← data_length, hd2, put4_length _ _ _ (by rw [put_zero_length _ _ 256 (by rw [data_length]; omega), data_length]; omega), put_zero_length _ _ 256 (by rw [data_length]; omega), data_length, hs]
      obtain ⟨r, hr3, hrel⟩ := j3_eq m2 F tn vn rest (Go.bits .or .i64 (Go.bits .or .i64 (fr * 256) fl) 1) ((tn : Int) * 256 + 1) fr fl false hm2s hn htn hv (by omega)
      rw [hd2] at hrel
      refine ⟨r, fun k => ?_, hrel⟩
      simp only [spec_l03Map.j2]
      rw [if_neg Bool.false_ne_true, if_pos c1, hl, if_neg (by omega), if_pos (by omega), if_pos (by omega), hrd, w1, w2, if_pos (by omega), if_pos (by omega), if_pos (by decide)]
      simp only [Option.bind_some, Int.toNat_natCast]
      rw [hx, hsz, if_pos (by omega), if_pos (by omega), if_pos (by omega), ByteArray.size_append, hx, hsz, hy, if_pos (by omega), hor2, hm2, Option.bind_some]
      exact hr3 k
  · simp only [if_neg c1]
    by_cases c2 : Go.bits .and .i64 (gwB m.data.toList (root * 256 + 4 * (vn / 8192))) 14 = 0
    · have c2b : (Go.bits .and .i64 (gwB m.data.toList (root * 256 + 4 * (vn / 8192))) 14 != 0) = false := by rw [c2]; rfl
      rw [c2b]
      by_cases c3 : (F : Int) ≤ gwB m.data.toList (root * 256 + 4 * (vn / 8192)) / 256
      · refine ⟨(m, free, 9), fun k => ?_, ?_⟩
        · simp only [spec_l03Map.j2]
          rw [if_neg Bool.false_ne_true, if_neg c1]
          simp only [spec_l03Map.j3]
          rw [entry_far m F _ _ hs hn hg.1 hg.2 c3]
          simp only [Option.bind_some]
          rw [if_neg Bool.false_ne_true]
        · rw [ymapS_far _ _ _ _ _ _ _ c1 c2 c3]
          exact MapRel.bad (by decide)
      · rw [ymapS_in _ _ _ _ _ _ _ c1 c2 c3]
        generalize gwB m.data.toList (root * 256 + 4 * (vn / 8192)) = ev at c1 c2 c3 hg ⊢
        obtain ⟨tn, htn⟩ : ∃ x : Nat, ev / 256 = (x : Int) := ⟨(ev / 256).toNat, by omega⟩
        rw [htn] at c3 ⊢
        rw [Int.toNat_natCast]
        obtain ⟨r, hr3, hrel⟩ := j3_eq m F tn vn free (Go.bits .or .i64 (Go.bits .or .i64 (fr * 256) fl) 1) ev fr fl false hs hn (by omega) hv htn
        refine ⟨r, fun k => ?_, hrel⟩
        simp only [spec_l03Map.j2]
        rw [if_neg Bool.false_ne_true, if_neg c1]
        exact hr3 k
    · have c2b : (Go.bits .and .i64 (gwB m.data.toList (root * 256 + 4 * (vn / 8192))) 14 != 0) = true := bne_iff_ne.mpr c2
      rw [c2b]
      refine ⟨(m, free, 9), fun k => ?_, ?_⟩
      · simp only [spec_l03Map.j2]
        rw [if_pos trivial]
      · rw [ymapS_leaf _ _ _ _ _ _ _ c1 c2]
        exact MapRel.bad (by decide)
theorem mapBad_fr {va fr fl : Int} {lg : Bool} (h : mapBad va fr fl lg = false) : 0 ≤ fr ∧ fr ≤ 1023 := by
  unfold mapBad at h
  have h1 := (Bool.or_eq_false_iff.mp (Bool.or_eq_false_iff.mp (Bool.or_eq_false_iff.mp h).2).2).1
  rw [Bool.not_eq_false'] at h1
  unfold inMB at h1
  rw [Bool.and_eq_true] at h1
  exact ⟨of_decide_eq_true h1.1, of_decide_eq_true h1.2⟩
theorem map_step (m : ByteArray) (F root : Nat) (x : S124) (free : List Int) (hs : m.size = F * 256) (hn : F ≤ 256) (hr : root < F) (q0 : -9223372036854775808 ≤ x.f2) (q1 : x.f2 ≤ 9223372036854775807) (hft : ∀ t ∈ free, 0 ≤ t ∧ t < (F : Int)) (hfl : free.length ≤ 1000) :
    ∃ r, (∀ k, spec_l03Map.f (k + 4) m (root : Int) x.f0 x.f1 x.f2 x.f3 free = some r) ∧ MapRel r (ymapR m.data.toList F root x free) := by
  have hf : ∀ k, spec_l03Map.f (k + 4) m (root : Int) x.f0 x.f1 x.f2 x.f3 free = spec_l03Map.j1 (k + 3) m (root : Int) free (mapBad x.f0 x.f1 x.f2 x.f3) x.f0 x.f1 x.f2 x.f3 := by
    intro k
    rw [← j0_eq _ _ _ _ _ _ _ _ q0 q1]
    unfold spec_l03Map.f unitOf
    by_cases h : x.f3 = true
    · rw [if_pos h, if_pos h]
    · rw [if_neg h, if_neg h]
  simp only [hf]
  unfold ymapR
  cases hbad : mapBad x.f0 x.f1 x.f2 x.f3 with
  | true =>
    refine ⟨(m, free, 1), fun k => ?_, ?_⟩
    · simp only [spec_l03Map.j1]
      rw [if_pos trivial]
    · rw [if_pos rfl]
      exact MapRel.bad (by decide)
  | false =>
    rw [if_neg Bool.false_ne_true]
    obtain ⟨v0, v1⟩ := mapBad_va hbad
    obtain ⟨f0, f1⟩ := mapBad_fr hbad
    clear hbad hf
    obtain ⟨vn, hvn⟩ : ∃ v : Nat, x.f0 = (v : Int) := ⟨x.f0.toNat, by omega⟩
    rw [hvn, Int.toNat_natCast]
    rw [hvn] at v1
    have hat := at_eq root vn F hr hn (by omega)
    have hw := specWord_gw m (root * 256 + 4 * (vn / 8192)) (by omega) (by omega)
    have hfr : wrap64 (x.f1 * 256) = x.f1 * 256 := w64 (by omega) (by omega)
    cases hlg : x.f3 with
    | false =>
      rw [if_neg Bool.false_ne_true]
      obtain ⟨r, h1, h2⟩ := map_small 0 m F root vn x.f1 x.f2 free hs hn hr (by omega) hft hfl
      refine ⟨r, fun k => ?_, h2⟩
      simp only [spec_l03Map.j1]
      rw [if_neg Bool.false_ne_true, hat, hw, Option.bind_some, if_neg Bool.false_ne_true, hfr]
      exact h1 k
    | true =>
      rw [if_pos rfl]
      unfold ymapL
      generalize gwB m.data.toList (root * 256 + 4 * (vn / 8192)) = ev at hw ⊢
      obtain ⟨m2, hm2, hd2⟩ := specSet_put m (root * 256 + 4 * (vn / 8192)) (Go.bits .or .i64 (Go.bits .or .i64 (x.f1 * 256) x.f2) 1) (by omega) (by omega)
      by_cases c1 : Go.bits .and .i64 ev 1 = 0
      · rw [if_pos c1]
        refine ⟨(m2, free, 0), fun k => ?_, MapRel.ok hd2⟩
        simp only [spec_l03Map.j1]
        rw [if_neg Bool.false_ne_true, hat, hw, Option.bind_some, if_pos trivial, if_pos c1, hfr, hm2, Option.bind_some]
      · rw [if_neg c1]
        refine ⟨(m, free, 9), fun k => ?_, MapRel.bad (by decide)⟩
        simp only [spec_l03Map.j1]
        rw [if_neg Bool.false_ne_true, hat, hw, Option.bind_some, if_pos trivial, if_neg c1]
theorem ev4 {α : Type} {f : Nat → Option α} {r : α} (h : ∀ k, f (k + 4) = some r) : Ev f r :=
  Ev.step (f := fun k => f (k + 1)) (fun _ => rfl) (Ev.step (f := fun k => f (k + 2)) (fun _ => rfl) (Ev.step (f := fun k => f (k + 3)) (fun _ => rfl) (Ev.step (f := fun _ => some r) h (Ev.now r))))
theorem maps_loop (F root : Nat) (l2 : List S124) (hn : F ≤ 256) (hr : root < F) (h2 : l2.length ≤ 1000) (hq : ∀ x ∈ l2, -9223372036854775808 ≤ x.f2 ∧ x.f2 ≤ 9223372036854775807) (d : Nat) :
    ∀ (i : Nat) (m : ByteArray) (free : List Int), i + d = l2.length → m.size = F * 256 → (∀ t ∈ free, 0 ≤ t ∧ t < (F : Int)) → free.length ≤ 1000 → Ev (fun k => spec_MapPages.l1 k m (root : Int) l2 free (i : Int)) (mapsEnd (mapsGo F root (l2.drop i) m.data.toList free (i : Int))) := by
  induction d with
  | zero =>
    intro i m free hi hs hft hfl
    have hd : l2.drop i = [] := List.drop_eq_nil_of_le (by omega)
    rw [hd]
    refine Ev.step (f := fun _ => some (0, 0, m, free)) (fun k => ?_) ?_
    · simp only [spec_MapPages.l1]
      rw [if_neg (by omega)]
    · unfold mapsGo mapsEnd
      rw [if_pos rfl]
      exact Ev.now _
  | succ d ih =>
    intro i m free hi hs hft hfl
    have hlt : i < l2.length := by omega
    have hrd : rd_T124 l2 (i : Int) = l2[i] := by unfold rd_T124; rw [Int.toNat_natCast, List.getD_eq_getElem?_getD, List.getElem?_eq_getElem hlt, Option.getD_some]
    rw [List.drop_eq_getElem_cons hlt]
    obtain ⟨q0, q1⟩ := hq l2[i] (List.getElem_mem hlt)
    obtain ⟨r, hstep, hrel⟩ := map_step m F root l2[i] free hs hn hr q0 q1 hft hfl
    have keep := ymapR_keeps m.data.toList F root l2[i] free (by rw [data_length, hs]) hr hft
    have hgo : mapsGo F root (l2[i] :: l2.drop (i + 1)) m.data.toList free (i : Int) = if (ymapR m.data.toList F root l2[i] free).1 = 0 then mapsGo F root (l2.drop (i + 1)) (ymapR m.data.toList F root l2[i] free).2.1 (ymapR m.data.toList F root l2[i] free).2.2 ((i : Int) + 1) else ((ymapR m.data.toList F root l2[i] free).1, (i : Int), [], []) := rfl
    rw [hgo]
    clear hgo
    generalize l2[i] = x at hrd hstep hrel keep ⊢
    generalize ymapR m.data.toList F root x free = p at hrel keep ⊢
    obtain ⟨m2, free2, c2⟩ := r
    obtain ⟨hc, hz⟩ := hrel
    dsimp only at hc hz
    refine Ev.step (f := fun k => (spec_l03Map.f k m (root : Int) x.f0 x.f1 x.f2 x.f3 free).bind fun bt143 => (if bt143.2.2 = 0 then (spec_MapPages.l1 k bt143.1 (root : Int) l2 bt143.2.1 (((i + 1 : Nat) : Int))) else (some (bt143.2.2, (i : Int), (⟨#[]⟩ : ByteArray), ([] : List Int))))) (fun k => ?_) (Ev.bind (ev4 hstep) ?_)
    · simp only [spec_MapPages.l1]
      rw [if_pos (by omega), if_pos (by omega), hrd, w64 (by omega) (by omega)]
      rfl
    · by_cases h0 : p.1 = 0
      · obtain ⟨z1, z2⟩ := hz h0
        have hc0 : c2 = 0 := by rw [hc, h0]
        simp only [if_pos h0, if_pos hc0]
        rw [← z1, ← z2]
        have := ih (i + 1) m2 free2 (by omega) (by rw [← data_length, z1, keep.1, data_length, hs]) (fun t ht => hft t (keep.2.2 t (by rw [← z2]; exact ht))) (by rw [z2]; have := keep.2.1; omega)
        exact this
      · have hc0 : ¬ c2 = 0 := by rw [hc]; exact h0
        simp only [if_neg h0, if_neg hc0]
        unfold mapsEnd
        rw [if_neg h0, hc]
        exact Ev.now _
theorem in_eq (a0 : ByteArray) (x : Int) (hs : (a0.size : Int) ≤ 65536) : spec_l03In.f a0 x = some (!(mapFree a0 x)) := by
  unfold spec_l03In.f mapFree inMB
  rw [Bool.not_not, w64 (by omega) (by omega)]
  by_cases h : x ≥ 0
  · rw [if_pos h, decide_eq_true (show 0 ≤ x from h), Bool.true_and]
    congr 1
    by_cases h1 : x < (a0.size : Int) / 256
    · rw [decide_eq_true h1, decide_eq_true (by omega)]
    · rw [decide_eq_false h1, decide_eq_false (by omega)]
  · rw [if_neg h, decide_eq_false (show ¬ 0 ≤ x from h)]; rfl
theorem mem_eq (a0 : ByteArray) : spec_MemFault.f a0 = some (if mapMemOk a0 = true then 0 else 1) := by
  unfold spec_MemFault.f mapMemOk
  by_cases h0 : (a0.size : Int) = 0
  · rw [if_pos h0, decide_eq_false (by omega), Bool.false_and, if_neg Bool.false_ne_true]
  · rw [if_neg h0]
    by_cases h1 : (a0.size : Int) % 256 = 0
    · rw [if_pos h1, h1]
      by_cases h2 : (a0.size : Int) > 65536
      · rw [if_pos h2, decide_eq_false (show ¬ (a0.size : Int) ≤ 65536 by omega), Bool.false_and, Bool.and_false, if_neg Bool.false_ne_true]
      · rw [if_neg h2, decide_eq_true (show (a0.size : Int) ≥ 256 by omega), decide_eq_true (show (a0.size : Int) ≤ 65536 by omega)]; rfl
    · rw [if_neg h1, beq_eq_false_iff_ne.mpr h1, Bool.and_false, Bool.and_false, if_neg Bool.false_ne_true]
theorem sized_facts {a0 : ByteArray} {l2 : List S124} {l3 : List Int} (h : mapSized a0 l2 l3 = false) : (a0.size : Int) ≤ 65536 ∧ l2.length ≤ 1000 ∧ l3.length ≤ 1000 := by
  unfold mapSized at h
  obtain ⟨h0, h⟩ := Bool.or_eq_false_iff.mp h
  obtain ⟨h1, h2⟩ := Bool.or_eq_false_iff.mp h
  have := of_decide_eq_false h0
  have := of_decide_eq_false h1
  have := of_decide_eq_false h2
  omega
theorem frees_loop (a0 : ByteArray) (root : Int) (l2 : List S124) (l3 : List Int) (h3 : l3.length ≤ 1000) (hs : (a0.size : Int) ≤ 65536) (r : Int × Int × ByteArray × List Int) (hend : Ev (fun k => spec_MapPages.l1 k a0 root l2 l3 0) r) (d : Nat) :
    ∀ i : Nat, i + d = l3.length → (l3.take i).any (mapFree a0) = false → Ev (fun k => spec_MapPages.l0 k a0 root l2 l3 (i : Int)) (if l3.any (mapFree a0) = true then (1, 0, ⟨#[]⟩, []) else r) := by
  induction d with
  | zero =>
    intro i hi ht
    rw [List.take_of_length_le (by omega)] at ht
    rw [ht, if_neg Bool.false_ne_true]
    refine Ev.step (f := fun k => spec_MapPages.l1 k a0 root l2 l3 0) (fun k => ?_) hend
    simp only [spec_MapPages.l0]
    rw [if_neg (by omega)]
    unfold spec_l01Ints.f
    simp only [Option.bind_some, List.nil_append, List.length_nil, Nat.zero_add]
    rw [if_pos (by omega), Option.bind_some]
  | succ d ih =>
    intro i hi ht
    have hlt : i < l3.length := by omega
    have hrd : rd l3 (i : Int) = l3[i] := by unfold rd; rw [Int.toNat_natCast, List.getD_eq_getElem?_getD, List.getElem?_eq_getElem hlt, Option.getD_some]
    have hin : spec_l03In.f a0 l3[i] = some (!(mapFree a0 l3[i])) := in_eq a0 _ hs
    cases hb : mapFree a0 l3[i] with
    | true =>
      have hany : l3.any (mapFree a0) = true := List.any_eq_true.mpr ⟨l3[i], List.getElem_mem hlt, hb⟩
      rw [hany, if_pos rfl]
      refine Ev.step (f := fun _ => some (1, 0, (⟨#[]⟩ : ByteArray), ([] : List Int))) (fun k => ?_) (Ev.now _)
      simp only [spec_MapPages.l0]
      rw [if_pos (by omega), if_pos (by omega), hrd, hin, hb, Option.bind_some, if_neg (by simp)]
    | false =>
      refine Ev.step (f := fun k => spec_MapPages.l0 k a0 root l2 l3 ((i + 1 : Nat) : Int)) (fun k => ?_) (ih (i + 1) (by omega) (by rw [List.take_succ_eq_append_getElem hlt, List.any_append, ht, List.any_cons, hb]; rfl))
      simp only [spec_MapPages.l0]
      rw [if_pos (by omega), if_pos (by omega), hrd, hin, hb, Option.bind_some, if_pos (by simp), w64 (by omega) (by omega)]
      rfl
theorem frees_only (a0 : ByteArray) (root : Int) (l2 : List S124) (l3 : List Int) (h3 : l3.length ≤ 1000) (hs : (a0.size : Int) ≤ 65536) (hany : l3.any (mapFree a0) = true) : Ev (fun k => spec_MapPages.l0 k a0 root l2 l3 ((0 : Nat) : Int)) (1, 0, ⟨#[]⟩, []) := by
  have key : ∀ (d i : Nat), i + d = l3.length → (l3.drop i).any (mapFree a0) = true → Ev (fun k => spec_MapPages.l0 k a0 root l2 l3 (i : Int)) (1, 0, ⟨#[]⟩, []) := by
    intro d
    induction d with
    | zero =>
      intro i hi h
      rw [List.drop_eq_nil_of_le (by omega)] at h
      exact absurd h (by simp)
    | succ d ih =>
      intro i hi h
      have hlt : i < l3.length := by omega
      have hrd : rd l3 (i : Int) = l3[i] := by unfold rd; rw [Int.toNat_natCast, List.getD_eq_getElem?_getD, List.getElem?_eq_getElem hlt, Option.getD_some]
      have hin : spec_l03In.f a0 l3[i] = some (!(mapFree a0 l3[i])) := in_eq a0 _ hs
      cases hb : mapFree a0 l3[i] with
      | true =>
        refine Ev.step (f := fun _ => some (1, 0, (⟨#[]⟩ : ByteArray), ([] : List Int))) (fun k => ?_) (Ev.now _)
        simp only [spec_MapPages.l0]
        rw [if_pos (by omega), if_pos (by omega), hrd, hin, hb, Option.bind_some, if_neg (by simp)]
      | false =>
        rw [List.drop_eq_getElem_cons hlt, List.any_cons, hb, Bool.false_or] at h
        refine Ev.step (f := fun k => spec_MapPages.l0 k a0 root l2 l3 ((i + 1 : Nat) : Int)) (fun k => ?_) (ih (i + 1) (by omega) h)
        simp only [spec_MapPages.l0]
        rw [if_pos (by omega), if_pos (by omega), hrd, hin, hb, Option.bind_some, if_pos (by simp), w64 (by omega) (by omega)]
        rfl
  exact key l3.length 0 (by omega) (by rw [List.drop_zero]; exact hany)
theorem spec_maps (a0 : ByteArray) (a1 : Int) (l2 : List S124) (l3 : List Int) (hq : ∀ x ∈ l2, -9223372036854775808 ≤ x.f2 ∧ x.f2 ≤ 9223372036854775807) (r : Int × Int × ByteArray × List Int) (h : impl_MapPages.f a0 a1 l2 l3 = some r) : Ev (fun k => spec_MapPages.f k a0 a1 l2 l3) r := by
  have hj : (fun k => spec_MapPages.f k a0 a1 l2 l3) = fun k => spec_MapPages.j0 k a0 a1 l2 l3 (mapSized a0 l2 l3) := by
    funext k
    unfold spec_MapPages.f mapSized
    by_cases h0 : (a0.size : Int) > 65536
    · rw [if_pos h0, decide_eq_true h0]; rfl
    · rw [if_neg h0, decide_eq_false h0]
      by_cases h1 : (l2.length : Int) > 1000
      · rw [if_pos h1, decide_eq_true h1]; rfl
      · rw [if_neg h1, decide_eq_false h1]; rfl
  rw [hj]
  unfold impl_MapPages.f at h
  cases hz : mapSized a0 l2 l3 with
  | true =>
    rw [hz, if_pos rfl] at h
    obtain rfl := Option.some.inj h
    refine Ev.step (f := fun _ => some (2, 0, (⟨#[]⟩ : ByteArray), ([] : List Int))) (fun k => ?_) (Ev.now _)
    simp only [spec_MapPages.j0]
    rw [if_pos trivial]
  | false =>
    rw [hz, if_neg Bool.false_ne_true] at h
    obtain ⟨s0, s1, s2⟩ := sized_facts hz
    have hm := mem_eq a0
    have hin := in_eq a0 a1 s0
    have hform : mapForm a0 a1 l3 = (!(mapMemOk a0) || (mapFree a0 a1 || l3.any (mapFree a0))) := rfl
    refine Ev.step (f := fun k => spec_MapPages.j1 k a0 a1 l2 l3 (!(mapMemOk a0) || mapFree a0 a1)) (fun k => ?_) ?_
    · simp only [spec_MapPages.j0]
      rw [if_neg Bool.false_ne_true, hm, Option.bind_some]
      cases mapMemOk a0 with
      | true => rw [if_pos rfl, if_pos rfl, hin, Option.bind_some, Bool.not_not]; rfl
      | false => rw [if_neg Bool.false_ne_true, if_neg (by decide)]; rfl
    · cases hb : (!(mapMemOk a0) || mapFree a0 a1) with
      | true =>
        rw [hform, ← Bool.or_assoc, hb, Bool.true_or, if_pos rfl] at h
        obtain rfl := Option.some.inj h
        refine Ev.step (f := fun _ => some (1, 0, (⟨#[]⟩ : ByteArray), ([] : List Int))) (fun k => ?_) (Ev.now _)
        simp only [spec_MapPages.j1]
        rw [if_pos trivial]
      | false =>
        rw [hform, ← Bool.or_assoc, hb, Bool.false_or] at h
        refine Ev.step (f := fun k => spec_MapPages.l0 k a0 a1 l2 l3 ((0 : Nat) : Int)) (fun k => ?_) ?_
        · simp only [spec_MapPages.j1]
          rw [if_neg Bool.false_ne_true]
          rfl
        · cases hany : l3.any (mapFree a0) with
          | true =>
            rw [hany, if_pos rfl] at h
            obtain rfl := Option.some.inj h
            exact frees_only a0 a1 l2 l3 s2 s0 hany
          | false =>
            rw [hany, if_neg Bool.false_ne_true] at h
            obtain rfl := Option.some.inj h
            have hf : mapForm a0 a1 l3 = false := by rw [hform, ← Bool.or_assoc, hb, hany]; rfl
            obtain ⟨f1, f2, f3, f4, f5⟩ := mapForm_facts a0 a1 l3 hf
            obtain ⟨root, rfl⟩ : ∃ x : Nat, a1 = (x : Int) := ⟨a1.toNat, by omega⟩
            rw [Int.toNat_natCast] at f4 ⊢
            have hml := maps_loop (a0.size / 256) root l2 f2 f4 s1 hq l2.length 0 a0 l3 (by omega) f1 f5 s2
            rw [List.drop_zero] at hml
            have := frees_loop a0 (root : Int) l2 l3 s2 s0 _ hml l3.length 0 (by omega) rfl
            rw [hany, if_neg Bool.false_ne_true] at this
            exact this

theorem mapsGo_len (F root : Nat) (hr : root < F) (l : List S124) : ∀ (bs : List UInt8) (free : List Int) (i : Int), bs.length = F * 256 → (∀ t ∈ free, 0 ≤ t ∧ t < (F : Int)) → (mapsGo F root l bs free i).2.2.2.length ≤ free.length := by
  induction l with
  | nil => intro bs free i _ _; exact Nat.le_refl _
  | cons x xs ih =>
    intro bs free i hF hft
    obtain ⟨k1, k2, k3⟩ := ymapR_keeps bs F root x free hF hr hft
    have hgo : mapsGo F root (x :: xs) bs free i = if (ymapR bs F root x free).1 = 0 then mapsGo F root xs (ymapR bs F root x free).2.1 (ymapR bs F root x free).2.2 (i + 1) else ((ymapR bs F root x free).1, i, [], []) := rfl
    rw [hgo]
    clear hgo
    obtain ⟨p, hp⟩ : ∃ p, ymapR bs F root x free = p := ⟨_, rfl⟩
    rw [hp] at k1 k2 k3 ⊢
    by_cases h0 : p.1 = 0
    · rw [if_pos h0]
      exact Nat.le_trans (ih p.2.1 p.2.2 (i + 1) (by rw [k1, hF]) (fun t ht => hft t (k3 t ht))) k2
    · rw [if_neg h0]
      exact Nat.zero_le _
theorem res_len (a0 : ByteArray) (a1 : Int) (l2 : List S124) (l3 : List Int) : ∃ r, impl_MapPages.f a0 a1 l2 l3 = some r ∧ r.2.2.2.length ≤ 1000 := by
  unfold impl_MapPages.f
  cases hz : mapSized a0 l2 l3 with
  | true => exact ⟨(2, 0, ⟨#[]⟩, []), by rw [if_pos rfl], Nat.zero_le _⟩
  | false =>
    rw [if_neg Bool.false_ne_true]
    cases hf : mapForm a0 a1 l3 with
    | true => exact ⟨(1, 0, ⟨#[]⟩, []), by rw [if_pos rfl], Nat.zero_le _⟩
    | false =>
      rw [if_neg Bool.false_ne_true]
      obtain ⟨s0, s1, s2⟩ := sized_facts hz
      obtain ⟨f1, f2, f3, f4, f5⟩ := mapForm_facts a0 a1 l3 hf
      have hl := mapsGo_len (a0.size / 256) a1.toNat f4 l2 a0.data.toList l3 0 (by rw [data_length]; exact f1) f5
      obtain ⟨p, hp⟩ : ∃ p, mapsGo (a0.size / 256) a1.toNat l2 a0.data.toList l3 0 = p := ⟨_, rfl⟩
      rw [hp] at hl ⊢
      refine ⟨mapsEnd p, rfl, ?_⟩
      unfold mapsEnd
      by_cases h0 : p.1 = 0
      · rw [if_pos h0]; exact Nat.le_trans hl s2
      · rw [if_neg h0]; exact Nat.zero_le _
theorem eqRes_ev (r : Int × Int × ByteArray × List Int) (h : r.2.2.2.length ≤ 1000) : Ev (fun k => laws_eqMapRes.f k r.1 r.2.1 r.2.2.1 r.2.2.2 r.1 r.2.1 r.2.2.1 r.2.2.2) true := by
  unfold laws_eqMapRes.f
  simp only [if_true]
  refine Ev.bind (eqInt64S_ev r.2.2.2 (by omega)) ?_
  simp only [if_true]
  exact Ev.now _
theorem FnExactMapPages : laws_FnExactMapPages.Pure := by
  intro s a1 l2 l3 _ _ hQ hL
  obtain ⟨hq0, hq⟩ := hQ
  refine Ev.rounds (r := true) ?_
  unfold laws_FnExactMapPages.f
  by_cases h0 : (s.size : Int) > 1048576
  · simp only [if_pos h0]; exact Ev.now _
  · simp only [if_neg h0]
    by_cases h1 : (l3.length : Int) > 1048576
    · simp only [if_pos h1]; exact Ev.now _
    · simp only [if_neg h1]
      have hsz : ∃ r, laws_szPageMapS.f l2 1048576 = some r ∧ (r < 0 ∨ (l2.length : Int) ≤ 1048576) := by
        unfold laws_szPageMapS.f
        rw [w64 (by omega) (by omega)]
        by_cases hn : 1048576 - (l2.length : Int) < 0
        · rw [if_pos hn]; exact ⟨-1, rfl, Or.inl (by omega)⟩
        · rw [if_neg hn]; exact ⟨_, rfl, Or.inr (by omega)⟩
      obtain ⟨z, hz, hzc⟩ := hsz
      refine Ev.bind (Ev.congr (fun _ => hz) (Ev.now z)) ?_
      by_cases hzn : z < 0
      · simp only [if_pos hzn]; exact Ev.now _
      · simp only [if_neg hzn]
        have hl : (l2.length : Int) ≤ 1048576 := by omega
        have hl2 : ((l2.map toP).length : Int) ≤ 1048576 := by rw [List.length_map]; exact hl
        have tp := toP_all l2 hl
        have ti := toInt64S_ev l3 (by omega)
        obtain ⟨r, hr, hrl⟩ := res_len s a1 (l2.map toP) l3
        have sp := spec_maps s a1 (l2.map toP) l3 (fun x hx => by
          obtain ⟨y, hy, rfl⟩ := List.mem_map.mp hx
          exact wf64 (hq y hy).2.2.1) r hr
        have hi : Ev (fun _ => impl_MapPages.f s a1 (l2.map toP) l3) r := Ev.congr (fun _ => hr) (Ev.now _)
        have er := eqRes_ev r hrl
        have ep := eqPm_all (l2.map toP) (by omega)
        have ei := eqInt64S_ev l3 (by omega)
        have mp := markP_ev (l2.map toP) hl2
        have mi := markI_ev l3 (1 + 4 * ((l2.map toP).length : Int)) (by omega) (by omega) (by omega)
        have mr := markI_ev r.2.2.2 1 (by omega) (by omega) (by omega)
        have hr2 := heldI_ev r.2.2.2 1 (by omega) (by omega) (by omega)
        have c0 : ¬ (1 + 4 * ((l2.map toP).length : Int) + (l3.length : Int)) < 0 := by omega
        have c1 : ¬ (1 + (r.2.2.2.length : Int)) < 0 := by omega
        have mR : Ev (fun k => laws_markMapRes.f k r.1 r.2.1 r.2.2.1 r.2.2.2 1) (1 + (r.2.2.2.length : Int), markI r.2.2.2 1) := by
          unfold laws_markMapRes.f
          exact Ev.bind mr (Ev.now _)
        have hR : Ev (fun k => laws_heldMapRes.f k r.1 r.2.1 r.2.2.1 (markI r.2.2.2 1) 1) (1 + (r.2.2.2.length : Int)) := by
          unfold laws_heldMapRes.f
          refine Ev.bind hr2 ?_
          simp only [if_neg c1]
          exact Ev.now _
        refine Ev.bind tp (Ev.bind ti (Ev.bind sp (Ev.bind tp (Ev.bind ti (Ev.bind hi (Ev.bind er ?_))))))
        simp only [if_true]
        refine Ev.bind tp (Ev.bind ep ?_)
        simp only [if_true]
        refine Ev.bind ti (Ev.bind ei ?_)
        simp only [if_true]
        refine Ev.bind mp (Ev.bind mi ?_)
        simp only [if_neg c0]
        refine Ev.bind er ?_
        simp only [Bool.not_true]
        refine Ev.step (fun k => by simp only [laws_FnExactMapPages.j0]; rw [if_neg Bool.false_ne_true]) ?_
        refine Ev.bind mR (Ev.bind hR ?_)
        simp only [if_neg c1, if_true]
        refine Ev.bind tp (Ev.bind ti (Ev.bind hi (Ev.bind er ?_)))
        simp only [if_true]
        refine Ev.bind hR ?_
        simp only [if_neg c1, if_true]
        exact Ev.now _

end Go.Proofs.Ytmajbehafgajmaa.Pure
