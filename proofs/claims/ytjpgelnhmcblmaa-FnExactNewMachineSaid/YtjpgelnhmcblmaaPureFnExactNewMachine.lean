/- The program's NewMachine returns what the reference's returns, for all arguments. Conditions: none. -/
import Derived.Test.YtjpgelnhmcblmaaQFnExactNewMachinex
import Derived.Test.YtjpgelnhmcblmaaPl
set_option linter.unusedVariables false
set_option linter.unusedSimpArgs false
namespace Go.Proofs.Ytjpgelnhmcblmaa.Pure
open Go.RowKit Go.Proofs.Ytjpgelnhmcblmaa.QFnExactNewMachine Go.Proofs.YtjpgelnhmcblmaaW.PrintWords Go.Proofs.YtjpgelnhmcblmaaW.PrintLast Go.Proofs.Ytjpgelnhmcblmaa.Pl Go.Proofs.YtjpgelnhmcblmaaW.PrintMore
/-- A loop that takes the size of every element off a budget: it ends, below zero or with every element small. -/
theorem sz_loop {α : Type} (d : α) (M : Int) (ok : α → Prop) (L : Nat → List α → Int → Int → Option Int) (g : Nat → α → Int → Option Int)
    (hL : ∀ k xs s i, L (k + 1) xs s i = if i < (xs.length : Int) then (if 0 ≤ i then ((g k (xs.getD i.toNat d) s).bind fun t => (if t < 0 then (some (-1)) else (L k xs t (wrap64 (i + 1))))) else none) else some s)
    (xs : List α) (hlen : (xs.length : Int) ≤ 4611686018427387904)
    (hg : ∀ x s, x ∈ xs → 0 ≤ s → s ≤ M → ∃ t, Ev (fun k => g k x s) t ∧ (t < 0 ∨ (0 ≤ t ∧ t ≤ s ∧ ok x))) (e : Nat) :
    ∀ (j : Nat) (s : Int), 0 ≤ s → s ≤ M → j ≤ xs.length → xs.length - j = e → (∀ q, q < j → ok (xs.getD q d)) → ∃ r, Ev (fun k => L k xs s (j : Int)) r ∧ (r < 0 ∨ (0 ≤ r ∧ r ≤ s ∧ ∀ x, x ∈ xs → ok x)) := by
  induction e with
  | zero =>
    intro j s h0 hM hj he hok
    refine ⟨s, Ev.step (f := fun _ => some s) (fun k => by rw [hL, if_neg (by omega)]) (Ev.now _), Or.inr ⟨h0, Int.le_refl _, fun x hx => ?_⟩⟩
    obtain ⟨q, hq, rfl⟩ := List.getElem_of_mem hx
    have := hok q (by omega)
    rwa [List.getD_eq_getElem?_getD, List.getElem?_eq_getElem hq, Option.getD_some] at this
  | succ e ih =>
    intro j s h0 hM hj he hok
    have hlt : j < xs.length := by omega
    have hmem : xs.getD j d ∈ xs := by
      rw [List.getD_eq_getElem?_getD, List.getElem?_eq_getElem hlt, Option.getD_some]; exact List.getElem_mem hlt
    obtain ⟨t, ht, hc⟩ := hg (xs.getD j d) s hmem h0 hM
    have hs : ∀ k, L (k + 1) xs s (j : Int) = ((g k (xs.getD j d) s).bind fun t => (if t < 0 then (some (-1)) else (L k xs t (wrap64 ((j : Int) + 1))))) := fun k => by
      rw [hL, if_pos (by omega), if_pos (by omega), Int.toNat_natCast]
    by_cases hn : t < 0
    · refine ⟨-1, Ev.step (fun k => hs k) (Ev.bind ht ?_), Or.inl (by omega)⟩
      simp only [if_pos hn]
      exact Ev.now _
    · have hc' := hc.resolve_left hn
      obtain ⟨r, hr, hrc⟩ := ih (j + 1) t hc'.1 (by omega) (by omega) (by omega) (fun q hq => by
        by_cases hqj : q = j
        · subst hqj; exact hc'.2.2
        · exact hok q (by omega))
      refine ⟨r, Ev.step (fun k => hs k) (Ev.bind ht ?_), ?_⟩
      · simp only [if_neg hn]
        rw [w64 (by omega) (by omega), show ((j : Int) + 1) = ((j + 1 : Nat) : Int) from by omega]
        exact hr
      · rcases hrc with h | h
        · exact Or.inl h
        · exact Or.inr ⟨h.1, by omega, h.2.2⟩
/-- A loop that turns every element. -/
theorem to_loop {α β γ : Type} (d : α) (z : β) (mk : γ → β) (c : α → β) (L : Nat → List α → List β → Int → Option (List β)) (g : Nat → α → Option γ)
    (hL : ∀ k xs ys i, L (k + 1) xs ys i = if i < (xs.length : Int) then (if 0 ≤ i then ((g k (xs.getD i.toNat d)).bind fun b => (if i < (ys.length : Int) then (L k xs (ys.set i.toNat (mk b)) (wrap64 (i + 1))) else none)) else none) else some ys)
    (xs : List α) (hlen : (xs.length : Int) ≤ 4611686018427387904)
    (hg : ∀ x, x ∈ xs → ∃ b, Ev (fun k => g k x) b ∧ mk b = c x) (e : Nat) :
    ∀ (j : Nat), j ≤ xs.length → xs.length - j = e → Ev (fun k => L k xs ((xs.take j).map c ++ List.replicate (xs.length - j) z) (j : Int)) (xs.map c) := by
  induction e with
  | zero =>
    intro j hj he
    obtain rfl : j = xs.length := by omega
    refine Ev.step (f := fun _ => some (xs.map c)) (fun k => ?_) (Ev.now _)
    rw [hL, if_neg (by omega), List.take_length, Nat.sub_self, List.replicate_zero, List.append_nil]
  | succ e ih =>
    intro j hj he
    have hlt : j < xs.length := by omega
    have hx : xs.getD j d = xs[j] := by rw [List.getD_eq_getElem?_getD, List.getElem?_eq_getElem hlt, Option.getD_some]
    obtain ⟨b, hb, hbc⟩ := hg xs[j] (List.getElem_mem hlt)
    have hlm : ((xs.take j).map c).length = j := by rw [List.length_map, List.length_take]; omega
    have hly : (((xs.take j).map c ++ List.replicate (xs.length - j) z).length : Int) = (xs.length : Int) := by
      rw [List.length_append, hlm, List.length_replicate]; omega
    have hset : (((xs.take j).map c ++ List.replicate (xs.length - j) z).set j (mk b)) = (xs.take (j + 1)).map c ++ List.replicate (xs.length - (j + 1)) z := by
      rw [List.set_append_right _ _ (by omega), hlm, Nat.sub_self, show xs.length - j = (xs.length - (j + 1)) + 1 from by omega, List.replicate_succ, List.set_cons_zero, hbc, List.take_succ_eq_append_getElem hlt, List.map_append, List.append_assoc]
      rfl
    refine Ev.step (f := fun k => (g k xs[j]).bind fun b => L k xs (((xs.take j).map c ++ List.replicate (xs.length - j) z).set j (mk b)) (((j + 1 : Nat) : Int))) (fun k => ?_) (Ev.bind (f := fun k b => L k xs (((xs.take j).map c ++ List.replicate (xs.length - j) z).set j (mk b)) (((j + 1 : Nat) : Int))) hb ?_)
    · have hlj : (j : Int) < (xs.length : Int) := by omega
      rw [hL, if_pos (by omega), if_pos (by omega), Int.toNat_natCast, hx, hly, w64 (by omega) (by omega)]
      simp only [if_pos hlj]
      rfl
    · rw [hset]
      exact ih (j + 1) (by omega) (by omega)
/-- A loop that asks every pair of elements. -/
theorem eq_loop {α : Type} (d : α) (L : Nat → List α → List α → Int → Option Bool) (g : Nat → α → α → Option Bool)
    (hL : ∀ k xs ys i, L (k + 1) xs ys i = if i < (xs.length : Int) then (if 0 ≤ i then (if i < (ys.length : Int) then ((g k (xs.getD i.toNat d) (ys.getD i.toNat d)).bind fun t => (if t = true then (L k xs ys (wrap64 (i + 1))) else (some false))) else none) else none) else some true)
    (xs : List α) (hlen : (xs.length : Int) ≤ 4611686018427387904)
    (hg : ∀ x, x ∈ xs → Ev (fun k => g k x x) true) (e : Nat) :
    ∀ (j : Nat), j ≤ xs.length → xs.length - j = e → Ev (fun k => L k xs xs (j : Int)) true := by
  induction e with
  | zero =>
    intro j hj he
    exact Ev.step (f := fun _ => some true) (fun k => by rw [hL, if_neg (by omega)]) (Ev.now _)
  | succ e ih =>
    intro j hj he
    have hlt : j < xs.length := by omega
    have hx : xs.getD j d = xs[j] := by rw [List.getD_eq_getElem?_getD, List.getElem?_eq_getElem hlt, Option.getD_some]
    refine Ev.step (f := fun k => (g k xs[j] xs[j]).bind fun t => (if t = true then L k xs xs (((j + 1 : Nat) : Int)) else (some false))) (fun k => ?_) (Ev.bind (f := fun k t => (if t = true then L k xs xs (((j + 1 : Nat) : Int)) else (some false))) (hg xs[j] (List.getElem_mem hlt)) ?_)
    · rw [hL, if_pos (by omega), if_pos (by omega), Int.toNat_natCast, hx, if_pos (by omega), w64 (by omega) (by omega)]
      rfl
    · simp only [if_true]
      exact ih (j + 1) (by omega) (by omega)

def markI : List Int → Int → List Int
  | [], _ => []
  | _ :: xs, m => m :: markI xs (m + 1)
theorem markI_len : ∀ (xs : List Int) (m : Int), (markI xs m).length = xs.length
  | [], _ => rfl
  | _ :: xs, m => by simp only [markI, List.length_cons, markI_len xs (m + 1)]
theorem markI_loop (e : Nat) : ∀ (pre suf : List Int) (m : Int), suf.length = e → (pre.length : Int) + (suf.length : Int) ≤ 1048576 → 0 ≤ m → m + (suf.length : Int) ≤ 1099511627776 →
    Ev (fun k => laws_markInt64S.l0 k (pre ++ suf) m (pre.length : Int)) (m + (suf.length : Int), pre ++ markI suf m) := by
  induction e with
  | zero =>
    intro pre suf m hs _ _ _
    have : suf = [] := List.eq_nil_of_length_eq_zero hs
    subst this
    refine Ev.step (f := fun _ => some (m, pre)) (fun k => ?_) ?_
    · simp only [laws_markInt64S.l0, List.append_nil]
      rw [if_neg (by omega)]
    · simp only [List.length_nil, markI, List.append_nil]
      rw [show m + ((0 : Nat) : Int) = m from by omega]
      exact Ev.now _
  | succ e ih =>
    intro pre suf m hs h1 h2 h3
    cases suf with
    | nil => simp at hs
    | cons a suf =>
      simp only [List.length_cons] at hs h1 h3
      have := ih (pre ++ [m]) suf (m + 1) (by omega) (by rw [List.length_append, List.length_cons, List.length_nil]; omega) (by omega) (by omega)
      rw [List.append_assoc, List.append_assoc, List.singleton_append, List.singleton_append] at this
      simp only [markI, List.length_cons]
      rw [show m + ((suf.length + 1 : Nat) : Int) = m + 1 + (suf.length : Int) from by omega]
      refine Ev.step (fun k => ?_) this
      simp only [laws_markInt64S.l0, Int.toNat_natCast]
      rw [if_pos (by rw [List.length_append, List.length_cons]; omega), if_pos (by omega), List.set_append_right _ _ (Nat.le_refl _), Nat.sub_self, List.set_cons_zero, w64 (a := m + 1) (by omega) (by omega), w64 (a := (pre.length : Int) + 1) (by omega) (by omega), List.length_append, List.length_cons, List.length_nil, show ((pre.length : Int) + 1) = ((pre.length + (0 + 1) : Nat) : Int) from by omega]
theorem heldI_loop (e : Nat) : ∀ (pre suf : List Int) (m : Int), suf.length = e → (pre.length : Int) + (suf.length : Int) ≤ 1048576 → 0 ≤ m → m + (suf.length : Int) ≤ 1099511627776 →
    Ev (fun k => laws_heldInt64S.l0 k (pre ++ markI suf m) m (pre.length : Int)) (m + (suf.length : Int)) := by
  induction e with
  | zero =>
    intro pre suf m hs _ _ _
    have : suf = [] := List.eq_nil_of_length_eq_zero hs
    subst this
    refine Ev.step (f := fun _ => some m) (fun k => ?_) ?_
    · simp only [laws_heldInt64S.l0, markI, List.append_nil]
      rw [if_neg (by omega)]
    · rw [List.length_nil, show m + ((0 : Nat) : Int) = m from by omega]
      exact Ev.now _
  | succ e ih =>
    intro pre suf m hs h1 h2 h3
    cases suf with
    | nil => simp at hs
    | cons a suf =>
      simp only [List.length_cons] at hs h1 h3
      have := ih (pre ++ [m]) suf (m + 1) (by omega) (by rw [List.length_append, List.length_cons, List.length_nil]; omega) (by omega) (by omega)
      rw [List.append_assoc, List.singleton_append] at this
      simp only [markI, List.length_cons]
      rw [show m + ((suf.length + 1 : Nat) : Int) = m + 1 + (suf.length : Int) from by omega]
      refine Ev.step (fun k => ?_) this
      have hrd : rd (pre ++ m :: markI suf (m + 1)) (pre.length : Int) = m := by
        unfold rd
        rw [Int.toNat_natCast, List.getD_eq_getElem?_getD, List.getElem?_append_right (Nat.le_refl _), Nat.sub_self]; rfl
      simp only [laws_heldInt64S.l0]
      rw [if_pos (by rw [List.length_append, List.length_cons]; omega), if_pos (by omega), hrd, if_pos rfl, w64 (a := m + 1) (by omega) (by omega), w64 (a := (pre.length : Int) + 1) (by omega) (by omega), List.length_append, List.length_cons, List.length_nil, show ((pre.length : Int) + 1) = ((pre.length + (0 + 1) : Nat) : Int) from by omega]
theorem markI_ev (l : List Int) (m : Int) (h : (l.length : Int) ≤ 1048576) (h0 : 0 ≤ m) (h1 : m ≤ 1000000000000) : Ev (fun k => laws_markInt64S.f k l m) (m + (l.length : Int), markI l m) :=
  markI_loop l.length [] l m rfl (by simp only [List.length_nil]; omega) h0 (by omega)
theorem heldI_ev (l : List Int) (m : Int) (h : (l.length : Int) ≤ 1048576) (h0 : 0 ≤ m) (h1 : m ≤ 1000000000000) : Ev (fun k => laws_heldInt64S.f k (markI l m) m) (m + (l.length : Int)) :=
  heldI_loop l.length [] l m rfl (by simp only [List.length_nil]; omega) h0 (by omega)

theorem rdP_set (xs : List S184) (i : Nat) (v : S184) (h : i < xs.length) : rd_T184 (xs.set i v) (i : Int) = v := by
  unfold rd_T184; rw [Int.toNat_natCast, List.getD_eq_getElem?_getD, List.getElem?_set_self h]; rfl
theorem rdP_mid (pre suf : List S184) (v : S184) : rd_T184 (pre ++ v :: suf) (pre.length : Int) = v := by
  unfold rd_T184; rw [Int.toNat_natCast, List.getD_eq_getElem?_getD, List.getElem?_append_right (Nat.le_refl _), Nat.sub_self]; rfl
def markP : List S184 → Int → List S184
  | [], _ => []
  | _ :: xs, m => (⟨m, m + 1⟩ : S184) :: markP xs (m + 2)
theorem markP_len : ∀ (xs : List S184) (m : Int), (markP xs m).length = xs.length
  | [], _ => rfl
  | _ :: xs, m => by simp only [markP, List.length_cons, markP_len xs (m + 2)]
theorem markP_loop (e : Nat) : ∀ (pre suf : List S184) (m : Int), suf.length = e → (pre.length : Int) + (suf.length : Int) ≤ 1048576 → 0 ≤ m → m + 2 * (suf.length : Int) ≤ 1099511627776 →
    Ev (fun k => laws_markPortValueS.l0 k (pre ++ suf) m (pre.length : Int)) (m + 2 * (suf.length : Int), pre ++ markP suf m) := by
  induction e with
  | zero =>
    intro pre suf m hs _ _ _
    have : suf = [] := List.eq_nil_of_length_eq_zero hs
    subst this
    refine Ev.step (f := fun _ => some (m, pre)) (fun k => ?_) ?_
    · simp only [laws_markPortValueS.l0, List.append_nil]
      rw [if_neg (by omega)]
    · simp only [List.length_nil, markP, List.append_nil]
      rw [show m + 2 * ((0 : Nat) : Int) = m from by omega]
      exact Ev.now _
  | succ e ih =>
    intro pre suf m hs h1 h2 h3
    cases suf with
    | nil => simp at hs
    | cons a suf =>
      simp only [List.length_cons] at hs h1 h3
      have := ih (pre ++ [(⟨m, m + 1⟩ : S184)]) suf (m + 2) (by omega) (by rw [List.length_append, List.length_cons, List.length_nil]; omega) (by omega) (by omega)
      rw [List.append_assoc, List.append_assoc, List.singleton_append, List.singleton_append] at this
      simp only [markP, List.length_cons]
      rw [show m + 2 * ((suf.length + 1 : Nat) : Int) = m + 2 + 2 * (suf.length : Int) from by omega]
      refine Ev.step (fun k => ?_) this
      have hlt : pre.length < (pre ++ a :: suf).length := by rw [List.length_append, List.length_cons]; omega
      have w1 : wrap64 (m + 1) = m + 1 := w64 (by omega) (by omega)
      have w2 : wrap64 (m + 1 + 1) = m + 2 := by rw [w64 (by omega) (by omega)]; omega
      simp only [laws_markPortValueS.l0, Option.bind_some, Int.toNat_natCast]
      rw [if_pos (by omega), if_pos (by omega), rdP_set _ _ _ hlt, List.set_set, w1, w2, List.set_append_right _ _ (Nat.le_refl _), Nat.sub_self, List.set_cons_zero, w64 (a := (pre.length : Int) + 1) (by omega) (by omega), List.length_append, List.length_cons, List.length_nil, show ((pre.length : Int) + 1) = ((pre.length + (0 + 1) : Nat) : Int) from by omega]
theorem heldP_loop (e : Nat) : ∀ (pre suf : List S184) (m : Int), suf.length = e → (pre.length : Int) + (suf.length : Int) ≤ 1048576 → 0 ≤ m → m + 2 * (suf.length : Int) ≤ 1099511627776 →
    Ev (fun k => laws_heldPortValueS.l0 k (pre ++ markP suf m) m (pre.length : Int)) (m + 2 * (suf.length : Int)) := by
  induction e with
  | zero =>
    intro pre suf m hs _ _ _
    have : suf = [] := List.eq_nil_of_length_eq_zero hs
    subst this
    refine Ev.step (f := fun _ => some m) (fun k => ?_) ?_
    · simp only [laws_heldPortValueS.l0, markP, List.append_nil]
      rw [if_neg (by omega)]
    · rw [List.length_nil, show m + 2 * ((0 : Nat) : Int) = m from by omega]
      exact Ev.now _
  | succ e ih =>
    intro pre suf m hs h1 h2 h3
    cases suf with
    | nil => simp at hs
    | cons a suf =>
      simp only [List.length_cons] at hs h1 h3
      have := ih (pre ++ [(⟨m, m + 1⟩ : S184)]) suf (m + 2) (by omega) (by rw [List.length_append, List.length_cons, List.length_nil]; omega) (by omega) (by omega)
      rw [List.append_assoc, List.singleton_append] at this
      simp only [markP, List.length_cons]
      rw [show m + 2 * ((suf.length + 1 : Nat) : Int) = m + 2 + 2 * (suf.length : Int) from by omega]
      refine Ev.step (fun k => ?_) this
      have w1 : wrap64 (m + 1) = m + 1 := w64 (by omega) (by omega)
      have w2 : wrap64 (m + 1 + 1) = m + 2 := by rw [w64 (by omega) (by omega)]; omega
      simp only [laws_heldPortValueS.l0]
      rw [if_pos (by rw [List.length_append, List.length_cons]; omega), if_pos (by omega), rdP_mid]
      simp only [w1, w2, if_true]
      rw [w64 (a := (pre.length : Int) + 1) (by omega) (by omega), List.length_append, List.length_cons, List.length_nil, show ((pre.length : Int) + 1) = ((pre.length + (0 + 1) : Nat) : Int) from by omega]
theorem markP_ev (l : List S184) (m : Int) (h : (l.length : Int) ≤ 1048576) (h0 : 0 ≤ m) (h1 : m ≤ 1000000000000) : Ev (fun k => laws_markPortValueS.f k l m) (m + 2 * (l.length : Int), markP l m) :=
  markP_loop l.length [] l m rfl (by simp only [List.length_nil]; omega) h0 (by omega)
theorem heldP_ev (l : List S184) (m : Int) (h : (l.length : Int) ≤ 1048576) (h0 : 0 ≤ m) (h1 : m ≤ 1000000000000) : Ev (fun k => laws_heldPortValueS.f k (markP l m) m) (m + 2 * (l.length : Int)) :=
  heldP_loop l.length [] l m rfl (by simp only [List.length_nil]; omega) h0 (by omega)
theorem eqPorts_all (xs : List S184) (h0 : xs.length ≤ 1048576) : Ev (fun k => laws_eqPortValueS.f k xs xs) true := by
  have := eq_loop z184 laws_eqPortValueS.l0 (fun _ x y => laws_eqPortValue.f x.f0 x.f1 y.f0 y.f1) (fun k xs ys i => by simp only [laws_eqPortValueS.l0]; rfl) xs (by omega) (fun x _ => Ev.congr (fun k => by unfold laws_eqPortValue.f; rw [if_pos rfl, if_pos rfl]) (Ev.now _)) xs.length 0 (Nat.zero_le _) rfl
  refine Ev.congr (fun k => ?_) this
  unfold laws_eqPortValueS.f
  rw [if_pos rfl]
  rfl

theorem eqInt64S_ends (l : List Int) (hl : (l.length : Int) ≤ 1048576) (d : Nat) : ∀ i : Nat, i + d = l.length → Ev (fun k => laws_eqInt64S.l0 k l l i) true := by
  induction d with
  | zero =>
    intro i hi
    exact Ev.step (f := fun _ => some true) (fun k => by simp only [laws_eqInt64S.l0]; rw [if_neg (by omega)]) (Ev.now _)
  | succ d ih =>
    intro i hi
    refine Ev.step (fun k => ?_) (ih (i + 1) (by omega))
    simp only [laws_eqInt64S.l0]
    rw [if_pos (by omega), if_pos (by omega), if_pos (by omega), if_pos trivial, w64 (a := (i : Int) + 1) (by omega) (by omega)]
    have e1 : ((i : Int) + 1) = ((i + 1 : Nat) : Int) := by omega
    rw [e1]
theorem eqInt64S_ev (l : List Int) (hl : (l.length : Int) ≤ 1048576) : Ev (fun k => laws_eqInt64S.f k l l) true := by
  refine Ev.congr (fun k => ?_) (eqInt64S_ends l hl l.length 0 (by omega))
  unfold laws_eqInt64S.f
  rw [if_pos rfl]; rfl

theorem eqMachine_ev (pc : Int) (r : List Int) (mo : Int) (c v : List Int) (m : ByteArray) (st co li : Int) (p q : List S184) (tr : Int)
    (h1 : (r.length : Int) ≤ 1048576) (h3 : (c.length : Int) ≤ 1048576) (h4 : (v.length : Int) ≤ 1048576) (h9 : (p.length : Int) ≤ 1048576) (h10 : (q.length : Int) ≤ 1048576) :
    Ev (fun k => laws_eqMachine.f k pc r mo c v m st co li p q tr pc r mo c v m st co li p q tr) true := by
  unfold laws_eqMachine.f
  simp only [if_true]
  refine Ev.bind (eqInt64S_ev r h1) ?_
  simp only [if_true]
  refine Ev.bind (eqInt64S_ev c h3) ?_
  simp only [if_true]
  refine Ev.bind (eqInt64S_ev v h4) ?_
  simp only [if_true]
  refine Ev.bind (eqPorts_all p (by omega)) ?_
  simp only [if_true]
  refine Ev.bind (eqPorts_all q (by omega)) ?_
  simp only [if_true]
  exact Ev.now _
/-- What the marks of a machine's rows come to, counted from m. -/
def markEnd (r c v : List Int) (p q : List S184) (m : Int) : Int := m + r.length + c.length + v.length + 2 * p.length + 2 * q.length
theorem markMachine_ev (pc : Int) (r : List Int) (mo : Int) (c v : List Int) (me : ByteArray) (st co li : Int) (p q : List S184) (tr : Int) (m : Int) (h0 : 0 ≤ m) (hm : m ≤ 1000000)
    (h1 : (r.length : Int) ≤ 1048576) (h3 : (c.length : Int) ≤ 1048576) (h4 : (v.length : Int) ≤ 1048576) (h9 : (p.length : Int) ≤ 1048576) (h10 : (q.length : Int) ≤ 1048576) :
    Ev (fun k => laws_markMachine.f k pc r mo c v me st co li p q tr m) (markEnd r c v p q m, markI r m, markI c (m + r.length), markI v (m + r.length + c.length), markP p (m + r.length + c.length + v.length), markP q (m + r.length + c.length + v.length + 2 * p.length)) := by
  unfold laws_markMachine.f markEnd
  exact Ev.bind (markI_ev r m h1 (by omega) (by omega)) (Ev.bind (markI_ev c _ h3 (by simp only []; omega) (by simp only []; omega)) (Ev.bind (markI_ev v _ h4 (by simp only []; omega) (by simp only []; omega)) (Ev.bind (markP_ev p _ h9 (by simp only []; omega) (by simp only []; omega)) (Ev.bind (markP_ev q _ h10 (by simp only []; omega) (by simp only []; omega)) (Ev.now _)))))
theorem heldMachine_ev (pc : Int) (r : List Int) (mo : Int) (c v : List Int) (me : ByteArray) (st co li : Int) (p q : List S184) (tr : Int) (m : Int) (h0 : 0 ≤ m) (hm : m ≤ 1000000)
    (h1 : (r.length : Int) ≤ 1048576) (h3 : (c.length : Int) ≤ 1048576) (h4 : (v.length : Int) ≤ 1048576) (h9 : (p.length : Int) ≤ 1048576) (h10 : (q.length : Int) ≤ 1048576) :
    Ev (fun k => laws_heldMachine.f k pc (markI r m) mo (markI c (m + r.length)) (markI v (m + r.length + c.length)) me st co li (markP p (m + r.length + c.length + v.length)) (markP q (m + r.length + c.length + v.length + 2 * p.length)) tr m) (markEnd r c v p q m) := by
  have n1 : ¬ m + (r.length : Int) < 0 := by omega
  have n2 : ¬ m + (r.length : Int) + (c.length : Int) < 0 := by omega
  have n3 : ¬ m + (r.length : Int) + (c.length : Int) + (v.length : Int) < 0 := by omega
  have n4 : ¬ m + (r.length : Int) + (c.length : Int) + (v.length : Int) + 2 * (p.length : Int) < 0 := by omega
  have n5 : ¬ m + (r.length : Int) + (c.length : Int) + (v.length : Int) + 2 * (p.length : Int) + 2 * (q.length : Int) < 0 := by omega
  unfold laws_heldMachine.f markEnd
  refine Ev.bind (heldI_ev r m h1 (by omega) (by omega)) ?_
  simp only [if_neg n1]
  refine Ev.bind (heldI_ev c _ h3 (by omega) (by omega)) ?_
  simp only [if_neg n2]
  refine Ev.bind (heldI_ev v _ h4 (by omega) (by omega)) ?_
  simp only [if_neg n3]
  refine Ev.bind (heldP_ev p _ h9 (by omega) (by omega)) ?_
  simp only [if_neg n4]
  refine Ev.bind (heldP_ev q _ h10 (by omega) (by omega)) ?_
  simp only [if_neg n5]
  exact Ev.now _

theorem mem_both (s : ByteArray) : ∃ b : Bool, impl_ymemOk.f s = some b ∧ spec_MemFault.f s = some (if b = true then 0 else 1) := by
  unfold impl_ymemOk.f spec_MemFault.f
  by_cases h0 : (s.size : Int) = 0
  · exact ⟨false, by rw [if_neg (by omega)], by rw [if_pos h0, if_neg (by simp)]⟩
  · rw [if_neg h0]
    by_cases h1 : (s.size : Int) % 256 = 0
    · rw [if_pos h1]
      by_cases h2 : (s.size : Int) > 65536
      · exact ⟨false, by rw [if_pos (by omega), if_neg (by omega)], by rw [if_pos h2, if_neg (by simp)]⟩
      · exact ⟨true, by rw [if_pos (by omega), if_pos (by omega), h1]; rfl, by rw [if_neg h2, if_pos rfl]⟩
    · refine ⟨false, ?_, by rw [if_neg h1, if_neg (by simp)]⟩
      have h3 : (((s.size : Int) % 256) == 0) = false := beq_eq_false_iff_ne.mpr h1
      by_cases h4 : (s.size : Int) ≥ 256
      · rw [if_pos h4]
        by_cases h5 : (s.size : Int) ≤ 65536
        · rw [if_pos h5, h3]
        · rw [if_neg h5]
      · rw [if_neg h4]
theorem new_both (s : ByteArray) : ∃ (mo : Int) (r c v : List Int) (me : ByteArray), (r.length : Int) ≤ 100 ∧ (c.length : Int) ≤ 100 ∧ (v.length : Int) ≤ 100 ∧
    impl_NewMachine.f s = some (0, r, mo, c, v, me, 0, 0, 0, [], [], 0) ∧ spec_NewMachine.f s = some (0, r, mo, c, v, me, 0, 0, 0, [], [], 0) := by
  obtain ⟨b, h1, h2⟩ := mem_both s
  unfold impl_NewMachine.f spec_NewMachine.f
  rw [h1, h2]
  cases b with
  | true =>
    refine ⟨1, List.replicate 16 0, List.replicate 12 0, List.replicate 16 0, s, by simp, by simp, by simp, ?_, ?_⟩
    · rw [Option.bind_some, if_pos rfl, if_pos (by decide), if_pos (by decide)]
    · rw [Option.bind_some, if_pos (if_pos rfl), if_pos (by decide), if_pos (by decide)]
  | false =>
    refine ⟨0, [], [], [], ⟨#[]⟩, by simp, by simp, by simp, ?_, ?_⟩
    · rw [Option.bind_some, if_neg (by simp)]
    · rw [Option.bind_some, if_neg (by simp)]
theorem FnExactNewMachine : laws_FnExactNewMachine.Pure := by
  intro s _
  refine Ev.rounds (r := true) ?_
  unfold laws_FnExactNewMachine.f
  by_cases h1 : (s.size : Int) > 1048576
  · simp only [if_pos h1]; exact Ev.now _
  · simp only [if_neg h1]
    obtain ⟨mo, r, c, v, me, l1, l2, l3, hi, hs⟩ := new_both s
    have eqv := eqMachine_ev 0 r mo c v me 0 0 0 [] [] 0 (by omega) (by omega) (by omega) (by simp) (by simp)
    have hm := markMachine_ev 0 r mo c v me 0 0 0 [] [] 0 1 (by omega) (by omega) (by omega) (by omega) (by omega) (by simp) (by simp)
    have hh := heldMachine_ev 0 r mo c v me 0 0 0 [] [] 0 1 (by omega) (by omega) (by omega) (by omega) (by omega) (by simp) (by simp)
    have c1 : ¬ markEnd r c v [] [] 1 < 0 := by unfold markEnd; simp only [List.length_nil]; omega
    generalize markEnd r c v [] [] 1 = z at hm hh c1
    simp only [hi, hs, Option.bind_some]
    refine Ev.bind eqv ?_
    simp only [if_true]
    refine Ev.bind hm (Ev.bind hh ?_)
    simp only [if_neg c1, if_true]
    refine Ev.bind eqv ?_
    simp only [if_true]
    refine Ev.bind hh ?_
    simp only [if_neg c1, if_true]
    exact Ev.now _

end Go.Proofs.Ytjpgelnhmcblmaa.Pure
