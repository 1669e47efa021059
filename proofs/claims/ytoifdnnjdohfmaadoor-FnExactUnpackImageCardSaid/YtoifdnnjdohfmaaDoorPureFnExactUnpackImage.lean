/- The program's UnpackImage returns what the reference's returns, for all arguments. Conditions: none. -/
import Derived.Test.YtoifdnnjdohfmaaDoorQFnExactUnpackImagex
import Derived.Test.YtoifdnnjdohfmaaDoorPl
import Derived.Test.YtoifdnnjdohfmaaDoorUp
import Derived.Test.YtoifdnnjdohfmaaDoorCx
set_option linter.unusedVariables false
set_option linter.unusedSimpArgs false
namespace Go.Proofs.YtoifdnnjdohfmaaDoor.Pure
open Go.Proofs.YtoifdnnjdohfmaaDoor.Up Go.RowKit Go.Proofs.YtoifdnnjdohfmaaDoor.QFnExactUnpackImage Go.Proofs.YtoifdnnjdohfmaaDoorW.PrintWords Go.Proofs.YtoifdnnjdohfmaaDoorW.PrintLast Go.Proofs.YtoifdnnjdohfmaaDoor.Pl Go.Proofs.YtoifdnnjdohfmaaDoorW.PrintMore
/-- A loop that takes the size of every element off a budget: it ends, below zero or with every element small. -/
theorem sz_loop {α : Type} (d : α) (M : Int) (ok : α → Prop) (L : Nat → List α → Int → Int → Option Int) (g : Nat → α → Int → Option Int)
    (hL : ∀ k xs s i, L (k + 1) xs s i = if i < (xs.length : Int) then (if 0 ≤ i then ((g k (xs.getD i.toNat d) s).bind fun t => (if t < 0 then (some (-1)) else (L k xs t (wrap64 (i + 1))))) else none) else some s)
    (xs : List α) (hlen : (xs.length : Int) ≤ 4611686018427387904)
    (hg : ∀ x s, x ∈ xs → 0 ≤ s → s ≤ M → ∃ t, Ev (fun k => g k x s) t ∧ (t < 0 ∨ (0 ≤ t ∧ t ≤ s ∧ ok x))) (e : Nat) :
    ∀ (j : Nat) (s : Int), 0 ≤ s → s ≤ M → j ≤ xs.length → xs.length - j = e → (∀ q, q < j → ok (xs.getD q d)) → ∃ r, Ev (fun k => L k xs s (j : Int)) r ∧ (r < 0 ∨ (0 ≤ r ∧ r ≤ s ∧ ∀ x, x ∈ xs → ok x)) := by
  induction e with
  | zero =>
    intro j s h0 hM hj he hok
    refine ⟨s, Ev.step (f := fun _ => some s) (fun k => by rw [hL, if_neg (by omega)]) (Ev.now _), Or.inr ⟨h0, Int.le_refl _, fun x hx => ?_⟩⟩
    obtain ⟨q, hq, rfl⟩ := List.getElem_of_mem hx
    have := hok q (by omega)
    rwa [List.getD_eq_getElem?_getD, List.getElem?_eq_getElem hq, Option.getD_some] at this
  | succ e ih =>
    intro j s h0 hM hj he hok
    have hlt : j < xs.length := by omega
    have hmem : xs.getD j d ∈ xs := by
      rw [List.getD_eq_getElem?_getD, List.getElem?_eq_getElem hlt, Option.getD_some]; exact List.getElem_mem hlt
    obtain ⟨t, ht, hc⟩ := hg (xs.getD j d) s hmem h0 hM
    have hs : ∀ k, L (k + 1) xs s (j : Int) = ((g k (xs.getD j d) s).bind fun t => (if t < 0 then (some (-1)) else (L k xs t (wrap64 ((j : Int) + 1))))) := fun k => by
      rw [hL, if_pos (by omega), if_pos (by omega), Int.toNat_natCast]
    by_cases hn : t < 0
    · refine ⟨-1, Ev.step (fun k => hs k) (Ev.bind ht ?_), Or.inl (by omega)⟩
      simp only [if_pos hn]
      exact Ev.now _
    · have hc' := hc.resolve_left hn
      obtain ⟨r, hr, hrc⟩ := ih (j + 1) t hc'.1 (by omega) (by omega) (by omega) (fun q hq => by
        by_cases hqj : q = j
        · subst hqj; exact hc'.2.2
        · exact hok q (by omega))
      refine ⟨r, Ev.step (fun k => hs k) (Ev.bind ht ?_), ?_⟩
      · simp only [if_neg hn]
        rw [w64 (by omega) (by omega), show ((j : Int) + 1) = ((j + 1 : Nat) : Int) from by omega]
        exact hr
      · rcases hrc with h | h
        · exact Or.inl h
        · exact Or.inr ⟨h.1, by omega, h.2.2⟩
/-- A loop that turns every element. -/
theorem to_loop {α β γ : Type} (d : α) (z : β) (mk : γ → β) (c : α → β) (L : Nat → List α → List β → Int → Option (List β)) (g : Nat → α → Option γ)
    (hL : ∀ k xs ys i, L (k + 1) xs ys i = if i < (xs.length : Int) then (if 0 ≤ i then ((g k (xs.getD i.toNat d)).bind fun b => (if i < (ys.length : Int) then (L k xs (ys.set i.toNat (mk b)) (wrap64 (i + 1))) else none)) else none) else some ys)
    (xs : List α) (hlen : (xs.length : Int) ≤ 4611686018427387904)
    (hg : ∀ x, x ∈ xs → ∃ b, Ev (fun k => g k x) b ∧ mk b = c x) (e : Nat) :
    ∀ (j : Nat), j ≤ xs.length → xs.length - j = e → Ev (fun k => L k xs ((xs.take j).map c ++ List.replicate (xs.length - j) z) (j : Int)) (xs.map c) := by
  induction e with
  | zero =>
    intro j hj he
    obtain rfl : j = xs.length := by omega
    refine Ev.step (f := fun _ => some (xs.map c)) (fun k => ?_) (Ev.now _)
    rw [hL, if_neg (by omega), List.take_length, Nat.sub_self, List.replicate_zero, List.append_nil]
  | succ e ih =>
    intro j hj he
    have hlt : j < xs.length := by omega
    have hx : xs.getD j d = xs[j] := by rw [List.getD_eq_getElem?_getD, List.getElem?_eq_getElem hlt, Option.getD_some]
    obtain ⟨b, hb, hbc⟩ := hg xs[j] (List.getElem_mem hlt)
    have hlm : ((xs.take j).map c).length = j := by rw [List.length_map, List.length_take]; omega
    have hly : (((xs.take j).map c ++ List.replicate (xs.length - j) z).length : Int) = (xs.length : Int) := by
      rw [List.length_append, hlm, List.length_replicate]; omega
    have hset : (((xs.take j).map c ++ List.replicate (xs.length - j) z).set j (mk b)) = (xs.take (j + 1)).map c ++ List.replicate (xs.length - (j + 1)) z := by
      rw [List.set_append_right _ _ (by omega), hlm, Nat.sub_self, show xs.length - j = (xs.length - (j + 1)) + 1 from by omega, List.replicate_succ, List.set_cons_zero, hbc, List.take_succ_eq_append_getElem hlt, List.map_append, List.append_assoc]
      rfl
    refine Ev.step (f := fun k => (g k xs[j]).bind fun b => L k xs (((xs.take j).map c ++ List.replicate (xs.length - j) z).set j (mk b)) (((j + 1 : Nat) : Int))) (fun k => ?_) (Ev.bind (f := fun k b => L k xs (((xs.take j).map c ++ List.replicate (xs.length - j) z).set j (mk b)) (((j + 1 : Nat) : Int))) hb ?_)
    · have hlj : (j : Int) < (xs.length : Int) := by omega
      rw [hL, if_pos (by omega), if_pos (by omega), Int.toNat_natCast, hx, hly, w64 (by omega) (by omega)]
      simp only [if_pos hlj]
      rfl
    · rw [hset]
      exact ih (j + 1) (by omega) (by omega)
/-- A loop that asks every pair of elements. -/
theorem eq_loop {α : Type} (d : α) (L : Nat → List α → List α → Int → Option Bool) (g : Nat → α → α → Option Bool)
    (hL : ∀ k xs ys i, L (k + 1) xs ys i = if i < (xs.length : Int) then (if 0 ≤ i then (if i < (ys.length : Int) then ((g k (xs.getD i.toNat d) (ys.getD i.toNat d)).bind fun t => (if t = true then (L k xs ys (wrap64 (i + 1))) else (some false))) else none) else none) else some true)
    (xs : List α) (hlen : (xs.length : Int) ≤ 4611686018427387904)
    (hg : ∀ x, x ∈ xs → Ev (fun k => g k x x) true) (e : Nat) :
    ∀ (j : Nat), j ≤ xs.length → xs.length - j = e → Ev (fun k => L k xs xs (j : Int)) true := by
  induction e with
  | zero =>
    intro j hj he
    exact Ev.step (f := fun _ => some true) (fun k => by rw [hL, if_neg (by omega)]) (Ev.now _)
  | succ e ih =>
    intro j hj he
    have hlt : j < xs.length := by omega
    have hx : xs.getD j d = xs[j] := by rw [List.getD_eq_getElem?_getD, List.getElem?_eq_getElem hlt, Option.getD_some]
    refine Ev.step (f := fun k => (g k xs[j] xs[j]).bind fun t => (if t = true then L k xs xs (((j + 1 : Nat) : Int)) else (some false))) (fun k => ?_) (Ev.bind (f := fun k t => (if t = true then L k xs xs (((j + 1 : Nat) : Int)) else (some false))) (hg xs[j] (List.getElem_mem hlt)) ?_)
    · rw [hL, if_pos (by omega), if_pos (by omega), Int.toNat_natCast, hx, if_pos (by omega), w64 (by omega) (by omega)]
      rfl
    · simp only [if_true]
      exact ih (j + 1) (by omega) (by omega)

theorem eqInt64S_ends (l : List Int) (hl : (l.length : Int) ≤ 1048576) (d : Nat) : ∀ i : Nat, i + d = l.length → Ev (fun k => laws_eqInt64S.l0 k l l i) true := by
  induction d with
  | zero =>
    intro i hi
    exact Ev.step (f := fun _ => some true) (fun k => by simp only [laws_eqInt64S.l0]; rw [if_neg (by omega)]) (Ev.now _)
  | succ d ih =>
    intro i hi
    refine Ev.step (fun k => ?_) (ih (i + 1) (by omega))
    simp only [laws_eqInt64S.l0]
    rw [if_pos (by omega), if_pos (by omega), if_pos (by omega), if_pos trivial, w64 (a := (i : Int) + 1) (by omega) (by omega)]
    have e1 : ((i : Int) + 1) = ((i + 1 : Nat) : Int) := by omega
    rw [e1]
theorem eqInt64S_ev (l : List Int) (hl : (l.length : Int) ≤ 1048576) : Ev (fun k => laws_eqInt64S.f k l l) true := by
  refine Ev.congr (fun k => ?_) (eqInt64S_ends l hl l.length 0 (by omega))
  unfold laws_eqInt64S.f
  rw [if_pos rfl]; rfl

theorem eqS_ev (l : List ByteArray) (hl : (l.length : Int) ≤ 1048576) : Ev (fun k => laws_eqStringS.f k l l) true := by
  have := eq_loop ByteArray.empty laws_eqStringS.l0 (fun _ x y => some (decide (x.toList = y.toList))) (fun k xs ys i => by
    simp only [laws_eqStringS.l0, Option.bind_some, decide_eq_true_eq]
    rfl) l (by omega) (fun x _ => Ev.congr (fun k => by rw [decide_eq_true rfl]) (Ev.now _)) l.length 0 (Nat.zero_le _) rfl
  refine Ev.congr (fun k => ?_) this
  unfold laws_eqStringS.f
  rw [if_pos rfl]
  rfl
def okS (x : S47) : Prop := (x.f0.size : Int) ≤ 1048576 ∧ (x.f1.length : Int) ≤ 1048576
theorem eqSns_ev (l : List S47) (hl : (l.length : Int) ≤ 1048576) (hx : ∀ x, x ∈ l → okS x) : Ev (fun k => laws_eqSnapS.f k l l) true := by
  have := eq_loop z47 laws_eqSnapS.l0 (fun k x y => laws_eqSnap.f k x.f0 x.f1 y.f0 y.f1) (fun k xs ys i => by simp only [laws_eqSnapS.l0]; rfl) l (by omega) (fun x hxl => by
    unfold laws_eqSnap.f
    simp only [if_true]
    refine Ev.bind (eqInt64S_ev x.f1 (hx x hxl).2) ?_
    simp only [if_true]
    exact Ev.now _) l.length 0 (Nat.zero_le _) rfl
  refine Ev.congr (fun k => ?_) this
  unfold laws_eqSnapS.f
  rw [if_pos rfl]
  rfl
def okI (a0 a1 : ByteArray) (l2 : List Int) (l3 : List ByteArray) (l4 : List S47) : Prop := (a0.size : Int) ≤ 1048576 ∧ (a1.size : Int) ≤ 1048576 ∧ (l2.length : Int) ≤ 1048576 ∧ (l3.length : Int) ≤ 1048576 ∧ (l4.length : Int) ≤ 1048576 ∧ ∀ x, x ∈ l4 → okS x
theorem eqIm_ev (a0 a1 : ByteArray) (l2 : List Int) (l3 : List ByteArray) (l4 : List S47) (h : okI a0 a1 l2 l3 l4) : Ev (fun k => laws_eqImage.f k a0 a1 l2 l3 l4 a0 a1 l2 l3 l4) true := by
  obtain ⟨h0, h1, h2, h3, h4, h5⟩ := h
  unfold laws_eqImage.f
  simp only [if_true]
  refine Ev.bind (eqInt64S_ev l2 h2) ?_
  simp only [if_true]
  refine Ev.bind (eqS_ev l3 h3) ?_
  simp only [if_true]
  refine Ev.bind (eqSns_ev l4 h4 h5) ?_
  simp only [if_true]
  exact Ev.now _

/-- p holds of i, i + 1, .., d numbers. -/
def allF (p : Nat → Bool) : Nat → Nat → Bool
  | _, 0 => true
  | i, d + 1 => p i && allF p (i + 1) d
theorem allF_and (p q : Nat → Bool) : ∀ d i, allF (fun j => p j && q j) i d = (allF p i d && allF q i d)
  | 0, _ => rfl
  | d + 1, i => by simp only [allF, allF_and p q d (i + 1)]; ac_rfl
theorem allF_congr (p q : Nat → Bool) : ∀ d i, (∀ j, i ≤ j → j < i + d → p j = q j) → allF p i d = allF q i d
  | 0, _, _ => rfl
  | d + 1, i, h => by simp only [allF]; rw [h i (Nat.le_refl _) (by omega), allF_congr p q d (i + 1) (fun j h1 h2 => h j (by omega) (by omega))]
theorem allF_const (b : Bool) (p : Nat → Bool) : ∀ d i, allF (fun j => b && p j) i (d + 1) = (b && allF p i (d + 1))
  | 0, i => by simp [allF]
  | d + 1, i => by
    have := allF_const b p d (i + 1)
    simp only [allF] at this ⊢
    rw [this]
    cases b <;> simp
/-- A loop that asks p of every number below n: at the first that fails it ends with bad, else it goes on to good. -/
theorem ev_all {ρ : Type} (L : Nat → Int → Option ρ) (p : Nat → Bool) (bad good : ρ) (n : Nat)
    (hs : ∀ i, i < n → p i = true → ∀ r, Ev (fun k => L k ((i + 1 : Nat) : Int)) r → Ev (fun k => L k (i : Int)) r)
    (hb : ∀ i, i < n → p i = false → Ev (fun k => L k (i : Int)) bad)
    (he : Ev (fun k => L k (n : Int)) good) : ∀ d i, i + d = n → Ev (fun k => L k (i : Int)) (if allF p i d = true then good else bad)
  | 0, i, h => by
    obtain rfl : i = n := by omega
    simp only [allF, if_true]; exact he
  | d + 1, i, h => by
    cases hp : p i with
    | true =>
      simp only [allF, hp, Bool.true_and]
      exact hs i (by omega) hp _ (ev_all L p bad good n hs hb he d (i + 1) (by omega))
    | false =>
      simp only [allF, hp, Bool.false_and, Bool.false_eq_true, if_false]
      exact hb i (by omega) hp
theorem ww (a : Int) : wrap64 (wrap64 a) = wrap64 a := by unfold wrap64; omega
theorem ev_all2 {ρ : Type} (L : Nat → Int → Option ρ) (p : Nat → Bool) (bad good : ρ) (lo n : Nat)
    (hs : ∀ i, lo ≤ i → i < n → ∀ r, Ev (fun k => L k ((i + 1 : Nat) : Int)) r → Ev (fun k => L k (i : Int)) (if p i = true then r else bad))
    (he : Ev (fun k => L k (n : Int)) good) : ∀ d i, lo ≤ i → i + d = n → Ev (fun k => L k (i : Int)) (if allF p i d = true then good else bad)
  | 0, i, _, h => by
    obtain rfl : i = n := by omega
    simp only [allF, if_true]; exact he
  | d + 1, i, hl, h => by
    have := hs i hl (by omega) _ (ev_all2 L p bad good lo n hs he d (i + 1) (by omega) (by omega))
    cases hp : p i with
    | true => rw [hp, if_pos rfl] at this; simp only [allF, hp, Bool.true_and]; exact this
    | false => rw [hp, if_neg (by simp)] at this; simp only [allF, hp, Bool.false_and, Bool.false_eq_true, if_false]; exact this
theorem allF_split (p : Nat → Bool) : ∀ d1 d2 i, allF p i (d1 + d2) = (allF p i d1 && allF p (i + d1) d2)
  | 0, d2, i => by simp [allF]
  | d1 + 1, d2, i => by
    rw [show d1 + 1 + d2 = (d1 + d2) + 1 from by omega]
    simp only [allF]
    rw [allF_split p d1 d2 (i + 1), show i + 1 + d1 = i + (d1 + 1) from by omega, Bool.and_assoc]
theorem allF_true (p : Nat → Bool) : ∀ d i, (∀ j, i ≤ j → j < i + d → p j = true) → allF p i d = true
  | 0, _, _ => rfl
  | d + 1, i, h => by simp only [allF]; rw [h i (Nat.le_refl _) (by omega), allF_true p d (i + 1) (fun j h1 h2 => h j (by omega) (by omega))]; rfl
theorem nat1 (i : Nat) : ((i : Int) + 1) = ((i + 1 : Nat) : Int) := by omega
theorem ite_b (b : Bool) : (if b = true then true else false) = b := by cases b <;> rfl

theorem allF_range (p : Nat → Bool) : ∀ d i, allF p i d = (List.range' i d).all p
  | 0, _ => rfl
  | d + 1, i => by rw [List.range'_succ, List.all_cons]; simp only [allF]; rw [allF_range p d (i + 1)]
theorem allF_all (p : Nat → Bool) (n : Nat) : allF p 0 n = (List.range n).all p := by rw [allF_range, List.range_eq_range']
theorem bite (b : Bool) : (if b = true then true else false) = b := by cases b <;> rfl
theorem rd47 (xs : List S47) (i : Nat) (h : i < xs.length) : rd_T47 xs (i : Int) = xs[i] := by unfold rd_T47; rw [Int.toNat_natCast, List.getD_eq_getElem?_getD, List.getElem?_eq_getElem h, Option.getD_some]
theorem sName_step (s : ByteArray) (k : Nat) (j : Int) (h0 : 0 ≤ j) (h : j < (s.size : Int)) : spec_l13Name.l0 (k + 1) s j = if nameCh (bt s j) = true then spec_l13Name.l0 k s (wrap64 (j + 1)) else some false := by
  simp only [spec_l13Name.l0]
  rw [if_pos h, if_pos h0]
  generalize bt s j = c
  unfold nameCh
  by_cases h1 : c ≥ 97 <;> by_cases h2 : c ≤ 122 <;> by_cases h3 : c ≥ 48 <;> by_cases h4 : c ≤ 57 <;> by_cases h5 : c = 45 <;> simp [h1, h2, h3, h4, h5] <;> omega
theorem sName_ev (s : ByteArray) (hs : (s.size : Int) ≤ 1048576) : Ev (fun k => spec_l13Name.f k s) (nameB s) := by
  have hloop : Ev (fun k => spec_l13Name.l0 k s 0) (if allF (fun i => nameCh (bt s (i : Int))) 0 s.size = true then true else false) :=
    ev_all2 (fun k i => spec_l13Name.l0 k s i) (fun i => nameCh (bt s (i : Int))) false true 0 s.size (fun i _ hi r hr => by
      by_cases hc : nameCh (bt s (i : Int)) = true
      · rw [if_pos hc]
        refine Ev.step (fun k => ?_) hr
        show spec_l13Name.l0 (k + 1) s (i : Int) = _
        rw [sName_step s k (i : Int) (by omega) (by omega), if_pos hc, w64 (by omega) (by omega), show ((i : Int) + 1) = ((i + 1 : Nat) : Int) from by omega]
      · rw [if_neg hc]
        refine Ev.step (f := fun _ => some false) (fun k => ?_) (Ev.now _)
        show spec_l13Name.l0 (k + 1) s (i : Int) = _
        rw [sName_step s k (i : Int) (by omega) (by omega), if_neg hc])
      (Ev.step (f := fun _ => some true) (fun k => by simp only [spec_l13Name.l0]; rw [if_neg (by omega)]) (Ev.now _)) s.size 0 (Nat.le_refl _) (by omega)
  rw [bite, allF_all] at hloop
  unfold spec_l13Name.f nameB
  by_cases h1 : (s.size : Int) < 1
  · simp only [if_pos h1]
    rw [decide_eq_false (show ¬ 1 ≤ (s.size : Int) by omega), Bool.false_and, Bool.and_false]
    exact Ev.step (f := fun _ => some false) (fun k => by simp only [spec_l13Name.j0]; rfl) (Ev.now _)
  · simp only [if_neg h1]
    rw [decide_eq_true (show 1 ≤ (s.size : Int) by omega), Bool.true_and]
    by_cases h2 : (s.size : Int) > 20
    · rw [decide_eq_true h2, decide_eq_false (show ¬ (s.size : Int) ≤ 20 by omega), Bool.and_false]
      exact Ev.step (f := fun _ => some false) (fun k => by simp only [spec_l13Name.j0]; rfl) (Ev.now _)
    · rw [decide_eq_false h2, decide_eq_true (show (s.size : Int) ≤ 20 by omega), Bool.and_true]
      exact Ev.step (fun k => by simp only [spec_l13Name.j0]; rfl) hloop
theorem sTable_ev (t : List Int) (n m : Nat) (hn : (n : Int) ≤ 1048576) (ht : (t.length : Int) ≤ 1048576) : Ev (fun k => spec_l13Table.f k t (m : Int) (n : Int)) (tabB n m t) := by
  unfold spec_l13Table.f
  by_cases hl : (t.length : Int) = (m : Int)
  · simp only [if_pos hl]
    have hm : t.length = m := by omega
    subst hm
    have hloop : Ev (fun k => spec_l13Table.l0 k t (t.length : Int) (n : Int) 0) (if allF (fun i => inB (rd t (i : Int)) (-2) ((n : Int) - 1)) 0 t.length = true then true else false) :=
      ev_all2 (fun k i => spec_l13Table.l0 k t (t.length : Int) (n : Int) i) (fun i => inB (rd t (i : Int)) (-2) ((n : Int) - 1)) false true 0 t.length (fun i _ hi r hr => by
        by_cases c1 : rd t (i : Int) < (-2)
        · rw [show inB (rd t (i : Int)) (-2) ((n : Int) - 1) = false from by unfold inB; rw [decide_eq_false (show ¬ (-2 : Int) ≤ rd t (i : Int) by omega), Bool.false_and], if_neg (by decide)]
          exact Ev.step (f := fun _ => some false) (fun k => by simp only [spec_l13Table.l0]; rw [if_pos (by omega), if_pos (by omega), if_pos (by omega), if_pos c1]) (Ev.now _)
        · by_cases c2 : rd t (i : Int) ≥ (n : Int)
          · rw [show inB (rd t (i : Int)) (-2) ((n : Int) - 1) = false from by unfold inB; rw [decide_eq_false (show ¬ rd t (i : Int) ≤ (n : Int) - 1 by omega), Bool.and_false], if_neg (by decide)]
            exact Ev.step (f := fun _ => some false) (fun k => by simp only [spec_l13Table.l0]; rw [if_pos (by omega), if_pos (by omega), if_pos (by omega), if_neg c1, if_pos c2]) (Ev.now _)
          · rw [show inB (rd t (i : Int)) (-2) ((n : Int) - 1) = true from by unfold inB; rw [decide_eq_true (show (-2 : Int) ≤ rd t (i : Int) by omega), decide_eq_true (show rd t (i : Int) ≤ (n : Int) - 1 by omega)]; rfl, if_pos rfl]
            refine Ev.step (fun k => ?_) hr
            simp only [spec_l13Table.l0]
            rw [if_pos (by omega), if_pos (by omega), if_pos (by omega), if_neg c1, if_neg c2, w64 (by omega) (by omega), show ((i : Int) + 1) = ((i + 1 : Nat) : Int) from by omega])
        (Ev.step (f := fun _ => some true) (fun k => by simp only [spec_l13Table.l0]; rw [if_neg (by omega)]) (Ev.now _)) t.length 0 (Nat.le_refl _) (by omega)
    rw [bite] at hloop
    have he : tabB n t.length t = allF (fun i => inB (rd t (i : Int)) (-2) ((n : Int) - 1)) 0 t.length := by
      unfold tabB
      rw [allF_all, beq_self_eq_true, Bool.and_true, Bool.eq_iff_iff, List.all_eq_true, List.all_eq_true]
      constructor
      · intro h i hi
        have hi' := List.mem_range.mp hi
        have := h _ (List.getElem_mem hi')
        unfold rd
        rw [Int.toNat_natCast, List.getD_eq_getElem?_getD, List.getElem?_eq_getElem hi', Option.getD_some]
        exact this
      · intro h e he
        obtain ⟨i, hi, rfl⟩ := List.getElem_of_mem he
        have := h i (List.mem_range.mpr hi)
        unfold rd at this
        rw [Int.toNat_natCast, List.getD_eq_getElem?_getD, List.getElem?_eq_getElem hi, Option.getD_some] at this
        exact this
    rw [he]
    exact hloop
  · simp only [if_neg hl]
    have : tabB n m t = false := by
      unfold tabB
      rw [show (t.length == m) = false from beq_eq_false_iff_ne.mpr (fun h => hl (by omega)), Bool.and_false]
    rw [this]
    exact Ev.now _
section
variable (a0 a1 : ByteArray) (l2 : List Int) (l3 : List ByteArray) (l4 : List S47)
theorem bool_ev (x y : Int) : spec_l01Bool.f (x == y) = some (if x = y then 1 else 0) := by
  unfold spec_l01Bool.f
  by_cases h : x = y
  · subst h; rw [if_pos (beq_self_eq_true _), if_pos rfl]
  · rw [if_neg (by simpa using h), if_neg h]
theorem count_drop (t : List Int) (x : Int) (i : Nat) (h : i < t.length) : (((t.drop i).count x : Nat) : Int) = (if t[i] = x then 1 else 0) + (((t.drop (i + 1)).count x : Nat) : Int) := by
  rw [List.drop_eq_getElem_cons h, List.count_cons]
  by_cases e : t[i] = x
  · rw [if_pos e, if_pos (by simpa using e)]; omega
  · rw [if_neg e, if_neg (by simpa using e)]; omega
theorem count_le (t : List Int) (x : Int) (i : Nat) : (((t.drop i).count x : Nat) : Int) ≤ (t.length : Int) := by
  have := List.count_le_length (a := x) (l := t.drop i)
  rw [List.length_drop] at this
  omega
theorem rdi (t : List Int) (i : Nat) (h : i < t.length) : rd t (i : Int) = t[i] := by unfold rd; rw [Int.toNat_natCast, List.getD_eq_getElem?_getD, List.getElem?_eq_getElem h, Option.getD_some]
theorem uses2 (x : Int) (j : Nat) (hj : j < l4.length) (hjl : (l4.length : Int) ≤ 1048576) (hl : (l4[j].f1.length : Int) ≤ 1048576) (d : Nat) : ∀ (i : Nat) (c r : Int), i + d = l4[j].f1.length → 0 ≤ c → c + (d : Int) ≤ 4611686018427387904 →
    Ev (fun k => spec_l13Uses.l1 k x (c + (((l4[j].f1.drop i).count x : Nat) : Int)) ((j + 1 : Nat) : Int) a0 a1 l2 l3 l4) r → Ev (fun k => spec_l13Uses.l2 k x c (j : Int) (i : Int) a0 a1 l2 l3 l4) r := by
  induction d with
  | zero =>
    intro i c r hi h0 h1 h
    rw [List.drop_eq_nil_of_le (by omega), List.count_nil, Int.natCast_zero, Int.add_zero] at h
    refine Ev.step (fun k => ?_) h
    simp only [spec_l13Uses.l2]
    rw [if_pos (by omega), if_pos (by omega), rd47 l4 j hj, if_neg (by omega), w64 (by omega) (by omega), show ((j : Int) + 1) = ((j + 1 : Nat) : Int) from by omega]
  | succ d ih =>
    intro i c r hi h0 h1 h
    have hlt : i < l4[j].f1.length := by omega
    rw [count_drop _ _ _ hlt] at h
    have hc := count_le l4[j].f1 x (i + 1)
    by_cases e : l4[j].f1[i] = x
    · rw [if_pos e, ← Int.add_assoc] at h
      refine Ev.step (fun k => ?_) (ih (i + 1) (c + 1) r (by omega) (by omega) (by omega) h)
      simp only [spec_l13Uses.l2]
      rw [if_pos (by omega), if_pos (by omega), rd47 l4 j hj, if_pos (by omega), if_pos (by omega), rdi _ _ hlt, bool_ev, if_pos e, Option.bind_some, w64 (a := c + 1) (by omega) (by omega), w64 (by omega) (by omega), show ((i : Int) + 1) = ((i + 1 : Nat) : Int) from by omega]
    · rw [if_neg e, Int.zero_add] at h
      refine Ev.step (fun k => ?_) (ih (i + 1) c r (by omega) (by omega) (by omega) h)
      simp only [spec_l13Uses.l2]
      rw [if_pos (by omega), if_pos (by omega), rd47 l4 j hj, if_pos (by omega), if_pos (by omega), rdi _ _ hlt, bool_ev, if_neg e, Option.bind_some, Int.add_zero, w64 (a := c) (by omega) (by omega), w64 (by omega) (by omega), show ((i : Int) + 1) = ((i + 1 : Nat) : Int) from by omega]
theorem uses1 (x : Int) (hjl : (l4.length : Int) ≤ 1048576) (hx : ∀ y, y ∈ l4 → (y.f1.length : Int) ≤ 1048576) (d : Nat) : ∀ (j : Nat) (c : Int), j + d = l4.length → 0 ≤ c → c + (d : Int) * 1048576 ≤ 4611686018427387904 →
    Ev (fun k => spec_l13Uses.l1 k x c (j : Int) a0 a1 l2 l3 l4) (c + ((((l4.drop j).flatMap (fun y => y.f1)).count x : Nat) : Int)) := by
  induction d with
  | zero =>
    intro j c hj h0 h1
    rw [List.drop_eq_nil_of_le (by omega), List.flatMap_nil, List.count_nil, Int.natCast_zero, Int.add_zero]
    exact Ev.step (f := fun _ => some c) (fun k => by simp only [spec_l13Uses.l1]; rw [if_neg (by omega)]) (Ev.now _)
  | succ d ih =>
    intro j c hj h0 h1
    have hlt : j < l4.length := by omega
    have hl := hx _ (List.getElem_mem hlt)
    have hc := count_le l4[j].f1 x 0
    rw [List.drop_zero] at hc
    have := ih (j + 1) (c + ((l4[j].f1.count x : Nat) : Int)) (by omega) (by omega) (by omega)
    rw [List.drop_eq_getElem_cons hlt, List.flatMap_cons, List.count_append, Int.natCast_add, ← Int.add_assoc]
    refine Ev.step (fun k => ?_) (uses2 a0 a1 l2 l3 l4 x j hlt hjl hl l4[j].f1.length 0 c _ (by omega) h0 (by omega) (by rw [List.drop_zero]; exact this))
    simp only [spec_l13Uses.l1]
    rw [if_pos (by omega)]
    rfl
theorem uses0 (x : Int) (h2 : (l2.length : Int) ≤ 1048576) (hjl : (l4.length : Int) ≤ 1048576) (hx : ∀ y, y ∈ l4 → (y.f1.length : Int) ≤ 1048576) (d : Nat) : ∀ (i : Nat) (c : Int), i + d = l2.length → 0 ≤ c → c ≤ 1048576 - (d : Int) →
    Ev (fun k => spec_l13Uses.l0 k x c (i : Int) a0 a1 l2 l3 l4) (c + ((((l2.drop i) ++ l4.flatMap (fun y => y.f1)).count x : Nat) : Int)) := by
  induction d with
  | zero =>
    intro i c hi h0 h1
    rw [List.drop_eq_nil_of_le (by omega), List.nil_append]
    have := uses1 a0 a1 l2 l3 l4 x hjl hx l4.length 0 c (by omega) h0 (by omega)
    rw [List.drop_zero] at this
    refine Ev.step (fun k => ?_) this
    simp only [spec_l13Uses.l0]
    rw [if_neg (by omega)]
    rfl
  | succ d ih =>
    intro i c hi h0 h1
    have hlt : i < l2.length := by omega
    rw [List.count_append, Int.natCast_add, count_drop _ _ _ hlt]
    by_cases e : l2[i] = x
    · rw [if_pos e]
      have := ih (i + 1) (c + 1) (by omega) (by omega) (by omega)
      rw [List.count_append, Int.natCast_add ((l2.drop (i + 1)).count x)] at this
      rw [show c + ((1 : Int) + (((l2.drop (i + 1)).count x : Nat) : Int) + (((l4.flatMap (fun y => y.f1)).count x : Nat) : Int)) = c + 1 + ((((l2.drop (i + 1)).count x : Nat) : Int) + (((l4.flatMap (fun y => y.f1)).count x : Nat) : Int)) from by omega]
      refine Ev.step (fun k => ?_) this
      simp only [spec_l13Uses.l0]
      rw [if_pos (by omega), if_pos (by omega), rdi _ _ hlt, bool_ev, if_pos e, Option.bind_some, w64 (a := c + 1) (by omega) (by omega), w64 (by omega) (by omega), show ((i : Int) + 1) = ((i + 1 : Nat) : Int) from by omega]
    · rw [if_neg e, Int.zero_add]
      have := ih (i + 1) c (by omega) (by omega) (by omega)
      rw [List.count_append, Int.natCast_add ((l2.drop (i + 1)).count x)] at this
      refine Ev.step (fun k => ?_) this
      simp only [spec_l13Uses.l0]
      rw [if_pos (by omega), if_pos (by omega), rdi _ _ hlt, bool_ev, if_neg e, Option.bind_some, Int.add_zero, w64 (a := c) (by omega) (by omega), w64 (by omega) (by omega), show ((i : Int) + 1) = ((i + 1 : Nat) : Int) from by omega]
theorem uses_ev (x : Int) (h2 : (l2.length : Int) ≤ 1048576) (hjl : (l4.length : Int) ≤ 1048576) (hx : ∀ y, y ∈ l4 → (y.f1.length : Int) ≤ 1048576) : Ev (fun k => spec_l13Uses.f k a0 a1 l2 l3 l4 x) (((l2 ++ l4.flatMap (fun y => y.f1)).count x : Nat) : Int) := by
  have := uses0 a0 a1 l2 l3 l4 x h2 hjl hx l2.length 0 0 (by omega) (by omega) (by omega)
  rw [List.drop_zero, Int.zero_add] at this
  exact this
theorem data_ev (h2 : (l2.length : Int) ≤ 1048576) (h3 : (l3.length : Int) ≤ 1048576) (hjl : (l4.length : Int) ≤ 1048576) (hx : ∀ y, y ∈ l4 → (y.f1.length : Int) ≤ 1048576) : Ev (fun k => spec_ImageFault.l2 k 0 a0 a1 l2 l3 l4) (if (List.range l3.length).all (dataB l3 (l2 ++ l4.flatMap (fun x => x.f1))) = true then 0 else 1) := by
  rw [← allF_all]
  refine ev_all2 (fun k i => spec_ImageFault.l2 k i a0 a1 l2 l3 l4) (dataB l3 (l2 ++ l4.flatMap (fun x => x.f1))) 1 0 0 l3.length (fun i _ hi r hr => ?_) (Ev.step (f := fun _ => some 0) (fun k => by simp only [spec_ImageFault.l2]; rw [if_neg (by omega)]) (Ev.now _)) l3.length 0 (Nat.le_refl _) (by omega)
  unfold dataB
  by_cases c1 : ((rdOf ByteArray.empty l3 (i : Int)).size : Int) = 16
  · rw [beq_iff_eq.mpr c1, Bool.true_and]
    have hu := uses_ev a0 a1 l2 l3 l4 (i : Int) h2 hjl hx
    refine Ev.step (f := fun k => (spec_l13Uses.f k a0 a1 l2 l3 l4 (i : Int)).bind fun t => (if t = 0 then (some 1) else (spec_ImageFault.l2 k (((i + 1 : Nat) : Int)) a0 a1 l2 l3 l4))) (fun k => ?_) (Ev.bind (f := fun k t => (if t = 0 then (some 1) else (spec_ImageFault.l2 k (((i + 1 : Nat) : Int)) a0 a1 l2 l3 l4))) hu ?_)
    · simp only [spec_ImageFault.l2]
      rw [if_pos (by omega), if_pos (by omega), if_pos c1, w64 (by omega) (by omega), show ((i : Int) + 1) = ((i + 1 : Nat) : Int) from by omega]
    · by_cases hm : (i : Int) ∈ l2 ++ l4.flatMap (fun x => x.f1)
      · have hp := List.count_pos_iff.mpr hm
        rw [decide_eq_true hm, if_pos rfl]
        simp only [if_neg (show ¬ (((l2 ++ l4.flatMap (fun y => y.f1)).count (i : Int) : Nat) : Int) = 0 by omega)]
        exact hr
      · have hz := List.count_eq_zero.mpr hm
        rw [decide_eq_false hm, if_neg (by decide)]
        simp only [if_pos (show (((l2 ++ l4.flatMap (fun y => y.f1)).count (i : Int) : Nat) : Int) = 0 by omega)]
        exact Ev.now _
  · rw [beq_eq_false_iff_ne.mpr c1, Bool.false_and, if_neg (by decide)]
    refine Ev.step (f := fun _ => some 1) (fun k => ?_) (Ev.now _)
    simp only [spec_ImageFault.l2]
    rw [if_pos (by omega), if_pos (by omega), if_neg c1]
theorem any_allF (y : S47) (j : Nat) (hj : j ≤ l4.length) : ((l4.take j).any (fun x => x.f0.toList == y.f0.toList)) = !(allF (fun i => !((rd_T47 l4 (i : Int)).f0.toList == y.f0.toList)) 0 j) := by
  rw [allF_all, Bool.eq_iff_iff, Bool.not_eq_true', List.all_eq_false, List.any_eq_true]
  constructor
  · rintro ⟨x, hx, he⟩
    obtain ⟨i, hi, rfl⟩ := List.getElem_of_mem hx
    rw [List.length_take] at hi
    refine ⟨i, List.mem_range.mpr (by omega), ?_⟩
    rw [rd47 l4 i (by omega)]
    rw [List.getElem_take] at he
    rw [he]; decide
  · rintro ⟨i, hi, he⟩
    have hi' := List.mem_range.mp hi
    rw [rd47 l4 i (by omega)] at he
    refine ⟨l4[i], List.mem_iff_getElem.mpr ⟨i, by rw [List.length_take]; omega, by rw [List.getElem_take]⟩, by simpa using he⟩
theorem snaps_ev (hh : okI a0 a1 l2 l3 l4) : Ev (fun k => spec_ImageFault.l0 k (l2.length : Int) 0 a0 a1 l2 l3 l4) (if (List.range l4.length).all (snapB l3.length l2.length l4) = true then (if (List.range l3.length).all (dataB l3 (l2 ++ l4.flatMap (fun x => x.f1))) = true then 0 else 1) else 1) := by
  obtain ⟨h0, h1, h2, h3, h4, h5⟩ := hh
  rw [← allF_all]
  refine ev_all2 (fun k i => spec_ImageFault.l0 k (l2.length : Int) i a0 a1 l2 l3 l4) (snapB l3.length l2.length l4) 1 _ 0 l4.length (fun i _ hi r hr => ?_) (Ev.step (fun k => by simp only [spec_ImageFault.l0]; rw [if_neg (by omega)]) (data_ev a0 a1 l2 l3 l4 h2 h3 h4 (fun y hy => (h5 y hy).2))) l4.length 0 (Nat.le_refl _) (by omega)
  obtain ⟨y, hy⟩ : ∃ y, rd_T47 l4 (i : Int) = y := ⟨_, rfl⟩
  have hym : y ∈ l4 := by rw [← hy, rd47 l4 i hi]; exact List.getElem_mem hi
  have hbad : Ev (fun k => spec_ImageFault.j2 k (l2.length : Int) (i : Int) true a0 a1 l2 l3 l4) 1 := Ev.step (f := fun _ => some 1) (fun k => by simp only [spec_ImageFault.j2]; rfl) (Ev.now _)
  unfold snapB
  rw [hy]
  have hl1 : Ev (fun k => spec_ImageFault.l1 k (l2.length : Int) (i : Int) 0 a0 a1 l2 l3 l4) (if allF (fun q => !((rd_T47 l4 (q : Int)).f0.toList == y.f0.toList)) 0 i = true then r else 1) := by
    refine ev_all2 (fun k q => spec_ImageFault.l1 k (l2.length : Int) (i : Int) q a0 a1 l2 l3 l4) (fun q => !((rd_T47 l4 (q : Int)).f0.toList == y.f0.toList)) 1 r 0 i (fun q _ hq r' hr' => ?_) (Ev.step (fun k => by simp only [spec_ImageFault.l1]; rw [if_neg (by omega), w64 (by omega) (by omega), show ((i : Int) + 1) = ((i + 1 : Nat) : Int) from by omega]) hr) i 0 (Nat.le_refl _) (by omega)
    by_cases he : (rd_T47 l4 (q : Int)).f0.toList = y.f0.toList
    · rw [beq_iff_eq.mpr he, if_neg (by decide)]
      refine Ev.step (f := fun _ => some 1) (fun k => ?_) (Ev.now _)
      simp only [spec_ImageFault.l1]
      rw [if_pos (by omega), if_pos (by omega), if_pos (by omega), if_pos (by omega), if_pos (by omega), hy, if_pos he]
    · rw [beq_eq_false_iff_ne.mpr he, if_pos (by decide)]
      refine Ev.step (fun k => ?_) hr'
      simp only [spec_ImageFault.l1]
      rw [if_pos (by omega), if_pos (by omega), if_pos (by omega), if_pos (by omega), if_pos (by omega), hy, if_neg he, w64 (by omega) (by omega), show ((q : Int) + 1) = ((q + 1 : Nat) : Int) from by omega]
  refine Ev.step (f := fun k => (spec_l13Name.f k y.f0).bind fun t125 => (if t125 = true then ((spec_l13Table.f k y.f1 (l2.length : Int) (l3.length : Int)).bind fun t127 => (spec_ImageFault.j2 k (l2.length : Int) (i : Int) (!t127) a0 a1 l2 l3 l4)) else (spec_ImageFault.j2 k (l2.length : Int) (i : Int) true a0 a1 l2 l3 l4))) (fun k => ?_) (Ev.bind (f := fun k t125 => (if t125 = true then ((spec_l13Table.f k y.f1 (l2.length : Int) (l3.length : Int)).bind fun t127 => (spec_ImageFault.j2 k (l2.length : Int) (i : Int) (!t127) a0 a1 l2 l3 l4)) else (spec_ImageFault.j2 k (l2.length : Int) (i : Int) true a0 a1 l2 l3 l4))) (sName_ev y.f0 (h5 y hym).1) ?_)
  · simp only [spec_ImageFault.l0]
    rw [if_pos (by omega), if_pos (by omega), hy]
  · cases hn : nameB y.f0 with
    | false =>
      simp only [Bool.false_eq_true, if_false, Bool.false_and]
      exact hbad
    | true =>
      simp only [if_true, Bool.true_and]
      refine Ev.bind (sTable_ev y.f1 l3.length l2.length h3 (h5 y hym).2) ?_
      cases ht : tabB l3.length l2.length y.f1 with
      | false =>
        simp only [Bool.not_false, Bool.false_and, Bool.false_eq_true, if_false]
        exact hbad
      | true =>
        simp only [Bool.not_true, Bool.true_and]
        rw [any_allF l4 y i (by omega), Bool.not_not]
        exact Ev.step (fun k => by simp only [spec_ImageFault.j2]; rfl) hl1
theorem sImage_ev (hh : okI a0 a1 l2 l3 l4) : Ev (fun k => spec_ImageFault.f k a0 a1 l2 l3 l4) (if imgB a0 a1 l2 l3 l4 = true then 0 else 1) := by
  have hs := snaps_ev a0 a1 l2 l3 l4 hh
  obtain ⟨h0, h1, h2, h3, h4, h5⟩ := hh
  have hbad : Ev (fun k => spec_ImageFault.j0 k (l2.length : Int) true a0 a1 l2 l3 l4) 1 := Ev.step (f := fun _ => some 1) (fun k => by simp only [spec_ImageFault.j0]; rfl) (Ev.now _)
  have tailEv : nameB a0 = true → ((a1.toList == ([] : List UInt8)) || nameB a1) = true → Ev (fun k => (if (l2.length : Int) < 1 then (spec_ImageFault.j0 k (l2.length : Int) true a0 a1 l2 l3 l4) else (if (l2.length : Int) > 64 then (spec_ImageFault.j0 k (l2.length : Int) true a0 a1 l2 l3 l4) else (if (l3.length : Int) > 128 then (spec_ImageFault.j0 k (l2.length : Int) true a0 a1 l2 l3 l4) else (if (l4.length : Int) > 8 then (spec_ImageFault.j0 k (l2.length : Int) true a0 a1 l2 l3 l4) else ((spec_l13Table.f k l2 (l2.length : Int) (l3.length : Int)).bind fun t121 => (spec_ImageFault.j0 k (l2.length : Int) (!t121) a0 a1 l2 l3 l4))))))) (if imgB a0 a1 l2 l3 l4 = true then 0 else 1) := by
    intro e0 e1
    unfold imgB imgHead
    rw [e0, e1, Bool.true_and, Bool.true_and]
    by_cases c1 : (l2.length : Int) < 1
    · simp only [if_pos c1]
      rw [show inB (l2.length : Int) 1 64 = false from by unfold inB; rw [decide_eq_false (show ¬ (1 : Int) ≤ (l2.length : Int) by omega), Bool.false_and], Bool.false_and, Bool.false_and, if_neg (by decide)]
      exact hbad
    simp only [if_neg c1]
    by_cases c2 : (l2.length : Int) > 64
    · simp only [if_pos c2]
      rw [show inB (l2.length : Int) 1 64 = false from by unfold inB; rw [decide_eq_false (show ¬ (l2.length : Int) ≤ 64 by omega), Bool.and_false], Bool.false_and, Bool.false_and, if_neg (by decide)]
      exact hbad
    simp only [if_neg c2]
    rw [show inB (l2.length : Int) 1 64 = true from by unfold inB; rw [decide_eq_true (show (1 : Int) ≤ (l2.length : Int) by omega), decide_eq_true (show (l2.length : Int) ≤ 64 by omega)]; rfl, Bool.true_and]
    by_cases c3 : (l3.length : Int) > 128
    · simp only [if_pos c3]
      rw [decide_eq_false (show ¬ (l3.length : Int) ≤ 128 by omega), Bool.false_and, Bool.false_and, if_neg (by decide)]
      exact hbad
    simp only [if_neg c3]
    rw [decide_eq_true (show (l3.length : Int) ≤ 128 by omega), Bool.true_and]
    by_cases c4 : (l4.length : Int) > 8
    · simp only [if_pos c4]
      rw [decide_eq_false (show ¬ (l4.length : Int) ≤ 8 by omega), Bool.false_and, if_neg (by decide)]
      exact hbad
    simp only [if_neg c4]
    rw [decide_eq_true (show (l4.length : Int) ≤ 8 by omega), Bool.true_and]
    refine Ev.bind (sTable_ev l2 l3.length l2.length h3 h2) ?_
    cases ht : tabB l3.length l2.length l2 with
    | false =>
      simp only [Bool.not_false, Bool.false_and, Bool.false_eq_true, if_false]
      exact hbad
    | true =>
      simp only [Bool.not_true, Bool.true_and]
      refine Ev.step (fun k => by simp only [spec_ImageFault.j0]; rfl) ?_
      cases hq : (List.range l4.length).all (snapB l3.length l2.length l4) with
      | false => rw [hq] at hs; simpa using hs
      | true => rw [hq] at hs; simpa using hs
  unfold spec_ImageFault.f
  refine Ev.bind (sName_ev a0 h0) ?_
  cases hn : nameB a0 with
  | false =>
    simp only [Bool.false_eq_true, if_false]
    rw [show imgB a0 a1 l2 l3 l4 = false from imgB_head (by unfold imgHead; rw [hn]; rfl), if_neg (by decide)]
    exact hbad
  | true =>
    simp only [if_true]
    by_cases he : a1.toList = ([] : List UInt8)
    · simp only [if_pos he]
      exact tailEv hn (by rw [beq_iff_eq.mpr he]; rfl)
    · simp only [if_neg he]
      refine Ev.bind (sName_ev a1 h1) ?_
      cases hn1 : nameB a1 with
      | false =>
        simp only [Bool.false_eq_true, if_false]
        rw [show imgB a0 a1 l2 l3 l4 = false from imgB_head (by unfold imgHead; rw [hn, beq_eq_false_iff_ne.mpr he, hn1]; rfl), if_neg (by decide)]
        exact hbad
      | true =>
        simp only [if_true]
        exact tailEv hn (by rw [hn1, Bool.or_true])
theorem iImage_eq (hh : okI a0 a1 l2 l3 l4) : impl_ImageFault.f a0 a1 l2 l3 l4 = some (if imgB a0 a1 l2 l3 l4 = true then 0 else 1) := by
  obtain ⟨h0, h1, h2, h3, h4, h5⟩ := hh
  unfold impl_ImageFault.f
  rw [if_pos]
  unfold imgSized
  simp only [Bool.and_eq_true, decide_eq_true_eq, List.all_eq_true]
  exact ⟨by omega, by omega, fun x hx => by have := (h5 x hx).1; omega⟩
end

def markI : List Int → Int → List Int
  | [], _ => []
  | _ :: xs, m => m :: markI xs (m + 1)
theorem markI_len : ∀ (xs : List Int) (m : Int), (markI xs m).length = xs.length
  | [], _ => rfl
  | _ :: xs, m => by simp only [markI, List.length_cons, markI_len xs (m + 1)]
theorem markI_loop (e : Nat) : ∀ (pre suf : List Int) (m : Int), suf.length = e → (pre.length : Int) + (suf.length : Int) ≤ 1048576 → 0 ≤ m → m + (suf.length : Int) ≤ 1099511627776 →
    Ev (fun k => laws_markInt64S.l0 k (pre ++ suf) m (pre.length : Int)) (m + (suf.length : Int), pre ++ markI suf m) := by
  induction e with
  | zero =>
    intro pre suf m hs _ _ _
    have : suf = [] := List.eq_nil_of_length_eq_zero hs
    subst this
    refine Ev.step (f := fun _ => some (m, pre)) (fun k => ?_) ?_
    · simp only [laws_markInt64S.l0, List.append_nil]
      rw [if_neg (by omega)]
    · simp only [List.length_nil, markI, List.append_nil]
      rw [show m + ((0 : Nat) : Int) = m from by omega]
      exact Ev.now _
  | succ e ih =>
    intro pre suf m hs h1 h2 h3
    cases suf with
    | nil => simp at hs
    | cons a suf =>
      simp only [List.length_cons] at hs h1 h3
      have := ih (pre ++ [m]) suf (m + 1) (by omega) (by rw [List.length_append, List.length_cons, List.length_nil]; omega) (by omega) (by omega)
      rw [List.append_assoc, List.append_assoc, List.singleton_append, List.singleton_append] at this
      simp only [markI, List.length_cons]
      rw [show m + ((suf.length + 1 : Nat) : Int) = m + 1 + (suf.length : Int) from by omega]
      refine Ev.step (fun k => ?_) this
      simp only [laws_markInt64S.l0, Int.toNat_natCast]
      rw [if_pos (by rw [List.length_append, List.length_cons]; omega), if_pos (by omega), List.set_append_right _ _ (Nat.le_refl _), Nat.sub_self, List.set_cons_zero, w64 (a := m + 1) (by omega) (by omega), w64 (a := (pre.length : Int) + 1) (by omega) (by omega), List.length_append, List.length_cons, List.length_nil, show ((pre.length : Int) + 1) = ((pre.length + (0 + 1) : Nat) : Int) from by omega]
theorem heldI_loop (e : Nat) : ∀ (pre suf : List Int) (m : Int), suf.length = e → (pre.length : Int) + (suf.length : Int) ≤ 1048576 → 0 ≤ m → m + (suf.length : Int) ≤ 1099511627776 →
    Ev (fun k => laws_heldInt64S.l0 k (pre ++ markI suf m) m (pre.length : Int)) (m + (suf.length : Int)) := by
  induction e with
  | zero =>
    intro pre suf m hs _ _ _
    have : suf = [] := List.eq_nil_of_length_eq_zero hs
    subst this
    refine Ev.step (f := fun _ => some m) (fun k => ?_) ?_
    · simp only [laws_heldInt64S.l0, markI, List.append_nil]
      rw [if_neg (by omega)]
    · rw [List.length_nil, show m + ((0 : Nat) : Int) = m from by omega]
      exact Ev.now _
  | succ e ih =>
    intro pre suf m hs h1 h2 h3
    cases suf with
    | nil => simp at hs
    | cons a suf =>
      simp only [List.length_cons] at hs h1 h3
      have := ih (pre ++ [m]) suf (m + 1) (by omega) (by rw [List.length_append, List.length_cons, List.length_nil]; omega) (by omega) (by omega)
      rw [List.append_assoc, List.singleton_append] at this
      simp only [markI, List.length_cons]
      rw [show m + ((suf.length + 1 : Nat) : Int) = m + 1 + (suf.length : Int) from by omega]
      refine Ev.step (fun k => ?_) this
      have hrd : rd (pre ++ m :: markI suf (m + 1)) (pre.length : Int) = m := by
        unfold rd
        rw [Int.toNat_natCast, List.getD_eq_getElem?_getD, List.getElem?_append_right (Nat.le_refl _), Nat.sub_self]; rfl
      simp only [laws_heldInt64S.l0]
      rw [if_pos (by rw [List.length_append, List.length_cons]; omega), if_pos (by omega), hrd, if_pos rfl, w64 (a := m + 1) (by omega) (by omega), w64 (a := (pre.length : Int) + 1) (by omega) (by omega), List.length_append, List.length_cons, List.length_nil, show ((pre.length : Int) + 1) = ((pre.length + (0 + 1) : Nat) : Int) from by omega]
theorem markI_ev (l : List Int) (m : Int) (h : (l.length : Int) ≤ 1048576) (h0 : 0 ≤ m) (h1 : m ≤ 1000000000000) : Ev (fun k => laws_markInt64S.f k l m) (m + (l.length : Int), markI l m) :=
  markI_loop l.length [] l m rfl (by simp only [List.length_nil]; omega) h0 (by omega)
theorem heldI_ev (l : List Int) (m : Int) (h : (l.length : Int) ≤ 1048576) (h0 : 0 ≤ m) (h1 : m ≤ 1000000000000) : Ev (fun k => laws_heldInt64S.f k (markI l m) m) (m + (l.length : Int)) :=
  heldI_loop l.length [] l m rfl (by simp only [List.length_nil]; omega) h0 (by omega)

theorem markText_loop (e : Nat) : ∀ (x : Int) (s : ByteArray), 0 ≤ x → x.toNat ≤ e → (s.size : Int) + x ≤ 4611686018427387904 → ∃ t, Ev (fun k => laws_markText.l0 k x s) t := by
  induction e with
  | zero =>
    intro x s h0 h1 h2
    exact ⟨_, Ev.step (f := fun _ => some ((⟨#[109]⟩ : ByteArray) ++ s)) (fun k => by simp only [laws_markText.l0]; rw [if_neg (by omega), if_pos (by omega)]) (Ev.now _)⟩
  | succ e ih =>
    intro x s h0 h1 h2
    by_cases hx : x > 0
    · have hd : Int.tdiv x 10 = x / 10 := tdiv_nn h0
      have hw : wrap64 (Int.tdiv x 10) = x / 10 := by rw [hd]; exact w64 (by omega) (by omega)
      obtain ⟨t, ht⟩ := ih (x / 10) ((strOfNums ([(wrap64 (48 + (Int.tmod x 10))) % 256] : List Int)) ++ s) (by omega) (by omega) (by rw [ByteArray.size_append, strOfNums_size, List.length_cons, List.length_nil]; omega)
      refine ⟨t, Ev.step (fun k => ?_) ht⟩
      simp only [laws_markText.l0]
      rw [if_pos hx, Option.bind_some, strOfNums_size, List.length_cons, List.length_nil, if_pos (by omega), hw]
    · exact ⟨_, Ev.step (f := fun _ => some ((⟨#[109]⟩ : ByteArray) ++ s)) (fun k => by simp only [laws_markText.l0]; rw [if_neg hx, if_pos (by omega)]) (Ev.now _)⟩
theorem markText_ev (x : Int) (h0 : 0 ≤ x) (h1 : x ≤ 1099511627776) : ∃ t, Ev (fun k => laws_markText.f k x) t := by
  unfold laws_markText.f
  by_cases h : x ≤ 0
  · simp only [if_pos h]; exact ⟨_, Ev.now _⟩
  · simp only [if_neg h]
    exact markText_loop x.toNat x ⟨#[]⟩ h0 (Nat.le_refl _) (by show ((0 : Nat) : Int) + x ≤ _; omega)

/-- The k-th mark's text. -/
noncomputable def mt (x : Int) : ByteArray := if h : 0 ≤ x ∧ x ≤ 1099511627776 then (markText_ev x h.1 h.2).choose else ⟨#[]⟩
theorem mt_ev (x : Int) (h0 : 0 ≤ x) (h1 : x ≤ 1099511627776) : Ev (fun k => laws_markText.f k x) (mt x) := by
  unfold mt
  rw [dif_pos ⟨h0, h1⟩]
  exact (markText_ev x h0 h1).choose_spec
noncomputable def markB : List ByteArray → Int → List ByteArray
  | [], _ => []
  | _ :: xs, m => mt m :: markB xs (m + 1)
theorem markB_len : ∀ (xs : List ByteArray) (m : Int), (markB xs m).length = xs.length
  | [], _ => rfl
  | _ :: xs, m => by simp only [markB, List.length_cons, markB_len xs (m + 1)]
theorem markB_loop (e : Nat) : ∀ (pre suf : List ByteArray) (m : Int), suf.length = e → (pre.length : Int) + (suf.length : Int) ≤ 1048576 → 0 ≤ m → m + (suf.length : Int) ≤ 1099511627776 →
    Ev (fun k => laws_markStringS.l0 k (pre ++ suf) m (pre.length : Int)) (m + (suf.length : Int), pre ++ markB suf m) := by
  induction e with
  | zero =>
    intro pre suf m hs _ _ _
    have : suf = [] := List.eq_nil_of_length_eq_zero hs
    subst this
    refine Ev.step (f := fun _ => some (m, pre)) (fun k => ?_) ?_
    · simp only [laws_markStringS.l0, List.append_nil]
      rw [if_neg (by omega)]
    · simp only [List.length_nil, markB, List.append_nil]
      rw [show m + ((0 : Nat) : Int) = m from by omega]
      exact Ev.now _
  | succ e ih =>
    intro pre suf m hs h1 h2 h3
    cases suf with
    | nil => simp at hs
    | cons a suf =>
      simp only [List.length_cons] at hs h1 h3
      have := ih (pre ++ [mt m]) suf (m + 1) (by omega) (by rw [List.length_append, List.length_cons, List.length_nil]; omega) (by omega) (by omega)
      rw [List.append_assoc, List.append_assoc, List.singleton_append, List.singleton_append] at this
      simp only [markB, List.length_cons]
      rw [show m + ((suf.length + 1 : Nat) : Int) = m + 1 + (suf.length : Int) from by omega]
      refine Ev.step (f := fun k => (laws_markText.f k m).bind fun tx => laws_markStringS.l0 k (pre ++ tx :: suf) (m + 1) ((pre.length + (0 + 1) : Nat) : Int)) (fun k => ?_) (Ev.bind (mt_ev m h2 (by omega)) (by simpa only [List.length_append, List.length_cons, List.length_nil] using this))
      simp only [laws_markStringS.l0, Int.toNat_natCast]
      rw [if_pos (by rw [List.length_append, List.length_cons]; omega)]
      congr 1
      funext tx
      rw [if_pos (by omega), List.set_append_right _ _ (Nat.le_refl _), Nat.sub_self, List.set_cons_zero, w64 (a := m + 1) (by omega) (by omega), w64 (a := (pre.length : Int) + 1) (by omega) (by omega), show ((pre.length : Int) + 1) = ((pre.length + (0 + 1) : Nat) : Int) from by omega]
theorem heldB_loop (e : Nat) : ∀ (pre suf : List ByteArray) (m : Int), suf.length = e → (pre.length : Int) + (suf.length : Int) ≤ 1048576 → 0 ≤ m → m + (suf.length : Int) ≤ 1099511627776 →
    Ev (fun k => laws_heldStringS.l0 k (pre ++ markB suf m) m (pre.length : Int)) (m + (suf.length : Int)) := by
  induction e with
  | zero =>
    intro pre suf m hs _ _ _
    have : suf = [] := List.eq_nil_of_length_eq_zero hs
    subst this
    refine Ev.step (f := fun _ => some m) (fun k => ?_) ?_
    · simp only [laws_heldStringS.l0, markB, List.append_nil]
      rw [if_neg (by omega)]
    · rw [List.length_nil, show m + ((0 : Nat) : Int) = m from by omega]
      exact Ev.now _
  | succ e ih =>
    intro pre suf m hs h1 h2 h3
    cases suf with
    | nil => simp at hs
    | cons a suf =>
      simp only [List.length_cons] at hs h1 h3
      have := ih (pre ++ [mt m]) suf (m + 1) (by omega) (by rw [List.length_append, List.length_cons, List.length_nil]; omega) (by omega) (by omega)
      rw [List.append_assoc, List.singleton_append] at this
      simp only [markB, List.length_cons]
      rw [show m + ((suf.length + 1 : Nat) : Int) = m + 1 + (suf.length : Int) from by omega]
      have hrd : rdOf ByteArray.empty (pre ++ mt m :: markB suf (m + 1)) (pre.length : Int) = mt m := by
        unfold rdOf
        rw [Int.toNat_natCast, List.getD_eq_getElem?_getD, List.getElem?_append_right (Nat.le_refl _), Nat.sub_self]; rfl
      refine Ev.step (f := fun k => (laws_markText.f k m).bind fun tx => if (mt m).toList = tx.toList then laws_heldStringS.l0 k (pre ++ mt m :: markB suf (m + 1)) (m + 1) ((pre.length + (0 + 1) : Nat) : Int) else some (-1)) (fun k => ?_) (Ev.bind (mt_ev m h2 (by omega)) (by simp only [if_true]; simpa only [List.length_append, List.length_cons, List.length_nil] using this))
      simp only [laws_heldStringS.l0]
      rw [if_pos (by rw [List.length_append, List.length_cons]; omega), if_pos (by omega), hrd, w64 (a := m + 1) (by omega) (by omega), w64 (a := (pre.length : Int) + 1) (by omega) (by omega), show ((pre.length : Int) + 1) = ((pre.length + (0 + 1) : Nat) : Int) from by omega]
theorem markB_ev (l : List ByteArray) (m : Int) (h : (l.length : Int) ≤ 1048576) (h0 : 0 ≤ m) (h1 : m ≤ 1000000000000) : Ev (fun k => laws_markStringS.f k l m) (m + (l.length : Int), markB l m) :=
  markB_loop l.length [] l m rfl (by simp only [List.length_nil]; omega) h0 (by omega)
theorem heldB_ev (l : List ByteArray) (m : Int) (h : (l.length : Int) ≤ 1048576) (h0 : 0 ≤ m) (h1 : m ≤ 1000000000000) : Ev (fun k => laws_heldStringS.f k (markB l m) m) (m + (l.length : Int)) :=
  heldB_loop l.length [] l m rfl (by simp only [List.length_nil]; omega) h0 (by omega)

noncomputable def mkSn : List S47 → Int → List S47
  | [], _ => []
  | x :: xs, m => (⟨mt m, markI x.f1 (m + 1)⟩ : S47) :: mkSn xs (m + 1 + (x.f1.length : Int))
def mkSe : List S47 → Int → Int
  | [], m => m
  | x :: xs, m => mkSe xs (m + 1 + (x.f1.length : Int))
theorem mkSn_len : ∀ (xs : List S47) (m : Int), (mkSn xs m).length = xs.length
  | [], _ => rfl
  | _ :: xs, m => by simp only [mkSn, List.length_cons, mkSn_len xs]
theorem mkSe_le : ∀ (xs : List S47) (m : Int), (∀ x, x ∈ xs → x.f1.length ≤ 1000) → m ≤ mkSe xs m ∧ mkSe xs m ≤ m + 1001 * (xs.length : Int)
  | [], m, _ => by simp only [mkSe, List.length_nil]; omega
  | x :: xs, m, h => by
    have h1 := mkSe_le xs (m + 1 + (x.f1.length : Int)) (fun y hy => h y (List.mem_cons_of_mem _ hy))
    have h2 := h x List.mem_cons_self
    simp only [mkSe, List.length_cons]
    omega
theorem heldSn_loop (e : Nat) : ∀ (pre suf : List S47) (m : Int), suf.length = e → (∀ x, x ∈ suf → x.f1.length ≤ 1000) → (pre.length : Int) + (suf.length : Int) ≤ 1000 → 0 ≤ m → m + 1001 * (suf.length : Int) ≤ 1000000000 →
    Ev (fun k => laws_heldSnapS.l0 k (pre ++ mkSn suf m) m (pre.length : Int)) (mkSe suf m) := by
  induction e with
  | zero =>
    intro pre suf m hs _ _ _ _
    have : suf = [] := List.eq_nil_of_length_eq_zero hs
    subst this
    refine Ev.step (f := fun _ => some m) (fun k => ?_) (Ev.now _)
    simp only [laws_heldSnapS.l0, mkSn, List.append_nil]
    rw [if_neg (by omega)]
  | succ e ih =>
    intro pre suf m hs hx h1 h2 h3
    cases suf with
    | nil => simp at hs
    | cons a suf =>
      simp only [List.length_cons] at hs h1 h3
      have ha := hx a List.mem_cons_self
      have := ih (pre ++ [(⟨mt m, markI a.f1 (m + 1)⟩ : S47)]) suf (m + 1 + (a.f1.length : Int)) (by omega) (fun y hy => hx y (List.mem_cons_of_mem _ hy)) (by rw [List.length_append, List.length_cons, List.length_nil]; omega) (by omega) (by omega)
      rw [List.append_assoc, List.singleton_append] at this
      simp only [mkSn, mkSe]
      have hrd : rd_T47 (pre ++ (⟨mt m, markI a.f1 (m + 1)⟩ : S47) :: mkSn suf (m + 1 + (a.f1.length : Int))) (pre.length : Int) = (⟨mt m, markI a.f1 (m + 1)⟩ : S47) := by
        unfold rd_T47
        rw [Int.toNat_natCast, List.getD_eq_getElem?_getD, List.getElem?_append_right (Nat.le_refl _), Nat.sub_self]; rfl
      refine Ev.step (f := fun k => (laws_markText.f k m).bind fun tx => if (mt m).toList = tx.toList then ((laws_heldInt64S.f k (markI a.f1 (m + 1)) (m + 1)).bind fun t188 => if t188 < 0 then some (-1) else laws_heldSnapS.l0 k (pre ++ (⟨mt m, markI a.f1 (m + 1)⟩ : S47) :: mkSn suf (m + 1 + (a.f1.length : Int))) t188 ((pre.length + (0 + 1) : Nat) : Int)) else some (-1)) (fun k => ?_) (Ev.bind (mt_ev m h2 (by omega)) ?_)
      · simp only [laws_heldSnapS.l0]
        rw [if_pos (by rw [List.length_append, List.length_cons]; omega), if_pos (by omega), hrd, w64 (a := m + 1) (by omega) (by omega), w64 (a := (pre.length : Int) + 1) (by omega) (by omega), show ((pre.length : Int) + 1) = ((pre.length + (0 + 1) : Nat) : Int) from by omega]
      · simp only [if_true]
        refine Ev.bind (heldI_ev a.f1 (m + 1) (by omega) (by omega) (by omega)) ?_
        simp only [if_neg (show ¬ m + 1 + (a.f1.length : Int) < 0 by omega)]
        simpa only [List.length_append, List.length_cons, List.length_nil] using this
theorem heldU_ev (c a : Int) (nm bk : ByteArray) (tb : List Int) (xs : List ByteArray) (ys : List S47) (htb : tb.length ≤ 1000) (hxs : xs.length ≤ 1000) (hys : ys.length ≤ 1000) (hy : ∀ x, x ∈ ys → x.f1.length ≤ 1000) :
    Ev (fun k => laws_heldUnpacked.f k c a nm bk (markI tb 1) (markB xs (1 + (tb.length : Int))) (mkSn ys (1 + (tb.length : Int) + (xs.length : Int))) 1) (mkSe ys (1 + (tb.length : Int) + (xs.length : Int))) := by
  have hle := mkSe_le ys (1 + (tb.length : Int) + (xs.length : Int)) hy
  unfold laws_heldUnpacked.f laws_heldImage.f
  refine Ev.bind (a := mkSe ys (1 + (tb.length : Int) + (xs.length : Int))) ?_ (by simp only [if_neg (show ¬ mkSe ys (1 + (tb.length : Int) + (xs.length : Int)) < 0 by omega)]; exact Ev.now _)
  refine Ev.bind (heldI_ev tb 1 (by omega) (by omega) (by omega)) ?_
  simp only [if_neg (show ¬ 1 + (tb.length : Int) < 0 by omega)]
  refine Ev.bind (heldB_ev xs (1 + (tb.length : Int)) (by omega) (by omega) (by omega)) ?_
  simp only [if_neg (show ¬ 1 + (tb.length : Int) + (xs.length : Int) < 0 by omega)]
  refine Ev.bind (heldSn_loop ys.length [] ys _ rfl hy (by simp only [List.length_nil]; omega) (by omega) (by omega)) ?_
  simp only [if_neg (show ¬ mkSe ys (1 + (tb.length : Int) + (xs.length : Int)) < 0 by omega)]
  exact Ev.now _
theorem eqU_ev (c a : Int) (nm bk : ByteArray) (tb : List Int) (xs : List ByteArray) (ys : List S47) (h : okI nm bk tb xs ys) : Ev (fun k => laws_eqUnpacked.f k c a nm bk tb xs ys c a nm bk tb xs ys) true := by
  unfold laws_eqUnpacked.f
  simp only [if_true]
  refine Ev.bind (eqIm_ev nm bk tb xs ys h) ?_
  simp only [if_true]
  exact Ev.now _
/-! ### Both readers -/
def imgF (nm bk : ByteArray) (tb : List Int) (xs : List ByteArray) (ys : List S47) : Int := if imgB nm bk tb xs ys = true then 0 else 1
theorem imgF_is : FaultIs imgF := by
  intro nm bk tb xs ys h1 h2 h3 h4 h5 h6
  obtain ⟨K, hK⟩ := sImage_ev (a0 := nm) (a1 := bk) (l2 := tb) (l3 := xs) (l4 := ys) ⟨by omega, by omega, by omega, by omega, by omega, fun y hy => ⟨by have := h6 y hy; omega, by have := h6 y hy; omega⟩⟩
  exact ⟨K, hK K (Nat.le_refl _)⟩
theorem snaps_same (t : ByteArray) (k : Nat) (n : Nat) : ∀ s : RS, sSnaps t k n s = rSnaps t k n s := by
  induction n with
  | zero => intro s; rfl
  | succ n ih => intro s; show ((⟨(rName t s).1, (rTab t k (rName t s).2).1⟩ : S47) :: (sSnaps t k n (rTab t k (rName t s).2).2).1, (sSnaps t k n (rTab t k (rName t s).2).2).2) = _; rw [ih]; rfl
theorem bad_take {t : ByteArray} {s : RS} {q : Int × Int} (h : s.e = some q) (n : Nat) : rTake t s n = (⟨#[]⟩, s) := by unfold rTake; rw [h]
theorem bad_word {t : ByteArray} {s : RS} {q : Int × Int} (h : s.e = some q) : rWord t s = (0, s) := by
  unfold rWord; rw [bad_take h 4]; exact if_neg (by rw [h]; simp)
theorem bad_count {t : ByteArray} {s : RS} {q : Int × Int} (h : s.e = some q) (hi : Int) : rCount t s hi = (0, s) := by
  unfold rCount; rw [bad_word h]; exact if_neg (by rw [h]; simp)
theorem bad_name {t : ByteArray} {s : RS} {q : Int × Int} (h : s.e = some q) : (rName t s).2 = s := by
  unfold rName; rw [bad_take h 1, if_neg (by rw [h]; simp)]
theorem bad_tab {t : ByteArray} {s : RS} {q : Int × Int} (h : s.e = some q) (n : Nat) : (rTab t n s).2 = s := by
  induction n with
  | zero => rfl
  | succ n ih => show (rTab t n (rWord t s).2).2 = s; rw [bad_word h]; exact ih
theorem bad_dat {t : ByteArray} {s : RS} {q : Int × Int} (h : s.e = some q) (n : Nat) : (rDat t n s).2 = s := by
  induction n with
  | zero => rfl
  | succ n ih => show (rDat t n (rTake t s 16).2).2 = s; rw [bad_take h 16]; exact ih
theorem bad_snaps {t : ByteArray} {s : RS} {q : Int × Int} (h : s.e = some q) (k n : Nat) : (rSnaps t k n s).2 = s := by
  induction n with
  | zero => rfl
  | succ n ih => show (rSnaps t k n (rTab t k (rName t s).2).2).2 = s; rw [bad_name h, bad_tab h]; exact ih
theorem bad_end {t : ByteArray} {s : RS} {q : Int × Int} (h : s.e = some q) : rEnd t s = s := by
  unfold rEnd; rw [bad_word h]; exact if_neg (by rw [h]; simp)
/-- Nothing refused yet, or only that the text ended early. -/
def GB (t : ByteArray) (s : RS) : Prop := s.e = none ∨ s.e = some (3, (t.size : Int))
theorem gb_take {t : ByteArray} {s : RS} (h : GB t s) (n : Nat) : GB t (rTake t s n).2 := by
  rcases h with h | h
  · unfold rTake
    rw [h]
    show GB t (if s.p + n ≤ t.size then (t.extract s.p (s.p + n), (⟨s.p + n, none⟩ : RS)) else (⟨#[]⟩, ⟨s.p, some (3, (t.size : Int))⟩)).2
    split
    · exact Or.inl rfl
    · exact Or.inr rfl
  · rw [bad_take h]; exact Or.inr h
theorem gb_word {t : ByteArray} {s : RS} (h : GB t s) : GB t (rWord t s).2 := by
  unfold rWord
  split
  · exact gb_take h 4
  · exact gb_take h 4
theorem gb_name {t : ByteArray} {s : RS} (h : GB t s) : GB t (rName t s).2 := by
  unfold rName
  split
  · exact gb_take (gb_take h 1) _
  · exact gb_take h 1
theorem gb_tab {t : ByteArray} (n : Nat) : ∀ {s : RS}, GB t s → GB t (rTab t n s).2 := by
  induction n with
  | zero => intro s h; exact h
  | succ n ih => intro s h; exact ih (gb_word h)
theorem gb_dat {t : ByteArray} (n : Nat) : ∀ {s : RS}, GB t s → GB t (rDat t n s).2 := by
  induction n with
  | zero => intro s h; exact h
  | succ n ih => intro s h; exact ih (gb_take h 16)
theorem gb_snaps {t : ByteArray} (k n : Nat) : ∀ {s : RS}, GB t s → GB t (rSnaps t k n s).2 := by
  induction n with
  | zero => intro s h; exact h
  | succ n ih => intro s h; exact ih (gb_tab k (gb_name h))
theorem count_ok {t : ByteArray} {s s1 : RS} {a hi : Int} (h : rWord t s = (a, s1)) (he : s1.e = none) (ha : a ≤ hi) : rCount t s hi = (a, s1) := by
  unfold rCount; rw [h]; rw [if_pos he]; exact if_pos ha
theorem count_no {t : ByteArray} {s s1 : RS} {a hi : Int} (h : rWord t s = (a, s1)) (he : s1.e = none) (ha : ¬ a ≤ hi) : rCount t s hi = (0, ⟨s1.p, some (3, (s.p : Int))⟩) := by
  unfold rCount; rw [h]; rw [if_pos he]; dsimp only; rw [if_neg ha]; unfold rFail; rw [he]
theorem count_bad {t : ByteArray} {s s1 : RS} {a hi : Int} (h : rWord t s = (a, s1)) (he : ¬ s1.e = none) : rCount t s hi = (0, s1) := by
  unfold rCount; rw [h]; exact if_neg he
theorem word_bad {t : ByteArray} {s s1 : RS} {a : Int} (h : rWord t s = (a, s1)) (he : ¬ s1.e = none) : a = 0 := by
  unfold rWord at h
  split at h
  · injection h with h1 h2; exact absurd (h2 ▸ (by assumption)) he
  · injection h with h1 h2; exact h1.symm
theorem unpP_bad {t : ByteArray} {n1 n2 n3 : Int} {s1 s2 s3 : RS} {q : Int × Int} (h1 : rCount t ⟨4, none⟩ 64 = (n1, s1)) (h2 : rCount t s1 128 = (n2, s2)) (h3 : rCount t s2 8 = (n3, s3)) (he : s3.e = some q) (hq : q.1 ≠ 0) : unpP t = uNo q.1 q.2 := by
  have hc : rCode s3 = q := by unfold rCode; rw [he]
  unfold unpP
  simp only [h1, h2, h3, bad_name he, bad_tab he, bad_dat he, bad_snaps he, bad_end he, hc]
  exact if_neg hq
theorem specQ_bad {t : ByteArray} {k1 k2 k3 : Nat} {s3 : RS} {q : Int × Int} (he : s3.e = some q) : specQ imgF t k1 k2 k3 s3 = uNo 3 (t.size : Int) := by
  unfold specQ specR
  simp only [snaps_same, bad_name he, bad_tab he, bad_dat he, bad_snaps he, bad_word he]
  exact if_pos (by unfold sh; rw [he]; rfl)
theorem specR_same (t nm bk : ByteArray) (tb : List Int) (xs : List ByteArray) (ys : List S47) (s8 : RS) (hg : GB t s8) (hp : s8.p ≤ t.size) :
    specR imgF t nm bk tb xs ys s8 = if (rCode (rEnd t s8)).1 = 0 then unpM nm bk tb xs ys else uNo (rCode (rEnd t s8)).1 (rCode (rEnd t s8)).2 := by
  have hg9 := gb_word hg
  have hp9 := rWord_p t s8 hp
  obtain ⟨x, s9, hx⟩ : ∃ x s9, rWord t s8 = (x, s9) := ⟨_, _, rfl⟩
  unfold specR rEnd
  rw [hx] at hg9 hp9 ⊢
  dsimp only at hg9 hp9 ⊢
  rcases hg9 with he | he
  · rw [if_neg (show ¬ sh s9 = true by unfold sh; rw [he]; exact Bool.false_ne_true), if_pos he]
    by_cases hl : (s9.p : Int) < (t.size : Int)
    · rw [if_pos hl, if_neg (show ¬ s9.p = t.size by omega)]
      unfold rCode
      exact (if_neg (show ¬ (3 : Int) = 0 by decide)).symm
    · rw [if_neg hl, if_pos (show s9.p = t.size by omega)]
      by_cases hm : x = mix7 (t.extract 0 s8.p)
      · rw [if_pos hm, if_pos hm]
        have hc : rCode s9 = (0, 0) := by unfold rCode; rw [he]
        rw [hc, if_pos rfl]
        unfold imgF unpM
        by_cases hi : imgB nm bk tb xs ys = true
        · rw [if_pos hi, if_pos hi, if_pos rfl]
        · rw [if_neg hi, if_neg hi, if_neg (by decide)]; rfl
      · rw [if_neg hm, if_neg hm]
        unfold rCode
        exact (if_neg (show ¬ (10 : Int) = 0 by decide)).symm
  · rw [if_pos (show sh s9 = true by unfold sh; rw [he]; rfl), if_neg (show ¬ s9.e = none by rw [he]; simp)]
    have hc : rCode s9 = (3, (t.size : Int)) := by unfold rCode; rw [he]
    rw [hc]
    exact (if_neg (show ¬ (3 : Int) = 0 by decide)).symm
theorem specC_same (t : ByteArray) (hp : 4 ≤ t.size) : specC imgF t = unpP t := by
  obtain ⟨a, s1, h1⟩ : ∃ a s, rWord t ⟨4, none⟩ = (a, s) := ⟨_, _, rfl⟩
  obtain ⟨b, s2, h2⟩ : ∃ a s, rWord t s1 = (a, s) := ⟨_, _, rfl⟩
  obtain ⟨c, s3, h3⟩ : ∃ a s, rWord t s2 = (a, s) := ⟨_, _, rfl⟩
  have g1 : GB t s1 := by have := gb_word (t := t) (s := ⟨4, none⟩) (Or.inl rfl); rw [h1] at this; exact this
  have g2 : GB t s2 := by have := gb_word g1; rw [h2] at this; exact this
  have g3 : GB t s3 := by have := gb_word g2; rw [h3] at this; exact this
  have p1 : s1.p ≤ t.size := by have := rWord_p t ⟨4, none⟩ hp; rw [h1] at this; exact this
  have p2 : s2.p ≤ t.size := by have := rWord_p t s1 p1; rw [h2] at this; exact this
  have p3 : s3.p ≤ t.size := by have := rWord_p t s2 p2; rw [h3] at this; exact this
  have r1 := rWord_range t ⟨4, none⟩
  have r2 := rWord_range t s1
  have r3 := rWord_range t s2
  rw [h1] at r1
  rw [h2] at r2
  rw [h3] at r3
  dsimp only at r1 r2 r3
  obtain ⟨a, rfl⟩ : ∃ k : Nat, a = (k : Int) := ⟨a.toNat, by omega⟩
  obtain ⟨b, rfl⟩ : ∃ k : Nat, b = (k : Int) := ⟨b.toNat, by omega⟩
  obtain ⟨c, rfl⟩ : ∃ k : Nat, c = (k : Int) := ⟨c.toNat, by omega⟩
  rcases g1 with e1 | e1
  · by_cases ha : (a : Int) ≤ 64
    · have c1 := count_ok h1 e1 ha
      rcases g2 with e2 | e2
      · by_cases hb : (b : Int) ≤ 128
        · have c2 := count_ok h2 e2 hb
          rcases g3 with e3 | e3
          · by_cases hc : (c : Int) ≤ 8
            · have c3 := count_ok h3 e3 hc
              rw [specC_ok h1 ha h2 hb h3 hc]
              unfold specQ
              rw [specR_same _ _ _ _ _ _ _ (by rw [snaps_same]; exact gb_snaps _ _ (gb_dat _ (gb_tab _ (gb_name (gb_name (Or.inl e3)))))) (by
                rw [snaps_same]
                have q1 := rName_p t s3 p3
                have q2 := rName_p t _ q1
                have q3 := rTab_p t a _ q2
                have q4 : ∀ n s, s.p ≤ t.size → (rDat t n s).2.p ≤ t.size := by
                  intro n
                  induction n with
                  | zero => intro s h; exact h
                  | succ n ih => intro s h; exact ih _ (rTake_p t s 16 h)
                have q5 : ∀ n s, s.p ≤ t.size → (rSnaps t a n s).2.p ≤ t.size := by
                  intro n
                  induction n with
                  | zero => intro s h; exact h
                  | succ n ih => intro s h; exact ih _ (rTab_p t a _ (rName_p t s h))
                exact q5 c _ (q4 b _ q3))]
              unfold unpP
              simp only [c1, c2, c3, snaps_same, Int.toNat_natCast]
            · have c3 := count_no h3 e3 hc
              rw [specC_3 h1 ha h2 hb h3 hc, unpP_bad (q := (3, (s2.p : Int))) c1 c2 c3 rfl (show (3 : Int) ≠ 0 by decide)]
              rfl
          · have z := word_bad h3 (by rw [e3]; simp)
            rw [specC_ok h1 ha h2 hb h3 (by omega), specQ_bad e3, unpP_bad c1 c2 (count_bad h3 (by rw [e3]; simp)) e3 (show (3 : Int) ≠ 0 by decide)]
        · have c2 := count_no h2 e2 hb
          rw [specC_2 h1 ha h2 hb, unpP_bad (q := (3, (s1.p : Int))) c1 c2 (bad_count rfl 8) rfl (show (3 : Int) ≠ 0 by decide)]
          rfl
      · have z := word_bad h2 (by rw [e2]; simp)
        have w3 := bad_word (t := t) e2
        rw [w3] at h3
        injection h3 with h3a h3b
        subst h3b
        rw [specC_ok (c := 0) h1 ha h2 (by omega) w3 (by decide), specQ_bad e2, unpP_bad c1 (count_bad h2 (by rw [e2]; simp)) (bad_count e2 8) e2 (show (3 : Int) ≠ 0 by decide)]
    · have c1 := count_no h1 e1 ha
      rw [specC_1 h1 ha, unpP_bad (q := (3, 4)) c1 (bad_count rfl 128) (bad_count rfl 8) rfl (show (3 : Int) ≠ 0 by decide)]
      rfl
  · have z := word_bad h1 (by rw [e1]; simp)
    have w2 := bad_word (t := t) e1
    rw [specC_ok (b := 0) (c := 0) h1 (by omega) w2 (by decide) w2 (by decide), specQ_bad e1, unpP_bad (count_bad h1 (by rw [e1]; simp)) (bad_count e1 128) (bad_count e1 8) e1 (show (3 : Int) ≠ 0 by decide)]
theorem pre_same (t : ByteArray) : (rTake t ⟨0, none⟩ 4).1.toList = [73, 77, 71, 49] ↔ unpPre t = true := by
  have hs : (((⟨#[73, 77, 71, 49]⟩ : ByteArray).size : Nat) : Int) = 4 := rfl
  unfold unpPre strings_HasPrefix.f stringslite_HasPrefix.f
  rw [hs]
  by_cases h : (t.size : Int) ≥ 4
  · have hr : rTake t ⟨0, none⟩ 4 = (t.extract 0 4, ⟨4, none⟩) := by unfold rTake; exact if_pos (show 0 + 4 ≤ t.size by omega)
    rw [hr, if_pos h, if_pos (by decide), if_pos h]
    show (t.extract 0 4).toList = [73, 77, 71, 49] ↔ ((t.extract 0 4).toList == (⟨#[73, 77, 71, 49]⟩ : ByteArray).toList) = true
    rw [beq_iff_eq, ByteArray.toList_eq (bs := ⟨#[73, 77, 71, 49]⟩)]
  · have hr : rTake t ⟨0, none⟩ 4 = (⟨#[]⟩, ⟨0, some (3, (t.size : Int))⟩) := by unfold rTake; exact if_neg (show ¬ 0 + 4 ≤ t.size by omega)
    rw [hr, if_neg h]
    constructor
    · intro hh
      rw [ByteArray.toList_eq] at hh
      exact absurd (show ([] : List UInt8) = [73, 77, 71, 49] from hh) (by decide)
    · intro hh; exact absurd hh (by simp)
theorem both_same (t : ByteArray) : specP imgF t = (if (t.size : Int) > 65536 then uNo 2 0 else if unpPre t = false then uNo 3 0 else unpP t) := by
  unfold specP
  by_cases hb : (t.size : Int) > 65536
  · rw [if_pos hb, if_pos hb]; rfl
  · rw [if_neg hb, if_neg hb]
    by_cases hp : unpPre t = true
    · rw [if_pos ((pre_same t).mpr hp), if_neg (by rw [hp]; decide)]
      exact specC_same t (unpPre_size hp)
    · rw [if_neg (fun h => hp ((pre_same t).mp h)), if_pos (Bool.eq_false_iff.mpr hp)]; rfl
/-! ### What comes out is small -/
def upRes (t : ByteArray) : UR := if (t.size : Int) > 65536 then uNo 2 0 else if unpPre t = false then uNo 3 0 else unpP t
def Small (r : UR) : Prop := r.2.2.1.size ≤ 65536 ∧ r.2.2.2.1.size ≤ 65536 ∧ r.2.2.2.2.1.length ≤ 1000 ∧ r.2.2.2.2.2.1.length ≤ 1000 ∧ r.2.2.2.2.2.2.length ≤ 1000 ∧ ∀ y, y ∈ r.2.2.2.2.2.2 → y.f0.size ≤ 65536 ∧ y.f1.length ≤ 1000
theorem small_no (c a : Int) : Small (uNo c a) := ⟨Nat.zero_le _, Nat.zero_le _, Nat.zero_le _, Nat.zero_le _, Nat.zero_le _, fun y hy => absurd hy (by show ¬ y ∈ []; simp)⟩
theorem small_M {nm bk : ByteArray} {tb : List Int} {xs : List ByteArray} {ys : List S47} (h1 : nm.size ≤ 65536) (h2 : bk.size ≤ 65536) (h3 : tb.length ≤ 1000) (h4 : xs.length ≤ 1000) (h5 : ys.length ≤ 1000) (h6 : ∀ y, y ∈ ys → y.f0.size ≤ 65536 ∧ y.f1.length ≤ 1000) : Small (unpM nm bk tb xs ys) := by
  unfold unpM
  split
  · exact ⟨h1, h2, h3, h4, h5, h6⟩
  · exact small_no 1 0
theorem upRes_small (t : ByteArray) : Small (upRes t) := by
  unfold upRes
  by_cases hb : (t.size : Int) > 65536
  · rw [if_pos hb]; exact small_no 2 0
  · rw [if_neg hb]
    by_cases hp : unpPre t = false
    · rw [if_pos hp]; exact small_no 3 0
    · rw [if_neg hp]
      have ht : t.size ≤ 65536 := by omega
      unfold unpP
      split
      · have r1 := rCount_range t ⟨4, none⟩ 64 (by decide)
        have r2 := rCount_range t (rCount t ⟨4, none⟩ 64).2 128 (by decide)
        have r3 := rCount_range t (rCount t (rCount t ⟨4, none⟩ 64).2 128).2 8 (by decide)
        refine small_M (Nat.le_trans (rName_size t _) ht) (Nat.le_trans (rName_size t _) ht) ?_ ?_ ?_ ?_
        · rw [rTab_len]; omega
        · rw [rDat_len]; omega
        · have hl : ∀ k n s, (rSnaps t k n s).1.length = n := by
            intro k n
            induction n with
            | zero => intro s; rfl
            | succ n ih => intro s; show ((rSnaps t k n (rTab t k (rName t s).2).2).1.length + 1) = n + 1; rw [ih]
          rw [hl]; omega
        · intro y hy
          have h := sSnaps_ok t (rCount t ⟨4, none⟩ 64).1.toNat (rCount t (rCount t (rCount t ⟨4, none⟩ 64).2 128).2 8).1.toNat _ y (by rw [snaps_same]; exact hy)
          exact ⟨Nat.le_trans h.1 ht, by omega⟩
      · exact small_no _ _
theorem both_res (t : ByteArray) : specP imgF t = upRes t := both_same t
theorem small_okI {r : UR} (h : Small r) : okI r.2.2.1 r.2.2.2.1 r.2.2.2.2.1 r.2.2.2.2.2.1 r.2.2.2.2.2.2 := by
  obtain ⟨h1, h2, h3, h4, h5, h6⟩ := h
  exact ⟨by omega, by omega, by omega, by omega, by omega, fun y hy => ⟨by have := h6 y hy; omega, by have := h6 y hy; omega⟩⟩

end Go.Proofs.YtoifdnnjdohfmaaDoor.Pure
