/- The program's TlbPut returns what the reference's returns, for all arguments. Conditions: none. -/
import Derived.Test.YtjpgelnhmcblmaaQFnExactTlbPutx
import Derived.Test.YtjpgelnhmcblmaaPl
import Derived.Test.YtjpgelnhmcblmaaTFnExactTlbPut
set_option linter.unusedVariables false
set_option linter.unusedSimpArgs false
namespace Go.Proofs.Ytjpgelnhmcblmaa.Pure
open Go.RowKit Go.Proofs.Ytjpgelnhmcblmaa.QFnExactTlbPut Go.Proofs.YtjpgelnhmcblmaaW.PrintWords Go.Proofs.YtjpgelnhmcblmaaW.PrintLast Go.Proofs.Ytjpgelnhmcblmaa.Pl Go.Proofs.YtjpgelnhmcblmaaW.PrintMore
/-- A loop that takes the size of every element off a budget: it ends, below zero or with every element small. -/
theorem sz_loop {α : Type} (d : α) (M : Int) (ok : α → Prop) (L : Nat → List α → Int → Int → Option Int) (g : Nat → α → Int → Option Int)
    (hL : ∀ k xs s i, L (k + 1) xs s i = if i < (xs.length : Int) then (if 0 ≤ i then ((g k (xs.getD i.toNat d) s).bind fun t => (if t < 0 then (some (-1)) else (L k xs t (wrap64 (i + 1))))) else none) else some s)
    (xs : List α) (hlen : (xs.length : Int) ≤ 4611686018427387904)
    (hg : ∀ x s, x ∈ xs → 0 ≤ s → s ≤ M → ∃ t, Ev (fun k => g k x s) t ∧ (t < 0 ∨ (0 ≤ t ∧ t ≤ s ∧ ok x))) (e : Nat) :
    ∀ (j : Nat) (s : Int), 0 ≤ s → s ≤ M → j ≤ xs.length → xs.length - j = e → (∀ q, q < j → ok (xs.getD q d)) → ∃ r, Ev (fun k => L k xs s (j : Int)) r ∧ (r < 0 ∨ (0 ≤ r ∧ r ≤ s ∧ ∀ x, x ∈ xs → ok x)) := by
  induction e with
  | zero =>
    intro j s h0 hM hj he hok
    refine ⟨s, Ev.step (f := fun _ => some s) (fun k => by rw [hL, if_neg (by omega)]) (Ev.now _), Or.inr ⟨h0, Int.le_refl _, fun x hx => ?_⟩⟩
    obtain ⟨q, hq, rfl⟩ := List.getElem_of_mem hx
    have := hok q (by omega)
    rwa [List.getD_eq_getElem?_getD, List.getElem?_eq_getElem hq, Option.getD_some] at this
  | succ e ih =>
    intro j s h0 hM hj he hok
    have hlt : j < xs.length := by omega
    have hmem : xs.getD j d ∈ xs := by
      rw [List.getD_eq_getElem?_getD, List.getElem?_eq_getElem hlt, Option.getD_some]; exact List.getElem_mem hlt
    obtain ⟨t, ht, hc⟩ := hg (xs.getD j d) s hmem h0 hM
    have hs : ∀ k, L (k + 1) xs s (j : Int) = ((g k (xs.getD j d) s).bind fun t => (if t < 0 then (some (-1)) else (L k xs t (wrap64 ((j : Int) + 1))))) := fun k => by
      rw [hL, if_pos (by omega), if_pos (by omega), Int.toNat_natCast]
    by_cases hn : t < 0
    · refine ⟨-1, Ev.step (fun k => hs k) (Ev.bind ht ?_), Or.inl (by omega)⟩
      simp only [if_pos hn]
      exact Ev.now _
    · have hc' := hc.resolve_left hn
      obtain ⟨r, hr, hrc⟩ := ih (j + 1) t hc'.1 (by omega) (by omega) (by omega) (fun q hq => by
        by_cases hqj : q = j
        · subst hqj; exact hc'.2.2
        · exact hok q (by omega))
      refine ⟨r, Ev.step (fun k => hs k) (Ev.bind ht ?_), ?_⟩
      · simp only [if_neg hn]
        rw [w64 (by omega) (by omega), show ((j : Int) + 1) = ((j + 1 : Nat) : Int) from by omega]
        exact hr
      · rcases hrc with h | h
        · exact Or.inl h
        · exact Or.inr ⟨h.1, by omega, h.2.2⟩
/-- A loop that turns every element. -/
theorem to_loop {α β γ : Type} (d : α) (z : β) (mk : γ → β) (c : α → β) (L : Nat → List α → List β → Int → Option (List β)) (g : Nat → α → Option γ)
    (hL : ∀ k xs ys i, L (k + 1) xs ys i = if i < (xs.length : Int) then (if 0 ≤ i then ((g k (xs.getD i.toNat d)).bind fun b => (if i < (ys.length : Int) then (L k xs (ys.set i.toNat (mk b)) (wrap64 (i + 1))) else none)) else none) else some ys)
    (xs : List α) (hlen : (xs.length : Int) ≤ 4611686018427387904)
    (hg : ∀ x, x ∈ xs → ∃ b, Ev (fun k => g k x) b ∧ mk b = c x) (e : Nat) :
    ∀ (j : Nat), j ≤ xs.length → xs.length - j = e → Ev (fun k => L k xs ((xs.take j).map c ++ List.replicate (xs.length - j) z) (j : Int)) (xs.map c) := by
  induction e with
  | zero =>
    intro j hj he
    obtain rfl : j = xs.length := by omega
    refine Ev.step (f := fun _ => some (xs.map c)) (fun k => ?_) (Ev.now _)
    rw [hL, if_neg (by omega), List.take_length, Nat.sub_self, List.replicate_zero, List.append_nil]
  | succ e ih =>
    intro j hj he
    have hlt : j < xs.length := by omega
    have hx : xs.getD j d = xs[j] := by rw [List.getD_eq_getElem?_getD, List.getElem?_eq_getElem hlt, Option.getD_some]
    obtain ⟨b, hb, hbc⟩ := hg xs[j] (List.getElem_mem hlt)
    have hlm : ((xs.take j).map c).length = j := by rw [List.length_map, List.length_take]; omega
    have hly : (((xs.take j).map c ++ List.replicate (xs.length - j) z).length : Int) = (xs.length : Int) := by
      rw [List.length_append, hlm, List.length_replicate]; omega
    have hset : (((xs.take j).map c ++ List.replicate (xs.length - j) z).set j (mk b)) = (xs.take (j + 1)).map c ++ List.replicate (xs.length - (j + 1)) z := by
      rw [List.set_append_right _ _ (by omega), hlm, Nat.sub_self, show xs.length - j = (xs.length - (j + 1)) + 1 from by omega, List.replicate_succ, List.set_cons_zero, hbc, List.take_succ_eq_append_getElem hlt, List.map_append, List.append_assoc]
      rfl
    refine Ev.step (f := fun k => (g k xs[j]).bind fun b => L k xs (((xs.take j).map c ++ List.replicate (xs.length - j) z).set j (mk b)) (((j + 1 : Nat) : Int))) (fun k => ?_) (Ev.bind (f := fun k b => L k xs (((xs.take j).map c ++ List.replicate (xs.length - j) z).set j (mk b)) (((j + 1 : Nat) : Int))) hb ?_)
    · have hlj : (j : Int) < (xs.length : Int) := by omega
      rw [hL, if_pos (by omega), if_pos (by omega), Int.toNat_natCast, hx, hly, w64 (by omega) (by omega)]
      simp only [if_pos hlj]
      rfl
    · rw [hset]
      exact ih (j + 1) (by omega) (by omega)
/-- A loop that asks every pair of elements. -/
theorem eq_loop {α : Type} (d : α) (L : Nat → List α → List α → Int → Option Bool) (g : Nat → α → α → Option Bool)
    (hL : ∀ k xs ys i, L (k + 1) xs ys i = if i < (xs.length : Int) then (if 0 ≤ i then (if i < (ys.length : Int) then ((g k (xs.getD i.toNat d) (ys.getD i.toNat d)).bind fun t => (if t = true then (L k xs ys (wrap64 (i + 1))) else (some false))) else none) else none) else some true)
    (xs : List α) (hlen : (xs.length : Int) ≤ 4611686018427387904)
    (hg : ∀ x, x ∈ xs → Ev (fun k => g k x x) true) (e : Nat) :
    ∀ (j : Nat), j ≤ xs.length → xs.length - j = e → Ev (fun k => L k xs xs (j : Int)) true := by
  induction e with
  | zero =>
    intro j hj he
    exact Ev.step (f := fun _ => some true) (fun k => by rw [hL, if_neg (by omega)]) (Ev.now _)
  | succ e ih =>
    intro j hj he
    have hlt : j < xs.length := by omega
    have hx : xs.getD j d = xs[j] := by rw [List.getD_eq_getElem?_getD, List.getElem?_eq_getElem hlt, Option.getD_some]
    refine Ev.step (f := fun k => (g k xs[j] xs[j]).bind fun t => (if t = true then L k xs xs (((j + 1 : Nat) : Int)) else (some false))) (fun k => ?_) (Ev.bind (f := fun k t => (if t = true then L k xs xs (((j + 1 : Nat) : Int)) else (some false))) (hg xs[j] (List.getElem_mem hlt)) ?_)
    · rw [hL, if_pos (by omega), if_pos (by omega), Int.toNat_natCast, hx, if_pos (by omega), w64 (by omega) (by omega)]
      rfl
    · simp only [if_true]
      exact ih (j + 1) (by omega) (by omega)

def toE (x : S97) : S99 := ⟨x.f0, x.f1, x.f2, x.f3, x.f4⟩
theorem to_all (xs : List S97) (h0 : xs.length ≤ 7036874417766) : Ev (fun k => laws_toTlbEntryS.f k xs) (xs.map toE) := by
  have := to_loop z97 z99 (fun b : Int × Int × Int × Int × Bool => (⟨b.1, b.2.1, b.2.2.1, b.2.2.2.1, b.2.2.2.2⟩ : S99)) toE laws_toTlbEntryS.l0 (fun _ x => laws_toTlbEntry.f x.f0 x.f1 x.f2 x.f3 x.f4) (fun k xs ys i => by simp only [laws_toTlbEntryS.l0]; rfl) xs (by omega) (fun x hx => ⟨_, Ev.now _, rfl⟩) xs.length 0 (Nat.zero_le _) rfl
  refine Ev.congr (fun k => ?_) this
  unfold laws_toTlbEntryS.f
  rw [if_pos (by omega), if_pos (by omega), Int.toNat_natCast]
  rfl
theorem eq_all (xs : List S99) (h0 : xs.length ≤ 7036874417766) : Ev (fun k => laws_eqTlbEntryS.f k xs xs) true := by
  have := eq_loop z99 laws_eqTlbEntryS.l0 (fun _ x y => laws_eqTlbEntry.f x.f0 x.f1 x.f2 x.f3 x.f4 y.f0 y.f1 y.f2 y.f3 y.f4) (fun k xs ys i => by simp only [laws_eqTlbEntryS.l0]; rfl) xs (by omega) (fun x _ => Ev.congr (fun k => by
    have hb : (x.f4 != x.f4) = false := by simp
    unfold laws_eqTlbEntry.f; rw [if_pos rfl, if_pos rfl, if_pos rfl, if_pos rfl, hb, if_neg (by simp)]) (Ev.now _)) xs.length 0 (Nat.zero_le _) rfl
  refine Ev.congr (fun k => ?_) this
  unfold laws_eqTlbEntryS.f
  rw [if_pos rfl]
  rfl
theorem inB_iff (a lo hi : Int) : inB a lo hi = true ↔ lo ≤ a ∧ a ≤ hi := by unfold inB; simp
theorem inB_no (a lo hi : Int) (h : ¬ (lo ≤ a ∧ a ≤ hi)) : inB a lo hi = false := by
  cases hc : inB a lo hi with
  | false => rfl
  | true => exact absurd ((inB_iff _ _ _).mp hc) h
theorem entry_eq (x : S99) : spec_l03TlbEntry.f x.f0 x.f1 x.f2 x.f3 x.f4 = some (tlbOkB x) := by
  unfold spec_l03TlbEntry.f tlbOkB
  by_cases h0 : 0 ≤ x.f0 ∧ x.f0 ≤ 255
  · rw [if_neg (by omega), if_neg (by omega), (inB_iff _ _ _).mpr h0]
    by_cases h1 : 0 ≤ x.f1 ∧ x.f1 ≤ 1023
    · rw [if_neg (by omega), if_neg (by omega), (inB_iff _ _ _).mpr h1]
      by_cases h2 : 0 ≤ x.f2 ∧ x.f2 ≤ 1023
      · rw [if_neg (by omega), if_neg (by omega), (inB_iff _ _ _).mpr h2]
        by_cases h3 : 0 ≤ x.f3 ∧ x.f3 ≤ 255
        · rw [if_neg (by omega), if_neg (by omega), (inB_iff _ _ _).mpr h3]
          cases x.f4
          · rfl
          · simp only [if_true, Bool.true_and, Bool.not_true, Bool.false_or]
            by_cases h : Int.tmod x.f1 32 = 0
            · rw [if_pos h, decide_eq_true h]; rfl
            · rw [if_neg h, decide_eq_false h]; rfl
        · rw [inB_no _ _ _ h3]
          by_cases h : x.f3 < 0
          · rw [if_pos h]; rfl
          · rw [if_neg h, if_pos (by omega)]; rfl
      · rw [inB_no _ _ _ h2]
        by_cases h : x.f2 < 0
        · rw [if_pos h]; rfl
        · rw [if_neg h, if_pos (by omega)]; rfl
    · rw [inB_no _ _ _ h1]
      by_cases h : x.f1 < 0
      · rw [if_pos h]; rfl
      · rw [if_neg h, if_pos (by omega)]; rfl
  · rw [inB_no _ _ _ h0]
    by_cases h : x.f0 < 0
    · rw [if_pos h]; rfl
    · rw [if_neg h, if_pos (by omega)]; rfl
theorem rd99 (xs : List S99) (j : Nat) (hlt : j < xs.length) : rd_T99 xs (j : Int) = xs[j] := by unfold rd_T99; rw [Int.toNat_natCast, List.getD_eq_getElem?_getD, List.getElem?_eq_getElem hlt, Option.getD_some]
theorem tlb_inner (xs : List S99) (n : Int) (hlen : (xs.length : Int) ≤ 16) (y : S99) (j : Nat) (hj : j < xs.length) (r : Int) (h : Ev (fun k => spec_TlbFault.l0 k ((j + 1 : Nat) : Int) xs n) r) (e : Nat) :
    ∀ i : Nat, i ≤ j → j - i = e → Ev (fun k => spec_TlbFault.l1 k (j : Int) (i : Int) xs n y.f0 y.f1 y.f2 y.f3 y.f4) (if ((xs.take j).drop i).any (tlbSame y) = true then 1 else r) := by
  have ej : ((j : Int) + 1) = ((j + 1 : Nat) : Int) := by omega
  have hlj : (xs.take j).length = j := by rw [List.length_take]; omega
  induction e with
  | zero =>
    intro i hi he
    rw [List.drop_eq_nil_of_le (by omega)]
    refine Ev.step (fun k => ?_) h
    simp only [spec_TlbFault.l1]
    rw [if_neg (by omega), w64 (by omega) (by omega), ej]
  | succ e ih =>
    intro i hi he
    have hlt : i < (xs.take j).length := by omega
    have hg : (xs.take j)[i] = xs[i]'(by omega) := List.getElem_take
    rw [List.drop_eq_getElem_cons hlt, List.any_cons, hg]
    have hstep : ∀ k, spec_TlbFault.l1 (k + 1) (j : Int) (i : Int) xs n y.f0 y.f1 y.f2 y.f3 y.f4 = if tlbSame y (xs[i]'(by omega)) = true then some 1 else spec_TlbFault.l1 k (j : Int) ((i + 1 : Nat) : Int) xs n y.f0 y.f1 y.f2 y.f3 y.f4 := by
      intro k
      have ei : ((i : Int) + 1) = ((i + 1 : Nat) : Int) := by omega
      simp only [spec_TlbFault.l1]
      rw [if_pos (by omega), if_pos (by omega), if_pos (by omega), rd99 xs i (by omega), w64 (by omega) (by omega), ei]
      unfold tlbSame
      generalize xs[i]'(by omega) = x
      by_cases h0 : x.f0 = y.f0
      · rw [if_pos h0, decide_eq_true h0]
        by_cases h1 : x.f1 = y.f1
        · rw [if_pos h1, decide_eq_true h1]; rfl
        · rw [if_neg h1, decide_eq_false h1]; rfl
      · rw [if_neg h0, decide_eq_false h0]; rfl
    cases hv : tlbSame y (xs[i]'(by omega)) with
    | true =>
      refine Ev.step (f := fun _ => some 1) (fun k => by rw [hstep, hv, if_pos rfl]) ?_
      rw [Bool.true_or, if_pos rfl]; exact Ev.now _
    | false =>
      refine Ev.step (fun k => by rw [hstep, hv, if_neg (by simp)]) ?_
      rw [Bool.false_or]; exact ih (i + 1) (by omega) (by omega)
theorem tlb_outer (xs : List S99) (n : Int) (hlen : (xs.length : Int) ≤ 16) (e : Nat) : ∀ j : Nat, j ≤ xs.length → xs.length - j = e → Ev (fun k => spec_TlbFault.l0 k (j : Int) xs n) (if ((List.range xs.length).drop j).all (tlbGood xs) = true then 0 else 1) := by
  induction e with
  | zero =>
    intro j hj he
    rw [List.drop_eq_nil_of_le (by simp; omega)]
    exact Ev.step (f := fun _ => some 0) (fun k => by simp only [spec_TlbFault.l0]; rw [if_neg (by omega)]) (Ev.now _)
  | succ e ih =>
    intro j hj he
    have hlt : j < xs.length := by omega
    have hd : (List.range xs.length).drop j = j :: (List.range xs.length).drop (j + 1) := by
      rw [List.drop_eq_getElem_cons (by simpa using hlt)]; simp
    have hy : xs.getD j z99 = xs[j] := by rw [List.getD_eq_getElem?_getD, List.getElem?_eq_getElem hlt, Option.getD_some]
    have hgd : tlbGood xs j = (tlbOkB xs[j] && !((xs.take j).any (tlbSame xs[j]))) := by unfold tlbGood; rw [hy]
    have hin := tlb_inner xs n hlen xs[j] j hlt _ (ih (j + 1) (by omega) (by omega)) j 0 (by omega) (by omega)
    rw [List.drop_zero] at hin
    rw [hd, List.all_cons, hgd]
    have hstep : ∀ k, spec_TlbFault.l0 (k + 1) (j : Int) xs n = if tlbOkB xs[j] = true then spec_TlbFault.l1 k (j : Int) ((0 : Nat) : Int) xs n xs[j].f0 xs[j].f1 xs[j].f2 xs[j].f3 xs[j].f4 else some 1 := by
      intro k
      simp only [spec_TlbFault.l0]
      rw [if_pos (by omega), if_pos (by omega), rd99 xs j hlt, entry_eq, Option.bind_some]
      rfl
    cases hv : tlbOkB xs[j] with
    | false =>
      refine Ev.step (f := fun _ => some 1) (fun k => by rw [hstep, hv, if_neg (by simp)]) ?_
      rw [Bool.false_and, Bool.false_and, if_neg (by simp)]; exact Ev.now _
    | true =>
      refine Ev.step (fun k => by rw [hstep, hv, if_pos rfl]) ?_
      rw [Bool.true_and]
      cases hw : (xs.take j).any (tlbSame xs[j]) with
      | true => rw [hw, if_pos rfl] at hin; rw [Bool.not_true, Bool.false_and, if_neg (by simp)]; exact hin
      | false => rw [hw, if_neg (by simp)] at hin; rw [Bool.not_false, Bool.true_and]; exact hin
theorem tlb_eq (xs : List S99) (n : Int) : ∃ v, impl_TlbFault.f xs n = some v ∧ Ev (fun k => spec_TlbFault.f k xs n) v := by
  have hj0 : Ev (fun k => spec_TlbFault.j0 k true xs n) 1 := Ev.step (f := fun _ => some 1) (fun k => by simp only [spec_TlbFault.j0]; rw [if_pos trivial]) (Ev.now _)
  unfold impl_TlbFault.f spec_TlbFault.f
  by_cases h0 : (xs.length : Int) > 16
  · refine ⟨1, by rw [if_pos h0], ?_⟩
    simp only [if_pos h0]; exact hj0
  · simp only [if_neg h0]
    by_cases h1 : 0 ≤ n ∧ n ≤ 15
    · rw [if_pos ((inB_iff _ _ _).mpr h1)]
      refine ⟨if (List.range xs.length).all (tlbGood xs) = true then 0 else 1, by split <;> rfl, ?_⟩
      have := tlb_outer xs n (by omega) xs.length 0 (Nat.zero_le _) rfl
      rw [List.drop_zero] at this
      have hn1 : ¬ n < 0 := by omega
      have hn2 : ¬ n ≥ 16 := by omega
      simp only [if_neg hn1, decide_eq_false hn2]
      exact Ev.step (fun k => by simp only [spec_TlbFault.j0]; rw [if_neg (by simp)]; rfl) this
    · rw [if_neg (fun h => h1 ((inB_iff _ _ _).mp h))]
      refine ⟨1, rfl, ?_⟩
      by_cases h2 : n < 0
      · simp only [if_pos h2]; exact hj0
      · have h3 : n ≥ 16 := by omega
        simp only [if_neg h2, decide_eq_true h3]; exact hj0
theorem szTlb_eq (xs : List S97) (n : Int) (hlm : xs.length ≤ 9223372036854775807) : ∃ r, laws_szTlb.f xs n 1048576 = some r ∧ (r < 0 ∨ (xs.length : Int) ≤ 1048576) := by
  unfold laws_szTlb.f laws_szTlbEntryS.f
  rw [w64 (by omega) (by omega)]
  by_cases hn : 1048576 - (xs.length : Int) < 0
  · rw [if_pos hn]; exact ⟨-1, by rw [Option.bind_some, if_pos (by omega)], Or.inl (by omega)⟩
  · rw [if_neg hn]; exact ⟨_, by rw [Option.bind_some, if_neg hn], Or.inr (by omega)⟩
theorem toTlb_eq (xs : List S97) (n : Int) (h0 : xs.length ≤ 7036874417766) : Ev (fun k => laws_toTlb.f k xs n) (xs.map toE, n) := Ev.bind (to_all xs h0) (Ev.now _)
theorem eqTlb_eq (xs : List S99) (n : Int) (h0 : xs.length ≤ 7036874417766) : Ev (fun k => laws_eqTlb.f k xs n xs n) true := by
  refine Ev.bind (eq_all xs h0) ?_
  simp only [if_true]
  exact Ev.now _

theorem rdE_set (xs : List S99) (i : Nat) (v : S99) (h : i < xs.length) : rd_T99 (xs.set i v) (i : Int) = v := by
  unfold rd_T99; rw [Int.toNat_natCast, List.getD_eq_getElem?_getD, List.getElem?_set_self h]; rfl
theorem rdE_mid (pre suf : List S99) (v : S99) : rd_T99 (pre ++ v :: suf) (pre.length : Int) = v := by
  unfold rd_T99; rw [Int.toNat_natCast, List.getD_eq_getElem?_getD, List.getElem?_append_right (Nat.le_refl _), Nat.sub_self]; rfl
def markE : List S99 → Int → List S99
  | [], _ => []
  | _ :: xs, m => (⟨m, m + 1, m + 2, m + 3, ((m + 4) % 3 == 0)⟩ : S99) :: markE xs (m + 5)
theorem markE_loop (e : Nat) : ∀ (pre suf : List S99) (m : Int), suf.length = e → (pre.length : Int) + (suf.length : Int) ≤ 1048576 → 0 ≤ m → m + 5 * (suf.length : Int) ≤ 1099511627776 →
    Ev (fun k => laws_markTlbEntryS.l0 k (pre ++ suf) m (pre.length : Int)) (m + 5 * (suf.length : Int), pre ++ markE suf m) := by
  induction e with
  | zero =>
    intro pre suf m hs _ _ _
    have : suf = [] := List.eq_nil_of_length_eq_zero hs
    subst this
    refine Ev.step (f := fun _ => some (m, pre)) (fun k => ?_) ?_
    · simp only [laws_markTlbEntryS.l0, List.append_nil]
      rw [if_neg (by omega)]
    · simp only [List.length_nil, markE, List.append_nil]
      rw [show m + 5 * ((0 : Nat) : Int) = m from by omega]
      exact Ev.now _
  | succ e ih =>
    intro pre suf m hs h1 h2 h3
    cases suf with
    | nil => simp at hs
    | cons a suf =>
      simp only [List.length_cons] at hs h1 h3
      have := ih (pre ++ [(⟨m, m + 1, m + 2, m + 3, ((m + 4) % 3 == 0)⟩ : S99)]) suf (m + 5) (by omega) (by rw [List.length_append, List.length_cons, List.length_nil]; omega) (by omega) (by omega)
      rw [List.append_assoc, List.append_assoc, List.singleton_append, List.singleton_append] at this
      simp only [markE, List.length_cons]
      rw [show m + 5 * ((suf.length + 1 : Nat) : Int) = m + 5 + 5 * (suf.length : Int) from by omega]
      refine Ev.step (fun k => ?_) this
      have hlt : pre.length < (pre ++ a :: suf).length := by rw [List.length_append, List.length_cons]; omega
      have w1 : wrap64 (m + 1) = m + 1 := w64 (by omega) (by omega)
      have w2 : wrap64 (m + 1 + 1) = m + 2 := by rw [w64 (by omega) (by omega)]; omega
      have w3 : wrap64 (m + 2 + 1) = m + 3 := by rw [w64 (by omega) (by omega)]; omega
      have w4 : wrap64 (m + 3 + 1) = m + 4 := by rw [w64 (by omega) (by omega)]; omega
      have w5 : wrap64 (m + 4 + 1) = m + 5 := by rw [w64 (by omega) (by omega)]; omega
      have ht : Int.tmod (m + 4) 3 = (m + 4) % 3 := tmod_nn (by omega)
      simp only [laws_markTlbEntryS.l0, Option.bind_some, Int.toNat_natCast]
      rw [if_pos (by omega), if_pos (by omega)]
      rw [rdE_set _ _ _ hlt, rdE_set _ _ _ (by rw [List.length_set]; exact hlt), rdE_set _ _ _ (by rw [List.length_set, List.length_set]; exact hlt), rdE_set _ _ _ (by rw [List.length_set, List.length_set, List.length_set]; exact hlt)]
      rw [List.set_set, List.set_set, List.set_set, List.set_set, w1, w2, w3, w4, w5, ht]
      rw [List.set_append_right _ _ (Nat.le_refl _), Nat.sub_self, List.set_cons_zero, w64 (a := (pre.length : Int) + 1) (by omega) (by omega), List.length_append, List.length_cons, List.length_nil, show ((pre.length : Int) + 1) = ((pre.length + (0 + 1) : Nat) : Int) from by omega]
theorem heldE_loop (e : Nat) : ∀ (pre suf : List S99) (m : Int), suf.length = e → (pre.length : Int) + (suf.length : Int) ≤ 1048576 → 0 ≤ m → m + 5 * (suf.length : Int) ≤ 1099511627776 →
    Ev (fun k => laws_heldTlbEntryS.l0 k (pre ++ markE suf m) m (pre.length : Int)) (m + 5 * (suf.length : Int)) := by
  induction e with
  | zero =>
    intro pre suf m hs _ _ _
    have : suf = [] := List.eq_nil_of_length_eq_zero hs
    subst this
    refine Ev.step (f := fun _ => some m) (fun k => ?_) ?_
    · simp only [laws_heldTlbEntryS.l0, markE, List.append_nil]
      rw [if_neg (by omega)]
    · rw [List.length_nil, show m + 5 * ((0 : Nat) : Int) = m from by omega]
      exact Ev.now _
  | succ e ih =>
    intro pre suf m hs h1 h2 h3
    cases suf with
    | nil => simp at hs
    | cons a suf =>
      simp only [List.length_cons] at hs h1 h3
      have := ih (pre ++ [(⟨m, m + 1, m + 2, m + 3, ((m + 4) % 3 == 0)⟩ : S99)]) suf (m + 5) (by omega) (by rw [List.length_append, List.length_cons, List.length_nil]; omega) (by omega) (by omega)
      rw [List.append_assoc, List.singleton_append] at this
      simp only [markE, List.length_cons]
      rw [show m + 5 * ((suf.length + 1 : Nat) : Int) = m + 5 + 5 * (suf.length : Int) from by omega]
      refine Ev.step (fun k => ?_) this
      have w1 : wrap64 (m + 1) = m + 1 := w64 (by omega) (by omega)
      have w2 : wrap64 (m + 1 + 1) = m + 2 := by rw [w64 (by omega) (by omega)]; omega
      have w3 : wrap64 (m + 2 + 1) = m + 3 := by rw [w64 (by omega) (by omega)]; omega
      have w4 : wrap64 (m + 3 + 1) = m + 4 := by rw [w64 (by omega) (by omega)]; omega
      have w5 : wrap64 (m + 4 + 1) = m + 5 := by rw [w64 (by omega) (by omega)]; omega
      have ht : Int.tmod (m + 4) 3 = (m + 4) % 3 := tmod_nn (by omega)
      simp only [laws_heldTlbEntryS.l0]
      rw [if_pos (by rw [List.length_append, List.length_cons]; omega), if_pos (by omega), rdE_mid]
      simp only [w1, w2, w3, w4, w5, ht, if_true, bne_self_eq_false, Bool.false_eq_true, if_false]
      rw [w64 (a := (pre.length : Int) + 1) (by omega) (by omega), List.length_append, List.length_cons, List.length_nil, show ((pre.length : Int) + 1) = ((pre.length + (0 + 1) : Nat) : Int) from by omega]
theorem markTlb_ev (xs : List S99) (n : Int) (h : (xs.length : Int) ≤ 1048576) : Ev (fun k => laws_markTlb.f k xs n 1) (1 + 5 * (xs.length : Int), markE xs 1) := by
  unfold laws_markTlb.f
  exact Ev.bind (markE_loop xs.length [] xs 1 rfl (by simp only [List.length_nil]; omega) (by omega) (by omega)) (Ev.now _)
theorem heldTlb_ev (xs : List S99) (n : Int) (h : (xs.length : Int) ≤ 1048576) : Ev (fun k => laws_heldTlb.f k (markE xs 1) n 1) (1 + 5 * (xs.length : Int)) := by
  have c1 : ¬ (1 + 5 * (xs.length : Int)) < 0 := by omega
  unfold laws_heldTlb.f
  refine Ev.bind (heldE_loop xs.length [] xs 1 rfl (by simp only [List.length_nil]; omega) (by omega) (by omega)) ?_
  simp only [if_neg c1]
  exact Ev.now _

theorem fault0 (xs : List S99) (n : Int) (h : impl_TlbFault.f xs n = some 0) : xs.length ≤ 16 ∧ 0 ≤ n ∧ n ≤ 15 := by
  unfold impl_TlbFault.f at h
  by_cases h0 : (xs.length : Int) > 16
  · rw [if_pos h0] at h; exact absurd (Option.some.inj h) (by decide)
  · rw [if_neg h0] at h
    by_cases h1 : inB n 0 15 = true
    · have := (inB_iff _ _ _).mp h1; omega
    · rw [if_neg h1] at h; exact absurd (Option.some.inj h) (by decide)
def putRes (xs : List S99) (n : Int) (e : S99) : List S99 × Int :=
  if idxFrom (tlbSame e) xs 0 ≥ 0 then (xs.set (idxFrom (tlbSame e) xs 0).toNat e, n) else if (xs.length : Int) < 16 then (xs ++ [e], n) else (xs.set n.toNat e, Int.tmod (wrap64 (n + 1)) 16)
theorem putRes_len (xs : List S99) (n : Int) (e : S99) : (putRes xs n e).1.length ≤ xs.length + 1 := by
  unfold putRes
  split
  · simp
  · split
    · simp
    · simp
theorem put_loop (xs : List S99) (n : Int) (e : S99) (hl : xs.length ≤ 16) (hn : 0 ≤ n) (hn2 : n ≤ 15) (d : Nat) : ∀ i : Nat, i ≤ xs.length → xs.length - i = d → (∀ j, j < i → tlbSame e (xs.getD j z99) = false) →
    Ev (fun k => spec_TlbPut.l0 k (i : Int) e.f0 e.f1 e.f2 e.f3 e.f4 xs n) (putRes xs n e) := by
  induction d with
  | zero =>
    intro i hi hd hj
    obtain rfl : i = xs.length := by omega
    have hm := idxFrom_miss (tlbSame e) z99 xs 0 hj
    unfold putRes
    rw [hm, if_neg (by decide)]
    by_cases h16 : (xs.length : Int) < 16
    · rw [if_pos h16]
      refine Ev.step (f := fun _ => some (xs ++ [e], n)) (fun k => ?_) (Ev.now _)
      simp only [spec_TlbPut.l0]
      rw [if_neg (by omega), if_pos h16, if_pos (by omega)]
    · rw [if_neg h16]
      refine Ev.step (f := fun _ => some (xs.set n.toNat e, Int.tmod (wrap64 (n + 1)) 16)) (fun k => ?_) (Ev.now _)
      simp only [spec_TlbPut.l0]
      rw [if_neg (by omega), if_neg h16, if_pos hn, if_pos (by omega)]
  | succ d ih =>
    intro i hi hd hj
    have hlt : i < xs.length := by omega
    have ei : ((i : Int) + 1) = ((i + 1 : Nat) : Int) := by omega
    have hgd : xs.getD i z99 = xs[i] := by rw [List.getD_eq_getElem?_getD, List.getElem?_eq_getElem hlt, Option.getD_some]
    have hstep : ∀ k, spec_TlbPut.l0 (k + 1) (i : Int) e.f0 e.f1 e.f2 e.f3 e.f4 xs n = if tlbSame e xs[i] = true then some (xs.set i e, n) else spec_TlbPut.l0 k ((i + 1 : Nat) : Int) e.f0 e.f1 e.f2 e.f3 e.f4 xs n := by
      intro k
      simp only [spec_TlbPut.l0]
      rw [if_pos (by omega), if_pos (by omega), rd99 xs i hlt, w64 (by omega) (by omega), ei, Int.toNat_natCast]
      unfold tlbSame
      generalize xs[i] = x
      by_cases h0 : x.f0 = e.f0
      · rw [if_pos h0, decide_eq_true h0]
        by_cases h1 : x.f1 = e.f1
        · rw [if_pos h1, decide_eq_true h1]; rfl
        · rw [if_neg h1, decide_eq_false h1]; rfl
      · rw [if_neg h0, decide_eq_false h0]; rfl
    cases hv : tlbSame e xs[i] with
    | true =>
      have hh := idxFrom_hit (tlbSame e) z99 xs 0 i hlt (by rw [hgd]; exact hv) hj
      rw [Nat.zero_add] at hh
      unfold putRes
      rw [hh, if_pos (by omega), Int.toNat_natCast]
      exact Ev.step (f := fun _ => some (xs.set i e, n)) (fun k => by rw [hstep, hv, if_pos rfl]) (Ev.now _)
    | false =>
      refine Ev.step (fun k => by rw [hstep, hv, if_neg (by simp)]) (ih (i + 1) (by omega) (by omega) (fun j hj' => ?_))
      by_cases ej : j = i
      · subst ej; rw [hgd]; exact hv
      · exact hj j (by omega)
theorem put_both (xs : List S99) (n : Int) (e : S99) : ∃ r : List S99 × Int, impl_TlbPut.f xs n e.f0 e.f1 e.f2 e.f3 e.f4 = some r ∧ Ev (fun k => spec_TlbPut.f k xs n e.f0 e.f1 e.f2 e.f3 e.f4) r ∧ r.1.length ≤ 17 := by
  obtain ⟨v, i1, s1⟩ := tlb_eq xs n
  unfold impl_TlbPut.f spec_TlbPut.f
  rw [i1, Option.bind_some]
  by_cases hv : v = 0
  · subst hv
    obtain ⟨hl, hn, hn2⟩ := fault0 xs n i1
    have hl2 : xs.length < 3518437208883 := by omega
    have hl3 : ([] : List S99).length + xs.length < 3518437208883 := by rw [List.length_nil]; omega
    rw [if_pos rfl, if_pos hl2]
    cases ho : tlbOkB e with
    | false =>
      refine ⟨(xs, n), by rw [if_neg (by simp)], ?_, by show xs.length ≤ 17; omega⟩
      refine Ev.bind s1 ?_
      simp only [if_true, if_pos hl3, Option.bind_some, List.nil_append, entry_eq, ho, Bool.false_eq_true, if_false]
      exact Ev.now _
    | true =>
      refine ⟨putRes xs n e, ?_, ?_, by have := putRes_len xs n e; omega⟩
      · rw [if_pos rfl]
        unfold putRes
        split
        · rfl
        · split
          · rfl
          · rw [if_pos ⟨hn, by omega⟩]
      · refine Ev.bind s1 ?_
        simp only [if_true, if_pos hl3, Option.bind_some, List.nil_append, entry_eq, ho]
        have := put_loop xs n e hl hn hn2 xs.length 0 (Nat.zero_le _) rfl (fun j hj => absurd hj (Nat.not_lt_zero _))
        exact this
  · rw [if_neg hv]
    refine ⟨([], 0), rfl, ?_, by simp⟩
    refine Ev.bind s1 ?_
    simp only [if_neg hv]
    exact Ev.now _
theorem FnExactTlbPut : laws_FnExactTlbPut.Pure := by
  intro xs n a b c d f hQ _ _ _ _ _ _
  obtain ⟨hlm, _⟩ := hQ
  refine Ev.rounds (r := true) ?_
  obtain ⟨r, hr, hc⟩ := szTlb_eq xs n hlm
  unfold laws_FnExactTlbPut.f laws_toTlbEntry.f
  refine Ev.bind (Ev.congr (fun _ => hr) (Ev.now r)) ?_
  by_cases hrn : r < 0
  · simp only [if_pos hrn]; exact Ev.now _
  · simp only [if_neg hrn, Option.bind_some]
    have hl : xs.length ≤ 7036874417766 := by omega
    have hl2 : ((xs.map toE).length : Int) ≤ 1048576 := by rw [List.length_map]; omega
    have tov := toTlb_eq xs n hl
    obtain ⟨⟨ys, m⟩, i1, s1, hy⟩ := put_both (xs.map toE) n ⟨a, b, c, d, f⟩
    have eqv := eqTlb_eq ys m (by simp only [] at hy; omega)
    have eq0 := eqTlb_eq (xs.map toE) n (by rw [List.length_map]; exact hl)
    have hm0 := markTlb_ev (xs.map toE) n hl2
    have hm := markTlb_ev ys m (by simp only [] at hy; omega)
    have hh := heldTlb_ev ys m (by simp only [] at hy; omega)
    have c0 : ¬ (1 + 5 * ((xs.map toE).length : Int)) < 0 := by omega
    have c1 : ¬ (1 + 5 * (ys.length : Int)) < 0 := by omega
    have i1' : Ev (fun _ => impl_TlbPut.f (xs.map toE) n a b c d f) (ys, m) := Ev.congr (fun _ => i1) (Ev.now _)
    refine Ev.bind tov (Ev.bind s1 (Ev.bind tov (Ev.bind i1' (Ev.bind eqv ?_))))
    simp only [if_true]
    refine Ev.bind tov (Ev.bind eq0 ?_)
    simp only [if_true]
    refine Ev.bind hm0 ?_
    simp only [if_neg c0]
    refine Ev.bind eqv ?_
    simp only [Bool.not_true]
    refine Ev.step (fun k => by simp only [laws_FnExactTlbPut.j0]; rw [if_neg (by simp)]) ?_
    unfold laws_toTlbEntry.f
    simp only [Option.bind_some]
    refine Ev.bind hm (Ev.bind hh ?_)
    simp only [if_neg c1, if_true]
    refine Ev.bind tov (Ev.bind i1' (Ev.bind eqv ?_))
    simp only [if_true]
    refine Ev.bind hh ?_
    simp only [if_neg c1, if_true]
    exact Ev.now _

end Go.Proofs.Ytjpgelnhmcblmaa.Pure
