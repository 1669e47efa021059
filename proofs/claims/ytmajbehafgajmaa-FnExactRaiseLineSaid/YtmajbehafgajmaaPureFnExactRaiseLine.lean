/- The program's RaiseLine returns what the reference's returns, for all arguments. Conditions: none. -/
import Derived.Test.YtmajbehafgajmaaQFnExactRaiseLinex
import Derived.Test.YtmajbehafgajmaaPl
import Derived.Test.YtmajbehafgajmaaTFnExactRaiseLine
set_option linter.unusedVariables false
set_option linter.unusedSimpArgs false
namespace Go.Proofs.Ytmajbehafgajmaa.Pure
open Go.RowKit Go.Proofs.Ytmajbehafgajmaa.QFnExactRaiseLine Go.Proofs.YtmajbehafgajmaaW.PrintWords Go.Proofs.YtmajbehafgajmaaW.PrintLast Go.Proofs.Ytmajbehafgajmaa.Pl Go.Proofs.YtmajbehafgajmaaW.PrintMore
/-- A loop that takes the size of every element off a budget: it ends, below zero or with every element small. -/
theorem sz_loop {α : Type} (d : α) (M : Int) (ok : α → Prop) (L : Nat → List α → Int → Int → Option Int) (g : Nat → α → Int → Option Int)
    (hL : ∀ k xs s i, L (k + 1) xs s i = if i < (xs.length : Int) then (if 0 ≤ i then ((g k (xs.getD i.toNat d) s).bind fun t => (if t < 0 then (some (-1)) else (L k xs t (wrap64 (i + 1))))) else none) else some s)
    (xs : List α) (hlen : (xs.length : Int) ≤ 4611686018427387904)
    (hg : ∀ x s, x ∈ xs → 0 ≤ s → s ≤ M → ∃ t, Ev (fun k => g k x s) t ∧ (t < 0 ∨ (0 ≤ t ∧ t ≤ s ∧ ok x))) (e : Nat) :
    ∀ (j : Nat) (s : Int), 0 ≤ s → s ≤ M → j ≤ xs.length → xs.length - j = e → (∀ q, q < j → ok (xs.getD q d)) → ∃ r, Ev (fun k => L k xs s (j : Int)) r ∧ (r < 0 ∨ (0 ≤ r ∧ r ≤ s ∧ ∀ x, x ∈ xs → ok x)) := by
  induction e with
  | zero =>
    intro j s h0 hM hj he hok
    refine ⟨s, Ev.step (f := fun _ => some s) (fun k => by rw [hL, if_neg (by omega)]) (Ev.now _), Or.inr ⟨h0, Int.le_refl _, fun x hx => ?_⟩⟩
    obtain ⟨q, hq, rfl⟩ := List.getElem_of_mem hx
    have := hok q (by omega)
    rwa [List.getD_eq_getElem?_getD, List.getElem?_eq_getElem hq, Option.getD_some] at this
  | succ e ih =>
    intro j s h0 hM hj he hok
    have hlt : j < xs.length := by omega
    have hmem : xs.getD j d ∈ xs := by
      rw [List.getD_eq_getElem?_getD, List.getElem?_eq_getElem hlt, Option.getD_some]; exact List.getElem_mem hlt
    obtain ⟨t, ht, hc⟩ := hg (xs.getD j d) s hmem h0 hM
    have hs : ∀ k, L (k + 1) xs s (j : Int) = ((g k (xs.getD j d) s).bind fun t => (if t < 0 then (some (-1)) else (L k xs t (wrap64 ((j : Int) + 1))))) := fun k => by
      rw [hL, if_pos (by omega), if_pos (by omega), Int.toNat_natCast]
    by_cases hn : t < 0
    · refine ⟨-1, Ev.step (fun k => hs k) (Ev.bind ht ?_), Or.inl (by omega)⟩
      simp only [if_pos hn]
      exact Ev.now _
    · have hc' := hc.resolve_left hn
      obtain ⟨r, hr, hrc⟩ := ih (j + 1) t hc'.1 (by omega) (by omega) (by omega) (fun q hq => by
        by_cases hqj : q = j
        · subst hqj; exact hc'.2.2
        · exact hok q (by omega))
      refine ⟨r, Ev.step (fun k => hs k) (Ev.bind ht ?_), ?_⟩
      · simp only [if_neg hn]
        rw [w64 (by omega) (by omega), show ((j : Int) + 1) = ((j + 1 : Nat) : Int) from by omega]
        exact hr
      · rcases hrc with h | h
        · exact Or.inl h
        · exact Or.inr ⟨h.1, by omega, h.2.2⟩
/-- A loop that turns every element. -/
theorem to_loop {α β γ : Type} (d : α) (z : β) (mk : γ → β) (c : α → β) (L : Nat → List α → List β → Int → Option (List β)) (g : Nat → α → Option γ)
    (hL : ∀ k xs ys i, L (k + 1) xs ys i = if i < (xs.length : Int) then (if 0 ≤ i then ((g k (xs.getD i.toNat d)).bind fun b => (if i < (ys.length : Int) then (L k xs (ys.set i.toNat (mk b)) (wrap64 (i + 1))) else none)) else none) else some ys)
    (xs : List α) (hlen : (xs.length : Int) ≤ 4611686018427387904)
    (hg : ∀ x, x ∈ xs → ∃ b, Ev (fun k => g k x) b ∧ mk b = c x) (e : Nat) :
    ∀ (j : Nat), j ≤ xs.length → xs.length - j = e → Ev (fun k => L k xs ((xs.take j).map c ++ List.replicate (xs.length - j) z) (j : Int)) (xs.map c) := by
  induction e with
  | zero =>
    intro j hj he
    obtain rfl : j = xs.length := by omega
    refine Ev.step (f := fun _ => some (xs.map c)) (fun k => ?_) (Ev.now _)
    rw [hL, if_neg (by omega), List.take_length, Nat.sub_self, List.replicate_zero, List.append_nil]
  | succ e ih =>
    intro j hj he
    have hlt : j < xs.length := by omega
    have hx : xs.getD j d = xs[j] := by rw [List.getD_eq_getElem?_getD, List.getElem?_eq_getElem hlt, Option.getD_some]
    obtain ⟨b, hb, hbc⟩ := hg xs[j] (List.getElem_mem hlt)
    have hlm : ((xs.take j).map c).length = j := by rw [List.length_map, List.length_take]; omega
    have hly : (((xs.take j).map c ++ List.replicate (xs.length - j) z).length : Int) = (xs.length : Int) := by
      rw [List.length_append, hlm, List.length_replicate]; omega
    have hset : (((xs.take j).map c ++ List.replicate (xs.length - j) z).set j (mk b)) = (xs.take (j + 1)).map c ++ List.replicate (xs.length - (j + 1)) z := by
      rw [List.set_append_right _ _ (by omega), hlm, Nat.sub_self, show xs.length - j = (xs.length - (j + 1)) + 1 from by omega, List.replicate_succ, List.set_cons_zero, hbc, List.take_succ_eq_append_getElem hlt, List.map_append, List.append_assoc]
      rfl
    refine Ev.step (f := fun k => (g k xs[j]).bind fun b => L k xs (((xs.take j).map c ++ List.replicate (xs.length - j) z).set j (mk b)) (((j + 1 : Nat) : Int))) (fun k => ?_) (Ev.bind (f := fun k b => L k xs (((xs.take j).map c ++ List.replicate (xs.length - j) z).set j (mk b)) (((j + 1 : Nat) : Int))) hb ?_)
    · have hlj : (j : Int) < (xs.length : Int) := by omega
      rw [hL, if_pos (by omega), if_pos (by omega), Int.toNat_natCast, hx, hly, w64 (by omega) (by omega)]
      simp only [if_pos hlj]
      rfl
    · rw [hset]
      exact ih (j + 1) (by omega) (by omega)
/-- A loop that asks every pair of elements. -/
theorem eq_loop {α : Type} (d : α) (L : Nat → List α → List α → Int → Option Bool) (g : Nat → α → α → Option Bool)
    (hL : ∀ k xs ys i, L (k + 1) xs ys i = if i < (xs.length : Int) then (if 0 ≤ i then (if i < (ys.length : Int) then ((g k (xs.getD i.toNat d) (ys.getD i.toNat d)).bind fun t => (if t = true then (L k xs ys (wrap64 (i + 1))) else (some false))) else none) else none) else some true)
    (xs : List α) (hlen : (xs.length : Int) ≤ 4611686018427387904)
    (hg : ∀ x, x ∈ xs → Ev (fun k => g k x x) true) (e : Nat) :
    ∀ (j : Nat), j ≤ xs.length → xs.length - j = e → Ev (fun k => L k xs xs (j : Int)) true := by
  induction e with
  | zero =>
    intro j hj he
    exact Ev.step (f := fun _ => some true) (fun k => by rw [hL, if_neg (by omega)]) (Ev.now _)
  | succ e ih =>
    intro j hj he
    have hlt : j < xs.length := by omega
    have hx : xs.getD j d = xs[j] := by rw [List.getD_eq_getElem?_getD, List.getElem?_eq_getElem hlt, Option.getD_some]
    refine Ev.step (f := fun k => (g k xs[j] xs[j]).bind fun t => (if t = true then L k xs xs (((j + 1 : Nat) : Int)) else (some false))) (fun k => ?_) (Ev.bind (f := fun k t => (if t = true then L k xs xs (((j + 1 : Nat) : Int)) else (some false))) (hg xs[j] (List.getElem_mem hlt)) ?_)
    · rw [hL, if_pos (by omega), if_pos (by omega), Int.toNat_natCast, hx, if_pos (by omega), w64 (by omega) (by omega)]
      rfl
    · simp only [if_true]
      exact ih (j + 1) (by omega) (by omega)

theorem toInt64S_ends (l : List Int) (hl : (l.length : Int) ≤ 1048576) (d : Nat) : ∀ (i : Nat) (m : List Int), i + d = l.length → m.length = l.length → (∀ j, j < i → m.getD j 0 = l.getD j 0) → Ev (fun k => laws_toInt64S.l0 k l m i) l := by
  induction d with
  | zero =>
    intro i m hi hm hj
    have e : m = l := by
      refine List.ext_getElem hm (fun j h1 h2 => ?_)
      have := hj j (by omega)
      rw [List.getD_eq_getElem?_getD, List.getD_eq_getElem?_getD, List.getElem?_eq_getElem h1, List.getElem?_eq_getElem h2] at this
      simpa using this
    exact Ev.step (f := fun _ => some l) (fun k => by simp only [laws_toInt64S.l0]; rw [if_neg (by omega), e]) (Ev.now _)
  | succ d ih =>
    intro i m hi hm hj
    refine Ev.step (fun k => ?_) (ih (i + 1) (m.set i (rd l i)) (by omega) (by simpa using hm) (fun j hji => ?_))
    · simp only [laws_toInt64S.l0]
      rw [if_pos (by omega), if_pos (by omega), if_pos (by omega), w64 (a := (i : Int) + 1) (by omega) (by omega), Int.toNat_natCast]
      have e1 : ((i : Int) + 1) = ((i + 1 : Nat) : Int) := by omega
      rw [e1]
    · by_cases e : j = i
      · subst e
        rw [List.getD_eq_getElem?_getD, List.getElem?_set_self (by omega)]
        unfold rd; rw [Int.toNat_natCast]; rfl
      · rw [List.getD_eq_getElem?_getD, List.getElem?_set_ne (by omega), ← List.getD_eq_getElem?_getD]
        exact hj j (by omega)
theorem toInt64S_ev (l : List Int) (hl : (l.length : Int) ≤ 1048576) : Ev (fun k => laws_toInt64S.f k l) l := by
  refine Ev.congr (fun k => ?_) (toInt64S_ends l hl l.length 0 (List.replicate l.length 0) (by omega) (by simp) (fun j hj => absurd hj (Nat.not_lt_zero _)))
  unfold laws_toInt64S.f
  rw [if_pos (by omega), if_pos (by omega), Int.toNat_natCast]; rfl
theorem eqInt64S_ends (l : List Int) (hl : (l.length : Int) ≤ 1048576) (d : Nat) : ∀ i : Nat, i + d = l.length → Ev (fun k => laws_eqInt64S.l0 k l l i) true := by
  induction d with
  | zero =>
    intro i hi
    exact Ev.step (f := fun _ => some true) (fun k => by simp only [laws_eqInt64S.l0]; rw [if_neg (by omega)]) (Ev.now _)
  | succ d ih =>
    intro i hi
    refine Ev.step (fun k => ?_) (ih (i + 1) (by omega))
    simp only [laws_eqInt64S.l0]
    rw [if_pos (by omega), if_pos (by omega), if_pos (by omega), if_pos trivial, w64 (a := (i : Int) + 1) (by omega) (by omega)]
    have e1 : ((i : Int) + 1) = ((i + 1 : Nat) : Int) := by omega
    rw [e1]
theorem eqInt64S_ev (l : List Int) (hl : (l.length : Int) ≤ 1048576) : Ev (fun k => laws_eqInt64S.f k l l) true := by
  refine Ev.congr (fun k => ?_) (eqInt64S_ends l hl l.length 0 (by omega))
  unfold laws_eqInt64S.f
  rw [if_pos rfl]; rfl

theorem inB_iff (a lo hi : Int) : inB a lo hi = true ↔ lo ≤ a ∧ a ≤ hi := by unfold inB; simp
theorem inB_no (a lo hi : Int) (h : ¬ (lo ≤ a ∧ a ≤ hi)) : inB a lo hi = false := by
  cases hc : inB a lo hi with
  | false => rfl
  | true => exact absurd ((inB_iff _ _ _).mp hc) h
theorem mem_eq (s : ByteArray) : spec_MemFault.f s = some (if memB s = true then 0 else 1) := by
  unfold spec_MemFault.f memB
  by_cases h0 : (s.size : Int) = 0
  · rw [if_pos h0, decide_eq_false (by omega), Bool.false_and, if_neg (by simp)]
  · rw [if_neg h0]
    by_cases h1 : (s.size : Int) % 256 = 0
    · rw [if_pos h1, decide_eq_true (p := 256 ≤ (s.size : Int)) (by omega), h1]
      by_cases h2 : (s.size : Int) > 65536
      · rw [if_pos h2, decide_eq_false (by omega)]; rfl
      · rw [if_neg h2, decide_eq_true (by omega)]; rfl
    · have h3 : (((s.size : Int) % 256) == 0) = false := beq_eq_false_iff_ne.mpr h1
      rw [if_neg h1, h3, Bool.and_false, Bool.and_false, if_neg (by simp)]
theorem isWord_eq (n : Int) : spec_l01IsWord.f n = some (wordB n) := by
  unfold spec_l01IsWord.f wordB
  by_cases h : n ≥ 0
  · rw [if_pos h, decide_eq_true h]; rfl
  · rw [if_neg h, decide_eq_false h]; rfl
theorem rdAt (xs : List Int) (j : Nat) (hlt : j < xs.length) : rd xs (j : Int) = xs[j] := by unfold rd; rw [Int.toNat_natCast, List.getD_eq_getElem?_getD, List.getElem?_eq_getElem hlt, Option.getD_some]
theorem words_loop (xs : List Int) (n : Int) (hn : (xs.length : Int) = n) (hlen : xs.length ≤ 100) (e : Nat) : ∀ j : Nat, j ≤ xs.length → xs.length - j = e → Ev (fun k => spec_l04Words.l0 k xs n (j : Int)) (!((xs.drop j).any wordBad)) := by
  induction e with
  | zero =>
    intro j hj he
    rw [List.drop_eq_nil_of_le (by omega)]
    exact Ev.step (f := fun _ => some true) (fun k => by simp only [spec_l04Words.l0]; rw [if_neg (by omega)]) (Ev.now _)
  | succ e ih =>
    intro j hj he
    have hlt : j < xs.length := by omega
    rw [List.drop_eq_getElem_cons hlt, List.any_cons]
    have hstep : ∀ k, spec_l04Words.l0 (k + 1) xs n (j : Int) = if wordBad xs[j] = true then some false else spec_l04Words.l0 k xs n (((j + 1 : Nat) : Int)) := by
      intro k
      simp only [spec_l04Words.l0]
      rw [if_pos (by omega), if_pos (by omega), if_pos (by omega), rdAt xs j hlt, isWord_eq, Option.bind_some, w64 (by omega) (by omega)]
      unfold wordB wordBad
      cases (decide (0 ≤ xs[j]) && decide (xs[j] < 4294967296)) <;> rfl
    cases hv : wordBad xs[j] with
    | true =>
      refine Ev.step (f := fun _ => some false) (fun k => by rw [hstep, hv, if_pos rfl]) ?_
      rw [Bool.true_or]; exact Ev.now _
    | false =>
      refine Ev.step (fun k => by rw [hstep, hv, if_neg (by simp)]) ?_
      rw [Bool.false_or]; exact ih (j + 1) (by omega) (by omega)
theorem words_ev (xs : List Int) (n : Int) (hn : n ≤ 100) : Ev (fun k => spec_l04Words.f k xs n) (wordsB xs n) := by
  unfold spec_l04Words.f wordsB
  by_cases h : (xs.length : Int) = n
  · simp only [if_pos h, decide_eq_true h, Bool.true_and]
    have := words_loop xs n h (by omega) xs.length 0 (Nat.zero_le _) rfl
    rw [List.drop_zero] at this
    exact this
  · simp only [if_neg h, decide_eq_false h, Bool.false_and]
    exact Ev.now _
theorem rd185 (xs : List S185) (j : Nat) (hlt : j < xs.length) : rd_T185 xs (j : Int) = xs[j] := by unfold rd_T185; rw [Int.toNat_natCast, List.getD_eq_getElem?_getD, List.getElem?_eq_getElem hlt, Option.getD_some]
theorem ports_loop (xs : List S185) (hlen : xs.length ≤ 100) (e : Nat) : ∀ j : Nat, j ≤ xs.length → xs.length - j = e → Ev (fun k => spec_l04Ports.l0 k xs (j : Int)) (!((xs.drop j).any portsOkBad)) := by
  induction e with
  | zero =>
    intro j hj he
    rw [List.drop_eq_nil_of_le (by omega)]
    exact Ev.step (f := fun _ => some true) (fun k => by simp only [spec_l04Ports.l0]; rw [if_neg (by omega)]) (Ev.now _)
  | succ e ih =>
    intro j hj he
    have hlt : j < xs.length := by omega
    rw [List.drop_eq_getElem_cons hlt, List.any_cons]
    have hstep : ∀ k, spec_l04Ports.l0 (k + 1) xs (j : Int) = if portsOkBad xs[j] = true then some false else spec_l04Ports.l0 k xs (((j + 1 : Nat) : Int)) := by
      intro k
      simp only [spec_l04Ports.l0]
      rw [if_pos (by omega), if_pos (by omega), rd185 xs j hlt, isWord_eq, Option.bind_some, w64 (by omega) (by omega)]
      unfold wordB portsOkBad
      by_cases h0 : xs[j].f0 < 0
      · rw [if_pos h0, decide_eq_false (p := 0 ≤ xs[j].f0) (by omega)]; rfl
      · rw [if_neg h0, decide_eq_true (p := 0 ≤ xs[j].f0) (by omega)]
        by_cases h1 : xs[j].f0 > 2047
        · rw [if_pos h1, decide_eq_false (p := xs[j].f0 ≤ 2047) (by omega)]; rfl
        · rw [if_neg h1, decide_eq_true (p := xs[j].f0 ≤ 2047) (by omega)]
          cases (decide (0 ≤ xs[j].f1) && decide (xs[j].f1 < 4294967296)) <;> rfl
    cases hv : portsOkBad xs[j] with
    | true =>
      refine Ev.step (f := fun _ => some false) (fun k => by rw [hstep, hv, if_pos rfl]) ?_
      rw [Bool.true_or]; exact Ev.now _
    | false =>
      refine Ev.step (fun k => by rw [hstep, hv, if_neg (by simp)]) ?_
      rw [Bool.false_or]; exact ih (j + 1) (by omega) (by omega)
theorem ports_ev (xs : List S185) : Ev (fun k => spec_l04Ports.f k xs) (portsB xs) := by
  unfold spec_l04Ports.f portsB
  by_cases h : (xs.length : Int) > 100
  · have h' : ¬ (xs.length : Int) ≤ 100 := by omega
    simp only [if_pos h, decide_eq_false h', Bool.false_and]
    exact Ev.now _
  · have h' : (xs.length : Int) ≤ 100 := by omega
    simp only [if_neg h, decide_eq_true h', Bool.true_and]
    have := ports_loop xs (by omega) xs.length 0 (Nat.zero_le _) rfl
    rw [List.drop_zero] at this
    exact this
def toP (x : S187) : S185 := ⟨x.f0, x.f1⟩
theorem toPorts_all (xs : List S187) (h0 : xs.length ≤ 1048576) : Ev (fun k => laws_toPortValueS.f k xs) (xs.map toP) := by
  have := to_loop z187 z185 (fun b : Int × Int => (⟨b.1, b.2⟩ : S185)) toP laws_toPortValueS.l0 (fun _ x => laws_toPortValue.f x.f0 x.f1) (fun k xs ys i => by simp only [laws_toPortValueS.l0]; rfl) xs (by omega) (fun x hx => ⟨_, Ev.now _, rfl⟩) xs.length 0 (Nat.zero_le _) rfl
  refine Ev.congr (fun k => ?_) this
  unfold laws_toPortValueS.f
  rw [if_pos (by omega), if_pos (by omega), Int.toNat_natCast]
  rfl
theorem eqPorts_all (xs : List S185) (h0 : xs.length ≤ 1048576) : Ev (fun k => laws_eqPortValueS.f k xs xs) true := by
  have := eq_loop z185 laws_eqPortValueS.l0 (fun _ x y => laws_eqPortValue.f x.f0 x.f1 y.f0 y.f1) (fun k xs ys i => by simp only [laws_eqPortValueS.l0]; rfl) xs (by omega) (fun x _ => Ev.congr (fun k => by unfold laws_eqPortValue.f; rw [if_pos rfl, if_pos rfl]) (Ev.now _)) xs.length 0 (Nat.zero_le _) rfl
  refine Ev.congr (fun k => ?_) this
  unfold laws_eqPortValueS.f
  rw [if_pos rfl]
  rfl
/-- The last tests: the control words and the ports. -/
def lastB (c : List Int) (p q : List S185) : Bool := decide (rd c 0 < 32) && ((rd c 8 == 0) && ((rd c 9 == 0) && ((rd c 11 == 0) && (portsB p && portsB q))))
theorem j1_ev (pc : Int) (r : List Int) (mo : Int) (c v : List Int) (m : ByteArray) (st co li : Int) (p q : List S185) (tr : Int) (hc : (c.length : Int) = 12) :
    Ev (fun k => spec_MachineFault.j1 k false pc r mo c v m st co li p q tr) (if lastB c p q = true then 0 else 1) := by
  have stop : Ev (fun _ => some (1 : Int)) 1 := Ev.now 1
  unfold lastB
  by_cases h0 : rd c 0 < 32
  · have n0 : ¬ rd c 0 ≥ 32 := by omega
    by_cases h8 : rd c 8 = 0
    · by_cases h9 : rd c 9 = 0
      · by_cases h11 : rd c 11 = 0
        · refine Ev.step (f := fun k => (spec_l04Ports.f k p).bind fun t138 => (if t138 = true then ((spec_l04Ports.f k q).bind fun t139 => (if t139 = true then (some 0) else (some 1))) else (some 1))) (fun k => ?_) ?_
          · simp only [spec_MachineFault.j1]
            rw [if_neg (by simp), if_pos (by omega), if_neg n0, if_pos (by omega), if_pos h8, if_pos (by omega), if_pos h9, if_pos (by omega), if_pos h11]
          · rw [decide_eq_true h0, h8, h9, h11]
            refine Ev.bind (ports_ev p) ?_
            cases portsB p with
            | false => simp only [Bool.false_eq_true, if_false]; exact Ev.now _
            | true =>
              simp only [if_true]
              refine Ev.bind (ports_ev q) ?_
              cases portsB q with
              | false => simp only [Bool.false_eq_true, if_false]; exact Ev.now _
              | true => simp only [if_true]; exact Ev.now _
        · have b : (rd c 11 == 0) = false := beq_eq_false_iff_ne.mpr h11
          rw [b, Bool.false_and, Bool.and_false, Bool.and_false, Bool.and_false, if_neg (by simp)]
          refine Ev.step (fun k => ?_) stop
          simp only [spec_MachineFault.j1]
          rw [if_neg (by simp), if_pos (by omega), if_neg n0, if_pos (by omega), if_pos h8, if_pos (by omega), if_pos h9, if_pos (by omega), if_neg h11]
      · have b : (rd c 9 == 0) = false := beq_eq_false_iff_ne.mpr h9
        rw [b, Bool.false_and, Bool.and_false, Bool.and_false, if_neg (by simp)]
        refine Ev.step (fun k => ?_) stop
        simp only [spec_MachineFault.j1]
        rw [if_neg (by simp), if_pos (by omega), if_neg n0, if_pos (by omega), if_pos h8, if_pos (by omega), if_neg h9]
    · have b : (rd c 8 == 0) = false := beq_eq_false_iff_ne.mpr h8
      rw [b, Bool.false_and, Bool.and_false, if_neg (by simp)]
      refine Ev.step (fun k => ?_) stop
      simp only [spec_MachineFault.j1]
      rw [if_neg (by simp), if_pos (by omega), if_neg n0, if_pos (by omega), if_neg h8]
  · rw [decide_eq_false h0, Bool.false_and, if_neg (by simp)]
    refine Ev.step (fun k => ?_) stop
    simp only [spec_MachineFault.j1]
    rw [if_neg (by simp), if_pos (by omega), if_pos (by omega)]
theorem j1_stop (pc : Int) (r : List Int) (mo : Int) (c v : List Int) (m : ByteArray) (st co li : Int) (p q : List S185) (tr : Int) : Ev (fun k => spec_MachineFault.j1 k true pc r mo c v m st co li p q tr) 1 :=
  Ev.step (f := fun _ => some 1) (fun k => by simp only [spec_MachineFault.j1]; rw [if_pos trivial]) (Ev.now _)
theorem j0_stop (pc : Int) (r : List Int) (mo : Int) (c v : List Int) (m : ByteArray) (st co li : Int) (p q : List S185) (tr : Int) : Ev (fun k => spec_MachineFault.j0 k true pc r mo c v m st co li p q tr) 1 :=
  Ev.step (f := fun _ => some 1) (fun k => by simp only [spec_MachineFault.j0]; rw [if_pos trivial]) (Ev.now _)
def midB (mo st co li tr : Int) : Bool := inB mo 0 1 && (inB st 0 2 && (inB co 0 1099511627776 && (inB li 0 127 && inB tr 0 2147483628)))
theorem j0_ev (pc : Int) (r : List Int) (mo : Int) (c v : List Int) (m : ByteArray) (st co li : Int) (p q : List S185) (tr : Int) (hc : (c.length : Int) = 12) :
    Ev (fun k => spec_MachineFault.j0 k false pc r mo c v m st co li p q tr) (if (midB mo st co li tr && lastB c p q) = true then 0 else 1) := by
  have stop := j1_stop pc r mo c v m st co li p q tr
  unfold midB
  by_cases h0 : 0 ≤ mo ∧ mo ≤ 1
  · have a0 : ¬ mo < 0 := by omega
    have a1 : ¬ mo > 1 := by omega
    by_cases h1 : 0 ≤ st ∧ st ≤ 2
    · have b0 : ¬ st < 0 := by omega
      have b1 : ¬ st > 2 := by omega
      by_cases h2 : 0 ≤ co ∧ co ≤ 1099511627776
      · have c0 : ¬ co < 0 := by omega
        have c1 : ¬ co > 1099511627776 := by omega
        by_cases h3 : 0 ≤ li ∧ li ≤ 127
        · have d0 : ¬ li < 0 := by omega
          have d1 : ¬ li > 127 := by omega
          by_cases h4 : 0 ≤ tr ∧ tr ≤ 2147483628
          · have e0 : ¬ tr < 0 := by omega
            have e1 : ¬ tr ≥ 2147483629 := by omega
            rw [(inB_iff _ _ _).mpr h0, (inB_iff _ _ _).mpr h1, (inB_iff _ _ _).mpr h2, (inB_iff _ _ _).mpr h3, (inB_iff _ _ _).mpr h4]
            simp only [Bool.true_and]
            refine Ev.step (fun k => ?_) (j1_ev pc r mo c v m st co li p q tr hc)
            simp only [spec_MachineFault.j0]
            rw [if_neg (by simp), if_neg a0, if_neg a1, if_neg b0, if_neg b1, if_neg c0, if_neg c1, if_neg d0, if_neg d1, if_neg e0, decide_eq_false e1]
          · rw [inB_no _ _ _ h4, Bool.and_false, Bool.and_false, Bool.and_false, Bool.and_false, Bool.false_and, if_neg (by simp)]
            refine Ev.step (fun k => ?_) stop
            simp only [spec_MachineFault.j0]
            rw [if_neg (by simp), if_neg a0, if_neg a1, if_neg b0, if_neg b1, if_neg c0, if_neg c1, if_neg d0, if_neg d1]
            by_cases h : tr < 0
            · rw [if_pos h]
            · rw [if_neg h, decide_eq_true (by omega)]
        · rw [inB_no _ _ _ h3, Bool.false_and, Bool.and_false, Bool.and_false, Bool.and_false, Bool.false_and, if_neg (by simp)]
          refine Ev.step (fun k => ?_) stop
          simp only [spec_MachineFault.j0]
          rw [if_neg (by simp), if_neg a0, if_neg a1, if_neg b0, if_neg b1, if_neg c0, if_neg c1]
          by_cases h : li < 0
          · rw [if_pos h]
          · rw [if_neg h, if_pos (by omega)]
      · rw [inB_no _ _ _ h2, Bool.false_and, Bool.and_false, Bool.and_false, Bool.false_and, if_neg (by simp)]
        refine Ev.step (fun k => ?_) stop
        simp only [spec_MachineFault.j0]
        rw [if_neg (by simp), if_neg a0, if_neg a1, if_neg b0, if_neg b1]
        by_cases h : co < 0
        · rw [if_pos h]
        · rw [if_neg h, if_pos (by omega)]
    · rw [inB_no _ _ _ h1, Bool.false_and, Bool.and_false, Bool.false_and, if_neg (by simp)]
      refine Ev.step (fun k => ?_) stop
      simp only [spec_MachineFault.j0]
      rw [if_neg (by simp), if_neg a0, if_neg a1]
      by_cases h : st < 0
      · rw [if_pos h]
      · rw [if_neg h, if_pos (by omega)]
  · rw [inB_no _ _ _ h0, Bool.false_and, Bool.false_and, if_neg (by simp)]
    refine Ev.step (fun k => ?_) stop
    simp only [spec_MachineFault.j0]
    rw [if_neg (by simp)]
    by_cases h : mo < 0
    · rw [if_pos h]
    · rw [if_neg h, if_pos (by omega)]
theorem wordsB_len' {l : List Int} {n : Int} (h : wordsB l n = true) : (l.length : Int) = n := by
  unfold wordsB at h
  rw [Bool.and_eq_true] at h
  exact of_decide_eq_true h.1
theorem spec_machine_ev (pc : Int) (r : List Int) (mo : Int) (c v : List Int) (m : ByteArray) (st co li : Int) (p q : List S185) (tr : Int) :
    Ev (fun k => spec_MachineFault.f k pc r mo c v m st co li p q tr) (if (memB m && (wordB pc && (wordsB r 16 && ((rd r 0 == 0) && (wordsB c 12 && (wordsB v 16 && (midB mo st co li tr && lastB c p q))))))) = true then 0 else 1) := by
  have stop := j0_stop pc r mo c v m st co li p q tr
  unfold spec_MachineFault.f
  simp only [mem_eq, isWord_eq, Option.bind_some]
  cases memB m with
  | false => simp only [Bool.false_and, Bool.false_eq_true, if_false, if_neg (show ¬ (1 : Int) = 0 by decide)]; exact stop
  | true =>
    simp only [if_true, Bool.true_and]
    cases wordB pc with
    | false => simp only [Bool.false_and, Bool.false_eq_true, if_false]; exact stop
    | true =>
      simp only [if_true, Bool.true_and]
      refine Ev.bind (words_ev r 16 (by omega)) ?_
      cases hr : wordsB r 16 with
      | false => simp only [Bool.false_and, Bool.false_eq_true, if_false]; exact stop
      | true =>
        have hrl := wordsB_len' hr
        have hr0 : 0 < (r.length : Int) := by omega
        simp only [if_true, Bool.true_and, if_pos hr0]
        by_cases hz : rd r 0 = 0
        · have hzb : (rd r 0 == 0) = true := beq_iff_eq.mpr hz
          simp only [if_pos hz, hzb, Bool.true_and]
          refine Ev.bind (words_ev c 12 (by omega)) ?_
          cases hc : wordsB c 12 with
          | false => simp only [Bool.false_and, Bool.false_eq_true, if_false]; exact stop
          | true =>
            simp only [if_true, Bool.true_and]
            refine Ev.bind (words_ev v 16 (by omega)) ?_
            cases wordsB v 16 with
            | false => simp only [Bool.not_false, Bool.false_and, Bool.false_eq_true, if_false]; exact stop
            | true => simp only [Bool.not_true, Bool.true_and]; exact j0_ev pc r mo c v m st co li p q tr (wordsB_len' hc)
        · have hzb : (rd r 0 == 0) = false := beq_eq_false_iff_ne.mpr hz
          simp only [if_neg hz, hzb, Bool.false_and, Bool.false_eq_true, if_false]; exact stop
theorem machine_both (pc : Int) (r : List Int) (mo : Int) (c v : List Int) (m : ByteArray) (st co li : Int) (p q : List S185) (tr : Int) : ∃ z, impl_MachineFault.f pc r mo c v m st co li p q tr = some z ∧ Ev (fun k => spec_MachineFault.f k pc r mo c v m st co li p q tr) z := by
  refine ⟨_, ?_, spec_machine_ev pc r mo c v m st co li p q tr⟩
  unfold impl_MachineFault.f midB lastB
  have e : (memB m && (wordB pc && (wordsB r 16 && ((rd r 0 == 0) && (wordsB c 12 && (wordsB v 16 && (inB mo 0 1 && (inB st 0 2 && (inB co 0 1099511627776 && (inB li 0 127 && (portsB p && (portsB q && (inB tr 0 2147483628 && (decide (rd c 0 < 32) && ((rd c 8 == 0) && ((rd c 9 == 0) && (rd c 11 == 0))))))))))))))))) = (memB m && (wordB pc && (wordsB r 16 && ((rd r 0 == 0) && (wordsB c 12 && (wordsB v 16 && ((inB mo 0 1 && (inB st 0 2 && (inB co 0 1099511627776 && (inB li 0 127 && inB tr 0 2147483628)))) && (decide (rd c 0 < 32) && ((rd c 8 == 0) && ((rd c 9 == 0) && ((rd c 11 == 0) && (portsB p && portsB q)))))))))))) := by
    ac_rfl
  rw [e]
  split <;> rfl
theorem szI_ev (l : List Int) (s : Int) (h0 : 0 ≤ s) (hs : s ≤ 1048576) (hl : l.length ≤ 9223372036854775807) : ∃ t, laws_szInt64S.f l s = some t ∧ (t < 0 ∨ (0 ≤ t ∧ t ≤ s ∧ (l.length : Int) ≤ 1048576)) := by
  unfold laws_szInt64S.f
  rw [w64 (by omega) (by omega)]
  by_cases hn : s - (l.length : Int) < 0
  · rw [if_pos hn]; exact ⟨-1, rfl, Or.inl (by omega)⟩
  · rw [if_neg hn]; exact ⟨_, rfl, Or.inr (by omega)⟩
theorem szP_ev (l : List S187) (s : Int) (h0 : 0 ≤ s) (hs : s ≤ 1048576) (hl : l.length ≤ 9223372036854775807) : ∃ t, laws_szPortValueS.f l s = some t ∧ (t < 0 ∨ (0 ≤ t ∧ t ≤ s ∧ (l.length : Int) ≤ 1048576)) := by
  unfold laws_szPortValueS.f
  rw [w64 (by omega) (by omega)]
  by_cases hn : s - (l.length : Int) < 0
  · rw [if_pos hn]; exact ⟨-1, rfl, Or.inl (by omega)⟩
  · rw [if_neg hn]; exact ⟨_, rfl, Or.inr (by omega)⟩
theorem szMachine_ev (pc : Int) (r : List Int) (mo : Int) (c v : List Int) (m : ByteArray) (st co li : Int) (p q : List S187) (tr : Int)
    (h1 : r.length ≤ 9223372036854775807) (h3 : c.length ≤ 9223372036854775807) (h4 : v.length ≤ 9223372036854775807) (h5 : m.size ≤ 9223372036854775807) (h9 : p.length ≤ 9223372036854775807) (h10 : q.length ≤ 9223372036854775807) :
    ∃ z, laws_szMachine.f pc r mo c v m st co li p q tr 1048576 = some z ∧ (z < 0 ∨ ((r.length : Int) ≤ 1048576 ∧ (c.length : Int) ≤ 1048576 ∧ (v.length : Int) ≤ 1048576 ∧ (p.length : Int) ≤ 1048576 ∧ (q.length : Int) ≤ 1048576)) := by
  unfold laws_szMachine.f
  obtain ⟨t1, e1, c1⟩ := szI_ev r 1048576 (by omega) (by omega) h1
  rw [e1, Option.bind_some]
  by_cases n1 : t1 < 0
  · rw [if_pos n1]; exact ⟨_, rfl, Or.inl (by omega)⟩
  · rw [if_neg n1]
    obtain ⟨a1, b1, d1⟩ := c1.resolve_left n1
    obtain ⟨t2, e2, c2⟩ := szI_ev c t1 a1 b1 h3
    rw [e2, Option.bind_some]
    by_cases n2 : t2 < 0
    · rw [if_pos n2]; exact ⟨_, rfl, Or.inl (by omega)⟩
    · rw [if_neg n2]
      obtain ⟨a2, b2, d2⟩ := c2.resolve_left n2
      obtain ⟨t3, e3, c3⟩ := szI_ev v t2 a2 (by omega) h4
      rw [e3, Option.bind_some]
      by_cases n3 : t3 < 0
      · rw [if_pos n3]; exact ⟨_, rfl, Or.inl (by omega)⟩
      · rw [if_neg n3]
        obtain ⟨a3, b3, d3⟩ := c3.resolve_left n3
        rw [w64 (a := t3 - (m.size : Int)) (by omega) (by omega)]
        by_cases n4 : t3 - (m.size : Int) < 0
        · rw [if_pos n4]; exact ⟨_, rfl, Or.inl (by omega)⟩
        · rw [if_neg n4]
          obtain ⟨t5, e5, c5⟩ := szP_ev p (t3 - (m.size : Int)) (by omega) (by omega) h9
          rw [e5, Option.bind_some]
          by_cases n5 : t5 < 0
          · rw [if_pos n5]; exact ⟨_, rfl, Or.inl (by omega)⟩
          · rw [if_neg n5]
            obtain ⟨a5, b5, d5⟩ := c5.resolve_left n5
            obtain ⟨t6, e6, c6⟩ := szP_ev q t5 a5 (by omega) h10
            rw [e6, Option.bind_some]
            by_cases n6 : t6 < 0
            · rw [if_pos n6]; exact ⟨_, rfl, Or.inl (by omega)⟩
            · rw [if_neg n6]
              obtain ⟨a6, b6, d6⟩ := c6.resolve_left n6
              exact ⟨_, rfl, Or.inr ⟨d1, d2, d3, d5, d6⟩⟩
theorem toMachine_ev (pc : Int) (r : List Int) (mo : Int) (c v : List Int) (m : ByteArray) (st co li : Int) (p q : List S187) (tr : Int)
    (h1 : (r.length : Int) ≤ 1048576) (h3 : (c.length : Int) ≤ 1048576) (h4 : (v.length : Int) ≤ 1048576) (h9 : (p.length : Int) ≤ 1048576) (h10 : (q.length : Int) ≤ 1048576) :
    Ev (fun k => laws_toMachine.f k pc r mo c v m st co li p q tr) (pc, r, mo, c, v, m, st, co, li, p.map toP, q.map toP, tr) := by
  unfold laws_toMachine.f
  exact Ev.bind (toInt64S_ev r h1) (Ev.bind (toInt64S_ev c h3) (Ev.bind (toInt64S_ev v h4) (Ev.bind (toPorts_all p (by omega)) (Ev.bind (toPorts_all q (by omega)) (Ev.now _)))))
theorem eqMachine_ev (pc : Int) (r : List Int) (mo : Int) (c v : List Int) (m : ByteArray) (st co li : Int) (p q : List S185) (tr : Int)
    (h1 : (r.length : Int) ≤ 1048576) (h3 : (c.length : Int) ≤ 1048576) (h4 : (v.length : Int) ≤ 1048576) (h9 : (p.length : Int) ≤ 1048576) (h10 : (q.length : Int) ≤ 1048576) :
    Ev (fun k => laws_eqMachine.f k pc r mo c v m st co li p q tr pc r mo c v m st co li p q tr) true := by
  unfold laws_eqMachine.f
  simp only [if_true]
  refine Ev.bind (eqInt64S_ev r h1) ?_
  simp only [if_true]
  refine Ev.bind (eqInt64S_ev c h3) ?_
  simp only [if_true]
  refine Ev.bind (eqInt64S_ev v h4) ?_
  simp only [if_true]
  refine Ev.bind (eqPorts_all p (by omega)) ?_
  simp only [if_true]
  refine Ev.bind (eqPorts_all q (by omega)) ?_
  simp only [if_true]
  exact Ev.now _
def markI : List Int → Int → List Int
  | [], _ => []
  | _ :: xs, m => m :: markI xs (m + 1)
theorem markI_len : ∀ (xs : List Int) (m : Int), (markI xs m).length = xs.length
  | [], _ => rfl
  | _ :: xs, m => by simp only [markI, List.length_cons, markI_len xs (m + 1)]
theorem markI_loop (e : Nat) : ∀ (pre suf : List Int) (m : Int), suf.length = e → (pre.length : Int) + (suf.length : Int) ≤ 1048576 → 0 ≤ m → m + (suf.length : Int) ≤ 1099511627776 →
    Ev (fun k => laws_markInt64S.l0 k (pre ++ suf) m (pre.length : Int)) (m + (suf.length : Int), pre ++ markI suf m) := by
  induction e with
  | zero =>
    intro pre suf m hs _ _ _
    have : suf = [] := List.eq_nil_of_length_eq_zero hs
    subst this
    refine Ev.step (f := fun _ => some (m, pre)) (fun k => ?_) ?_
    · simp only [laws_markInt64S.l0, List.append_nil]
      rw [if_neg (by omega)]
    · simp only [List.length_nil, markI, List.append_nil]
      rw [show m + ((0 : Nat) : Int) = m from by omega]
      exact Ev.now _
  | succ e ih =>
    intro pre suf m hs h1 h2 h3
    cases suf with
    | nil => simp at hs
    | cons a suf =>
      simp only [List.length_cons] at hs h1 h3
      have := ih (pre ++ [m]) suf (m + 1) (by omega) (by rw [List.length_append, List.length_cons, List.length_nil]; omega) (by omega) (by omega)
      rw [List.append_assoc, List.append_assoc, List.singleton_append, List.singleton_append] at this
      simp only [markI, List.length_cons]
      rw [show m + ((suf.length + 1 : Nat) : Int) = m + 1 + (suf.length : Int) from by omega]
      refine Ev.step (fun k => ?_) this
      simp only [laws_markInt64S.l0, Int.toNat_natCast]
      rw [if_pos (by rw [List.length_append, List.length_cons]; omega), if_pos (by omega), List.set_append_right _ _ (Nat.le_refl _), Nat.sub_self, List.set_cons_zero, w64 (a := m + 1) (by omega) (by omega), w64 (a := (pre.length : Int) + 1) (by omega) (by omega), List.length_append, List.length_cons, List.length_nil, show ((pre.length : Int) + 1) = ((pre.length + (0 + 1) : Nat) : Int) from by omega]
theorem heldI_loop (e : Nat) : ∀ (pre suf : List Int) (m : Int), suf.length = e → (pre.length : Int) + (suf.length : Int) ≤ 1048576 → 0 ≤ m → m + (suf.length : Int) ≤ 1099511627776 →
    Ev (fun k => laws_heldInt64S.l0 k (pre ++ markI suf m) m (pre.length : Int)) (m + (suf.length : Int)) := by
  induction e with
  | zero =>
    intro pre suf m hs _ _ _
    have : suf = [] := List.eq_nil_of_length_eq_zero hs
    subst this
    refine Ev.step (f := fun _ => some m) (fun k => ?_) ?_
    · simp only [laws_heldInt64S.l0, markI, List.append_nil]
      rw [if_neg (by omega)]
    · rw [List.length_nil, show m + ((0 : Nat) : Int) = m from by omega]
      exact Ev.now _
  | succ e ih =>
    intro pre suf m hs h1 h2 h3
    cases suf with
    | nil => simp at hs
    | cons a suf =>
      simp only [List.length_cons] at hs h1 h3
      have := ih (pre ++ [m]) suf (m + 1) (by omega) (by rw [List.length_append, List.length_cons, List.length_nil]; omega) (by omega) (by omega)
      rw [List.append_assoc, List.singleton_append] at this
      simp only [markI, List.length_cons]
      rw [show m + ((suf.length + 1 : Nat) : Int) = m + 1 + (suf.length : Int) from by omega]
      refine Ev.step (fun k => ?_) this
      have hrd : rd (pre ++ m :: markI suf (m + 1)) (pre.length : Int) = m := by
        unfold rd
        rw [Int.toNat_natCast, List.getD_eq_getElem?_getD, List.getElem?_append_right (Nat.le_refl _), Nat.sub_self]; rfl
      simp only [laws_heldInt64S.l0]
      rw [if_pos (by rw [List.length_append, List.length_cons]; omega), if_pos (by omega), hrd, if_pos rfl, w64 (a := m + 1) (by omega) (by omega), w64 (a := (pre.length : Int) + 1) (by omega) (by omega), List.length_append, List.length_cons, List.length_nil, show ((pre.length : Int) + 1) = ((pre.length + (0 + 1) : Nat) : Int) from by omega]
theorem markI_ev (l : List Int) (m : Int) (h : (l.length : Int) ≤ 1048576) (h0 : 0 ≤ m) (h1 : m ≤ 1000000000000) : Ev (fun k => laws_markInt64S.f k l m) (m + (l.length : Int), markI l m) :=
  markI_loop l.length [] l m rfl (by simp only [List.length_nil]; omega) h0 (by omega)
theorem heldI_ev (l : List Int) (m : Int) (h : (l.length : Int) ≤ 1048576) (h0 : 0 ≤ m) (h1 : m ≤ 1000000000000) : Ev (fun k => laws_heldInt64S.f k (markI l m) m) (m + (l.length : Int)) :=
  heldI_loop l.length [] l m rfl (by simp only [List.length_nil]; omega) h0 (by omega)
theorem rdP_set (xs : List S185) (i : Nat) (v : S185) (h : i < xs.length) : rd_T185 (xs.set i v) (i : Int) = v := by
  unfold rd_T185; rw [Int.toNat_natCast, List.getD_eq_getElem?_getD, List.getElem?_set_self h]; rfl
theorem rdP_mid (pre suf : List S185) (v : S185) : rd_T185 (pre ++ v :: suf) (pre.length : Int) = v := by
  unfold rd_T185; rw [Int.toNat_natCast, List.getD_eq_getElem?_getD, List.getElem?_append_right (Nat.le_refl _), Nat.sub_self]; rfl
def markP : List S185 → Int → List S185
  | [], _ => []
  | _ :: xs, m => (⟨m, m + 1⟩ : S185) :: markP xs (m + 2)
theorem markP_len : ∀ (xs : List S185) (m : Int), (markP xs m).length = xs.length
  | [], _ => rfl
  | _ :: xs, m => by simp only [markP, List.length_cons, markP_len xs (m + 2)]
theorem markP_loop (e : Nat) : ∀ (pre suf : List S185) (m : Int), suf.length = e → (pre.length : Int) + (suf.length : Int) ≤ 1048576 → 0 ≤ m → m + 2 * (suf.length : Int) ≤ 1099511627776 →
    Ev (fun k => laws_markPortValueS.l0 k (pre ++ suf) m (pre.length : Int)) (m + 2 * (suf.length : Int), pre ++ markP suf m) := by
  induction e with
  | zero =>
    intro pre suf m hs _ _ _
    have : suf = [] := List.eq_nil_of_length_eq_zero hs
    subst this
    refine Ev.step (f := fun _ => some (m, pre)) (fun k => ?_) ?_
    · simp only [laws_markPortValueS.l0, List.append_nil]
      rw [if_neg (by omega)]
    · simp only [List.length_nil, markP, List.append_nil]
      rw [show m + 2 * ((0 : Nat) : Int) = m from by omega]
      exact Ev.now _
  | succ e ih =>
    intro pre suf m hs h1 h2 h3
    cases suf with
    | nil => simp at hs
    | cons a suf =>
      simp only [List.length_cons] at hs h1 h3
      have := ih (pre ++ [(⟨m, m + 1⟩ : S185)]) suf (m + 2) (by omega) (by rw [List.length_append, List.length_cons, List.length_nil]; omega) (by omega) (by omega)
      rw [List.append_assoc, List.append_assoc, List.singleton_append, List.singleton_append] at this
      simp only [markP, List.length_cons]
      rw [show m + 2 * ((suf.length + 1 : Nat) : Int) = m + 2 + 2 * (suf.length : Int) from by omega]
      refine Ev.step (fun k => ?_) this
      have hlt : pre.length < (pre ++ a :: suf).length := by rw [List.length_append, List.length_cons]; omega
      have w1 : wrap64 (m + 1) = m + 1 := w64 (by omega) (by omega)
      have w2 : wrap64 (m + 1 + 1) = m + 2 := by rw [w64 (by omega) (by omega)]; omega
      simp only [laws_markPortValueS.l0, Option.bind_some, Int.toNat_natCast]
      rw [if_pos (by omega), if_pos (by omega), rdP_set _ _ _ hlt, List.set_set, w1, w2, List.set_append_right _ _ (Nat.le_refl _), Nat.sub_self, List.set_cons_zero, w64 (a := (pre.length : Int) + 1) (by omega) (by omega), List.length_append, List.length_cons, List.length_nil, show ((pre.length : Int) + 1) = ((pre.length + (0 + 1) : Nat) : Int) from by omega]
theorem heldP_loop (e : Nat) : ∀ (pre suf : List S185) (m : Int), suf.length = e → (pre.length : Int) + (suf.length : Int) ≤ 1048576 → 0 ≤ m → m + 2 * (suf.length : Int) ≤ 1099511627776 →
    Ev (fun k => laws_heldPortValueS.l0 k (pre ++ markP suf m) m (pre.length : Int)) (m + 2 * (suf.length : Int)) := by
  induction e with
  | zero =>
    intro pre suf m hs _ _ _
    have : suf = [] := List.eq_nil_of_length_eq_zero hs
    subst this
    refine Ev.step (f := fun _ => some m) (fun k => ?_) ?_
    · simp only [laws_heldPortValueS.l0, markP, List.append_nil]
      rw [if_neg (by omega)]
    · rw [List.length_nil, show m + 2 * ((0 : Nat) : Int) = m from by omega]
      exact Ev.now _
  | succ e ih =>
    intro pre suf m hs h1 h2 h3
    cases suf with
    | nil => simp at hs
    | cons a suf =>
      simp only [List.length_cons] at hs h1 h3
      have := ih (pre ++ [(⟨m, m + 1⟩ : S185)]) suf (m + 2) (by omega) (by rw [List.length_append, List.length_cons, List.length_nil]; omega) (by omega) (by omega)
      rw [List.append_assoc, List.singleton_append] at this
      simp only [markP, List.length_cons]
      rw [show m + 2 * ((suf.length + 1 : Nat) : Int) = m + 2 + 2 * (suf.length : Int) from by omega]
      refine Ev.step (fun k => ?_) this
      have w1 : wrap64 (m + 1) = m + 1 := w64 (by omega) (by omega)
      have w2 : wrap64 (m + 1 + 1) = m + 2 := by rw [w64 (by omega) (by omega)]; omega
      simp only [laws_heldPortValueS.l0]
      rw [if_pos (by rw [List.length_append, List.length_cons]; omega), if_pos (by omega), rdP_mid]
      simp only [w1, w2, if_true]
      rw [w64 (a := (pre.length : Int) + 1) (by omega) (by omega), List.length_append, List.length_cons, List.length_nil, show ((pre.length : Int) + 1) = ((pre.length + (0 + 1) : Nat) : Int) from by omega]
theorem markP_ev (l : List S185) (m : Int) (h : (l.length : Int) ≤ 1048576) (h0 : 0 ≤ m) (h1 : m ≤ 1000000000000) : Ev (fun k => laws_markPortValueS.f k l m) (m + 2 * (l.length : Int), markP l m) :=
  markP_loop l.length [] l m rfl (by simp only [List.length_nil]; omega) h0 (by omega)
theorem heldP_ev (l : List S185) (m : Int) (h : (l.length : Int) ≤ 1048576) (h0 : 0 ≤ m) (h1 : m ≤ 1000000000000) : Ev (fun k => laws_heldPortValueS.f k (markP l m) m) (m + 2 * (l.length : Int)) :=
  heldP_loop l.length [] l m rfl (by simp only [List.length_nil]; omega) h0 (by omega)
def markEnd (r c v : List Int) (p q : List S185) (m : Int) : Int := m + r.length + c.length + v.length + 2 * p.length + 2 * q.length
theorem markMachine_ev (pc : Int) (r : List Int) (mo : Int) (c v : List Int) (me : ByteArray) (st co li : Int) (p q : List S185) (tr : Int) (m : Int) (h0 : 0 ≤ m) (hm : m ≤ 1000000)
    (h1 : (r.length : Int) ≤ 1048576) (h3 : (c.length : Int) ≤ 1048576) (h4 : (v.length : Int) ≤ 1048576) (h9 : (p.length : Int) ≤ 1048576) (h10 : (q.length : Int) ≤ 1048576) :
    Ev (fun k => laws_markMachine.f k pc r mo c v me st co li p q tr m) (markEnd r c v p q m, markI r m, markI c (m + r.length), markI v (m + r.length + c.length), markP p (m + r.length + c.length + v.length), markP q (m + r.length + c.length + v.length + 2 * p.length)) := by
  unfold laws_markMachine.f markEnd
  exact Ev.bind (markI_ev r m h1 (by omega) (by omega)) (Ev.bind (markI_ev c _ h3 (by simp only []; omega) (by simp only []; omega)) (Ev.bind (markI_ev v _ h4 (by simp only []; omega) (by simp only []; omega)) (Ev.bind (markP_ev p _ h9 (by simp only []; omega) (by simp only []; omega)) (Ev.bind (markP_ev q _ h10 (by simp only []; omega) (by simp only []; omega)) (Ev.now _)))))
theorem heldMachine_ev (pc : Int) (r : List Int) (mo : Int) (c v : List Int) (me : ByteArray) (st co li : Int) (p q : List S185) (tr : Int) (m : Int) (h0 : 0 ≤ m) (hm : m ≤ 1000000)
    (h1 : (r.length : Int) ≤ 1048576) (h3 : (c.length : Int) ≤ 1048576) (h4 : (v.length : Int) ≤ 1048576) (h9 : (p.length : Int) ≤ 1048576) (h10 : (q.length : Int) ≤ 1048576) :
    Ev (fun k => laws_heldMachine.f k pc (markI r m) mo (markI c (m + r.length)) (markI v (m + r.length + c.length)) me st co li (markP p (m + r.length + c.length + v.length)) (markP q (m + r.length + c.length + v.length + 2 * p.length)) tr m) (markEnd r c v p q m) := by
  have n1 : ¬ m + (r.length : Int) < 0 := by omega
  have n2 : ¬ m + (r.length : Int) + (c.length : Int) < 0 := by omega
  have n3 : ¬ m + (r.length : Int) + (c.length : Int) + (v.length : Int) < 0 := by omega
  have n4 : ¬ m + (r.length : Int) + (c.length : Int) + (v.length : Int) + 2 * (p.length : Int) < 0 := by omega
  have n5 : ¬ m + (r.length : Int) + (c.length : Int) + (v.length : Int) + 2 * (p.length : Int) + 2 * (q.length : Int) < 0 := by omega
  unfold laws_heldMachine.f markEnd
  refine Ev.bind (heldI_ev r m h1 (by omega) (by omega)) ?_
  simp only [if_neg n1]
  refine Ev.bind (heldI_ev c _ h3 (by omega) (by omega)) ?_
  simp only [if_neg n2]
  refine Ev.bind (heldI_ev v _ h4 (by omega) (by omega)) ?_
  simp only [if_neg n3]
  refine Ev.bind (heldP_ev p _ h9 (by omega) (by omega)) ?_
  simp only [if_neg n4]
  refine Ev.bind (heldP_ev q _ h10 (by omega) (by omega)) ?_
  simp only [if_neg n5]
  exact Ev.now _

theorem raise_yin (a : Int) : impl_yin.f a 0 6 = some (decide (0 ≤ a) && decide (a < 7)) := by
  unfold impl_yin.f
  by_cases h : a ≥ 0
  · rw [if_pos h, decide_eq_true (show (0 : Int) ≤ a from h), show decide (a ≤ 6) = decide (a < 7) from decide_eq_decide.mpr (by omega)]; rfl
  · rw [if_neg h, decide_eq_false (show ¬ (0 : Int) ≤ a from h)]; rfl
theorem raise_sj (pc : Int) (r : List Int) (mo : Int) (c v : List Int) (m : ByteArray) (st co li : Int) (p q : List S185) (tr : Int) : Ev (fun k => spec_RaiseLine.j0 k pc r mo c v m st co li p q tr) (pc, r, mo, c, v, m, st, co, li, p, q, tr) :=
  Ev.step (f := fun _ => some (pc, r, mo, c, v, m, st, co, li, p, q, tr)) (fun k => by simp only [spec_RaiseLine.j0]) (Ev.now _)
theorem raise_ij (pc : Int) (r : List Int) (mo : Int) (c v : List Int) (m : ByteArray) (st co li : Int) (p q : List S185) (tr : Int) : Ev (fun k => impl_RaiseLine.j0 k pc r mo c v m st co li p q tr) (pc, r, mo, c, v, m, st, co, li, p, q, tr) :=
  Ev.step (f := fun _ => some (pc, r, mo, c, v, m, st, co, li, p, q, tr)) (fun k => by simp only [impl_RaiseLine.j0]) (Ev.now _)
theorem raise_both (pc : Int) (r : List Int) (mo : Int) (c v : List Int) (m : ByteArray) (st co li : Int) (p q : List S185) (tr a : Int)
    (h1 : (r.length : Int) ≤ 1048576) (h3 : (c.length : Int) ≤ 1048576) (h4 : (v.length : Int) ≤ 1048576) (h9 : (p.length : Int) ≤ 1048576) (h10 : (q.length : Int) ≤ 1048576) :
    ∃ (pc' : Int) (r' : List Int) (mo' : Int) (c' v' : List Int) (m' : ByteArray) (st' co' li' : Int) (p' q' : List S185) (tr' : Int),
      ((r'.length : Int) ≤ 1048576 ∧ (c'.length : Int) ≤ 1048576 ∧ (v'.length : Int) ≤ 1048576 ∧ (p'.length : Int) ≤ 1048576 ∧ (q'.length : Int) ≤ 1048576) ∧
      Ev (fun k => impl_RaiseLine.f k pc r mo c v m st co li p q tr a) (pc', r', mo', c', v', m', st', co', li', p', q', tr') ∧ Ev (fun k => spec_RaiseLine.f k pc r mo c v m st co li p q tr a) (pc', r', mo', c', v', m', st', co', li', p', q', tr') := by
  obtain ⟨z, hi, hs⟩ := machine_both pc r mo c v m st co li p q tr
  unfold impl_RaiseLine.f spec_RaiseLine.f
  simp only [hi, Option.bind_some]
  by_cases hz : z = 0
  · have e1 : impl_ycopyMachine.f pc r mo c v m st co li p q tr = some (pc, r, mo, c, v, m, st, co, li, p, q, tr) := by
      unfold impl_ycopyMachine.f slices_Clone_int64_int64.f impl_PortValue_127.f
      rw [if_pos (by omega), if_pos (by omega), if_pos (by omega), if_pos (by omega), if_pos (by omega)]; rfl
    have e2 : spec_l04Copy.f pc r mo c v m st co li p q tr = some (pc, r, mo, c, v, m, st, co, li, p, q, tr) := by
      unfold spec_l04Copy.f spec_l01Ints.f
      simp only [Option.bind_some, List.length_nil, List.nil_append, Nat.zero_add]
      rw [if_pos (by omega), if_pos (by omega), if_pos (by omega)]
      simp only [Option.bind_some]
      rw [if_pos (by omega), if_pos (by omega)]
    simp only [if_pos hz, e1, Option.bind_some, raise_yin]
    by_cases g0 : a ≥ 0
    · have g0' : (0 : Int) ≤ a := g0
      by_cases g1 : a < 7
      · have w : IntKind.u64.wrap a = a := by rw [IntKind.wrap_u64]; omega
        refine ⟨pc, r, mo, c, v, m, st, co, Go.bits .or .i64 li (shl .i64 1 a), p, q, tr, ⟨h1, h3, h4, h9, h10⟩, ?_, Ev.bind hs ?_⟩
        · exact Ev.congr (fun k => by rw [decide_eq_true g0', decide_eq_true g1, if_pos (show (true && true) = true from rfl), if_pos g0']) (raise_ij pc r mo c v m st co (Go.bits .or .i64 li (shl .i64 1 a)) p q tr)
        · simp only [if_pos hz, e2, Option.bind_some, if_pos g0, if_pos g1, w]
          first | exact raise_sj pc r mo c v m st co (Go.bits .or .i64 li (shl .i64 1 a)) p q tr | exact Ev.congr (fun k => by rw [if_pos g0']) (raise_sj pc r mo c v m st co (Go.bits .or .i64 li (shl .i64 1 a)) p q tr)
      · refine ⟨pc, r, mo, c, v, m, st, co, li, p, q, tr, ⟨h1, h3, h4, h9, h10⟩, ?_, Ev.bind hs ?_⟩
        · exact Ev.congr (fun k => by rw [decide_eq_true g0', decide_eq_false g1, if_neg (by decide)]) (raise_ij pc r mo c v m st co li p q tr)
        · simp only [if_pos hz, e2, Option.bind_some, if_pos g0, if_neg g1]
          first | exact raise_sj pc r mo c v m st co li p q tr | exact Ev.now _
    · refine ⟨pc, r, mo, c, v, m, st, co, li, p, q, tr, ⟨h1, h3, h4, h9, h10⟩, ?_, Ev.bind hs ?_⟩
      · exact Ev.congr (fun k => by rw [decide_eq_false (show ¬ (0 : Int) ≤ a from g0), Bool.false_and, if_neg (by decide)]) (raise_ij pc r mo c v m st co li p q tr)
      · simp only [if_pos hz, e2, Option.bind_some, if_neg g0]
        first | exact raise_sj pc r mo c v m st co li p q tr | exact Ev.now _
  · refine ⟨0, [], 0, [], [], ⟨#[]⟩, 0, 0, 0, [], [], 0, ⟨by simp, by simp, by simp, by simp, by simp⟩, ?_, Ev.bind hs ?_⟩
    · simp only [if_neg hz]; exact Ev.now _
    · simp only [if_neg hz]; exact Ev.now _
theorem FnExactRaiseLine : laws_FnExactRaiseLine.Pure := by
  intro pc r mo c v m st co li p q tr a _ h1 _ h3 h4 h5 _ _ _ h9 h10 _ _
  obtain ⟨h1, _⟩ := h1; obtain ⟨h3, _⟩ := h3; obtain ⟨h4, _⟩ := h4; obtain ⟨h9, _⟩ := h9; obtain ⟨h10, _⟩ := h10
  refine Ev.rounds (r := true) ?_
  obtain ⟨z, hz, hcc⟩ := szMachine_ev pc r mo c v m st co li p q tr h1 h3 h4 h5 h9 h10
  unfold laws_FnExactRaiseLine.f
  simp only [hz, Option.bind_some]
  by_cases hn : z < 0
  · simp only [if_pos hn]; exact Ev.now _
  · simp only [if_neg hn]
    obtain ⟨g1, g2, g3, g4, g5⟩ := hcc.resolve_left hn
    have k4 : ((p.map toP).length : Int) ≤ 1048576 := by rw [List.length_map]; exact g4
    have k5 : ((q.map toP).length : Int) ≤ 1048576 := by rw [List.length_map]; exact g5
    have tov := toMachine_ev pc r mo c v m st co li p q tr g1 g2 g3 g4 g5
    have eqx := eqMachine_ev pc r mo c v m st co li (p.map toP) (q.map toP) tr g1 g2 g3 k4 k5
    have mx := markMachine_ev pc r mo c v m st co li (p.map toP) (q.map toP) tr 1 (by omega) (by omega) g1 g2 g3 k4 k5
    have cx : ¬ markEnd r c v (p.map toP) (q.map toP) 1 < 0 := by unfold markEnd; omega
    obtain ⟨pc', r', mo', c', v', m', st', co', li', p', q', tr', ⟨l1, l2, l3, l4, l5⟩, hi, hs⟩ := raise_both pc r mo c v m st co li (p.map toP) (q.map toP) tr a g1 g2 g3 k4 k5
    have eqv := eqMachine_ev pc' r' mo' c' v' m' st' co' li' p' q' tr' l1 l2 l3 l4 l5
    have hm := markMachine_ev pc' r' mo' c' v' m' st' co' li' p' q' tr' 1 (by omega) (by omega) l1 l2 l3 l4 l5
    have hh := heldMachine_ev pc' r' mo' c' v' m' st' co' li' p' q' tr' 1 (by omega) (by omega) l1 l2 l3 l4 l5
    have c1 : ¬ markEnd r' c' v' p' q' 1 < 0 := by unfold markEnd; omega
    generalize markEnd r' c' v' p' q' 1 = y at hm hh c1
    generalize markEnd r c v (p.map toP) (q.map toP) 1 = x at mx cx
    refine Ev.bind tov (Ev.bind hs (Ev.bind tov (Ev.bind hi ?_)))
    refine Ev.bind eqv ?_
    simp only [if_true]
    refine Ev.bind tov (Ev.bind eqx ?_)
    simp only [if_true]
    refine Ev.bind mx ?_
    simp only [if_neg cx]
    refine Ev.bind eqv ?_
    simp only [Bool.not_true]
    refine Ev.step (fun k => by simp only [laws_FnExactRaiseLine.j0]; rw [if_neg (by simp)]) ?_
    refine Ev.bind hm (Ev.bind hh ?_)
    simp only [if_neg c1, if_true]
    refine Ev.bind tov (Ev.bind hi ?_)
    refine Ev.bind eqv ?_
    simp only [if_true]
    refine Ev.bind hh ?_
    simp only [if_neg c1, if_true]
    exact Ev.now _

end Go.Proofs.Ytmajbehafgajmaa.Pure
