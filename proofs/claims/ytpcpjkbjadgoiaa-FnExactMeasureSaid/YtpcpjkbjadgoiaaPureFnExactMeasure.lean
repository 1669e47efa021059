/- The program's Measure returns what the reference's returns, for all arguments. Conditions: none. -/
import Derived.Test.YtpcpjkbjadgoiaaQFnExactMeasurex
import Derived.Test.YtpcpjkbjadgoiaaPl
import Derived.Test.YtpcpjkbjadgoiaaTFnExactMeasure
set_option linter.unusedVariables false
set_option linter.unusedSimpArgs false
namespace Go.Proofs.Ytpcpjkbjadgoiaa.Pure
open Go.RowKit Go.Proofs.Ytpcpjkbjadgoiaa.QFnExactMeasure Go.Proofs.YtpcpjkbjadgoiaaW.PrintWords Go.Proofs.YtpcpjkbjadgoiaaW.PrintLast Go.Proofs.Ytpcpjkbjadgoiaa.Pl Go.Proofs.YtpcpjkbjadgoiaaW.PrintMore
/-- A loop that takes the size of every element off a budget: it ends, below zero or with every element small. -/
theorem sz_loop {α : Type} (d : α) (M : Int) (ok : α → Prop) (L : Nat → List α → Int → Int → Option Int) (g : Nat → α → Int → Option Int)
    (hL : ∀ k xs s i, L (k + 1) xs s i = if i < (xs.length : Int) then (if 0 ≤ i then ((g k (xs.getD i.toNat d) s).bind fun t => (if t < 0 then (some (-1)) else (L k xs t (wrap64 (i + 1))))) else none) else some s)
    (xs : List α) (hlen : (xs.length : Int) ≤ 4611686018427387904)
    (hg : ∀ x s, x ∈ xs → 0 ≤ s → s ≤ M → ∃ t, Ev (fun k => g k x s) t ∧ (t < 0 ∨ (0 ≤ t ∧ t ≤ s ∧ ok x))) (e : Nat) :
    ∀ (j : Nat) (s : Int), 0 ≤ s → s ≤ M → j ≤ xs.length → xs.length - j = e → (∀ q, q < j → ok (xs.getD q d)) → ∃ r, Ev (fun k => L k xs s (j : Int)) r ∧ (r < 0 ∨ (0 ≤ r ∧ r ≤ s ∧ ∀ x, x ∈ xs → ok x)) := by
  induction e with
  | zero =>
    intro j s h0 hM hj he hok
    refine ⟨s, Ev.step (f := fun _ => some s) (fun k => by rw [hL, if_neg (by omega)]) (Ev.now _), Or.inr ⟨h0, Int.le_refl _, fun x hx => ?_⟩⟩
    obtain ⟨q, hq, rfl⟩ := List.getElem_of_mem hx
    have := hok q (by omega)
    rwa [List.getD_eq_getElem?_getD, List.getElem?_eq_getElem hq, Option.getD_some] at this
  | succ e ih =>
    intro j s h0 hM hj he hok
    have hlt : j < xs.length := by omega
    have hmem : xs.getD j d ∈ xs := by
      rw [List.getD_eq_getElem?_getD, List.getElem?_eq_getElem hlt, Option.getD_some]; exact List.getElem_mem hlt
    obtain ⟨t, ht, hc⟩ := hg (xs.getD j d) s hmem h0 hM
    have hs : ∀ k, L (k + 1) xs s (j : Int) = ((g k (xs.getD j d) s).bind fun t => (if t < 0 then (some (-1)) else (L k xs t (wrap64 ((j : Int) + 1))))) := fun k => by
      rw [hL, if_pos (by omega), if_pos (by omega), Int.toNat_natCast]
    by_cases hn : t < 0
    · refine ⟨-1, Ev.step (fun k => hs k) (Ev.bind ht ?_), Or.inl (by omega)⟩
      simp only [if_pos hn]
      exact Ev.now _
    · have hc' := hc.resolve_left hn
      obtain ⟨r, hr, hrc⟩ := ih (j + 1) t hc'.1 (by omega) (by omega) (by omega) (fun q hq => by
        by_cases hqj : q = j
        · subst hqj; exact hc'.2.2
        · exact hok q (by omega))
      refine ⟨r, Ev.step (fun k => hs k) (Ev.bind ht ?_), ?_⟩
      · simp only [if_neg hn]
        rw [w64 (by omega) (by omega), show ((j : Int) + 1) = ((j + 1 : Nat) : Int) from by omega]
        exact hr
      · rcases hrc with h | h
        · exact Or.inl h
        · exact Or.inr ⟨h.1, by omega, h.2.2⟩
/-- A loop that turns every element. -/
theorem to_loop {α β γ : Type} (d : α) (z : β) (mk : γ → β) (c : α → β) (L : Nat → List α → List β → Int → Option (List β)) (g : Nat → α → Option γ)
    (hL : ∀ k xs ys i, L (k + 1) xs ys i = if i < (xs.length : Int) then (if 0 ≤ i then ((g k (xs.getD i.toNat d)).bind fun b => (if i < (ys.length : Int) then (L k xs (ys.set i.toNat (mk b)) (wrap64 (i + 1))) else none)) else none) else some ys)
    (xs : List α) (hlen : (xs.length : Int) ≤ 4611686018427387904)
    (hg : ∀ x, x ∈ xs → ∃ b, Ev (fun k => g k x) b ∧ mk b = c x) (e : Nat) :
    ∀ (j : Nat), j ≤ xs.length → xs.length - j = e → Ev (fun k => L k xs ((xs.take j).map c ++ List.replicate (xs.length - j) z) (j : Int)) (xs.map c) := by
  induction e with
  | zero =>
    intro j hj he
    obtain rfl : j = xs.length := by omega
    refine Ev.step (f := fun _ => some (xs.map c)) (fun k => ?_) (Ev.now _)
    rw [hL, if_neg (by omega), List.take_length, Nat.sub_self, List.replicate_zero, List.append_nil]
  | succ e ih =>
    intro j hj he
    have hlt : j < xs.length := by omega
    have hx : xs.getD j d = xs[j] := by rw [List.getD_eq_getElem?_getD, List.getElem?_eq_getElem hlt, Option.getD_some]
    obtain ⟨b, hb, hbc⟩ := hg xs[j] (List.getElem_mem hlt)
    have hlm : ((xs.take j).map c).length = j := by rw [List.length_map, List.length_take]; omega
    have hly : (((xs.take j).map c ++ List.replicate (xs.length - j) z).length : Int) = (xs.length : Int) := by
      rw [List.length_append, hlm, List.length_replicate]; omega
    have hset : (((xs.take j).map c ++ List.replicate (xs.length - j) z).set j (mk b)) = (xs.take (j + 1)).map c ++ List.replicate (xs.length - (j + 1)) z := by
      rw [List.set_append_right _ _ (by omega), hlm, Nat.sub_self, show xs.length - j = (xs.length - (j + 1)) + 1 from by omega, List.replicate_succ, List.set_cons_zero, hbc, List.take_succ_eq_append_getElem hlt, List.map_append, List.append_assoc]
      rfl
    refine Ev.step (f := fun k => (g k xs[j]).bind fun b => L k xs (((xs.take j).map c ++ List.replicate (xs.length - j) z).set j (mk b)) (((j + 1 : Nat) : Int))) (fun k => ?_) (Ev.bind (f := fun k b => L k xs (((xs.take j).map c ++ List.replicate (xs.length - j) z).set j (mk b)) (((j + 1 : Nat) : Int))) hb ?_)
    · have hlj : (j : Int) < (xs.length : Int) := by omega
      rw [hL, if_pos (by omega), if_pos (by omega), Int.toNat_natCast, hx, hly, w64 (by omega) (by omega)]
      simp only [if_pos hlj]
      rfl
    · rw [hset]
      exact ih (j + 1) (by omega) (by omega)
/-- A loop that asks every pair of elements. -/
theorem eq_loop {α : Type} (d : α) (L : Nat → List α → List α → Int → Option Bool) (g : Nat → α → α → Option Bool)
    (hL : ∀ k xs ys i, L (k + 1) xs ys i = if i < (xs.length : Int) then (if 0 ≤ i then (if i < (ys.length : Int) then ((g k (xs.getD i.toNat d) (ys.getD i.toNat d)).bind fun t => (if t = true then (L k xs ys (wrap64 (i + 1))) else (some false))) else none) else none) else some true)
    (xs : List α) (hlen : (xs.length : Int) ≤ 4611686018427387904)
    (hg : ∀ x, x ∈ xs → Ev (fun k => g k x x) true) (e : Nat) :
    ∀ (j : Nat), j ≤ xs.length → xs.length - j = e → Ev (fun k => L k xs xs (j : Int)) true := by
  induction e with
  | zero =>
    intro j hj he
    exact Ev.step (f := fun _ => some true) (fun k => by rw [hL, if_neg (by omega)]) (Ev.now _)
  | succ e ih =>
    intro j hj he
    have hlt : j < xs.length := by omega
    have hx : xs.getD j d = xs[j] := by rw [List.getD_eq_getElem?_getD, List.getElem?_eq_getElem hlt, Option.getD_some]
    refine Ev.step (f := fun k => (g k xs[j] xs[j]).bind fun t => (if t = true then L k xs xs (((j + 1 : Nat) : Int)) else (some false))) (fun k => ?_) (Ev.bind (f := fun k t => (if t = true then L k xs xs (((j + 1 : Nat) : Int)) else (some false))) (hg xs[j] (List.getElem_mem hlt)) ?_)
    · rw [hL, if_pos (by omega), if_pos (by omega), Int.toNat_natCast, hx, if_pos (by omega), w64 (by omega) (by omega)]
      rfl
    · simp only [if_true]
      exact ih (j + 1) (by omega) (by omega)

theorem toInt64S_ends (l : List Int) (hl : (l.length : Int) ≤ 1048576) (d : Nat) : ∀ (i : Nat) (m : List Int), i + d = l.length → m.length = l.length → (∀ j, j < i → m.getD j 0 = l.getD j 0) → Ev (fun k => laws_toInt64S.l0 k l m i) l := by
  induction d with
  | zero =>
    intro i m hi hm hj
    have e : m = l := by
      refine List.ext_getElem hm (fun j h1 h2 => ?_)
      have := hj j (by omega)
      rw [List.getD_eq_getElem?_getD, List.getD_eq_getElem?_getD, List.getElem?_eq_getElem h1, List.getElem?_eq_getElem h2] at this
      simpa using this
    exact Ev.step (f := fun _ => some l) (fun k => by simp only [laws_toInt64S.l0]; rw [if_neg (by omega), e]) (Ev.now _)
  | succ d ih =>
    intro i m hi hm hj
    refine Ev.step (fun k => ?_) (ih (i + 1) (m.set i (rd l i)) (by omega) (by simpa using hm) (fun j hji => ?_))
    · simp only [laws_toInt64S.l0]
      rw [if_pos (by omega), if_pos (by omega), if_pos (by omega), w64 (a := (i : Int) + 1) (by omega) (by omega), Int.toNat_natCast]
      have e1 : ((i : Int) + 1) = ((i + 1 : Nat) : Int) := by omega
      rw [e1]
    · by_cases e : j = i
      · subst e
        rw [List.getD_eq_getElem?_getD, List.getElem?_set_self (by omega)]
        unfold rd; rw [Int.toNat_natCast]; rfl
      · rw [List.getD_eq_getElem?_getD, List.getElem?_set_ne (by omega), ← List.getD_eq_getElem?_getD]
        exact hj j (by omega)
theorem toInt64S_ev (l : List Int) (hl : (l.length : Int) ≤ 1048576) : Ev (fun k => laws_toInt64S.f k l) l := by
  refine Ev.congr (fun k => ?_) (toInt64S_ends l hl l.length 0 (List.replicate l.length 0) (by omega) (by simp) (fun j hj => absurd hj (Nat.not_lt_zero _)))
  unfold laws_toInt64S.f
  rw [if_pos (by omega), if_pos (by omega), Int.toNat_natCast]; rfl
theorem eqInt64S_ends (l : List Int) (hl : (l.length : Int) ≤ 1048576) (d : Nat) : ∀ i : Nat, i + d = l.length → Ev (fun k => laws_eqInt64S.l0 k l l i) true := by
  induction d with
  | zero =>
    intro i hi
    exact Ev.step (f := fun _ => some true) (fun k => by simp only [laws_eqInt64S.l0]; rw [if_neg (by omega)]) (Ev.now _)
  | succ d ih =>
    intro i hi
    refine Ev.step (fun k => ?_) (ih (i + 1) (by omega))
    simp only [laws_eqInt64S.l0]
    rw [if_pos (by omega), if_pos (by omega), if_pos (by omega), if_pos trivial, w64 (a := (i : Int) + 1) (by omega) (by omega)]
    have e1 : ((i : Int) + 1) = ((i + 1 : Nat) : Int) := by omega
    rw [e1]
theorem eqInt64S_ev (l : List Int) (hl : (l.length : Int) ≤ 1048576) : Ev (fun k => laws_eqInt64S.f k l l) true := by
  refine Ev.congr (fun k => ?_) (eqInt64S_ends l hl l.length 0 (by omega))
  unfold laws_eqInt64S.f
  rw [if_pos rfl]; rfl

theorem spec_l01Mod_eq (a m : Int) (hm : 0 < m) (hm1 : m ≤ 4611686018427387904) : spec_l01Mod.f a m = some (a % m) := by
  unfold spec_l01Mod.f; rw [if_neg (by omega)]; exact go_mod a m hm hm1
theorem spec_Word_eq (a : Int) : spec_Word.f a = some (a % 4294967296) := by
  unfold spec_Word.f; rw [spec_l01Mod_eq _ _ (by omega) (by omega)]; rfl

/-- One step of the checksum, as the machine reckons it. -/
def mixStep (x b : Int) : Int := Int.tmod (wrap64 ((wrap64 ((wrap64 (x * 65599)) + (wrap64 b))) + 1)) 2147483629
def mixEnd (x : Int) : Int := Int.tmod (wrap64 ((wrap64 (x * 40503)) + 77)) 2147483629
def mixFrom (s : ByteArray) (x : Int) : Nat → Int
  | 0 => x
  | n + 1 => mixStep (mixFrom s x n) (bt s n)
/-- The checksum of a text. -/
def mixOf (s : ByteArray) (seed : Int) : Int := mixEnd (mixFrom s (seed % 2147483629 + 1) s.size)

theorem impl_mix_ends (s : ByteArray) (hs : (s.size : Int) ≤ 140737488351232) (x : Int) (d : Nat) : ∀ i : Nat, i + d = s.size → Ev (fun k => impl_ymix.l0 k s (mixFrom s x i) s.size i) (mixEnd (mixFrom s x s.size)) := by
  induction d with
  | zero =>
    intro i hi
    obtain rfl : i = s.size := by omega
    exact Ev.step (f := fun _ => some (mixEnd (mixFrom s x s.size))) (fun k => by simp only [impl_ymix.l0]; rw [if_neg (by omega)]; rfl) (Ev.now _)
  | succ d ih =>
    intro i hi
    refine Ev.step (fun k => ?_) (ih (i + 1) (by omega))
    simp only [impl_ymix.l0]
    rw [if_pos (by omega), if_pos (by omega), if_pos (by omega), w64 (a := (i : Int) + 1) (by omega) (by omega)]
    have e1 : ((i : Int) + 1) = ((i + 1 : Nat) : Int) := by omega
    rw [e1]; rfl
theorem impl_ymod_eq (a m : Int) (hm : 0 < m) (hm1 : m ≤ 4611686018427387904) : impl_ymod.f a m = some (a % m) := by
  unfold impl_ymod.f; rw [if_neg (by omega)]; exact go_mod a m hm hm1
theorem impl_ymix_ev (s : ByteArray) (seed : Int) (hs : (s.size : Int) ≤ 140737488351232) : Ev (fun k => impl_ymix.f k s seed) (mixOf s seed) := by
  have h0 := Int.emod_nonneg seed (show (2147483629:Int) ≠ 0 by decide)
  have h1 := Int.emod_lt_of_pos seed (show (0:Int) < 2147483629 by decide)
  refine Ev.congr (f := fun k => impl_ymix.l0 k s (mixFrom s (seed % 2147483629 + 1) 0) s.size (0 : Nat)) (fun k => ?_) (impl_mix_ends s hs _ s.size 0 (by omega))
  unfold impl_ymix.f
  rw [impl_ymod_eq _ _ (by omega) (by omega)]
  simp only [Option.bind_some]
  rw [w64 (by omega) (by omega)]; rfl

theorem spec_mix_ends (s : ByteArray) (hs : (s.size : Int) ≤ 140737488351232) (x : Int) (d : Nat) : ∀ i : Nat, i + d = s.size → Ev (fun k => spec_Mix.l0 k s (mixFrom s x i) i) (mixEnd (mixFrom s x s.size)) := by
  induction d with
  | zero =>
    intro i hi
    obtain rfl : i = s.size := by omega
    exact Ev.step (f := fun _ => some (mixEnd (mixFrom s x s.size))) (fun k => by simp only [spec_Mix.l0]; rw [if_neg (by omega)]; rfl) (Ev.now _)
  | succ d ih =>
    intro i hi
    refine Ev.step (fun k => ?_) (ih (i + 1) (by omega))
    simp only [spec_Mix.l0]
    rw [if_pos (by omega), if_pos (by omega), w64 (a := (i : Int) + 1) (by omega) (by omega)]
    have e1 : ((i : Int) + 1) = ((i + 1 : Nat) : Int) := by omega
    rw [e1]; rfl
theorem spec_Mix_ev (s : ByteArray) (seed : Int) (hs : (s.size : Int) ≤ 65536) : Ev (fun k => spec_Mix.f k s seed) (mixOf s seed) := by
  have h0 := Int.emod_nonneg seed (show (2147483629:Int) ≠ 0 by decide)
  have h1 := Int.emod_lt_of_pos seed (show (0:Int) < 2147483629 by decide)
  refine Ev.congr (f := fun k => spec_Mix.l0 k s (mixFrom s (seed % 2147483629 + 1) 0) (0 : Nat)) (fun k => ?_) (spec_mix_ends s (by omega) _ s.size 0 (by omega))
  unfold spec_Mix.f
  rw [if_neg (by omega), spec_l01Mod_eq _ _ (by omega) (by omega)]
  simp only [Option.bind_some]
  rw [w64 (by omega) (by omega)]; rfl

def toSt (x : S61) : S63 := ⟨x.f0, x.f1⟩
theorem szSt_all (xs : List S61) (h0 : xs.length ≤ 9223372036854775807) (hQ : ∀ x, x ∈ xs → Q61 x) (a1 : Int) (ha : 0 ≤ a1) (ha1 : a1 ≤ 4611686018427387904) : ∃ r, Ev (fun k => laws_szStageS.f k xs a1) r ∧ (r < 0 ∨ (0 ≤ r ∧ r ≤ a1 ∧ (xs.length : Int) ≤ a1)) := by
  unfold laws_szStageS.f
  rw [w64 (by omega) (by omega)]
  by_cases hn : a1 - (xs.length : Int) < 0
  · simp only [if_pos hn]; exact ⟨-1, Ev.now _, Or.inl (by omega)⟩
  · simp only [if_neg hn]
    obtain ⟨r, hr, hc⟩ := sz_loop z61 4611686018427387904 (fun _ => True) laws_szStageS.l0 (fun _ x s => laws_szStage.f x.f0 x.f1 s) (fun k xs s i => by simp only [laws_szStageS.l0]; rfl) xs (by omega) (fun x s hx h0 h1 => by
      have hq := hQ x hx
      obtain ⟨_, q1⟩ := hq
      unfold laws_szStage.f
      rw [w64 (a := s - (x.f1.size : Int)) (by omega) (by omega)]
      by_cases c0 : s - (x.f1.size : Int) < 0
      · rw [if_pos c0]; exact ⟨-1, Ev.now _, Or.inl (by omega)⟩
      · rw [if_neg c0]
        exact ⟨_, Ev.now _, Or.inr ⟨by omega, by omega, trivial⟩⟩) xs.length 0 (a1 - (xs.length : Int)) (by omega) (by omega) (Nat.zero_le _) rfl (fun q hq => absurd hq (Nat.not_lt_zero _))
    refine ⟨r, hr, ?_⟩
    rcases hc with h | h
    · exact Or.inl h
    · exact Or.inr ⟨h.1, by omega, by omega⟩
theorem toSt_all (xs : List S61) (h0 : xs.length ≤ 1048576) : Ev (fun k => laws_toStageS.f k xs) (xs.map toSt) := by
  have := to_loop z61 z63 (fun b : Int × ByteArray => (⟨b.1, b.2⟩ : S63)) toSt laws_toStageS.l0 (fun _ x => laws_toStage.f x.f0 x.f1) (fun k xs ys i => by simp only [laws_toStageS.l0]; rfl) xs (by omega) (fun x hx => ⟨_, Ev.now _, rfl⟩) xs.length 0 (Nat.zero_le _) rfl
  refine Ev.congr (fun k => ?_) this
  unfold laws_toStageS.f
  rw [if_pos (by omega), if_pos (by omega), Int.toNat_natCast]
  rfl
theorem eqSt_all (xs : List S63) (h0 : xs.length ≤ 1048576) : Ev (fun k => laws_eqStageS.f k xs xs) true := by
  have := eq_loop z63 laws_eqStageS.l0 (fun _ x y => laws_eqStage.f x.f0 x.f1 y.f0 y.f1) (fun k xs ys i => by simp only [laws_eqStageS.l0]; rfl) xs (by omega) (fun x _ => Ev.congr (fun k => by unfold laws_eqStage.f; rw [if_pos rfl, if_pos rfl]) (Ev.now _)) xs.length 0 (Nat.zero_le _) rfl
  refine Ev.congr (fun k => ?_) this
  unfold laws_eqStageS.f
  rw [if_pos rfl]
  rfl
theorem rdAt (xs : List Int) (j : Nat) (hlt : j < xs.length) : rd xs (j : Int) = xs[j] := by unfold rd; rw [Int.toNat_natCast, List.getD_eq_getElem?_getD, List.getElem?_eq_getElem hlt, Option.getD_some]
theorem rd63 (xs : List S63) (j : Nat) (hlt : j < xs.length) : rd_T63 xs (j : Int) = xs[j] := by unfold rd_T63; rw [Int.toNat_natCast, List.getD_eq_getElem?_getD, List.getElem?_eq_getElem hlt, Option.getD_some]
theorem isWord_eq (n : Int) : spec_l01IsWord.f n = some (!(regBad n)) := by
  unfold spec_l01IsWord.f regBad
  by_cases h : n ≥ 0
  · rw [if_pos h, decide_eq_true h]; simp
  · rw [if_neg h, decide_eq_false h]; rfl
theorem words_loop (xs : List Int) (hlen : xs.length ≤ 100) (e : Nat) : ∀ j : Nat, j ≤ xs.length → xs.length - j = e → Ev (fun k => spec_l04Words.l0 k xs (xs.length : Int) (j : Int)) (!((xs.drop j).any regBad)) := by
  induction e with
  | zero =>
    intro j hj he
    rw [List.drop_eq_nil_of_le (by omega)]
    exact Ev.step (f := fun _ => some true) (fun k => by simp only [spec_l04Words.l0]; rw [if_neg (by omega)]) (Ev.now _)
  | succ e ih =>
    intro j hj he
    have hlt : j < xs.length := by omega
    rw [List.drop_eq_getElem_cons hlt, List.any_cons]
    have hstep : ∀ k, spec_l04Words.l0 (k + 1) xs (xs.length : Int) (j : Int) = if regBad xs[j] = true then some false else spec_l04Words.l0 k xs (xs.length : Int) (((j + 1 : Nat) : Int)) := by
      intro k
      simp only [spec_l04Words.l0]
      rw [if_pos (by omega), if_pos (by omega), if_pos (by omega), rdAt xs j hlt, isWord_eq, Option.bind_some, w64 (by omega) (by omega)]
      cases regBad xs[j] <;> rfl
    cases hv : regBad xs[j] with
    | true =>
      refine Ev.step (f := fun _ => some false) (fun k => by rw [hstep, hv, if_pos rfl]) ?_
      rw [Bool.true_or]; exact Ev.now _
    | false =>
      refine Ev.step (fun k => by rw [hstep, hv, if_neg (by simp)]) ?_
      rw [Bool.false_or]; exact ih (j + 1) (by omega) (by omega)
def regsB (l : List Int) : Bool := decide (1 ≤ (l.length : Int) ∧ (l.length : Int) ≤ 8) && !(l.any regBad)
theorem spec_regs_ev (l : List Int) : Ev (fun k => spec_l15Regs.f k l) (regsB l) := by
  unfold spec_l15Regs.f regsB
  by_cases h1 : (l.length : Int) ≥ 1
  · by_cases h2 : (l.length : Int) ≤ 8
    · simp only [if_pos h1, if_pos h2]
      rw [decide_eq_true ⟨h1, h2⟩, Bool.true_and]
      have := words_loop l (by omega) l.length 0 (Nat.zero_le _) rfl
      rw [List.drop_zero] at this
      refine Ev.bind (f := fun _ t => some t) ?_ (Ev.now _)
      exact Ev.congr (fun k => by unfold spec_l04Words.f; rw [if_pos rfl]; rfl) this
    · simp only [if_pos h1, if_neg h2]
      rw [decide_eq_false (fun h => h2 h.2)]; exact Ev.now _
  · simp only [if_neg h1]
    rw [decide_eq_false (fun h => h1 h.1)]; exact Ev.now _
theorem impl_regs_eq (l : List Int) : impl_yregsOk.f l = some (regsB l) := by
  unfold impl_yregsOk.f regsB
  by_cases h : 1 ≤ (l.length : Int) ∧ (l.length : Int) ≤ 8
  · rw [if_pos h, decide_eq_true h, Bool.true_and]
  · rw [if_neg h, decide_eq_false h]; rfl
/-- A word's four bytes. -/
def wordTx (x : Int) : ByteArray := strOfNums ([x % 4294967296 % 256, x % 4294967296 / 256 % 256, x % 4294967296 / 65536 % 256, x % 4294967296 / 16777216] : List Int)
theorem wordTx_size (x : Int) : (wordTx x).size = 4 := by unfold wordTx; rw [strOfNums_size]; rfl
theorem spec_putWord (x : Int) : spec_PutWord.f x = some (wordTx x) := by
  unfold spec_PutWord.f wordTx
  rw [spec_Word_eq, Option.bind_some, Int.emod_eq_of_lt (a := x % 4294967296 / 16777216) (b := 256) (by omega) (by omega)]
theorem impl_putWord (x : Int) : impl_PutWord.f x = some (wordTx x) := rfl
def measL : List S63 → List Int → List Int
  | [], cur => cur
  | x :: xs, cur => measL xs (cur.set x.f0.toNat (mixOf (wordTx (rd cur x.f0) ++ x.f1) 31))
theorem measL_length : ∀ (xs : List S63) (cur : List Int), (measL xs cur).length = cur.length
  | [], _ => rfl
  | x :: xs, cur => by simp only [measL]; rw [measL_length xs]; simp
theorem stage_good {n : Int} {x : S63} (h : stageBad n x = false) : 0 ≤ x.f0 ∧ x.f0 ≤ n - 1 ∧ ¬ (x.f1.size : Int) > 4096 := by
  unfold stageBad at h
  rw [Bool.or_eq_false_iff, Bool.not_eq_false', Bool.and_eq_true] at h
  exact ⟨of_decide_eq_true h.1.1, of_decide_eq_true h.1.2, of_decide_eq_false h.2⟩
theorem spec_meas_loop (xs : List S63) (hlen : xs.length ≤ 1048576) (n : Nat) (hn : n ≤ 8) (e : Nat) :
    ∀ (j : Nat) (cur : List Int), j + e = xs.length → cur.length = n → Ev (fun k => spec_Measure.l0 k xs cur (j : Int)) (if (xs.drop j).any (stageBad (n : Int)) = true then [] else measL (xs.drop j) cur) := by
  induction e with
  | zero =>
    intro j cur hj hc
    rw [List.drop_eq_nil_of_le (by omega)]
    exact Ev.step (f := fun _ => some cur) (fun k => by simp only [spec_Measure.l0]; rw [if_neg (by omega)]) (Ev.now _)
  | succ e ih =>
    intro j cur hj hc
    have hlt : j < xs.length := by omega
    have hr := rd63 xs j hlt
    rw [List.drop_eq_getElem_cons hlt, List.any_cons]
    have bad : ∀ v : Int, Ev (fun k => spec_Measure.j2 k xs cur (j : Int) v true) ([] : List Int) := fun v => Ev.step (f := fun _ => some ([] : List Int)) (fun k => by simp only [spec_Measure.j2]; rw [if_pos trivial]) (Ev.now _)
    cases hb : stageBad (n : Int) xs[j] with
    | true =>
      rw [Bool.true_or, if_pos rfl]
      by_cases h0 : xs[j].f0 < 0
      · exact Ev.step (fun k => by simp only [spec_Measure.l0]; rw [if_pos (by omega), if_pos (by omega), hr, if_pos h0]) (bad _)
      · by_cases h1 : xs[j].f0 ≥ (cur.length : Int)
        · exact Ev.step (fun k => by simp only [spec_Measure.l0]; rw [if_pos (by omega), if_pos (by omega), hr, if_neg h0, if_pos h1]) (bad _)
        · have h2 : (xs[j].f1.size : Int) > 4096 := by
            unfold stageBad at hb
            rw [decide_eq_true (p := 0 ≤ xs[j].f0) (by omega), decide_eq_true (p := xs[j].f0 ≤ (n : Int) - 1) (by omega)] at hb
            simpa using hb
          exact Ev.step (fun k => by simp only [spec_Measure.l0]; rw [if_pos (by omega), if_pos (by omega), hr, if_neg h0, if_neg h1, decide_eq_true h2]) (bad _)
    | false =>
      rw [Bool.false_or]
      obtain ⟨g0, g1, g2⟩ := stage_good hb
      have hsz : ((wordTx (rd cur xs[j].f0) ++ xs[j].f1).size : Int) ≤ 65536 := by rw [ByteArray.size_append, wordTx_size]; omega
      have hmix := spec_Mix_ev (wordTx (rd cur xs[j].f0) ++ xs[j].f1) 31 hsz
      have := ih (j + 1) (cur.set xs[j].f0.toNat (mixOf (wordTx (rd cur xs[j].f0) ++ xs[j].f1) 31)) (by omega) (by rw [List.length_set]; exact hc)
      simp only [measL]
      refine Ev.step (f := fun k => spec_Measure.j2 k xs cur (j : Int) xs[j].f0 false) (fun k => by simp only [spec_Measure.l0]; rw [if_pos (by omega), if_pos (by omega), hr, if_neg (by omega), if_neg (by omega), decide_eq_false g2]) ?_
      refine Ev.step (f := fun k => (spec_Mix.f k (wordTx (rd cur xs[j].f0) ++ xs[j].f1) 31).bind fun t134 => (spec_Measure.l0 k xs (cur.set xs[j].f0.toNat t134) ((j + 1 : Nat) : Int))) (fun k => ?_) (Ev.bind hmix this)
      simp only [spec_Measure.j2]
      rw [if_neg (by simp), if_pos g0, if_pos (by omega), spec_putWord, Option.bind_some, if_pos (by omega), if_pos (by omega), hr, wordTx_size, if_pos (by omega), w64 (by omega) (by omega), show ((j : Int) + 1) = ((j + 1 : Nat) : Int) from by omega]
theorem impl_meas_loop (xs : List S63) (hlen : xs.length ≤ 1048576) (n : Nat) (hn : n ≤ 8) (hg : ∀ x, x ∈ xs → stageBad (n : Int) x = false) (e : Nat) :
    ∀ (j : Nat) (cur : List Int), j + e = xs.length → cur.length = n → Ev (fun k => impl_ymeasure.l0 k cur xs (xs.length : Int) (j : Int)) (measL (xs.drop j) cur) := by
  induction e with
  | zero =>
    intro j cur hj hc
    rw [List.drop_eq_nil_of_le (by omega)]
    exact Ev.step (f := fun _ => some cur) (fun k => by simp only [impl_ymeasure.l0]; rw [if_neg (by omega)]) (Ev.now _)
  | succ e ih =>
    intro j cur hj hc
    have hlt : j < xs.length := by omega
    have hr := rd63 xs j hlt
    rw [List.drop_eq_getElem_cons hlt]
    obtain ⟨g0, g1, g2⟩ := stage_good (hg xs[j] (List.getElem_mem hlt))
    have hsz : ((wordTx (rd cur xs[j].f0) ++ xs[j].f1).size : Int) ≤ 140737488351232 := by rw [ByteArray.size_append, wordTx_size]; omega
    have hmix := impl_ymix_ev (wordTx (rd cur xs[j].f0) ++ xs[j].f1) 31 hsz
    have := ih (j + 1) (cur.set xs[j].f0.toNat (mixOf (wordTx (rd cur xs[j].f0) ++ xs[j].f1) 31)) (by omega) (by rw [List.length_set]; exact hc)
    simp only [measL]
    refine Ev.step (f := fun k => (impl_ymix.f k (wordTx (rd cur xs[j].f0) ++ xs[j].f1) 31).bind fun t164 => (impl_ymeasure.l0 k (cur.set xs[j].f0.toNat t164) xs (xs.length : Int) ((j + 1 : Nat) : Int))) (fun k => ?_) (Ev.bind hmix this)
    simp only [impl_ymeasure.l0]
    rw [if_pos (by omega), if_pos (by omega), if_pos (by omega), hr, if_pos g0, if_pos (by omega), impl_putWord, Option.bind_some, wordTx_size, if_pos (by omega), w64 (by omega) (by omega), show ((j : Int) + 1) = ((j + 1 : Nat) : Int) from by omega]
theorem meas_both (l : List Int) (xs : List S63) (hx : xs.length ≤ 1048576) : ∃ z, Ev (fun k => spec_Measure.f k l xs) z ∧ Ev (fun k => impl_Measure.f k l xs) z ∧ z.length ≤ 1048576 := by
  have bad : Ev (fun k => spec_Measure.j0 k l xs true) ([] : List Int) := Ev.step (f := fun _ => some ([] : List Int)) (fun k => by simp only [spec_Measure.j0]; rw [if_pos trivial]) (Ev.now _)
  have hs := spec_regs_ev l
  have hi := impl_regs_eq l
  cases hr : regsB l with
  | false =>
    rw [hr] at hs hi
    refine ⟨[], ?_, ?_, by simp⟩
    · unfold spec_Measure.f
      refine Ev.bind hs ?_
      simp only [Bool.false_eq_true, if_false]; exact bad
    · unfold impl_Measure.f
      rw [hi]
      simp only [Option.bind_some, Bool.false_eq_true, if_false]
      exact Ev.now _
  | true =>
    rw [hr] at hs hi
    unfold regsB at hr
    rw [Bool.and_eq_true] at hr
    have hlen := of_decide_eq_true hr.1
    by_cases hl : (xs.length : Int) > 1000
    · refine ⟨[], ?_, ?_, by simp⟩
      · unfold spec_Measure.f
        refine Ev.bind hs ?_
        simp only [if_true, decide_eq_true hl]; exact bad
      · unfold impl_Measure.f
        rw [hi]
        simp only [Option.bind_some, if_true, if_pos hl]
        exact Ev.now _
    · have hints : spec_l01Ints.f l = some l := by
        unfold spec_l01Ints.f
        simp only [Option.bind_some, List.nil_append, List.length_nil]
        rw [if_pos (by omega)]
      have hspec : Ev (fun k => spec_Measure.f k l xs) (if xs.any (stageBad (l.length : Int)) = true then [] else measL xs l) := by
        unfold spec_Measure.f
        refine Ev.bind hs ?_
        simp only [if_true, decide_eq_false hl]
        have := spec_meas_loop xs hx l.length (by omega) xs.length 0 l (by omega) rfl
        rw [List.drop_zero] at this
        exact Ev.step (f := fun k => spec_Measure.l0 k xs l ((0 : Nat) : Int)) (fun k => by simp only [spec_Measure.j0]; rw [if_neg (by simp), hints, Option.bind_some]; rfl) this
      refine ⟨_, hspec, ?_, ?_⟩
      · unfold impl_Measure.f
        rw [hi]
        simp only [Option.bind_some, if_true, if_neg hl]
        cases ha : xs.any (stageBad (l.length : Int)) with
        | true => simp only [if_true]; exact Ev.now _
        | false =>
          simp only [Bool.false_eq_true, if_false]
          have := impl_meas_loop xs hx l.length (by omega) (fun x hxm => by
            have := List.any_eq_false.mp ha x hxm
            cases hh : stageBad (l.length : Int) x with
            | false => rfl
            | true => exact absurd hh this) xs.length 0 l (by omega) rfl
          rw [List.drop_zero] at this
          refine Ev.congr (f := fun k => impl_ymeasure.l0 k l xs (xs.length : Int) ((0 : Nat) : Int)) (fun k => ?_) this
          unfold impl_ymeasure.f slices_Clone_int64_int64.f
          rw [if_pos (by omega), Option.bind_some]
          rfl
      · split
        · simp
        · rw [measL_length]; omega
/-- Marking a row of numbers. -/
def markL : List Int → Int → List Int
  | [], _ => []
  | _ :: xs, m => m :: markL xs (m + 1)
theorem markL_length : ∀ (xs : List Int) (m : Int), (markL xs m).length = xs.length
  | [], _ => rfl
  | x :: xs, m => by simp only [markL, List.length_cons, markL_length xs]
theorem mark_loop (e : Nat) : ∀ (pre suf : List Int) (m : Int), suf.length = e → (pre.length : Int) + (suf.length : Int) ≤ 4611686018427387904 → 0 ≤ m → m + (suf.length : Int) ≤ 4611686018427387904 →
    Ev (fun k => laws_markInt64S.l0 k (pre ++ suf) m (pre.length : Int)) (m + (suf.length : Int), pre ++ markL suf m) := by
  induction e with
  | zero =>
    intro pre suf m hs _ _ _
    have : suf = [] := List.eq_nil_of_length_eq_zero hs
    subst this
    refine Ev.step (f := fun _ => some (m, pre)) (fun k => ?_) ?_
    · simp only [laws_markInt64S.l0, List.append_nil]
      rw [if_neg (by omega)]
    · simp only [List.length_nil, markL, List.append_nil]
      rw [show m + ((0 : Nat) : Int) = m from by omega]
      exact Ev.now _
  | succ e ih =>
    intro pre suf m hs h1 h2 h3
    cases suf with
    | nil => simp at hs
    | cons a suf =>
      simp only [List.length_cons] at hs h1 h3
      have := ih (pre ++ [m]) suf (m + 1) (by omega) (by rw [List.length_append, List.length_cons, List.length_nil]; omega) (by omega) (by omega)
      rw [List.append_assoc, List.append_assoc, List.singleton_append, List.singleton_append] at this
      simp only [markL, List.length_cons]
      rw [show m + ((suf.length + 1 : Nat) : Int) = m + 1 + (suf.length : Int) from by omega]
      refine Ev.step (fun k => ?_) this
      simp only [laws_markInt64S.l0]
      rw [if_pos (by rw [List.length_append, List.length_cons]; omega), if_pos (by omega), Int.toNat_natCast, List.set_append_right _ _ (Nat.le_refl _), Nat.sub_self, List.set_cons_zero, w64 (by omega) (by omega), w64 (by omega) (by omega), List.length_append, List.length_cons, List.length_nil, show ((pre.length : Int) + 1) = ((pre.length + (0 + 1) : Nat) : Int) from by omega]
theorem mark_ev (l : List Int) (hl : l.length ≤ 1048576) : Ev (fun k => laws_markInt64S.f k l 1) (1 + (l.length : Int), markL l 1) := by
  have := mark_loop l.length [] l 1 rfl (by simp only [List.length_nil]; omega) (by omega) (by omega)
  exact this
theorem held_loop (e : Nat) : ∀ (pre suf : List Int) (m : Int), suf.length = e → (pre.length : Int) + (suf.length : Int) ≤ 4611686018427387904 → 0 ≤ m → m + (suf.length : Int) ≤ 4611686018427387904 →
    Ev (fun k => laws_heldInt64S.l0 k (pre ++ markL suf m) m (pre.length : Int)) (m + (suf.length : Int)) := by
  induction e with
  | zero =>
    intro pre suf m hs _ _ _
    have : suf = [] := List.eq_nil_of_length_eq_zero hs
    subst this
    refine Ev.step (f := fun _ => some m) (fun k => ?_) ?_
    · simp only [laws_heldInt64S.l0, markL, List.append_nil]
      rw [if_neg (by omega)]
    · rw [List.length_nil, show m + ((0 : Nat) : Int) = m from by omega]
      exact Ev.now _
  | succ e ih =>
    intro pre suf m hs h1 h2 h3
    cases suf with
    | nil => simp at hs
    | cons a suf =>
      simp only [List.length_cons] at hs h1 h3
      have := ih (pre ++ [m]) suf (m + 1) (by omega) (by rw [List.length_append, List.length_cons, List.length_nil]; omega) (by omega) (by omega)
      rw [List.append_assoc, List.singleton_append] at this
      simp only [markL, List.length_cons]
      rw [show m + ((suf.length + 1 : Nat) : Int) = m + 1 + (suf.length : Int) from by omega]
      refine Ev.step (fun k => ?_) this
      have hrd : rd (pre ++ m :: markL suf (m + 1)) (pre.length : Int) = m := by
        rw [rdAt _ _ (by rw [List.length_append, List.length_cons]; omega), List.getElem_append_right (Nat.le_refl _)]
        simp
      simp only [laws_heldInt64S.l0]
      rw [if_pos (by rw [List.length_append, List.length_cons]; omega), if_pos (by omega), if_pos hrd, w64 (by omega) (by omega), w64 (by omega) (by omega), List.length_append, List.length_cons, List.length_nil, show ((pre.length : Int) + 1) = ((pre.length + (0 + 1) : Nat) : Int) from by omega]
theorem held_ev (l : List Int) (hl : l.length ≤ 1048576) : Ev (fun k => laws_heldInt64S.f k (markL l 1) 1) (1 + (l.length : Int)) :=
  held_loop l.length [] l 1 rfl (by simp only [List.length_nil]; omega) (by omega) (by omega)
theorem markText_loop (e : Nat) : ∀ (x : Int) (s : ByteArray), 0 ≤ x → x.toNat ≤ e → (s.size : Int) + x ≤ 4611686018427387904 → ∃ t, Ev (fun k => laws_markText.l0 k x s) t := by
  induction e with
  | zero =>
    intro x s h0 h1 h2
    exact ⟨_, Ev.step (f := fun _ => some ((⟨#[109]⟩ : ByteArray) ++ s)) (fun k => by simp only [laws_markText.l0]; rw [if_neg (by omega), if_pos (by omega)]) (Ev.now _)⟩
  | succ e ih =>
    intro x s h0 h1 h2
    by_cases hx : x > 0
    · have hd : Int.tdiv x 10 = x / 10 := tdiv_nn h0
      have hw : wrap64 (Int.tdiv x 10) = x / 10 := by rw [hd]; exact w64 (by omega) (by omega)
      obtain ⟨t, ht⟩ := ih (x / 10) ((strOfNums ([(wrap64 (48 + (Int.tmod x 10))) % 256] : List Int)) ++ s) (by omega) (by omega) (by rw [ByteArray.size_append, strOfNums_size, List.length_cons, List.length_nil]; omega)
      refine ⟨t, Ev.step (fun k => ?_) ht⟩
      simp only [laws_markText.l0]
      rw [if_pos hx, Option.bind_some, strOfNums_size, List.length_cons, List.length_nil, if_pos (by omega), hw]
    · exact ⟨_, Ev.step (f := fun _ => some ((⟨#[109]⟩ : ByteArray) ++ s)) (fun k => by simp only [laws_markText.l0]; rw [if_neg hx, if_pos (by omega)]) (Ev.now _)⟩
theorem markText_ev (x : Int) (h0 : 0 ≤ x) (h1 : x ≤ 1099511627776) : ∃ t, Ev (fun k => laws_markText.f k x) t := by
  unfold laws_markText.f
  by_cases h : x ≤ 0
  · simp only [if_pos h]; exact ⟨_, Ev.now _⟩
  · simp only [if_neg h]
    exact markText_loop x.toNat x ⟨#[]⟩ h0 (Nat.le_refl _) (by show ((0 : Nat) : Int) + x ≤ _; omega)
theorem markSt_loop (e : Nat) : ∀ (j : Nat) (xs : List S63) (m : Int), j + e = xs.length → xs.length ≤ 1048576 → 0 ≤ m → m + 2 * (e : Int) ≤ 1099511627776 → ∃ r, Ev (fun k => laws_markStageS.l0 k xs m (j : Int)) r ∧ 0 ≤ r.1 := by
  induction e with
  | zero =>
    intro j xs m hj hx h0 h1
    exact ⟨(m, xs), Ev.step (f := fun _ => some (m, xs)) (fun k => by simp only [laws_markStageS.l0]; rw [if_neg (by omega)]) (Ev.now _), h0⟩
  | succ e ih =>
    intro j xs m hj hx h0 h1
    obtain ⟨t, ht⟩ := markText_ev (m + 1) (by omega) (by omega)
    obtain ⟨r, hr, hr0⟩ := ih (j + 1) ((xs.set j (⟨m, (rd_T63 xs (j : Int)).f1⟩ : S63)).set j (⟨(rd_T63 (xs.set j (⟨m, (rd_T63 xs (j : Int)).f1⟩ : S63)) (j : Int)).f0, t⟩ : S63)) (m + 1 + 1) (by rw [List.length_set, List.length_set]; omega) (by rw [List.length_set, List.length_set]; exact hx) (by omega) (by omega)
    refine ⟨r, Ev.step (f := fun k => (laws_markText.f k (m + 1)).bind fun t178 => (laws_markStageS.l0 k ((xs.set j (⟨m, (rd_T63 xs (j : Int)).f1⟩ : S63)).set j (⟨(rd_T63 (xs.set j (⟨m, (rd_T63 xs (j : Int)).f1⟩ : S63)) (j : Int)).f0, t178⟩ : S63)) (m + 1 + 1) (((j + 1 : Nat) : Int)))) (fun k => ?_) (Ev.bind ht hr), hr0⟩
    simp only [laws_markStageS.l0]
    rw [if_pos (by omega), if_pos (by omega), Option.bind_some, Int.toNat_natCast, w64 (a := m + 1) (by omega) (by omega), w64 (a := m + 1 + 1) (by omega) (by omega), w64 (a := (j : Int) + 1) (by omega) (by omega), show ((j : Int) + 1) = ((j + 1 : Nat) : Int) from by omega]
theorem FnExactMeasure : laws_FnExactMeasure.Pure := by
  intro l xs _ hQ
  obtain ⟨hlm, hq⟩ := hQ
  refine Ev.rounds (r := true) ?_
  unfold laws_FnExactMeasure.f
  by_cases h1 : (l.length : Int) > 1048576
  · simp only [if_pos h1]; exact Ev.now _
  · simp only [if_neg h1]
    obtain ⟨r, hr, hc⟩ := szSt_all xs hlm hq 1048576 (by omega) (by omega)
    refine Ev.bind hr ?_
    by_cases hrn : r < 0
    · simp only [if_pos hrn]; exact Ev.now _
    · simp only [if_neg hrn]
      have hl : (l.length : Int) ≤ 1048576 := by omega
      have hx : xs.length ≤ 1048576 := by have := hc.resolve_left hrn; omega
      have hxm : (xs.map toSt).length ≤ 1048576 := by rw [List.length_map]; exact hx
      have t1 := toInt64S_ev l hl
      have t2 := toSt_all xs hx
      obtain ⟨z, z1, z2, zl⟩ := meas_both l (xs.map toSt) hxm
      have ez := eqInt64S_ev z (by omega)
      refine Ev.bind t1 (Ev.bind t2 (Ev.bind z1 (Ev.bind t1 (Ev.bind t2 (Ev.bind z2 (Ev.bind ez ?_))))))
      simp only [if_true]
      refine Ev.bind t1 (Ev.bind (eqInt64S_ev l hl) ?_)
      simp only [if_true]
      refine Ev.bind t2 (Ev.bind (eqSt_all (xs.map toSt) hxm) ?_)
      simp only [if_true]
      refine Ev.bind (mark_ev l (by omega)) ?_
      obtain ⟨ms, hms, hms0⟩ := markSt_loop (xs.map toSt).length 0 (xs.map toSt) (1 + (l.length : Int)) (by omega) hxm (by omega) (by omega)
      refine Ev.bind (Ev.congr (fun k => rfl) hms) ?_
      have hneg : ¬ ms.1 < 0 := by omega
      simp only [if_neg hneg]
      refine Ev.bind ez ?_
      simp only [Bool.not_true]
      have hm := mark_ev z zl
      have hh := held_ev z zl
      have c1 : ¬ (1 + (z.length : Int)) < 0 := by omega
      refine Ev.step (f := fun k => (laws_markInt64S.f k z 1).bind fun bt214 => ((laws_heldInt64S.f k bt214.2 1).bind fun t216 => (if t216 < 0 then (some false) else (if t216 = bt214.1 then ((laws_toInt64S.f k l).bind fun t217 => ((laws_toStageS.f k xs).bind fun t220 => ((impl_Measure.f k t217 t220).bind fun t223 => ((laws_eqInt64S.f k t223 z).bind fun t226 => (if t226 = true then ((laws_heldInt64S.f k bt214.2 1).bind fun t227 => (if t227 < 0 then (some false) else (if t227 = bt214.1 then (some true) else (some false)))) else (some false)))))) else (some false))))) (fun k => by simp only [laws_FnExactMeasure.j0]; rw [if_neg (by simp)]) ?_
      refine Ev.bind hm (Ev.bind hh ?_)
      simp only [if_neg c1, if_true]
      refine Ev.bind t1 (Ev.bind t2 (Ev.bind z2 (Ev.bind ez ?_)))
      simp only [if_true]
      refine Ev.bind hh ?_
      simp only [if_neg c1, if_true]
      exact Ev.now _

end Go.Proofs.Ytpcpjkbjadgoiaa.Pure
