/- What is put into drawn buffers changes no byte outside of those that may be written to, and no more of them than there is. Conditions: none. -/
import Derived.Test.YtopeblicjgbfcaaQFnSpreadx
import Derived.Test.YtopeblicjgbfcaaPl
import Derived.Test.YtopeblicjgbfcaaBy
set_option linter.unusedVariables false
set_option linter.unusedSimpArgs false
namespace Go.Proofs.Ytopeblicjgbfcaa.Pure
open Go.RowKit Go.Proofs.Ytopeblicjgbfcaa.QFnSpread Go.Proofs.YtopeblicjgbfcaaW.PrintWords Go.Proofs.YtopeblicjgbfcaaW.PrintLast Go.Proofs.Ytopeblicjgbfcaa.Pl Go.Proofs.YtopeblicjgbfcaaW.PrintMore
/-- A loop that takes the size of every element off a budget: it ends, below zero or with every element small. -/
theorem sz_loop {α : Type} (d : α) (M : Int) (ok : α → Prop) (L : Nat → List α → Int → Int → Option Int) (g : Nat → α → Int → Option Int)
    (hL : ∀ k xs s i, L (k + 1) xs s i = if i < (xs.length : Int) then (if 0 ≤ i then ((g k (xs.getD i.toNat d) s).bind fun t => (if t < 0 then (some (-1)) else (L k xs t (wrap64 (i + 1))))) else none) else some s)
    (xs : List α) (hlen : (xs.length : Int) ≤ 4611686018427387904)
    (hg : ∀ x s, x ∈ xs → 0 ≤ s → s ≤ M → ∃ t, Ev (fun k => g k x s) t ∧ (t < 0 ∨ (0 ≤ t ∧ t ≤ s ∧ ok x))) (e : Nat) :
    ∀ (j : Nat) (s : Int), 0 ≤ s → s ≤ M → j ≤ xs.length → xs.length - j = e → (∀ q, q < j → ok (xs.getD q d)) → ∃ r, Ev (fun k => L k xs s (j : Int)) r ∧ (r < 0 ∨ (0 ≤ r ∧ r ≤ s ∧ ∀ x, x ∈ xs → ok x)) := by
  induction e with
  | zero =>
    intro j s h0 hM hj he hok
    refine ⟨s, Ev.step (f := fun _ => some s) (fun k => by rw [hL, if_neg (by omega)]) (Ev.now _), Or.inr ⟨h0, Int.le_refl _, fun x hx => ?_⟩⟩
    obtain ⟨q, hq, rfl⟩ := List.getElem_of_mem hx
    have := hok q (by omega)
    rwa [List.getD_eq_getElem?_getD, List.getElem?_eq_getElem hq, Option.getD_some] at this
  | succ e ih =>
    intro j s h0 hM hj he hok
    have hlt : j < xs.length := by omega
    have hmem : xs.getD j d ∈ xs := by
      rw [List.getD_eq_getElem?_getD, List.getElem?_eq_getElem hlt, Option.getD_some]; exact List.getElem_mem hlt
    obtain ⟨t, ht, hc⟩ := hg (xs.getD j d) s hmem h0 hM
    have hs : ∀ k, L (k + 1) xs s (j : Int) = ((g k (xs.getD j d) s).bind fun t => (if t < 0 then (some (-1)) else (L k xs t (wrap64 ((j : Int) + 1))))) := fun k => by
      rw [hL, if_pos (by omega), if_pos (by omega), Int.toNat_natCast]
    by_cases hn : t < 0
    · refine ⟨-1, Ev.step (fun k => hs k) (Ev.bind ht ?_), Or.inl (by omega)⟩
      simp only [if_pos hn]
      exact Ev.now _
    · have hc' := hc.resolve_left hn
      obtain ⟨r, hr, hrc⟩ := ih (j + 1) t hc'.1 (by omega) (by omega) (by omega) (fun q hq => by
        by_cases hqj : q = j
        · subst hqj; exact hc'.2.2
        · exact hok q (by omega))
      refine ⟨r, Ev.step (fun k => hs k) (Ev.bind ht ?_), ?_⟩
      · simp only [if_neg hn]
        rw [w64 (by omega) (by omega), show ((j : Int) + 1) = ((j + 1 : Nat) : Int) from by omega]
        exact hr
      · rcases hrc with h | h
        · exact Or.inl h
        · exact Or.inr ⟨h.1, by omega, h.2.2⟩
/-- A loop that turns every element. -/
theorem to_loop {α β γ : Type} (d : α) (z : β) (mk : γ → β) (c : α → β) (L : Nat → List α → List β → Int → Option (List β)) (g : Nat → α → Option γ)
    (hL : ∀ k xs ys i, L (k + 1) xs ys i = if i < (xs.length : Int) then (if 0 ≤ i then ((g k (xs.getD i.toNat d)).bind fun b => (if i < (ys.length : Int) then (L k xs (ys.set i.toNat (mk b)) (wrap64 (i + 1))) else none)) else none) else some ys)
    (xs : List α) (hlen : (xs.length : Int) ≤ 4611686018427387904)
    (hg : ∀ x, x ∈ xs → ∃ b, Ev (fun k => g k x) b ∧ mk b = c x) (e : Nat) :
    ∀ (j : Nat), j ≤ xs.length → xs.length - j = e → Ev (fun k => L k xs ((xs.take j).map c ++ List.replicate (xs.length - j) z) (j : Int)) (xs.map c) := by
  induction e with
  | zero =>
    intro j hj he
    obtain rfl : j = xs.length := by omega
    refine Ev.step (f := fun _ => some (xs.map c)) (fun k => ?_) (Ev.now _)
    rw [hL, if_neg (by omega), List.take_length, Nat.sub_self, List.replicate_zero, List.append_nil]
  | succ e ih =>
    intro j hj he
    have hlt : j < xs.length := by omega
    have hx : xs.getD j d = xs[j] := by rw [List.getD_eq_getElem?_getD, List.getElem?_eq_getElem hlt, Option.getD_some]
    obtain ⟨b, hb, hbc⟩ := hg xs[j] (List.getElem_mem hlt)
    have hlm : ((xs.take j).map c).length = j := by rw [List.length_map, List.length_take]; omega
    have hly : (((xs.take j).map c ++ List.replicate (xs.length - j) z).length : Int) = (xs.length : Int) := by
      rw [List.length_append, hlm, List.length_replicate]; omega
    have hset : (((xs.take j).map c ++ List.replicate (xs.length - j) z).set j (mk b)) = (xs.take (j + 1)).map c ++ List.replicate (xs.length - (j + 1)) z := by
      rw [List.set_append_right _ _ (by omega), hlm, Nat.sub_self, show xs.length - j = (xs.length - (j + 1)) + 1 from by omega, List.replicate_succ, List.set_cons_zero, hbc, List.take_succ_eq_append_getElem hlt, List.map_append, List.append_assoc]
      rfl
    refine Ev.step (f := fun k => (g k xs[j]).bind fun b => L k xs (((xs.take j).map c ++ List.replicate (xs.length - j) z).set j (mk b)) (((j + 1 : Nat) : Int))) (fun k => ?_) (Ev.bind (f := fun k b => L k xs (((xs.take j).map c ++ List.replicate (xs.length - j) z).set j (mk b)) (((j + 1 : Nat) : Int))) hb ?_)
    · have hlj : (j : Int) < (xs.length : Int) := by omega
      rw [hL, if_pos (by omega), if_pos (by omega), Int.toNat_natCast, hx, hly, w64 (by omega) (by omega)]
      simp only [if_pos hlj]
      rfl
    · rw [hset]
      exact ih (j + 1) (by omega) (by omega)
/-- A loop that asks every pair of elements. -/
theorem eq_loop {α : Type} (d : α) (L : Nat → List α → List α → Int → Option Bool) (g : Nat → α → α → Option Bool)
    (hL : ∀ k xs ys i, L (k + 1) xs ys i = if i < (xs.length : Int) then (if 0 ≤ i then (if i < (ys.length : Int) then ((g k (xs.getD i.toNat d) (ys.getD i.toNat d)).bind fun t => (if t = true then (L k xs ys (wrap64 (i + 1))) else (some false))) else none) else none) else some true)
    (xs : List α) (hlen : (xs.length : Int) ≤ 4611686018427387904)
    (hg : ∀ x, x ∈ xs → Ev (fun k => g k x x) true) (e : Nat) :
    ∀ (j : Nat), j ≤ xs.length → xs.length - j = e → Ev (fun k => L k xs xs (j : Int)) true := by
  induction e with
  | zero =>
    intro j hj he
    exact Ev.step (f := fun _ => some true) (fun k => by rw [hL, if_neg (by omega)]) (Ev.now _)
  | succ e ih =>
    intro j hj he
    have hlt : j < xs.length := by omega
    have hx : xs.getD j d = xs[j] := by rw [List.getD_eq_getElem?_getD, List.getElem?_eq_getElem hlt, Option.getD_some]
    refine Ev.step (f := fun k => (g k xs[j] xs[j]).bind fun t => (if t = true then L k xs xs (((j + 1 : Nat) : Int)) else (some false))) (fun k => ?_) (Ev.bind (f := fun k t => (if t = true then L k xs xs (((j + 1 : Nat) : Int)) else (some false))) (hg xs[j] (List.getElem_mem hlt)) ?_)
    · rw [hL, if_pos (by omega), if_pos (by omega), Int.toNat_natCast, hx, if_pos (by omega), w64 (by omega) (by omega)]
      rfl
    · simp only [if_true]
      exact ih (j + 1) (by omega) (by omega)

/-- A memory's size is right. -/
def memOk (s : ByteArray) : Prop := 256 ≤ (s.size : Int) ∧ (s.size : Int) ≤ 65536 ∧ (s.size : Int) % 256 = 0
theorem impl_ymemOk_eq (s : ByteArray) : (memOk s ∧ impl_ymemOk.f s = some true) ∨ (¬ memOk s ∧ impl_ymemOk.f s = some false) := by
  unfold impl_ymemOk.f memOk
  by_cases h0 : (s.size : Int) ≥ 256
  · rw [if_pos h0]
    by_cases h1 : (s.size : Int) ≤ 65536
    · rw [if_pos h1]
      by_cases h2 : (s.size : Int) % 256 = 0
      · left; exact ⟨⟨h0, h1, h2⟩, by simp [h2]⟩
      · right; exact ⟨fun h => h2 h.2.2, by simp [h2]⟩
    · rw [if_neg h1]; right; exact ⟨fun h => h1 h.2.1, rfl⟩
  · rw [if_neg h0]; right; exact ⟨fun h => h0 h.1, rfl⟩
theorem spec_MemFault_eq (s : ByteArray) : (memOk s ∧ spec_MemFault.f s = some 0) ∨ (¬ memOk s ∧ spec_MemFault.f s = some 1) := by
  unfold spec_MemFault.f memOk
  by_cases h0 : (s.size : Int) = 0
  · rw [if_pos h0]; right; exact ⟨fun h => by omega, rfl⟩
  · rw [if_neg h0]
    by_cases h1 : (s.size : Int) % 256 = 0
    · rw [if_pos h1]
      by_cases h2 : (s.size : Int) > 65536
      · rw [if_pos h2]; right; exact ⟨fun h => by omega, rfl⟩
      · rw [if_neg h2]; left; exact ⟨⟨by omega, by omega, h1⟩, rfl⟩
    · rw [if_neg h1]; right; exact ⟨fun h => h1 h.2.2, rfl⟩

theorem fits_iff (n a z : Int) (hn0 : 0 ≤ n) (hn : n ≤ 140737488351232) : fitsB n a z = true ↔ 0 ≤ a ∧ 0 ≤ z ∧ a + z ≤ n := by
  unfold fitsB
  simp only [Bool.and_eq_true, decide_eq_true_eq]
  constructor
  · rintro ⟨h0, h1, h2, h3⟩
    rw [w64 (by omega) (by omega)] at h3
    omega
  · rintro ⟨h0, h1, h2⟩
    refine ⟨h0, h1, by omega, ?_⟩
    rw [w64 (by omega) (by omega)]
    omega
theorem in_eq (s : ByteArray) (a z : Int) : spec_l10In.f s a z = some (fitsB (s.size : Int) a z) := by
  unfold spec_l10In.f fitsB
  by_cases h0 : a ≥ 0
  · rw [if_pos h0, decide_eq_true h0]
    by_cases h1 : z ≥ 0
    · rw [if_pos h1, decide_eq_true h1]
      by_cases h2 : a ≤ (s.size : Int)
      · rw [if_pos h2, decide_eq_true h2]; rfl
      · rw [if_neg h2, decide_eq_false h2]; rfl
    · rw [if_neg h1, decide_eq_false h1]; rfl
  · rw [if_neg h0, decide_eq_false h0]; rfl
theorem rd28 (xs : List S28) (j : Nat) (hlt : j < xs.length) : rd_T28 xs (j : Int) = xs[j] := by unfold rd_T28; rw [Int.toNat_natCast, List.getD_eq_getElem?_getD, List.getElem?_eq_getElem hlt, Option.getD_some]
theorem bufs_loop (s : ByteArray) (xs : List S28) (hlen : (xs.length : Int) ≤ 1000) (e : Nat) : ∀ j : Nat, j ≤ xs.length → xs.length - j = e → Ev (fun k => spec_l10Bufs.l0 k s xs (j : Int)) (!((xs.drop j).any (bufBad (s.size : Int)))) := by
  induction e with
  | zero =>
    intro j hj he
    rw [List.drop_eq_nil_of_le (by omega)]
    exact Ev.step (f := fun _ => some true) (fun k => by simp only [spec_l10Bufs.l0]; rw [if_neg (by omega)]) (Ev.now _)
  | succ e ih =>
    intro j hj he
    have hlt : j < xs.length := by omega
    rw [List.drop_eq_getElem_cons hlt, List.any_cons]
    have hstep : ∀ k, spec_l10Bufs.l0 (k + 1) s xs (j : Int) = if bufBad (s.size : Int) xs[j] = true then some false else spec_l10Bufs.l0 k s xs (((j + 1 : Nat) : Int)) := by
      intro k
      simp only [spec_l10Bufs.l0]
      rw [if_pos (by omega), if_pos (by omega), rd28 xs j hlt, in_eq, Option.bind_some, w64 (by omega) (by omega)]
      unfold bufBad
      cases fitsB (s.size : Int) xs[j].f0 xs[j].f1 <;> rfl
    cases hv : bufBad (s.size : Int) xs[j] with
    | true =>
      refine Ev.step (f := fun _ => some false) (fun k => by rw [hstep, hv, if_pos rfl]) ?_
      rw [Bool.true_or]; exact Ev.now _
    | false =>
      refine Ev.step (fun k => by rw [hstep, hv, if_neg (by simp)]) ?_
      rw [Bool.false_or]; exact ih (j + 1) (by omega) (by omega)
/-- The reference's test of the buffers, and the program's. -/
theorem bufs_ev (s : ByteArray) (xs : List S28) (hm : memOk s) (hlen : (xs.length : Int) ≤ 1000) : Ev (fun k => spec_l10Bufs.f k s xs) (!(xs.any (bufBad (s.size : Int)))) := by
  rcases spec_MemFault_eq s with ⟨_, em⟩ | ⟨hn, _⟩
  · have := bufs_loop s xs hlen xs.length 0 (Nat.zero_le _) rfl
    rw [List.drop_zero] at this
    refine Ev.congr (f := fun k => spec_l10Bufs.j0 k s xs false) (fun k => ?_) (Ev.step (fun k => ?_) this)
    · unfold spec_l10Bufs.f; rw [em, Option.bind_some, if_pos rfl, decide_eq_false (by omega)]
    · simp only [spec_l10Bufs.j0]; rw [if_neg (by simp)]; rfl
  · exact absurd hm hn
theorem bufs_bad (s : ByteArray) (xs : List S28) (h : ¬ (memOk s ∧ (xs.length : Int) ≤ 1000)) : Ev (fun k => spec_l10Bufs.f k s xs) false := by
  have stop : Ev (fun k => spec_l10Bufs.j0 k s xs true) false := Ev.step (f := fun _ => some false) (fun k => by simp only [spec_l10Bufs.j0]; rw [if_pos trivial]) (Ev.now _)
  refine Ev.congr (fun k => ?_) stop
  unfold spec_l10Bufs.f
  rcases spec_MemFault_eq s with ⟨hm, em⟩ | ⟨_, em⟩
  · rw [em, Option.bind_some, if_pos rfl, decide_eq_true (by
      have : ¬ (xs.length : Int) ≤ 1000 := fun hl => h ⟨hm, hl⟩
      omega)]
  · rw [em, Option.bind_some, if_neg (by decide)]
theorem good_at (s : ByteArray) (xs : List S28) (hm : memOk s) (hg : xs.any (bufBad (s.size : Int)) = false) (j : Nat) (hlt : j < xs.length) : 0 ≤ xs[j].f0 ∧ 0 ≤ xs[j].f1 ∧ xs[j].f0 + xs[j].f1 ≤ (s.size : Int) := by
  have h := List.any_eq_false.mp hg xs[j] (List.getElem_mem hlt)
  unfold bufBad at h
  have hf : fitsB (s.size : Int) xs[j].f0 xs[j].f1 = true := by
    cases hc : fitsB (s.size : Int) xs[j].f0 xs[j].f1 with
    | true => rfl
    | false => rw [hc] at h; exact absurd rfl h
  have := hm.2.1
  exact (fits_iff _ _ _ (by omega) (by omega)).mp hf
theorem strOf_bytes (s : ByteArray) : strOfNums (bytesOf s) = s := by
  unfold strOfNums bytesOf
  apply ByteArray.ext
  apply Array.ext'
  rw [List.map_map]
  have : ((fun n : Int => UInt8.ofNat n.toNat) ∘ fun b : UInt8 => (b.toNat : Int)) = id := by
    funext b; simp
  rw [this, List.map_id]
theorem bytesOf_add (a b : ByteArray) : bytesOf (a ++ b) = bytesOf a ++ bytesOf b := by
  unfold bytesOf
  rw [ByteArray.data_append, Array.toList_append, List.map_append]

theorem impl_ybig_end (k : Nat) (s : ByteArray) (hk : 2 ≤ k) : impl_ybig.f k [s] = some (decide ((s.size : Int) > 65536)) := by
  obtain ⟨k, rfl⟩ : ∃ m, k = m + 1 + 1 := ⟨k - 2, by omega⟩
  unfold impl_ybig.f
  simp only [impl_ybig.l0]
  have e0 : rdOf ByteArray.empty [s] 0 = s := rfl
  have e1 : (([s] : List ByteArray).length : Int) = 1 := rfl
  have e2 : wrap64 (0 + 1) = 1 := by unfold wrap64; omega
  rw [e0, e1, e2, if_pos (by decide), if_pos (by decide), if_pos (by decide)]
  by_cases h : (s.size : Int) > 65536
  · rw [if_pos h, decide_eq_true h]
  · rw [if_neg h, decide_eq_false h, if_neg (by decide)]
theorem impl_ybig_ev (s : ByteArray) : Ev (fun k => impl_ybig.f k [s]) (decide ((s.size : Int) > 65536)) := ⟨2, fun k hk => impl_ybig_end k s hk⟩

theorem size_list (s : ByteArray) : s.data.toList.length = s.size := by rw [Array.length_toList]; rfl
theorem put_eq (m d : ByteArray) (o q n : Nat) (ho : o + q ≤ m.size) (hn : n = Nat.min q d.size) : (m.extract 0 o ++ d.extract 0 n) ++ m.extract (o + n) m.size = ⟨(By.putAt m.data.toList o (d.data.toList.take q)).toArray⟩ := by
  apply ByteArray.ext
  apply Array.toList_inj.1
  rw [ByteArray.data_append, ByteArray.data_append, Array.toList_append, Array.toList_append, ByteArray.data_extract, Array.toList_extract, List.extract_eq_take_drop, ByteArray.data_extract, Array.toList_extract, List.extract_eq_take_drop, ByteArray.data_extract, Array.toList_extract, List.extract_eq_take_drop]
  unfold By.putAt
  have hl : (d.data.toList.take q).length = n := by rw [List.length_take, size_list, hn]
  have ht : d.data.toList.take n = d.data.toList.take q := by
    rw [hn]
    rcases Nat.le_total q d.size with h | h
    · rw [show Nat.min q d.size = q from Nat.min_eq_left h]
    · rw [show Nat.min q d.size = d.size from Nat.min_eq_right h, List.take_of_length_le (by rw [size_list]; exact Nat.le_refl _), List.take_of_length_le (by rw [size_list]; exact h)]
  rw [List.drop_zero, List.drop_zero, Nat.sub_zero, Nat.sub_zero, hl, ht, List.take_of_length_le (l := List.drop _ _) (by rw [List.length_drop, size_list]; exact Nat.le_refl _)]
theorem drop_eq (d : ByteArray) (q n : Nat) (hn : n = Nat.min q d.size) : (d.extract n d.size).data.toList = d.data.toList.drop q := by
  rw [By.extract_toList, hn]
  rcases Nat.le_total q d.size with h | h
  · rw [show Nat.min q d.size = q from Nat.min_eq_left h]
  · rw [show Nat.min q d.size = d.size from Nat.min_eq_right h, List.drop_eq_nil_of_le (by rw [size_list]; exact Nat.le_refl _), List.drop_eq_nil_of_le (by rw [size_list]; exact h)]
/-- A buffer of the list, from no place on. -/
theorem spreadL_hit (x : S28) (xs : List S28) (m d : List UInt8) (h0 : 0 ≤ x.f0) (h1 : 0 ≤ x.f1) (hw : x.f2 = true) : spreadL (x :: xs) m 0 d = spreadL xs (By.putAt m x.f0.toNat (d.take x.f1.toNat)) 0 (d.drop x.f1.toNat) := by
  simp only [spreadL]
  rw [if_neg (by rw [hw]; simp)]
  by_cases h : x.f1 ≤ 0
  · have hz : x.f1 = 0 := by omega
    rw [if_pos h, hz]
    simp [By.putAt_nil]
  · rw [if_neg h, Int.add_zero, Int.sub_zero]
theorem spread_loop (xs : List S28) (n : Nat) (hn : n ≤ 65536) (hlen : (xs.length : Int) ≤ 1000) (hg : ∀ x, x ∈ xs → 0 ≤ x.f0 ∧ 0 ≤ x.f1 ∧ x.f0 + x.f1 ≤ (n : Int)) (e : Nat) :
    ∀ (j : Nat) (cur dat : ByteArray), j + e = xs.length → cur.size = n → (dat.size : Int) ≤ 65536 → Ev (fun k => spec_SpreadBufs.l0 k cur xs dat (j : Int)) ⟨(spreadL (xs.drop j) cur.data.toList 0 dat.data.toList).toArray⟩ := by
  induction e with
  | zero =>
    intro j cur dat hj hc hd
    rw [List.drop_eq_nil_of_le (by omega)]
    exact Ev.step (f := fun _ => some cur) (fun k => by simp only [spec_SpreadBufs.l0]; rw [if_neg (by omega)]) (Ev.now _)
  | succ e ih =>
    intro j cur dat hj hc hd
    have hlt : j < xs.length := by omega
    have hr := rd28 xs j hlt
    obtain ⟨a0, a1, a2⟩ := hg xs[j] (List.getElem_mem hlt)
    rw [List.drop_eq_getElem_cons hlt]
    cases hw : xs[j].f2 with
    | false =>
      have := ih (j + 1) cur dat (by omega) hc hd
      simp only [spreadL]
      rw [if_pos hw]
      refine Ev.step (fun k => ?_) this
      simp only [spec_SpreadBufs.l0]
      rw [if_pos (by omega), if_pos (by omega), hr, if_neg (by rw [hw]; simp), w64 (by omega) (by omega), show ((j : Int) + 1) = ((j + 1 : Nat) : Int) from by omega]
    | true =>
      rw [spreadL_hit _ _ _ _ a0 a1 hw]
      obtain ⟨o, ho⟩ : ∃ o : Nat, xs[j].f0 = (o : Int) := ⟨xs[j].f0.toNat, by omega⟩
      obtain ⟨q, hq⟩ : ∃ q : Nat, xs[j].f1 = (q : Int) := ⟨xs[j].f1.toNat, by omega⟩
      obtain ⟨c, hcm⟩ : ∃ c : Nat, c = Nat.min q dat.size := ⟨_, rfl⟩
      rw [ho, hq] at a2
      have hcq : c ≤ q := by rw [hcm]; exact Nat.min_le_left _ _
      have hcd : c ≤ dat.size := by rw [hcm]; exact Nat.min_le_right _ _
      have hmin : spec_l01Min.f (q : Int) (dat.size : Int) = some (c : Int) := by
        unfold spec_l01Min.f
        rcases Nat.lt_or_ge q dat.size with h | h
        · rw [if_pos (by omega), hcm, show Nat.min q dat.size = q from Nat.min_eq_left (by omega)]
        · rw [if_neg (by omega), hcm, show Nat.min q dat.size = dat.size from Nat.min_eq_right h]
      have hp := put_eq cur dat o q c (by omega) hcm
      have hdr := drop_eq dat q c hcm
      have s1 : (cur.extract 0 o).size = o := by rw [ByteArray.size_extract]; omega
      have s2 : (dat.extract 0 c).size = c := by rw [ByteArray.size_extract]; omega
      have s3 : (cur.extract (o + c) cur.size).size = cur.size - (o + c) := by rw [ByteArray.size_extract]; omega
      have s4 : (dat.extract c dat.size).size ≤ dat.size := by rw [ByteArray.size_extract]; omega
      have hsz : ((cur.extract 0 o ++ dat.extract 0 c) ++ cur.extract (o + c) cur.size).size = n := by
        rw [ByteArray.size_append, ByteArray.size_append, s1, s2, s3]; omega
      have := ih (j + 1) ((cur.extract 0 o ++ dat.extract 0 c) ++ cur.extract (o + c) cur.size) (dat.extract c dat.size) (by omega) hsz (by omega)
      rw [hdr] at this
      have hl : ((cur.extract 0 o ++ dat.extract 0 c) ++ cur.extract (o + c) cur.size).data.toList = By.putAt cur.data.toList o (dat.data.toList.take q) := by rw [hp]
      rw [hl] at this
      rw [ho, hq, Int.toNat_natCast, Int.toNat_natCast]
      refine Ev.step (fun k => ?_) this
      simp only [spec_SpreadBufs.l0]
      rw [if_pos (by omega), if_pos (by omega), hr, if_pos hw, ho, hq, hmin, Option.bind_some, w64 (a := (o : Int) + (c : Int)) (by omega) (by omega), w64 (a := (j : Int) + 1) (by omega) (by omega), Int.toNat_natCast, Int.toNat_natCast, show ((o : Int) + (c : Int)).toNat = o + c from by omega, ByteArray.size_append, s1, s2, s3]
      rw [if_pos (by omega), if_pos (by omega), if_pos (by omega), if_pos (by omega), if_pos (by omega), if_pos (by omega), if_pos (by omega), if_pos (by omega), show ((j : Int) + 1) = ((j + 1 : Nat) : Int) from by omega]

theorem good_mem (s : ByteArray) (xs : List S28) (hm : memOk s) (hg : xs.any (bufBad (s.size : Int)) = false) (x : S28) (hx : x ∈ xs) : 0 ≤ x.f0 ∧ 0 ≤ x.f1 ∧ x.f0 + x.f1 ≤ (s.size : Int) := by
  have hb := List.any_eq_false.mp hg x hx
  unfold bufBad at hb
  have hf : fitsB (s.size : Int) x.f0 x.f1 = true := by
    cases h : fitsB (s.size : Int) x.f0 x.f1 with
    | true => rfl
    | false => rw [h] at hb; exact absurd rfl hb
  obtain ⟨_, h2, _⟩ := hm
  exact (fits_iff _ _ _ (by omega) (by omega)).mp hf
theorem spread_ends (s : ByteArray) (xs : List S28) (d : ByteArray) : ∃ r, Ev (fun k => spec_SpreadBufs.f k s xs d) r ∧ Ev (fun k => impl_SpreadBufs.f k s xs d) r ∧ (r = ⟨#[]⟩ ∨ (memOk s ∧ (xs.length : Int) ≤ 1000 ∧ xs.any (bufBad (s.size : Int)) = false ∧ r = ⟨(spreadL xs s.data.toList 0 d.data.toList).toArray⟩)) := by
  have jt : Ev (fun k => spec_SpreadBufs.j0 k s xs d true) (⟨#[]⟩ : ByteArray) := Ev.step (f := fun _ => some ⟨#[]⟩) (fun k => by simp only [spec_SpreadBufs.j0]; rw [if_pos trivial]) (Ev.now _)
  by_cases hd : (d.size : Int) > 65536
  · refine ⟨⟨#[]⟩, ?_, ?_, Or.inl rfl⟩
    · unfold spec_SpreadBufs.f; simp only [if_pos hd]; exact jt
    · unfold impl_SpreadBufs.f
      refine Ev.bind (impl_ybig_ev d) ?_
      simp only [decide_eq_true hd, if_true]; exact Ev.now _
  · have sbad : Ev (fun k => spec_l10Bufs.f k s xs) false → Ev (fun k => spec_SpreadBufs.f k s xs d) (⟨#[]⟩ : ByteArray) := fun h => by
      unfold spec_SpreadBufs.f; simp only [if_neg hd]
      refine Ev.bind h ?_
      exact jt
    have ib : Ev (fun k => impl_ybig.f k [d]) false := by have := impl_ybig_ev d; rwa [decide_eq_false hd] at this
    by_cases hm : memOk s
    · rcases impl_ymemOk_eq s with ⟨_, ei⟩ | ⟨hn, _⟩
      · by_cases hl : (xs.length : Int) ≤ 1000
        · have be := bufs_ev s xs hm hl
          have hl' : ¬ (xs.length : Int) > 1000 := by omega
          cases hg : xs.any (bufBad (s.size : Int)) with
          | true =>
            rw [hg] at be
            refine ⟨_, sbad be, ?_, Or.inl rfl⟩
            unfold impl_SpreadBufs.f impl_ybufsOk.f
            refine Ev.bind ib ?_
            simp only [Bool.false_eq_true, if_false, ei, Option.bind_some, if_true, if_neg hl', hg, Bool.not_true]
            exact Ev.now _
          | false =>
            rw [hg] at be
            have gm := good_mem s xs hm hg
            have hm' := hm
            obtain ⟨m1, m2, m3⟩ := hm'
            refine ⟨⟨(spreadL xs s.data.toList 0 d.data.toList).toArray⟩, ?_, ?_, Or.inr ⟨hm, hl, rfl, rfl⟩⟩
            · unfold spec_SpreadBufs.f; simp only [if_neg hd]
              refine Ev.bind be ?_
              have := spread_loop xs s.size (by omega) hl gm xs.length 0 s d (by omega) rfl (by omega)
              rw [List.drop_zero] at this
              exact Ev.step (fun k => by simp only [spec_SpreadBufs.j0, Bool.not_false, Bool.not_true, Bool.false_eq_true, if_false]; rfl) this
            · have key : impl_yspread.f s xs 0 d = some ⟨(spreadL xs s.data.toList 0 d.data.toList).toArray⟩ := by
                unfold impl_yspread.f
                rw [if_pos ⟨m2, by omega, by omega, by omega, List.all_eq_true.mpr fun x hx => by
                  have := gm x hx
                  unfold bufFits
                  rw [Bool.and_eq_true, Bool.and_eq_true]
                  exact ⟨decide_eq_true this.1, decide_eq_true this.2.1, decide_eq_true this.2.2⟩⟩]
              unfold impl_SpreadBufs.f impl_ybufsOk.f
              refine Ev.bind ib ?_
              simp only [Bool.false_eq_true, if_false, ei, Option.bind_some, if_true, if_neg hl', hg, Bool.not_false, key]
              exact Ev.now _
        · have hl' : (xs.length : Int) > 1000 := by omega
          refine ⟨_, sbad (bufs_bad s xs (fun h => hl h.2)), ?_, Or.inl rfl⟩
          unfold impl_SpreadBufs.f
          refine Ev.bind ib ?_
          simp only [Bool.false_eq_true, if_false, ei, Option.bind_some, if_true, if_pos hl']
          exact Ev.now _
      · exact absurd hm hn
    · rcases impl_ymemOk_eq s with ⟨hn, _⟩ | ⟨_, ei⟩
      · exact absurd hn hm
      · refine ⟨_, sbad (bufs_bad s xs (fun h => hm h.1)), ?_, Or.inl rfl⟩
        unfold impl_SpreadBufs.f
        refine Ev.bind ib ?_
        simp only [Bool.false_eq_true, if_false, ei, Option.bind_some]
        exact Ev.now _

theorem u64_wrap_range (x : Int) : 0 ≤ IntKind.u64.wrap x ∧ IntKind.u64.wrap x ≤ 18446744073709551615 := by
  simp only [IntKind.wrap, IntKind.signed, IntKind.bits, Bool.false_and]
  rw [if_neg (by simp)]; omega
theorem srcOut_range (v m a : Int) (h0 : 1 < a) (h1 : a ≤ 4611686018427387904) : 0 ≤ srcOut v m a ∧ srcOut v m a < a := by
  unfold srcOut
  have hr := u64_wrap_range (v + m / 1048576)
  rw [u64w (a := a) (by omega) (by omega), tmod_nn hr.1]
  have e0 := Int.emod_nonneg (IntKind.u64.wrap (v + m / 1048576)) (show a ≠ 0 by omega)
  have e1 := Int.emod_lt_of_pos (IntKind.u64.wrap (v + m / 1048576)) (show 0 < a by omega)
  rw [w64 (by omega) (by omega)]
  exact ⟨e0, e1⟩
/-- A draw: its number is below the bound, its place stays in the code or behind it. -/
theorem draw_n (l : List Int) (hl : (l.length : Int) ≤ 140737488351232) (p m z a : Int) (h0 : 0 ≤ p) (hp : p ≤ (l.length : Int)) (ha : 1 < a) (ha1 : a ≤ 4611686018427387904) :
    ∃ r p' m', spec_l01Src_n.f l p m z a = some (r, p', m', z) ∧ 0 ≤ p' ∧ p' ≤ (l.length : Int) ∧ 0 ≤ r ∧ r < a := by
  unfold spec_l01Src_n.f
  rw [if_neg (by omega), u64w (a := a) (by omega) (by omega), if_neg (by omega)]
  by_cases c : p < (l.length : Int)
  · rw [if_pos c, if_pos h0, w64 (a := p + 1) (by omega) (by omega)]
    obtain ⟨r0, r1⟩ := srcOut_range (IntKind.u64.wrap (rd l p)) (srcMix m) a ha ha1
    exact ⟨_, _, _, rfl, by omega, by omega, r0, r1⟩
  · rw [if_neg c]
    obtain ⟨r0, r1⟩ := srcOut_range 0 (srcMix m) a ha ha1
    exact ⟨_, _, _, rfl, h0, hp, r0, r1⟩

theorem draw_one (l : List Int) (hl : (l.length : Int) ≤ 140737488351232) (p m z a : Int) (h0 : 0 ≤ p) (hp : p ≤ (l.length : Int)) (ha : 1 < a) (ha1 : a ≤ 4611686018427387904) :
    ∃ b p' m', spec_l01Src_one.f l p m z a = some (b, p', m', z) ∧ 0 ≤ p' ∧ p' ≤ (l.length : Int) := by
  obtain ⟨r, p', m', e, h1, h2, _, _⟩ := draw_n l hl p m z a h0 hp ha ha1
  unfold spec_l01Src_one.f
  rw [e]
  exact ⟨_, _, _, rfl, h1, h2⟩

theorem draw_bytes_loop (l : List Int) (hl : (l.length : Int) ≤ 140737488351232) (z a : Int) (ha0 : 0 ≤ a) (ha : a ≤ 1000) (d : Nat) : ∀ (i : Nat) (xs : List Int) (p m : Int), 0 ≤ p → p ≤ (l.length : Int) → i + d = a.toNat → xs.length = i →
    ∃ b p' m', Ev (fun k => spec_l01Src_bytes.l0 k a xs (i : Int) l p m z) (b, p', m', z) ∧ 0 ≤ p' ∧ p' ≤ (l.length : Int) ∧ (b.size : Int) = a := by
  induction d with
  | zero =>
    intro i xs p m h0 hp hi hx
    refine ⟨strOfNums xs, p, m, Ev.step (f := fun _ => some (strOfNums xs, p, m, z)) (fun k => ?_) (Ev.now _), h0, hp, by rw [strOfNums_size]; omega⟩
    simp only [spec_l01Src_bytes.l0]
    rw [if_neg (by omega)]
  | succ d ih =>
    intro i xs p m h0 hp hi hx
    obtain ⟨r, p1, m1, e, h1, h2, _, _⟩ := draw_n l hl p m z 256 h0 hp (by omega) (by omega)
    obtain ⟨b, p', m', hb, h3, h4, h5⟩ := ih (i + 1) (xs ++ [r % 256]) p1 m1 h1 h2 (by omega) (by rw [List.length_append, List.length_cons, List.length_nil]; omega)
    refine ⟨b, p', m', Ev.step (fun k => ?_) hb, h3, h4, h5⟩
    simp only [spec_l01Src_bytes.l0]
    rw [if_pos (by omega), e]
    simp only [Option.bind_some]
    rw [if_pos (by omega), w64 (by omega) (by omega), show ((i : Int) + 1) = ((i + 1 : Nat) : Int) from by omega]
theorem draw_bytes (l : List Int) (hl : (l.length : Int) ≤ 140737488351232) (p m z a : Int) (h0 : 0 ≤ p) (hp : p ≤ (l.length : Int)) (ha0 : 0 ≤ a) (ha : a ≤ 1000) :
    ∃ b p' m', Ev (fun k => spec_l01Src_bytes.f k l p m z a) (b, p', m', z) ∧ 0 ≤ p' ∧ p' ≤ (l.length : Int) ∧ (b.size : Int) = a :=
  draw_bytes_loop l hl z a ha0 ha a.toNat 0 [] p m h0 hp (by omega) rfl

theorem bt_list (L : List UInt8) (j : Nat) : bt ⟨L.toArray⟩ (j : Int) = ((L.getD j 0).toNat : Int) := by
  unfold bt
  rw [Int.toNat_natCast, List.getD_eq_getElem?_getD]
  by_cases h : j < L.length
  · have hs : j < (⟨L.toArray⟩ : ByteArray).size := by show j < L.toArray.size; rw [List.size_toArray]; exact h
    rw [dif_pos hs, List.getElem?_eq_getElem h, Option.getD_some]
    rfl
  · have hs : ¬ j < (⟨L.toArray⟩ : ByteArray).size := by show ¬ j < L.toArray.size; rw [List.size_toArray]; exact h
    rw [dif_neg hs, List.getElem?_eq_none (by omega), Option.getD_none]
    rfl
theorem bt_self (s : ByteArray) (j : Nat) : bt s (j : Int) = ((s.data.toList.getD j 0).toNat : Int) := bt_list s.data.toList j

theorem draw_frames_loop (l : List Int) (hl : (l.length : Int) ≤ 140737488351232) (z : Int) (N : Nat) (hN : 1 < (N : Int)) (hN1 : (N : Int) ≤ 1000000) (d : Nat) (hd : d ≤ 1000) : ∀ (xs : List Int) (p m : Int), 0 ≤ p → p ≤ (l.length : Int) → xs.length = N →
    ∃ b p' m', Ev (fun k => spec_l01Src_frames.l0 k xs (d : Int) l p m z) (b, p', m', z) ∧ 0 ≤ p' ∧ p' ≤ (l.length : Int) := by
  induction d with
  | zero =>
    intro xs p m h0 hp hx
    refine ⟨strOfNums xs, p, m, Ev.step (f := fun _ => some (strOfNums xs, p, m, z)) (fun k => ?_) (Ev.now _), h0, hp⟩
    simp only [spec_l01Src_frames.l0]
    rw [if_neg (by omega)]
  | succ d ih =>
    intro xs p m h0 hp hx
    obtain ⟨r, p1, m1, e1, h1, h2, h3, h4⟩ := draw_n l hl p m z (N : Int) h0 hp hN (by omega)
    obtain ⟨r2, p2, m2, e2, h5, h6, _, _⟩ := draw_n l hl p1 m1 z 256 h1 h2 (by omega) (by omega)
    obtain ⟨b, p', m', hb, h7, h8⟩ := ih (by omega) (xs.set r.toNat (r2 % 256)) p2 m2 h5 h6 (by rw [List.length_set]; exact hx)
    refine ⟨b, p', m', Ev.step (fun k => ?_) hb, h7, h8⟩
    simp only [spec_l01Src_frames.l0]
    rw [if_pos (by omega), hx, e1]
    simp only [Option.bind_some]
    rw [e2]
    simp only [Option.bind_some]
    rw [if_pos h3, if_pos h4, w64 (by omega) (by omega), show (((d + 1 : Nat) : Int) - 1) = (d : Int) from by omega]
theorem draw_frames (l : List Int) (hl : (l.length : Int) ≤ 140737488351232) (p m z : Int) (h0 : 0 ≤ p) (hp : p ≤ (l.length : Int)) : ∃ b p' m', Ev (fun k => spec_l01Src_frames.f k l p m z 5) (b, p', m', z) ∧ 0 ≤ p' ∧ p' ≤ (l.length : Int) := by
  obtain ⟨r, p1, m1, e1, h1, h2, h3, h4⟩ := draw_n l hl p m z 6 h0 hp (by omega) (by omega)
  obtain ⟨d, rfl⟩ := Int.eq_ofNat_of_zero_le h3
  obtain ⟨b, p', m', hb, h5, h6⟩ := draw_frames_loop l hl z 1280 (by omega) (by omega) d (by omega) (List.replicate 1280 0) p1 m1 h1 h2 (List.length_replicate ..)
  refine ⟨b, p', m', ?_, h5, h6⟩
  unfold spec_l01Src_frames.f
  have hw : wrap64 (5 * 256) = 1280 := by unfold wrap64; omega
  have h1280 : (1280 : Int).toNat = 1280 := rfl
  simp only [hw, h1280, if_pos (show (0 : Int) ≤ 1280 by omega), if_pos (show (1280 : Nat) ≤ 281474976710656 by omega), e1]
  exact hb
theorem draw_bufs_loop (l : List Int) (hl : (l.length : Int) ≤ 140737488351232) (z n : Int) (hn : n ≤ 100) (d : Nat) : ∀ (j : Nat) (out : List S28) (p m : Int), 0 ≤ p → p ≤ (l.length : Int) → (n - (j : Int)) ≤ d → out.length = j → j ≤ 200 →
    ∃ o p' m', Ev (fun k => spec_l01Src_bufs.l0 k out (j : Int) n l p m z) (o, p', m', z) ∧ 0 ≤ p' ∧ p' ≤ (l.length : Int) := by
  induction d with
  | zero =>
    intro j out p m h0 hp hj ho h200
    refine ⟨out, p, m, Ev.step (f := fun _ => some (out, p, m, z)) (fun k => ?_) (Ev.now _), h0, hp⟩
    simp only [spec_l01Src_bufs.l0]
    rw [if_neg (by omega)]
  | succ d ih =>
    intro j out p m h0 hp hj ho h200
    by_cases hjn : (j : Int) < n
    case neg =>
      refine ⟨out, p, m, Ev.step (f := fun _ => some (out, p, m, z)) (fun k => ?_) (Ev.now _), h0, hp⟩
      simp only [spec_l01Src_bufs.l0]
      rw [if_neg hjn]
    obtain ⟨r1, p1, m1, e1, h1, h2, _, _⟩ := draw_n l hl p m z 11 h0 hp (by omega) (by omega)
    obtain ⟨r2, p2, m2, e2, h3, h4, h5, h6⟩ := draw_n l hl p1 m1 z 6 h1 h2 (by omega) (by omega)
    have s3 : ∃ b p' m', (if (j : Int) > 0 then spec_l01Src_one.f l p2 m2 z 2 else some (false, p2, m2, z)) = some (b, p', m', z) ∧ 0 ≤ p' ∧ p' ≤ (l.length : Int) := by
      by_cases c : (j : Int) > 0
      · rw [if_pos c]; exact draw_one l hl p2 m2 z 2 h3 h4 (by omega) (by omega)
      · rw [if_neg c]; exact ⟨_, _, _, rfl, h3, h4⟩
    obtain ⟨b3, p3, m3, e3, h7, h8⟩ := s3
    have s4 : ∃ b p' m', (if (0 < out.length && (rd_T28 out ((out.length : Int) - 1)).f2) = true then (spec_l01Src_one.f l p3 m3 z 10).bind (fun b => some (b3 || !b.1, b.2.1, b.2.2.1, b.2.2.2)) else some (b3, p3, m3, z)) = some (b, p', m', z) ∧ 0 ≤ p' ∧ p' ≤ (l.length : Int) := by
      split
      · obtain ⟨b, p', m', e, g1, g2⟩ := draw_one l hl p3 m3 z 10 h7 h8 (by omega) (by omega)
        rw [e]; exact ⟨_, _, _, rfl, g1, g2⟩
      · exact ⟨_, _, _, rfl, h7, h8⟩
    obtain ⟨b4, p4, m4, e4, h9, h10⟩ := s4
    obtain ⟨b5, p5, m5, e5, h11, h12⟩ := draw_one l hl p4 m4 z 25 h9 h10 (by omega) (by omega)
    have s6 : ∃ a p' m', (if b5 = true then (spec_l01Src_n.f l p5 m5 z 4).bind (fun b => if 0 ≤ b.1 then (if b.1 < 4 then some (rd bufE2 b.1, b.2.1, b.2.2.1, b.2.2.2) else none) else none) else some (wrap64 (512 + wrap64 (64 * r1)), p5, m5, z)) = some (a, p', m', z) ∧ 0 ≤ p' ∧ p' ≤ (l.length : Int) := by
      cases b5 with
      | true =>
        obtain ⟨r, p', m', e, g1, g2, g3, g4⟩ := draw_n l hl p5 m5 z 4 h11 h12 (by omega) (by omega)
        rw [if_pos rfl, e, Option.bind_some, if_pos g3, if_pos g4]
        exact ⟨_, _, _, rfl, g1, g2⟩
      | false => rw [if_neg (by decide)]; exact ⟨_, _, _, rfl, h11, h12⟩
    obtain ⟨a6, p6, m6, e6, h13, h14⟩ := s6
    obtain ⟨o, p', m', ho', h15, h16⟩ := ih (j + 1) (out ++ [⟨a6, rd bufE1 r2, b4⟩]) p6 m6 h13 h14 (by omega) (by rw [List.length_append, ho]; rfl) (by omega)
    refine ⟨o, p', m', Ev.step (fun k => ?_) ho', h15, h16⟩
    simp only [spec_l01Src_bufs.l0]
    rw [if_pos hjn, e1, Option.bind_some, e2, Option.bind_some, if_pos h5, if_pos h6, e3, Option.bind_some]
    simp only []
    rw [e4, Option.bind_some, e5, Option.bind_some, e6, Option.bind_some, if_pos (by omega), w64 (by omega) (by omega), show ((j : Int) + 1) = ((j + 1 : Nat) : Int) from by omega]
theorem draw_bufs (l : List Int) (hl : (l.length : Int) ≤ 140737488351232) (p m z n : Int) (h0 : 0 ≤ p) (hp : p ≤ (l.length : Int)) (hn0 : 0 ≤ n) (hn : n ≤ 100) : ∃ o p' m', Ev (fun k => spec_l01Src_bufs.f k l p m z n) (o, p', m', z) ∧ 0 ≤ p' ∧ p' ≤ (l.length : Int) :=
  draw_bufs_loop l hl z n hn 100 0 [] p m h0 hp (by omega) rfl (by omega)
theorem drawSpread (l : List Int) (hl : (l.length : Int) ≤ 140737488351232) : ∃ t : ByteArray × List S28 × ByteArray, Ev (fun k => spec_DrawSpreadBufs.f k l) t := by
  obtain ⟨m0, z0, hs⟩ : ∃ m0 z0, spec_l01Source.f l = some (l, 0, m0, z0) := ⟨_, _, rfl⟩
  obtain ⟨b1, p1, m1, e1, h1, h2⟩ := draw_frames l hl 0 m0 z0 (by omega) (by omega)
  obtain ⟨r2, p2, m2, e2, h3, h4, h5, h6⟩ := draw_n l hl p1 m1 z0 5 h1 h2 (by omega) (by omega)
  obtain ⟨o3, p3, m3, e3, h7, h8⟩ := draw_bufs l hl p2 m2 z0 r2 h3 h4 h5 (by omega)
  obtain ⟨r4, p4, m4, e4, h9, h10, h11, h12⟩ := draw_n l hl p3 m3 z0 100 h7 h8 (by omega) (by omega)
  obtain ⟨b5, p5, m5, e5, h13, h14, _⟩ := draw_bytes l hl p4 m4 z0 r4 h9 h10 h11 (by omega)
  refine ⟨(b1, o3, b5), ?_⟩
  unfold spec_DrawSpreadBufs.f
  simp only [hs, Option.bind_some]
  refine Ev.bind e1 ?_
  simp only [e2, Option.bind_some]
  refine Ev.bind e3 ?_
  simp only [e4, Option.bind_some]
  refine Ev.bind e5 ?_
  exact Ev.now _
def hitB (i : Int) (x : S28) : Bool := x.f2 && (decide (x.f0 ≤ i) && decide (i < x.f0 + x.f1))
theorem spreadL_keep (n : Nat) : ∀ (xs : List S28) (m d : List UInt8), m.length = n → (∀ x, x ∈ xs → 0 ≤ x.f0 ∧ 0 ≤ x.f1 ∧ x.f0 + x.f1 ≤ (n : Int)) → (spreadL xs m 0 d).length = n ∧ ∀ i : Nat, (∀ x, x ∈ xs → hitB (i : Int) x = false) → (spreadL xs m 0 d)[i]? = m[i]?
  | [], m, d, hm, _ => ⟨hm, fun _ _ => rfl⟩
  | x :: xs, m, d, hm, hg => by
    have hgx := hg x List.mem_cons_self
    have hgs : ∀ y, y ∈ xs → 0 ≤ y.f0 ∧ 0 ≤ y.f1 ∧ y.f0 + y.f1 ≤ (n : Int) := fun y hy => hg y (List.mem_cons_of_mem _ hy)
    cases hw : x.f2 with
    | false =>
      obtain ⟨h1, h2⟩ := spreadL_keep n xs m d hm hgs
      simp only [spreadL]
      rw [if_pos hw]
      exact ⟨h1, fun i hi => h2 i (fun y hy => hi y (List.mem_cons_of_mem _ hy))⟩
    | true =>
      rw [spreadL_hit x xs m d hgx.1 hgx.2.1 hw]
      have hlt : (d.take x.f1.toNat).length ≤ x.f1.toNat := by rw [List.length_take]; exact Nat.min_le_left _ _
      have hpl : (By.putAt m x.f0.toNat (d.take x.f1.toNat)).length = n := by rw [By.putAt_length _ _ _ (by omega)]; exact hm
      obtain ⟨h1, h2⟩ := spreadL_keep n xs (By.putAt m x.f0.toNat (d.take x.f1.toNat)) (d.drop x.f1.toNat) hpl hgs
      refine ⟨h1, fun i hi => ?_⟩
      rw [h2 i (fun y hy => hi y (List.mem_cons_of_mem _ hy)), By.putAt_get _ _ _ (by omega)]
      have hh := hi x List.mem_cons_self
      unfold hitB at hh
      rw [hw, Bool.true_and] at hh
      by_cases c1 : i < x.f0.toNat
      · rw [if_pos c1]
      · rw [if_neg c1, if_neg]
        intro c2
        rw [decide_eq_true (show x.f0 ≤ (i : Int) by omega), decide_eq_true (show (i : Int) < x.f0 + x.f1 by omega)] at hh
        exact absurd hh (by decide)
theorem law_in (s r : ByteArray) (xs : List S28) (hs : (s.size : Int) ≤ 65536) (hr : r.size = s.size) (hl : (xs.length : Int) ≤ 1000) (hg : ∀ x, x ∈ xs → 0 ≤ x.f0 ∧ 0 ≤ x.f1 ∧ x.f0 + x.f1 ≤ (s.size : Int)) (i : Nat) (hi : i < s.size) (v : Bool) (hv : Ev (fun k => laws_FnSpread.l0 k s xs r ((i + 1 : Nat) : Int)) v) (e : Nat) :
    ∀ (j : Nat) (b : Bool), j + e = xs.length → (b = false → (xs.drop j).any (hitB (i : Int)) = false → bt s (i : Int) = bt r (i : Int)) → Ev (fun k => laws_FnSpread.l1 k s xs r (i : Int) b (j : Int)) v := by
  have ei : ((i : Int) + 1) = ((i + 1 : Nat) : Int) := by omega
  induction e with
  | zero =>
    intro j b hj hb
    cases b with
    | true =>
      refine Ev.step (fun k => ?_) hv
      simp only [laws_FnSpread.l1]
      rw [if_neg (by omega), if_pos trivial, w64 (by omega) (by omega), ei]
    | false =>
      have := hb rfl (by rw [List.drop_eq_nil_of_le (by omega)]; rfl)
      refine Ev.step (fun k => ?_) hv
      simp only [laws_FnSpread.l1]
      rw [if_neg (by omega), if_neg (by decide), if_pos (by omega), if_pos (by omega), if_pos (by omega), if_pos this, w64 (by omega) (by omega), ei]
  | succ e ih =>
    intro j b hj hb
    have ej : ((j : Int) + 1) = ((j + 1 : Nat) : Int) := by omega
    have hlt : j < xs.length := by omega
    have hx := rd28 xs j hlt
    obtain ⟨g0, g1, g2⟩ := hg _ (List.getElem_mem hlt)
    rw [List.drop_eq_getElem_cons hlt, List.any_cons] at hb
    cases b with
    | true =>
      refine Ev.step (fun k => ?_) (ih (j + 1) true (by omega) (fun h => absurd h (by decide)))
      simp only [laws_FnSpread.l1]
      rw [if_pos (by omega), if_pos trivial, w64 (by omega) (by omega), ej]
    | false =>
      cases hw : xs[j].f2 with
      | false =>
        refine Ev.step (fun k => ?_) (ih (j + 1) false (by omega) (fun _ h => hb rfl (by rw [h]; unfold hitB; rw [hw]; rfl)))
        simp only [laws_FnSpread.l1]
        rw [if_pos (by omega), if_neg (by decide), if_pos (by omega), hx, if_neg (by rw [hw]; decide), w64 (by omega) (by omega), ej]
      | true =>
        by_cases c : (i : Int) ≥ xs[j].f0
        · refine Ev.step (fun k => ?_) (ih (j + 1) (decide ((i : Int) < xs[j].f0 + xs[j].f1)) (by omega) (fun hd h => hb rfl (by rw [h]; unfold hitB; rw [hd, Bool.and_false, Bool.and_false]; rfl)))
          simp only [laws_FnSpread.l1]
          rw [if_pos (by omega), if_neg (by decide), if_pos (by omega), hx, if_pos hw, if_pos c, w64 (a := xs[j].f0 + xs[j].f1) (by omega) (by omega), w64 (by omega) (by omega), ej]
        · refine Ev.step (fun k => ?_) (ih (j + 1) false (by omega) (fun _ h => hb rfl (by rw [h]; unfold hitB; rw [decide_eq_false (show ¬ xs[j].f0 ≤ (i : Int) by omega), Bool.false_and, Bool.and_false]; rfl)))
          simp only [laws_FnSpread.l1]
          rw [if_pos (by omega), if_neg (by decide), if_pos (by omega), hx, if_pos hw, if_neg c, w64 (by omega) (by omega), ej]
theorem law_out (s r : ByteArray) (xs : List S28) (hs : (s.size : Int) ≤ 65536) (hr : r.size = s.size) (hl : (xs.length : Int) ≤ 1000) (hg : ∀ x, x ∈ xs → 0 ≤ x.f0 ∧ 0 ≤ x.f1 ∧ x.f0 + x.f1 ≤ (s.size : Int)) (hk : ∀ i : Nat, xs.any (hitB (i : Int)) = false → bt s (i : Int) = bt r (i : Int)) (e : Nat) :
    ∀ i : Nat, i + e = s.size → Ev (fun k => laws_FnSpread.l0 k s xs r (i : Int)) true := by
  induction e with
  | zero =>
    intro i hi
    refine Ev.step (f := fun _ => some true) (fun k => ?_) (Ev.now _)
    simp only [laws_FnSpread.l0]
    rw [if_neg (by omega), hr, beq_self_eq_true]
  | succ e ih =>
    intro i hi
    refine Ev.step (fun k => ?_) (law_in s r xs hs hr hl hg i (by omega) true (ih (i + 1) (by omega)) xs.length 0 false (by omega) (fun _ h => hk i (by rwa [List.drop_zero] at h)))
    simp only [laws_FnSpread.l0]
    rw [if_pos (by omega)]
    rfl
theorem FnSpread : laws_FnSpread.Pure := by
  intro l _ hl1 _
  refine Ev.rounds (r := true) ?_
  unfold laws_FnSpread.f
  by_cases hbig : (l.length : Int) > 1048576
  · simp only [if_pos hbig]; exact Ev.now _
  · simp only [if_neg hbig]
    obtain ⟨⟨s, xs, d⟩, hd⟩ := drawSpread l (by omega)
    obtain ⟨r, r1, r2, hc⟩ := spread_ends s xs d
    refine Ev.bind hd (Ev.bind r2 (Ev.bind r1 ?_))
    simp only [if_true]
    by_cases he : r.toList = ([] : List UInt8)
    · simp only [if_pos he]; exact Ev.now _
    · simp only [if_neg he]
      rcases hc with hz | ⟨hm, hxl, hgb, hrr⟩
      · exact absurd (by rw [hz, ByteArray.toList_eq]) he
      · have gm := good_mem s xs hm hgb
        obtain ⟨m1, m2, m3⟩ := hm
        obtain ⟨k1, k2⟩ := spreadL_keep s.size xs s.data.toList d.data.toList (size_list s) gm
        have hsz : r.size = s.size := by rw [hrr]; show (spreadL xs s.data.toList 0 d.data.toList).toArray.size = s.size; rw [List.size_toArray]; exact k1
        refine law_out s r xs (by omega) hsz hxl gm (fun i hi => ?_) s.size 0 (by omega)
        rw [hrr, bt_list, bt_self, List.getD_eq_getElem?_getD, List.getD_eq_getElem?_getD, k2 i (fun x hx => by
          have := List.any_eq_false.mp hi x hx
          simpa using this)]

end Go.Proofs.Ytopeblicjgbfcaa.Pure
