/- The program's ReadMaps returns what the reference's returns, for all arguments. Conditions: none. -/
import Derived.Test.YtjpgelnhmcblmaaQFnExactReadMapsx
import Derived.Test.YtjpgelnhmcblmaaPl
set_option linter.unusedVariables false
set_option linter.unusedSimpArgs false
namespace Go.Proofs.Ytjpgelnhmcblmaa.Pure
open Go.RowKit Go.Proofs.Ytjpgelnhmcblmaa.QFnExactReadMaps Go.Proofs.YtjpgelnhmcblmaaW.PrintWords Go.Proofs.YtjpgelnhmcblmaaW.PrintLast Go.Proofs.Ytjpgelnhmcblmaa.Pl Go.Proofs.YtjpgelnhmcblmaaW.PrintMore
/-- A loop that takes the size of every element off a budget: it ends, below zero or with every element small. -/
theorem sz_loop {α : Type} (d : α) (M : Int) (ok : α → Prop) (L : Nat → List α → Int → Int → Option Int) (g : Nat → α → Int → Option Int)
    (hL : ∀ k xs s i, L (k + 1) xs s i = if i < (xs.length : Int) then (if 0 ≤ i then ((g k (xs.getD i.toNat d) s).bind fun t => (if t < 0 then (some (-1)) else (L k xs t (wrap64 (i + 1))))) else none) else some s)
    (xs : List α) (hlen : (xs.length : Int) ≤ 4611686018427387904)
    (hg : ∀ x s, x ∈ xs → 0 ≤ s → s ≤ M → ∃ t, Ev (fun k => g k x s) t ∧ (t < 0 ∨ (0 ≤ t ∧ t ≤ s ∧ ok x))) (e : Nat) :
    ∀ (j : Nat) (s : Int), 0 ≤ s → s ≤ M → j ≤ xs.length → xs.length - j = e → (∀ q, q < j → ok (xs.getD q d)) → ∃ r, Ev (fun k => L k xs s (j : Int)) r ∧ (r < 0 ∨ (0 ≤ r ∧ r ≤ s ∧ ∀ x, x ∈ xs → ok x)) := by
  induction e with
  | zero =>
    intro j s h0 hM hj he hok
    refine ⟨s, Ev.step (f := fun _ => some s) (fun k => by rw [hL, if_neg (by omega)]) (Ev.now _), Or.inr ⟨h0, Int.le_refl _, fun x hx => ?_⟩⟩
    obtain ⟨q, hq, rfl⟩ := List.getElem_of_mem hx
    have := hok q (by omega)
    rwa [List.getD_eq_getElem?_getD, List.getElem?_eq_getElem hq, Option.getD_some] at this
  | succ e ih =>
    intro j s h0 hM hj he hok
    have hlt : j < xs.length := by omega
    have hmem : xs.getD j d ∈ xs := by
      rw [List.getD_eq_getElem?_getD, List.getElem?_eq_getElem hlt, Option.getD_some]; exact List.getElem_mem hlt
    obtain ⟨t, ht, hc⟩ := hg (xs.getD j d) s hmem h0 hM
    have hs : ∀ k, L (k + 1) xs s (j : Int) = ((g k (xs.getD j d) s).bind fun t => (if t < 0 then (some (-1)) else (L k xs t (wrap64 ((j : Int) + 1))))) := fun k => by
      rw [hL, if_pos (by omega), if_pos (by omega), Int.toNat_natCast]
    by_cases hn : t < 0
    · refine ⟨-1, Ev.step (fun k => hs k) (Ev.bind ht ?_), Or.inl (by omega)⟩
      simp only [if_pos hn]
      exact Ev.now _
    · have hc' := hc.resolve_left hn
      obtain ⟨r, hr, hrc⟩ := ih (j + 1) t hc'.1 (by omega) (by omega) (by omega) (fun q hq => by
        by_cases hqj : q = j
        · subst hqj; exact hc'.2.2
        · exact hok q (by omega))
      refine ⟨r, Ev.step (fun k => hs k) (Ev.bind ht ?_), ?_⟩
      · simp only [if_neg hn]
        rw [w64 (by omega) (by omega), show ((j : Int) + 1) = ((j + 1 : Nat) : Int) from by omega]
        exact hr
      · rcases hrc with h | h
        · exact Or.inl h
        · exact Or.inr ⟨h.1, by omega, h.2.2⟩
/-- A loop that turns every element. -/
theorem to_loop {α β γ : Type} (d : α) (z : β) (mk : γ → β) (c : α → β) (L : Nat → List α → List β → Int → Option (List β)) (g : Nat → α → Option γ)
    (hL : ∀ k xs ys i, L (k + 1) xs ys i = if i < (xs.length : Int) then (if 0 ≤ i then ((g k (xs.getD i.toNat d)).bind fun b => (if i < (ys.length : Int) then (L k xs (ys.set i.toNat (mk b)) (wrap64 (i + 1))) else none)) else none) else some ys)
    (xs : List α) (hlen : (xs.length : Int) ≤ 4611686018427387904)
    (hg : ∀ x, x ∈ xs → ∃ b, Ev (fun k => g k x) b ∧ mk b = c x) (e : Nat) :
    ∀ (j : Nat), j ≤ xs.length → xs.length - j = e → Ev (fun k => L k xs ((xs.take j).map c ++ List.replicate (xs.length - j) z) (j : Int)) (xs.map c) := by
  induction e with
  | zero =>
    intro j hj he
    obtain rfl : j = xs.length := by omega
    refine Ev.step (f := fun _ => some (xs.map c)) (fun k => ?_) (Ev.now _)
    rw [hL, if_neg (by omega), List.take_length, Nat.sub_self, List.replicate_zero, List.append_nil]
  | succ e ih =>
    intro j hj he
    have hlt : j < xs.length := by omega
    have hx : xs.getD j d = xs[j] := by rw [List.getD_eq_getElem?_getD, List.getElem?_eq_getElem hlt, Option.getD_some]
    obtain ⟨b, hb, hbc⟩ := hg xs[j] (List.getElem_mem hlt)
    have hlm : ((xs.take j).map c).length = j := by rw [List.length_map, List.length_take]; omega
    have hly : (((xs.take j).map c ++ List.replicate (xs.length - j) z).length : Int) = (xs.length : Int) := by
      rw [List.length_append, hlm, List.length_replicate]; omega
    have hset : (((xs.take j).map c ++ List.replicate (xs.length - j) z).set j (mk b)) = (xs.take (j + 1)).map c ++ List.replicate (xs.length - (j + 1)) z := by
      rw [List.set_append_right _ _ (by omega), hlm, Nat.sub_self, show xs.length - j = (xs.length - (j + 1)) + 1 from by omega, List.replicate_succ, List.set_cons_zero, hbc, List.take_succ_eq_append_getElem hlt, List.map_append, List.append_assoc]
      rfl
    refine Ev.step (f := fun k => (g k xs[j]).bind fun b => L k xs (((xs.take j).map c ++ List.replicate (xs.length - j) z).set j (mk b)) (((j + 1 : Nat) : Int))) (fun k => ?_) (Ev.bind (f := fun k b => L k xs (((xs.take j).map c ++ List.replicate (xs.length - j) z).set j (mk b)) (((j + 1 : Nat) : Int))) hb ?_)
    · have hlj : (j : Int) < (xs.length : Int) := by omega
      rw [hL, if_pos (by omega), if_pos (by omega), Int.toNat_natCast, hx, hly, w64 (by omega) (by omega)]
      simp only [if_pos hlj]
      rfl
    · rw [hset]
      exact ih (j + 1) (by omega) (by omega)
/-- A loop that asks every pair of elements. -/
theorem eq_loop {α : Type} (d : α) (L : Nat → List α → List α → Int → Option Bool) (g : Nat → α → α → Option Bool)
    (hL : ∀ k xs ys i, L (k + 1) xs ys i = if i < (xs.length : Int) then (if 0 ≤ i then (if i < (ys.length : Int) then ((g k (xs.getD i.toNat d) (ys.getD i.toNat d)).bind fun t => (if t = true then (L k xs ys (wrap64 (i + 1))) else (some false))) else none) else none) else some true)
    (xs : List α) (hlen : (xs.length : Int) ≤ 4611686018427387904)
    (hg : ∀ x, x ∈ xs → Ev (fun k => g k x x) true) (e : Nat) :
    ∀ (j : Nat), j ≤ xs.length → xs.length - j = e → Ev (fun k => L k xs xs (j : Int)) true := by
  induction e with
  | zero =>
    intro j hj he
    exact Ev.step (f := fun _ => some true) (fun k => by rw [hL, if_neg (by omega)]) (Ev.now _)
  | succ e ih =>
    intro j hj he
    have hlt : j < xs.length := by omega
    have hx : xs.getD j d = xs[j] := by rw [List.getD_eq_getElem?_getD, List.getElem?_eq_getElem hlt, Option.getD_some]
    refine Ev.step (f := fun k => (g k xs[j] xs[j]).bind fun t => (if t = true then L k xs xs (((j + 1 : Nat) : Int)) else (some false))) (fun k => ?_) (Ev.bind (f := fun k t => (if t = true then L k xs xs (((j + 1 : Nat) : Int)) else (some false))) (hg xs[j] (List.getElem_mem hlt)) ?_)
    · rw [hL, if_pos (by omega), if_pos (by omega), Int.toNat_natCast, hx, if_pos (by omega), w64 (by omega) (by omega)]
      rfl
    · simp only [if_true]
      exact ih (j + 1) (by omega) (by omega)

/-- A memory's size is right. -/
def memOk (s : ByteArray) : Prop := 256 ≤ (s.size : Int) ∧ (s.size : Int) ≤ 65536 ∧ (s.size : Int) % 256 = 0
theorem impl_ymemOk_eq (s : ByteArray) : (memOk s ∧ impl_ymemOk.f s = some true) ∨ (¬ memOk s ∧ impl_ymemOk.f s = some false) := by
  unfold impl_ymemOk.f memOk
  by_cases h0 : (s.size : Int) ≥ 256
  · rw [if_pos h0]
    by_cases h1 : (s.size : Int) ≤ 65536
    · rw [if_pos h1]
      by_cases h2 : (s.size : Int) % 256 = 0
      · left; exact ⟨⟨h0, h1, h2⟩, by simp [h2]⟩
      · right; exact ⟨fun h => h2 h.2.2, by simp [h2]⟩
    · rw [if_neg h1]; right; exact ⟨fun h => h1 h.2.1, rfl⟩
  · rw [if_neg h0]; right; exact ⟨fun h => h0 h.1, rfl⟩
theorem spec_MemFault_eq (s : ByteArray) : (memOk s ∧ spec_MemFault.f s = some 0) ∨ (¬ memOk s ∧ spec_MemFault.f s = some 1) := by
  unfold spec_MemFault.f memOk
  by_cases h0 : (s.size : Int) = 0
  · rw [if_pos h0]; right; exact ⟨fun h => by omega, rfl⟩
  · rw [if_neg h0]
    by_cases h1 : (s.size : Int) % 256 = 0
    · rw [if_pos h1]
      by_cases h2 : (s.size : Int) > 65536
      · rw [if_pos h2]; right; exact ⟨fun h => by omega, rfl⟩
      · rw [if_neg h2]; left; exact ⟨⟨by omega, by omega, h1⟩, rfl⟩
    · rw [if_neg h1]; right; exact ⟨fun h => h1 h.2.2, rfl⟩

def wordAt (s : ByteArray) (n : Int) : Int := bt s n + bt s (n + 1) * 256 + bt s (n + 2) * 65536 + bt s (n + 3) * 16777216
theorem wordAt_range (s : ByteArray) (n : Int) : 0 ≤ wordAt s n ∧ wordAt s n ≤ 4294967295 := by
  unfold wordAt
  have h0 := bt_range s n; have h1 := bt_range s (n + 1); have h2 := bt_range s (n + 2); have h3 := bt_range s (n + 3)
  omega
theorem spec_l01Word_eq (s : ByteArray) (n : Int) (h0 : 0 ≤ n) (h1 : n + 3 < (s.size : Int)) (h2 : (s.size : Int) ≤ 140737488351232) : spec_l01Word.f s n = some (wordAt s n) := by
  unfold spec_l01Word.f wordAt
  have b0 := bt_range s n; have b1 := bt_range s (n + 1); have b2 := bt_range s (n + 2); have b3 := bt_range s (n + 3)
  rw [w64 (a := n + 1) (by omega) (by omega), w64 (a := n + 2) (by omega) (by omega), w64 (a := n + 3) (by omega) (by omega)]
  rw [if_pos (by omega), if_pos (by omega), if_pos (by omega), if_pos (by omega), if_pos (by omega), if_pos (by omega), if_pos (by omega), if_pos (by omega)]
  congr 1
  unfold wrap64
  omega

theorem rdBytes (s : ByteArray) (i : Int) : rd (bytesOf s) i = bt s i := rd_bytesOf s i
theorem getWord_eq (s : ByteArray) (n : Int) (h0 : 0 ≤ n) (h1 : n + 3 < (s.size : Int)) (h2 : (s.size : Int) ≤ 65536) : impl_ygetWord.f (bytesOf s) n = some (wordAt s n) := by
  unfold impl_ygetWord.f wordAt
  have b0 := bt_range s n; have b1 := bt_range s (n + 1); have b2 := bt_range s (n + 2); have b3 := bt_range s (n + 3)
  rw [bytesOf_length, w64 (a := n + 1) (by omega) (by omega), w64 (a := n + 2) (by omega) (by omega), w64 (a := n + 3) (by omega) (by omega), rdBytes, rdBytes, rdBytes, rdBytes]
  rw [if_pos (by omega), if_pos (by omega), if_pos (by omega), if_pos (by omega), if_pos (by omega), if_pos (by omega), if_pos (by omega), if_pos (by omega)]
  rw [w64 (a := bt s n) (by omega) (by omega), w64 (a := bt s (n + 1)) (by omega) (by omega), w64 (a := bt s (n + 2)) (by omega) (by omega), w64 (a := bt s (n + 3)) (by omega) (by omega)]
  rw [w64 (a := bt s (n + 1) * 256) (by omega) (by omega), w64 (a := bt s (n + 2) * 65536) (by omega) (by omega), w64 (a := bt s (n + 3) * 16777216) (by omega) (by omega)]
  rw [or_join' 8 (bt s (n + 1) * 256) (bt s n) (by omega) (by omega) (by omega) (by omega) (by omega) (by omega), or_join' 16 (bt s (n + 2) * 65536) (bt s n + bt s (n + 1) * 256) (by omega) (by omega) (by omega) (by omega) (by omega) (by omega), or_join' 24 (bt s (n + 3) * 16777216) _ (by omega) (by omega) (by omega) (by omega) (by omega) (by omega)]
theorem entry_ok (s : ByteArray) (r : Int) (i : Nat) (h0 : 0 ≤ r) (h1 : (r + 1) * 256 ≤ (s.size : Int)) (h2 : (s.size : Int) ≤ 65536) (hi : i < 32) : spec_l03Entry.f s r (i : Int) = some (wordAt s (r * 256 + 4 * (i : Int)), true) := by
  unfold spec_l03Entry.f
  rw [w64 (a := r + 1) (by omega) (by omega), w64 (a := (r + 1) * 256) (by omega) (by omega), if_neg (by omega), w64 (a := r * 256) (by omega) (by omega), w64 (a := 4 * (i : Int)) (by omega) (by omega), w64 (a := r * 256 + 4 * (i : Int)) (by omega) (by omega), spec_l01Word_eq s _ (by omega) (by omega) (by omega)]
  rfl
theorem entry_no (s : ByteArray) (r : Int) (i : Nat) (h0 : 0 ≤ r) (hr : r ≤ 16777216) (h1 : ¬ (r + 1) * 256 ≤ (s.size : Int)) : spec_l03Entry.f s r (i : Int) = some (0, false) := by
  unfold spec_l03Entry.f
  rw [w64 (a := r + 1) (by omega) (by omega), w64 (a := (r + 1) * 256) (by omega) (by omega), if_pos (by omega)]
theorem flag_table : ((List.range 256).all fun u => Go.bits .andNot .i64 (u : Int) 97 == ((u &&& 158 : Nat) : Int)) = true := by kernel_rfl
theorem flags_eq (e : Int) (h0 : 0 ≤ e) (h1 : e ≤ 4294967295) : Go.bits .andNot .i64 (Go.bits .and .i64 e 255) 97 = Go.bits .and .i64 e 158 := by
  obtain ⟨v, rfl⟩ : ∃ v : Nat, e = (v : Int) := ⟨e.toNat, by omega⟩
  have a1 := (bits_bytes v 255 (by omega) (by decide)).1
  have a2 := (bits_bytes v 158 (by omega) (by decide)).1
  have hu : v &&& 255 < 256 := Nat.lt_of_le_of_lt Nat.and_le_right (by decide)
  have t := eq_of_beq (List.all_eq_true.mp flag_table (v &&& 255) (List.mem_range.mpr hu))
  have e1 : Go.bits .and .i64 (v : Int) 255 = ((v &&& 255 : Nat) : Int) := a1
  have e2 : Go.bits .and .i64 (v : Int) 158 = ((v &&& 158 : Nat) : Int) := a2
  rw [e1, e2, t, Nat.and_assoc]
  rfl
theorem va_eq (i j : Nat) (hi : i < 32) (hj : j < 32) : Go.bits .or .i64 (wrap64 ((i : Int) * 8192)) (wrap64 ((j : Int) * 256)) = wrap64 (wrap64 ((i : Int) * 8192) + wrap64 ((j : Int) * 256)) := by
  rw [w64 (a := (i : Int) * 8192) (by omega) (by omega), w64 (a := (j : Int) * 256) (by omega) (by omega), w64 (by omega) (by omega)]
  exact or_join 13 _ _ (by omega) (by omega) (by omega) (by omega) (by omega) (by omega)
/-- A frame that's not there: no page of it is told. -/
theorem spec_skip (s : ByteArray) (r : Int) (acc : List S142) (i : Nat) (e : Int) (he0 : 0 ≤ e) (he1 : e ≤ 4294967295) (hf : ¬ (e / 256 + 1) * 256 ≤ (s.size : Int)) (z : List S142) (hi : i < 32) (h : Ev (fun k => spec_ReadMaps.l0 k s r acc ((i + 1 : Nat) : Int)) z) (d : Nat) :
    ∀ j : Nat, j + d = 32 → Ev (fun k => spec_ReadMaps.l1 k s r acc (i : Int) e (j : Int)) z := by
  induction d with
  | zero =>
    intro j hj
    refine Ev.step (fun k => ?_) h
    simp only [spec_ReadMaps.l1]
    rw [if_neg (by omega), w64 (by omega) (by omega), show ((i : Int) + 1) = ((i + 1 : Nat) : Int) from by omega]
  | succ d ih =>
    intro j hj
    refine Ev.step (fun k => ?_) (ih (j + 1) (by omega))
    simp only [spec_ReadMaps.l1]
    rw [if_pos (by omega), entry_no s _ j (by omega) (by omega) hf]
    simp only [Option.bind_some, Bool.false_eq_true, if_false]
    rw [w64 (by omega) (by omega), show ((j : Int) + 1) = ((j + 1 : Nat) : Int) from by omega]
theorem inner (s : ByteArray) (hs : (s.size : Int) ≤ 65536) (r : Int) (i : Nat) (e : Int) (he0 : 0 ≤ e) (he1 : e ≤ 4294967295) (hf : (e / 256 + 1) * 256 ≤ (s.size : Int)) (hi : i < 32)
    (h : ∀ acc : List S142, acc.length ≤ 32 * (i + 1) → ∃ z, Ev (fun k => spec_ReadMaps.l0 k s r acc ((i + 1 : Nat) : Int)) z ∧ Ev (fun k => impl_ymaps.l0 k (bytesOf s) r acc ((i + 1 : Nat) : Int)) z ∧ z.length ≤ 1024) (d : Nat) :
    ∀ (j : Nat) (acc : List S142), j + d = 32 → acc.length ≤ 32 * i + j → ∃ z, Ev (fun k => spec_ReadMaps.l1 k s r acc (i : Int) e (j : Int)) z ∧ Ev (fun k => impl_ymaps.l1 k (bytesOf s) r acc (i : Int) e (i : Int) (j : Int)) z ∧ z.length ≤ 1024 := by
  induction d with
  | zero =>
    intro j acc hj ha
    obtain ⟨z, z1, z2, z3⟩ := h acc (by omega)
    refine ⟨z, Ev.step (fun k => ?_) z1, Ev.step (fun k => ?_) z2, z3⟩
    · simp only [spec_ReadMaps.l1]
      rw [if_neg (by omega), w64 (by omega) (by omega), show ((i : Int) + 1) = ((i + 1 : Nat) : Int) from by omega]
    · simp only [impl_ymaps.l1]
      rw [if_neg (by omega), w64 (by omega) (by omega), show ((i : Int) + 1) = ((i + 1 : Nat) : Int) from by omega]
  | succ d ih =>
    intro j acc hj ha
    have en := entry_ok s (e / 256) j (by omega) hf hs (by omega)
    have gw := getWord_eq s (e / 256 * 256 + 4 * (j : Int)) (by omega) (by omega) hs
    obtain ⟨w0, w1⟩ := wordAt_range s (e / 256 * 256 + 4 * (j : Int))
    have ws : wrap64 (wrap64 (e / 256 * 256) + wrap64 (4 * (j : Int))) = e / 256 * 256 + 4 * (j : Int) := by
      rw [w64 (a := e / 256 * 256) (by omega) (by omega), w64 (a := 4 * (j : Int)) (by omega) (by omega), w64 (by omega) (by omega)]
    generalize wordAt s (e / 256 * 256 + 4 * (j : Int)) = x at en gw w0 w1
    have fl := flags_eq x w0 w1
    have va := va_eq i j hi (by omega)
    by_cases hv : Go.bits .and .i64 x 1 = 0
    · obtain ⟨z, z1, z2, z3⟩ := ih (j + 1) acc (by omega) (by omega)
      refine ⟨z, Ev.step (fun k => ?_) z1, Ev.step (fun k => ?_) z2, z3⟩
      · simp only [spec_ReadMaps.l1]
        rw [if_pos (by omega), en]
        simp only [Option.bind_some, if_true]
        rw [if_pos hv, w64 (by omega) (by omega), show ((j : Int) + 1) = ((j + 1 : Nat) : Int) from by omega]
      · simp only [impl_ymaps.l1]
        rw [if_pos (by omega), ws, gw, Option.bind_some, if_pos hv, w64 (by omega) (by omega), show ((j : Int) + 1) = ((j + 1 : Nat) : Int) from by omega]
    · obtain ⟨z, z1, z2, z3⟩ := ih (j + 1) (acc ++ [(⟨wrap64 (wrap64 ((i : Int) * 8192) + wrap64 ((j : Int) * 256)), x / 256, Go.bits .and .i64 x 158, false⟩ : S142)]) (by omega) (by rw [List.length_append, List.length_cons, List.length_nil]; omega)
      refine ⟨z, Ev.step (fun k => ?_) z1, Ev.step (fun k => ?_) z2, z3⟩
      · simp only [spec_ReadMaps.l1]
        rw [if_pos (by omega), en]
        simp only [Option.bind_some, if_true]
        rw [if_neg hv, if_pos (by omega), w64 (a := (j : Int) + 1) (by omega) (by omega), show ((j : Int) + 1) = ((j + 1 : Nat) : Int) from by omega]
      · simp only [impl_ymaps.l1]
        rw [if_pos (by omega), ws, gw, Option.bind_some, if_neg hv, if_pos (by omega), fl, va, w64 (a := (j : Int) + 1) (by omega) (by omega), show ((j : Int) + 1) = ((j + 1 : Nat) : Int) from by omega]
theorem outer (s : ByteArray) (hs : (s.size : Int) ≤ 65536) (hs0 : (s.size : Int) % 256 = 0) (r : Int) (hr0 : 0 ≤ r) (hr : (r + 1) * 256 ≤ (s.size : Int)) (d : Nat) :
    ∀ (i : Nat) (acc : List S142), i + d = 32 → acc.length ≤ 32 * i → ∃ z, Ev (fun k => spec_ReadMaps.l0 k s r acc (i : Int)) z ∧ Ev (fun k => impl_ymaps.l0 k (bytesOf s) r acc (i : Int)) z ∧ z.length ≤ 1024 := by
  induction d with
  | zero =>
    intro i acc hi ha
    exact ⟨acc, Ev.step (f := fun _ => some acc) (fun k => by simp only [spec_ReadMaps.l0]; rw [if_neg (by omega)]) (Ev.now _), Ev.step (f := fun _ => some acc) (fun k => by simp only [impl_ymaps.l0]; rw [if_neg (by omega)]) (Ev.now _), by omega⟩
  | succ d ih =>
    intro i acc hi ha
    have en := entry_ok s r i hr0 hr hs (by omega)
    have gw := getWord_eq s (r * 256 + 4 * (i : Int)) (by omega) (by omega) hs
    obtain ⟨w0, w1⟩ := wordAt_range s (r * 256 + 4 * (i : Int))
    have ws : wrap64 (wrap64 (r * 256) + wrap64 (4 * (i : Int))) = r * 256 + 4 * (i : Int) := by
      rw [w64 (a := r * 256) (by omega) (by omega), w64 (a := 4 * (i : Int)) (by omega) (by omega), w64 (by omega) (by omega)]
    generalize wordAt s (r * 256 + 4 * (i : Int)) = e at en gw w0 w1
    have fl := flags_eq e w0 w1
    have fr : impl_yframes.f (bytesOf s) = some ((s.size : Int) / 256) := by unfold impl_yframes.f; rw [bytesOf_length, w64 (by omega) (by omega)]
    by_cases hv : Go.bits .and .i64 e 1 = 0
    · obtain ⟨z, z1, z2, z3⟩ := ih (i + 1) acc (by omega) (by omega)
      refine ⟨z, Ev.step (fun k => ?_) z1, Ev.step (fun k => ?_) z2, z3⟩
      · simp only [spec_ReadMaps.l0]
        rw [if_pos (by omega), en]
        simp only [Option.bind_some]
        rw [if_pos hv, w64 (by omega) (by omega), show ((i : Int) + 1) = ((i + 1 : Nat) : Int) from by omega]
      · simp only [impl_ymaps.l0]
        rw [if_pos (by omega), ws, gw, Option.bind_some, if_pos hv, w64 (by omega) (by omega), show ((i : Int) + 1) = ((i + 1 : Nat) : Int) from by omega]
    · by_cases hw : Go.bits .and .i64 e 14 = 0
      · by_cases hf : (e / 256 + 1) * 256 ≤ (s.size : Int)
        · obtain ⟨z, z1, z2, z3⟩ := inner s hs r i e w0 w1 hf (by omega) (fun acc' h' => ih (i + 1) acc' (by omega) (by omega)) 32 0 acc (by omega) (by omega)
          refine ⟨z, Ev.step (f := fun k => spec_ReadMaps.l1 k s r acc (i : Int) e ((0 : Nat) : Int)) (fun k => ?_) z1, Ev.step (f := fun k => impl_ymaps.l1 k (bytesOf s) r acc (i : Int) e (i : Int) ((0 : Nat) : Int)) (fun k => ?_) z2, z3⟩
          · simp only [spec_ReadMaps.l0]
            rw [if_pos (by omega), en]
            simp only [Option.bind_some]
            rw [if_neg hv, if_pos hw]
            rfl
          · simp only [impl_ymaps.l0]
            rw [if_pos (by omega), ws, gw, Option.bind_some, if_neg hv, if_pos hw, fr, Option.bind_some, if_neg (by omega)]
            rfl
        · obtain ⟨z, z1, z2, z3⟩ := ih (i + 1) acc (by omega) (by omega)
          have sk := spec_skip s r acc i e w0 w1 hf z (by omega) z1 32 0 (by omega)
          refine ⟨z, Ev.step (f := fun k => spec_ReadMaps.l1 k s r acc (i : Int) e ((0 : Nat) : Int)) (fun k => ?_) sk, Ev.step (fun k => ?_) z2, z3⟩
          · simp only [spec_ReadMaps.l0]
            rw [if_pos (by omega), en]
            simp only [Option.bind_some]
            rw [if_neg hv, if_pos hw]
            rfl
          · simp only [impl_ymaps.l0]
            rw [if_pos (by omega), ws, gw, Option.bind_some, if_neg hv, if_pos hw, fr, Option.bind_some, if_pos (by omega), w64 (a := (i : Int) + 1) (by omega) (by omega), show ((i : Int) + 1) = ((i + 1 : Nat) : Int) from by omega]
      · obtain ⟨z, z1, z2, z3⟩ := ih (i + 1) (acc ++ [(⟨wrap64 ((i : Int) * 8192), e / 256, Go.bits .and .i64 e 158, true⟩ : S142)]) (by omega) (by rw [List.length_append, List.length_cons, List.length_nil]; omega)
        refine ⟨z, Ev.step (fun k => ?_) z1, Ev.step (fun k => ?_) z2, z3⟩
        · simp only [spec_ReadMaps.l0]
          rw [if_pos (by omega), en]
          simp only [Option.bind_some]
          rw [if_neg hv, if_neg hw, if_pos (by omega), w64 (a := (i : Int) + 1) (by omega) (by omega), show ((i : Int) + 1) = ((i + 1 : Nat) : Int) from by omega]
        · simp only [impl_ymaps.l0]
          rw [if_pos (by omega), ws, gw, Option.bind_some, if_neg hv, if_neg hw, if_pos (by omega), fl, w64 (a := (i : Int) + 1) (by omega) (by omega), show ((i : Int) + 1) = ((i + 1 : Nat) : Int) from by omega]
theorem maps_both (s : ByteArray) (r : Int) : ∃ z, Ev (fun k => spec_ReadMaps.f k s r) z ∧ Ev (fun k => impl_ReadMaps.f k s r) z ∧ z.length ≤ 1024 := by
  have sbad : Ev (fun k => spec_ReadMaps.j0 k s r ([] : List S142) true) ([] : List S142) := Ev.step (f := fun _ => some ([] : List S142)) (fun k => by simp only [spec_ReadMaps.j0]; rw [if_pos trivial]) (Ev.now _)
  have ibad : Ev (fun k => impl_ymaps.j0 k (bytesOf s) r true) ([] : List S142) := Ev.step (f := fun _ => some ([] : List S142)) (fun k => by simp only [impl_ymaps.j0]; rw [if_pos trivial]) (Ev.now _)
  rcases spec_MemFault_eq s with ⟨hm, em⟩ | ⟨hm, em⟩
  · rcases impl_ymemOk_eq s with ⟨_, ei⟩ | ⟨hn, _⟩
    · obtain ⟨m1, m2, m3⟩ := hm
      have fr : impl_yframes.f (bytesOf s) = some ((s.size : Int) / 256) := by unfold impl_yframes.f; rw [bytesOf_length, w64 (by omega) (by omega)]
      have hw : wrap64 ((s.size : Int) / 256) = (s.size : Int) / 256 := w64 (by omega) (by omega)
      by_cases h0 : r ≥ 0
      · by_cases h1 : r < (s.size : Int) / 256
        · obtain ⟨z, z1, z2, z3⟩ := outer s m2 m3 r h0 (by omega) 32 0 [] (by omega) (by simp)
          refine ⟨z, ?_, ?_, z3⟩
          · unfold spec_ReadMaps.f spec_l03In.f
            simp only [Option.bind_some, em, if_true, if_pos h0, hw, decide_eq_true h1, Bool.not_true]
            exact Ev.step (f := fun k => spec_ReadMaps.l0 k s r ([] : List S142) ((0 : Nat) : Int)) (fun k => by simp only [spec_ReadMaps.j0]; rw [if_neg (by simp)]; rfl) z1
          · have c1 : ¬ r < 0 := by omega
            have c2 : ¬ r ≥ (s.size : Int) / 256 := by omega
            unfold impl_ReadMaps.f impl_ymaps.f
            simp only [ei, Option.bind_some, if_true, if_neg c1, fr, decide_eq_false c2]
            exact Ev.step (f := fun k => impl_ymaps.l0 k (bytesOf s) r ([] : List S142) ((0 : Nat) : Int)) (fun k => by simp only [impl_ymaps.j0]; rw [if_neg (by simp)]; rfl) z2
        · refine ⟨[], ?_, ?_, by simp⟩
          · unfold spec_ReadMaps.f spec_l03In.f
            simp only [Option.bind_some, em, if_true, if_pos h0, hw, decide_eq_false h1, Bool.not_false]
            exact sbad
          · have c1 : ¬ r < 0 := by omega
            have c2 : r ≥ (s.size : Int) / 256 := by omega
            unfold impl_ReadMaps.f impl_ymaps.f
            simp only [ei, Option.bind_some, if_true, if_neg c1, fr, decide_eq_true c2]
            exact ibad
      · refine ⟨[], ?_, ?_, by simp⟩
        · unfold spec_ReadMaps.f spec_l03In.f
          simp only [Option.bind_some, em, if_true, if_neg h0, Bool.not_false]
          exact sbad
        · have c1 : r < 0 := by omega
          unfold impl_ReadMaps.f impl_ymaps.f
          simp only [ei, Option.bind_some, if_true, if_pos c1]
          exact ibad
    · exact absurd hm hn
  · rcases impl_ymemOk_eq s with ⟨hn, _⟩ | ⟨_, ei⟩
    · exact absurd hn hm
    · refine ⟨[], ?_, ?_, by simp⟩
      · unfold spec_ReadMaps.f
        simp only [Option.bind_some, em, if_neg (show ¬ (1 : Int) = 0 by decide)]
        exact sbad
      · unfold impl_ReadMaps.f
        simp only [ei, Option.bind_some, Bool.false_eq_true, if_false]
        exact Ev.now _
theorem rd142 (xs : List S142) (j : Nat) (hlt : j < xs.length) : rd_T142 xs (j : Int) = xs[j] := by unfold rd_T142; rw [Int.toNat_natCast, List.getD_eq_getElem?_getD, List.getElem?_eq_getElem hlt, Option.getD_some]
theorem rd142_set (xs : List S142) (j : Nat) (v : S142) (hlt : j < xs.length) : rd_T142 (xs.set j v) (j : Int) = v := by rw [rd142 _ _ (by rw [List.length_set]; exact hlt), List.getElem_set_self]
theorem eqPm_all (xs : List S142) (h0 : xs.length ≤ 1048576) : Ev (fun k => laws_eqPageMapS.f k xs xs) true := by
  have := eq_loop z142 laws_eqPageMapS.l0 (fun _ x y => laws_eqPageMap.f x.f0 x.f1 x.f2 x.f3 y.f0 y.f1 y.f2 y.f3) (fun k xs ys i => by simp only [laws_eqPageMapS.l0]; rfl) xs (by omega) (fun x _ => Ev.congr (fun k => by unfold laws_eqPageMap.f; rw [if_pos rfl, if_pos rfl, if_pos rfl, if_neg (by simp)]) (Ev.now _)) xs.length 0 (Nat.zero_le _) rfl
  refine Ev.congr (fun k => ?_) this
  unfold laws_eqPageMapS.f
  rw [if_pos rfl]
  rfl
def markP : List S142 → Int → List S142
  | [], _ => []
  | _ :: xs, m => (⟨m, m + 1, m + 2, ((m + 3) % 3 == 0)⟩ : S142) :: markP xs (m + 4)
theorem markP_loop (e : Nat) : ∀ (pre suf : List S142) (m : Int), suf.length = e → (pre.length : Int) + (suf.length : Int) ≤ 1048576 → 0 ≤ m → m + 4 * (suf.length : Int) ≤ 1099511627776 →
    Ev (fun k => laws_markPageMapS.l0 k (pre ++ suf) m (pre.length : Int)) (m + 4 * (suf.length : Int), pre ++ markP suf m) := by
  induction e with
  | zero =>
    intro pre suf m hs _ _ _
    have : suf = [] := List.eq_nil_of_length_eq_zero hs
    subst this
    refine Ev.step (f := fun _ => some (m, pre)) (fun k => ?_) ?_
    · simp only [laws_markPageMapS.l0, List.append_nil]
      rw [if_neg (by omega)]
    · simp only [List.length_nil, markP, List.append_nil]
      rw [show m + 4 * ((0 : Nat) : Int) = m from by omega]
      exact Ev.now _
  | succ e ih =>
    intro pre suf m hs h1 h2 h3
    cases suf with
    | nil => simp at hs
    | cons a suf =>
      simp only [List.length_cons] at hs h1 h3
      have := ih (pre ++ [(⟨m, m + 1, m + 2, ((m + 3) % 3 == 0)⟩ : S142)]) suf (m + 4) (by omega) (by rw [List.length_append, List.length_cons, List.length_nil]; omega) (by omega) (by omega)
      rw [List.append_assoc, List.append_assoc, List.singleton_append, List.singleton_append] at this
      simp only [markP, List.length_cons]
      rw [show m + 4 * ((suf.length + 1 : Nat) : Int) = m + 4 + 4 * (suf.length : Int) from by omega]
      refine Ev.step (fun k => ?_) this
      have hlt : pre.length < (pre ++ a :: suf).length := by rw [List.length_append, List.length_cons]; omega
      have w1 : wrap64 (m + 1) = m + 1 := w64 (by omega) (by omega)
      have w2 : wrap64 (m + 1 + 1) = m + 2 := by rw [w64 (by omega) (by omega)]; omega
      have w3 : wrap64 (m + 2 + 1) = m + 3 := by rw [w64 (by omega) (by omega)]; omega
      have w4 : wrap64 (m + 3 + 1) = m + 4 := by rw [w64 (by omega) (by omega)]; omega
      have ht : Int.tmod (m + 3) 3 = (m + 3) % 3 := tmod_nn (by omega)
      simp only [laws_markPageMapS.l0, Option.bind_some, Int.toNat_natCast]
      rw [if_pos (by omega), if_pos (by omega)]
      rw [rd142_set _ _ _ hlt, rd142_set _ _ _ (by rw [List.length_set]; exact hlt), rd142_set _ _ _ (by rw [List.length_set, List.length_set]; exact hlt)]
      rw [List.set_set, List.set_set, List.set_set, w1, w2, w3, w4, ht]
      rw [List.set_append_right _ _ (Nat.le_refl _), Nat.sub_self, List.set_cons_zero, w64 (a := (pre.length : Int) + 1) (by omega) (by omega), List.length_append, List.length_cons, List.length_nil, show ((pre.length : Int) + 1) = ((pre.length + (0 + 1) : Nat) : Int) from by omega]
theorem heldP_loop (e : Nat) : ∀ (pre suf : List S142) (m : Int), suf.length = e → (pre.length : Int) + (suf.length : Int) ≤ 1048576 → 0 ≤ m → m + 4 * (suf.length : Int) ≤ 1099511627776 →
    Ev (fun k => laws_heldPageMapS.l0 k (pre ++ markP suf m) m (pre.length : Int)) (m + 4 * (suf.length : Int)) := by
  induction e with
  | zero =>
    intro pre suf m hs _ _ _
    have : suf = [] := List.eq_nil_of_length_eq_zero hs
    subst this
    refine Ev.step (f := fun _ => some m) (fun k => ?_) ?_
    · simp only [laws_heldPageMapS.l0, markP, List.append_nil]
      rw [if_neg (by omega)]
    · rw [List.length_nil, show m + 4 * ((0 : Nat) : Int) = m from by omega]
      exact Ev.now _
  | succ e ih =>
    intro pre suf m hs h1 h2 h3
    cases suf with
    | nil => simp at hs
    | cons a suf =>
      simp only [List.length_cons] at hs h1 h3
      have := ih (pre ++ [(⟨m, m + 1, m + 2, ((m + 3) % 3 == 0)⟩ : S142)]) suf (m + 4) (by omega) (by rw [List.length_append, List.length_cons, List.length_nil]; omega) (by omega) (by omega)
      rw [List.append_assoc, List.singleton_append] at this
      simp only [markP, List.length_cons]
      rw [show m + 4 * ((suf.length + 1 : Nat) : Int) = m + 4 + 4 * (suf.length : Int) from by omega]
      refine Ev.step (fun k => ?_) this
      have hrd : rd_T142 (pre ++ (⟨m, m + 1, m + 2, ((m + 3) % 3 == 0)⟩ : S142) :: markP suf (m + 4)) (pre.length : Int) = (⟨m, m + 1, m + 2, ((m + 3) % 3 == 0)⟩ : S142) := by
        rw [rd142 _ _ (by rw [List.length_append, List.length_cons]; omega), List.getElem_append_right (Nat.le_refl _)]
        simp
      have w1 : wrap64 (m + 1) = m + 1 := w64 (by omega) (by omega)
      have w2 : wrap64 (m + 1 + 1) = m + 2 := by rw [w64 (by omega) (by omega)]; omega
      have w3 : wrap64 (m + 2 + 1) = m + 3 := by rw [w64 (by omega) (by omega)]; omega
      have w4 : wrap64 (m + 3 + 1) = m + 4 := by rw [w64 (by omega) (by omega)]; omega
      have ht : Int.tmod (m + 3) 3 = (m + 3) % 3 := tmod_nn (by omega)
      simp only [laws_heldPageMapS.l0]
      rw [if_pos (by rw [List.length_append, List.length_cons]; omega), if_pos (by omega), hrd]
      simp only [w1, w2, w3, w4, ht, if_true, bne_self_eq_false, Bool.false_eq_true, if_false]
      rw [w64 (a := (pre.length : Int) + 1) (by omega) (by omega), List.length_append, List.length_cons, List.length_nil, show ((pre.length : Int) + 1) = ((pre.length + (0 + 1) : Nat) : Int) from by omega]
theorem FnExactReadMaps : laws_FnExactReadMaps.Pure := by
  intro s r _ _
  refine Ev.rounds (r := true) ?_
  unfold laws_FnExactReadMaps.f
  by_cases h1 : (s.size : Int) > 1048576
  · simp only [if_pos h1]; exact Ev.now _
  · simp only [if_neg h1]
    obtain ⟨z, z1, z2, zl⟩ := maps_both s r
    have ez := eqPm_all z (by omega)
    have hm : Ev (fun k => laws_markPageMapS.f k z 1) (1 + 4 * (z.length : Int), markP z 1) := markP_loop z.length [] z 1 rfl (by simp only [List.length_nil]; omega) (by omega) (by omega)
    have hh : Ev (fun k => laws_heldPageMapS.f k (markP z 1) 1) (1 + 4 * (z.length : Int)) := heldP_loop z.length [] z 1 rfl (by simp only [List.length_nil]; omega) (by omega) (by omega)
    have c1 : ¬ (1 + 4 * (z.length : Int)) < 0 := by omega
    refine Ev.bind z1 (Ev.bind z2 (Ev.bind ez ?_))
    simp only [if_true]
    refine Ev.bind hm (Ev.bind hh ?_)
    simp only [if_neg c1, if_true]
    refine Ev.bind z2 (Ev.bind ez ?_)
    simp only [if_true]
    refine Ev.bind hh ?_
    simp only [if_neg c1, if_true]
    exact Ev.now _

end Go.Proofs.Ytjpgelnhmcblmaa.Pure
