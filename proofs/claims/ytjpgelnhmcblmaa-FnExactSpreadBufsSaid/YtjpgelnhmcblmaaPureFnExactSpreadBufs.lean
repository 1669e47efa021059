/- The program's SpreadBufs returns what the reference's returns, for all arguments. Conditions: none. -/
import Derived.Test.YtjpgelnhmcblmaaQFnExactSpreadBufsx
import Derived.Test.YtjpgelnhmcblmaaPl
import Derived.Test.YtjpgelnhmcblmaaTFnExactSpreadBufs
import Derived.Test.YtjpgelnhmcblmaaBy
set_option linter.unusedVariables false
set_option linter.unusedSimpArgs false
namespace Go.Proofs.Ytjpgelnhmcblmaa.Pure
open Go.RowKit Go.Proofs.Ytjpgelnhmcblmaa.QFnExactSpreadBufs Go.Proofs.YtjpgelnhmcblmaaW.PrintWords Go.Proofs.YtjpgelnhmcblmaaW.PrintLast Go.Proofs.Ytjpgelnhmcblmaa.Pl Go.Proofs.YtjpgelnhmcblmaaW.PrintMore
/-- A loop that takes the size of every element off a budget: it ends, below zero or with every element small. -/
theorem sz_loop {α : Type} (d : α) (M : Int) (ok : α → Prop) (L : Nat → List α → Int → Int → Option Int) (g : Nat → α → Int → Option Int)
    (hL : ∀ k xs s i, L (k + 1) xs s i = if i < (xs.length : Int) then (if 0 ≤ i then ((g k (xs.getD i.toNat d) s).bind fun t => (if t < 0 then (some (-1)) else (L k xs t (wrap64 (i + 1))))) else none) else some s)
    (xs : List α) (hlen : (xs.length : Int) ≤ 4611686018427387904)
    (hg : ∀ x s, x ∈ xs → 0 ≤ s → s ≤ M → ∃ t, Ev (fun k => g k x s) t ∧ (t < 0 ∨ (0 ≤ t ∧ t ≤ s ∧ ok x))) (e : Nat) :
    ∀ (j : Nat) (s : Int), 0 ≤ s → s ≤ M → j ≤ xs.length → xs.length - j = e → (∀ q, q < j → ok (xs.getD q d)) → ∃ r, Ev (fun k => L k xs s (j : Int)) r ∧ (r < 0 ∨ (0 ≤ r ∧ r ≤ s ∧ ∀ x, x ∈ xs → ok x)) := by
  induction e with
  | zero =>
    intro j s h0 hM hj he hok
    refine ⟨s, Ev.step (f := fun _ => some s) (fun k => by rw [hL, if_neg (by omega)]) (Ev.now _), Or.inr ⟨h0, Int.le_refl _, fun x hx => ?_⟩⟩
    obtain ⟨q, hq, rfl⟩ := List.getElem_of_mem hx
    have := hok q (by omega)
    rwa [List.getD_eq_getElem?_getD, List.getElem?_eq_getElem hq, Option.getD_some] at this
  | succ e ih =>
    intro j s h0 hM hj he hok
    have hlt : j < xs.length := by omega
    have hmem : xs.getD j d ∈ xs := by
      rw [List.getD_eq_getElem?_getD, List.getElem?_eq_getElem hlt, Option.getD_some]; exact List.getElem_mem hlt
    obtain ⟨t, ht, hc⟩ := hg (xs.getD j d) s hmem h0 hM
    have hs : ∀ k, L (k + 1) xs s (j : Int) = ((g k (xs.getD j d) s).bind fun t => (if t < 0 then (some (-1)) else (L k xs t (wrap64 ((j : Int) + 1))))) := fun k => by
      rw [hL, if_pos (by omega), if_pos (by omega), Int.toNat_natCast]
    by_cases hn : t < 0
    · refine ⟨-1, Ev.step (fun k => hs k) (Ev.bind ht ?_), Or.inl (by omega)⟩
      simp only [if_pos hn]
      exact Ev.now _
    · have hc' := hc.resolve_left hn
      obtain ⟨r, hr, hrc⟩ := ih (j + 1) t hc'.1 (by omega) (by omega) (by omega) (fun q hq => by
        by_cases hqj : q = j
        · subst hqj; exact hc'.2.2
        · exact hok q (by omega))
      refine ⟨r, Ev.step (fun k => hs k) (Ev.bind ht ?_), ?_⟩
      · simp only [if_neg hn]
        rw [w64 (by omega) (by omega), show ((j : Int) + 1) = ((j + 1 : Nat) : Int) from by omega]
        exact hr
      · rcases hrc with h | h
        · exact Or.inl h
        · exact Or.inr ⟨h.1, by omega, h.2.2⟩
/-- A loop that turns every element. -/
theorem to_loop {α β γ : Type} (d : α) (z : β) (mk : γ → β) (c : α → β) (L : Nat → List α → List β → Int → Option (List β)) (g : Nat → α → Option γ)
    (hL : ∀ k xs ys i, L (k + 1) xs ys i = if i < (xs.length : Int) then (if 0 ≤ i then ((g k (xs.getD i.toNat d)).bind fun b => (if i < (ys.length : Int) then (L k xs (ys.set i.toNat (mk b)) (wrap64 (i + 1))) else none)) else none) else some ys)
    (xs : List α) (hlen : (xs.length : Int) ≤ 4611686018427387904)
    (hg : ∀ x, x ∈ xs → ∃ b, Ev (fun k => g k x) b ∧ mk b = c x) (e : Nat) :
    ∀ (j : Nat), j ≤ xs.length → xs.length - j = e → Ev (fun k => L k xs ((xs.take j).map c ++ List.replicate (xs.length - j) z) (j : Int)) (xs.map c) := by
  induction e with
  | zero =>
    intro j hj he
    obtain rfl : j = xs.length := by omega
    refine Ev.step (f := fun _ => some (xs.map c)) (fun k => ?_) (Ev.now _)
    rw [hL, if_neg (by omega), List.take_length, Nat.sub_self, List.replicate_zero, List.append_nil]
  | succ e ih =>
    intro j hj he
    have hlt : j < xs.length := by omega
    have hx : xs.getD j d = xs[j] := by rw [List.getD_eq_getElem?_getD, List.getElem?_eq_getElem hlt, Option.getD_some]
    obtain ⟨b, hb, hbc⟩ := hg xs[j] (List.getElem_mem hlt)
    have hlm : ((xs.take j).map c).length = j := by rw [List.length_map, List.length_take]; omega
    have hly : (((xs.take j).map c ++ List.replicate (xs.length - j) z).length : Int) = (xs.length : Int) := by
      rw [List.length_append, hlm, List.length_replicate]; omega
    have hset : (((xs.take j).map c ++ List.replicate (xs.length - j) z).set j (mk b)) = (xs.take (j + 1)).map c ++ List.replicate (xs.length - (j + 1)) z := by
      rw [List.set_append_right _ _ (by omega), hlm, Nat.sub_self, show xs.length - j = (xs.length - (j + 1)) + 1 from by omega, List.replicate_succ, List.set_cons_zero, hbc, List.take_succ_eq_append_getElem hlt, List.map_append, List.append_assoc]
      rfl
    refine Ev.step (f := fun k => (g k xs[j]).bind fun b => L k xs (((xs.take j).map c ++ List.replicate (xs.length - j) z).set j (mk b)) (((j + 1 : Nat) : Int))) (fun k => ?_) (Ev.bind (f := fun k b => L k xs (((xs.take j).map c ++ List.replicate (xs.length - j) z).set j (mk b)) (((j + 1 : Nat) : Int))) hb ?_)
    · have hlj : (j : Int) < (xs.length : Int) := by omega
      rw [hL, if_pos (by omega), if_pos (by omega), Int.toNat_natCast, hx, hly, w64 (by omega) (by omega)]
      simp only [if_pos hlj]
      rfl
    · rw [hset]
      exact ih (j + 1) (by omega) (by omega)
/-- A loop that asks every pair of elements. -/
theorem eq_loop {α : Type} (d : α) (L : Nat → List α → List α → Int → Option Bool) (g : Nat → α → α → Option Bool)
    (hL : ∀ k xs ys i, L (k + 1) xs ys i = if i < (xs.length : Int) then (if 0 ≤ i then (if i < (ys.length : Int) then ((g k (xs.getD i.toNat d) (ys.getD i.toNat d)).bind fun t => (if t = true then (L k xs ys (wrap64 (i + 1))) else (some false))) else none) else none) else some true)
    (xs : List α) (hlen : (xs.length : Int) ≤ 4611686018427387904)
    (hg : ∀ x, x ∈ xs → Ev (fun k => g k x x) true) (e : Nat) :
    ∀ (j : Nat), j ≤ xs.length → xs.length - j = e → Ev (fun k => L k xs xs (j : Int)) true := by
  induction e with
  | zero =>
    intro j hj he
    exact Ev.step (f := fun _ => some true) (fun k => by rw [hL, if_neg (by omega)]) (Ev.now _)
  | succ e ih =>
    intro j hj he
    have hlt : j < xs.length := by omega
    have hx : xs.getD j d = xs[j] := by rw [List.getD_eq_getElem?_getD, List.getElem?_eq_getElem hlt, Option.getD_some]
    refine Ev.step (f := fun k => (g k xs[j] xs[j]).bind fun t => (if t = true then L k xs xs (((j + 1 : Nat) : Int)) else (some false))) (fun k => ?_) (Ev.bind (f := fun k t => (if t = true then L k xs xs (((j + 1 : Nat) : Int)) else (some false))) (hg xs[j] (List.getElem_mem hlt)) ?_)
    · rw [hL, if_pos (by omega), if_pos (by omega), Int.toNat_natCast, hx, if_pos (by omega), w64 (by omega) (by omega)]
      rfl
    · simp only [if_true]
      exact ih (j + 1) (by omega) (by omega)

/-- A memory's size is right. -/
def memOk (s : ByteArray) : Prop := 256 ≤ (s.size : Int) ∧ (s.size : Int) ≤ 65536 ∧ (s.size : Int) % 256 = 0
theorem impl_ymemOk_eq (s : ByteArray) : (memOk s ∧ impl_ymemOk.f s = some true) ∨ (¬ memOk s ∧ impl_ymemOk.f s = some false) := by
  unfold impl_ymemOk.f memOk
  by_cases h0 : (s.size : Int) ≥ 256
  · rw [if_pos h0]
    by_cases h1 : (s.size : Int) ≤ 65536
    · rw [if_pos h1]
      by_cases h2 : (s.size : Int) % 256 = 0
      · left; exact ⟨⟨h0, h1, h2⟩, by simp [h2]⟩
      · right; exact ⟨fun h => h2 h.2.2, by simp [h2]⟩
    · rw [if_neg h1]; right; exact ⟨fun h => h1 h.2.1, rfl⟩
  · rw [if_neg h0]; right; exact ⟨fun h => h0 h.1, rfl⟩
theorem spec_MemFault_eq (s : ByteArray) : (memOk s ∧ spec_MemFault.f s = some 0) ∨ (¬ memOk s ∧ spec_MemFault.f s = some 1) := by
  unfold spec_MemFault.f memOk
  by_cases h0 : (s.size : Int) = 0
  · rw [if_pos h0]; right; exact ⟨fun h => by omega, rfl⟩
  · rw [if_neg h0]
    by_cases h1 : (s.size : Int) % 256 = 0
    · rw [if_pos h1]
      by_cases h2 : (s.size : Int) > 65536
      · rw [if_pos h2]; right; exact ⟨fun h => by omega, rfl⟩
      · rw [if_neg h2]; left; exact ⟨⟨by omega, by omega, h1⟩, rfl⟩
    · rw [if_neg h1]; right; exact ⟨fun h => h1 h.2.2, rfl⟩

def toB (x : S126) : S80 := ⟨x.f0, x.f1, x.f2⟩
theorem to_all (xs : List S126) (h0 : xs.length ≤ 11728124029610) : Ev (fun k => laws_toBufS.f k xs) (xs.map toB) := by
  have := to_loop z126 z80 (fun b : Int × Int × Bool => (⟨b.1, b.2.1, b.2.2⟩ : S80)) toB laws_toBufS.l0 (fun _ x => laws_toBuf.f x.f0 x.f1 x.f2) (fun k xs ys i => by simp only [laws_toBufS.l0]; rfl) xs (by omega) (fun x hx => ⟨_, Ev.now _, rfl⟩) xs.length 0 (Nat.zero_le _) rfl
  refine Ev.congr (fun k => ?_) this
  unfold laws_toBufS.f
  rw [if_pos (by omega), if_pos (by omega), Int.toNat_natCast]
  rfl
theorem eq_all (xs : List S80) (h0 : xs.length ≤ 11728124029610) : Ev (fun k => laws_eqBufS.f k xs xs) true := by
  have := eq_loop z80 laws_eqBufS.l0 (fun _ x y => laws_eqBuf.f x.f0 x.f1 x.f2 y.f0 y.f1 y.f2) (fun k xs ys i => by simp only [laws_eqBufS.l0]; rfl) xs (by omega) (fun x _ => Ev.congr (fun k => by
    have hb : (x.f2 != x.f2) = false := by simp
    unfold laws_eqBuf.f; rw [if_pos rfl, if_pos rfl, hb, if_neg (by simp)]) (Ev.now _)) xs.length 0 (Nat.zero_le _) rfl
  refine Ev.congr (fun k => ?_) this
  unfold laws_eqBufS.f
  rw [if_pos rfl]
  rfl
theorem fits_iff (n a z : Int) (hn0 : 0 ≤ n) (hn : n ≤ 140737488351232) : fitsB n a z = true ↔ 0 ≤ a ∧ 0 ≤ z ∧ a + z ≤ n := by
  unfold fitsB
  simp only [Bool.and_eq_true, decide_eq_true_eq]
  constructor
  · rintro ⟨h0, h1, h2, h3⟩
    rw [w64 (by omega) (by omega)] at h3
    omega
  · rintro ⟨h0, h1, h2⟩
    refine ⟨h0, h1, by omega, ?_⟩
    rw [w64 (by omega) (by omega)]
    omega
theorem in_eq (s : ByteArray) (a z : Int) : spec_l10In.f s a z = some (fitsB (s.size : Int) a z) := by
  unfold spec_l10In.f fitsB
  by_cases h0 : a ≥ 0
  · rw [if_pos h0, decide_eq_true h0]
    by_cases h1 : z ≥ 0
    · rw [if_pos h1, decide_eq_true h1]
      by_cases h2 : a ≤ (s.size : Int)
      · rw [if_pos h2, decide_eq_true h2]; rfl
      · rw [if_neg h2, decide_eq_false h2]; rfl
    · rw [if_neg h1, decide_eq_false h1]; rfl
  · rw [if_neg h0, decide_eq_false h0]; rfl
theorem rd80 (xs : List S80) (j : Nat) (hlt : j < xs.length) : rd_T80 xs (j : Int) = xs[j] := by unfold rd_T80; rw [Int.toNat_natCast, List.getD_eq_getElem?_getD, List.getElem?_eq_getElem hlt, Option.getD_some]
theorem bufs_loop (s : ByteArray) (xs : List S80) (hlen : (xs.length : Int) ≤ 1000) (e : Nat) : ∀ j : Nat, j ≤ xs.length → xs.length - j = e → Ev (fun k => spec_l10Bufs.l0 k s xs (j : Int)) (!((xs.drop j).any (bufBad (s.size : Int)))) := by
  induction e with
  | zero =>
    intro j hj he
    rw [List.drop_eq_nil_of_le (by omega)]
    exact Ev.step (f := fun _ => some true) (fun k => by simp only [spec_l10Bufs.l0]; rw [if_neg (by omega)]) (Ev.now _)
  | succ e ih =>
    intro j hj he
    have hlt : j < xs.length := by omega
    rw [List.drop_eq_getElem_cons hlt, List.any_cons]
    have hstep : ∀ k, spec_l10Bufs.l0 (k + 1) s xs (j : Int) = if bufBad (s.size : Int) xs[j] = true then some false else spec_l10Bufs.l0 k s xs (((j + 1 : Nat) : Int)) := by
      intro k
      simp only [spec_l10Bufs.l0]
      rw [if_pos (by omega), if_pos (by omega), rd80 xs j hlt, in_eq, Option.bind_some, w64 (by omega) (by omega)]
      unfold bufBad
      cases fitsB (s.size : Int) xs[j].f0 xs[j].f1 <;> rfl
    cases hv : bufBad (s.size : Int) xs[j] with
    | true =>
      refine Ev.step (f := fun _ => some false) (fun k => by rw [hstep, hv, if_pos rfl]) ?_
      rw [Bool.true_or]; exact Ev.now _
    | false =>
      refine Ev.step (fun k => by rw [hstep, hv, if_neg (by simp)]) ?_
      rw [Bool.false_or]; exact ih (j + 1) (by omega) (by omega)
/-- The reference's test of the buffers, and the program's. -/
theorem bufs_ev (s : ByteArray) (xs : List S80) (hm : memOk s) (hlen : (xs.length : Int) ≤ 1000) : Ev (fun k => spec_l10Bufs.f k s xs) (!(xs.any (bufBad (s.size : Int)))) := by
  rcases spec_MemFault_eq s with ⟨_, em⟩ | ⟨hn, _⟩
  · have := bufs_loop s xs hlen xs.length 0 (Nat.zero_le _) rfl
    rw [List.drop_zero] at this
    refine Ev.congr (f := fun k => spec_l10Bufs.j0 k s xs false) (fun k => ?_) (Ev.step (fun k => ?_) this)
    · unfold spec_l10Bufs.f; rw [em, Option.bind_some, if_pos rfl, decide_eq_false (by omega)]
    · simp only [spec_l10Bufs.j0]; rw [if_neg (by simp)]; rfl
  · exact absurd hm hn
theorem bufs_bad (s : ByteArray) (xs : List S80) (h : ¬ (memOk s ∧ (xs.length : Int) ≤ 1000)) : Ev (fun k => spec_l10Bufs.f k s xs) false := by
  have stop : Ev (fun k => spec_l10Bufs.j0 k s xs true) false := Ev.step (f := fun _ => some false) (fun k => by simp only [spec_l10Bufs.j0]; rw [if_pos trivial]) (Ev.now _)
  refine Ev.congr (fun k => ?_) stop
  unfold spec_l10Bufs.f
  rcases spec_MemFault_eq s with ⟨hm, em⟩ | ⟨_, em⟩
  · rw [em, Option.bind_some, if_pos rfl, decide_eq_true (by
      have : ¬ (xs.length : Int) ≤ 1000 := fun hl => h ⟨hm, hl⟩
      omega)]
  · rw [em, Option.bind_some, if_neg (by decide)]
theorem good_at (s : ByteArray) (xs : List S80) (hm : memOk s) (hg : xs.any (bufBad (s.size : Int)) = false) (j : Nat) (hlt : j < xs.length) : 0 ≤ xs[j].f0 ∧ 0 ≤ xs[j].f1 ∧ xs[j].f0 + xs[j].f1 ≤ (s.size : Int) := by
  have h := List.any_eq_false.mp hg xs[j] (List.getElem_mem hlt)
  unfold bufBad at h
  have hf : fitsB (s.size : Int) xs[j].f0 xs[j].f1 = true := by
    cases hc : fitsB (s.size : Int) xs[j].f0 xs[j].f1 with
    | true => rfl
    | false => rw [hc] at h; exact absurd rfl h
  have := hm.2.1
  exact (fits_iff _ _ _ (by omega) (by omega)).mp hf
theorem strOf_bytes (s : ByteArray) : strOfNums (bytesOf s) = s := by
  unfold strOfNums bytesOf
  apply ByteArray.ext
  apply Array.ext'
  rw [List.map_map]
  have : ((fun n : Int => UInt8.ofNat n.toNat) ∘ fun b : UInt8 => (b.toNat : Int)) = id := by
    funext b; simp
  rw [this, List.map_id]
theorem bytesOf_add (a b : ByteArray) : bytesOf (a ++ b) = bytesOf a ++ bytesOf b := by
  unfold bytesOf
  rw [ByteArray.data_append, Array.toList_append, List.map_append]

theorem impl_ybig_end (k : Nat) (s : ByteArray) (hk : 2 ≤ k) : impl_ybig.f k [s] = some (decide ((s.size : Int) > 65536)) := by
  obtain ⟨k, rfl⟩ : ∃ m, k = m + 1 + 1 := ⟨k - 2, by omega⟩
  unfold impl_ybig.f
  simp only [impl_ybig.l0]
  have e0 : rdOf ByteArray.empty [s] 0 = s := rfl
  have e1 : (([s] : List ByteArray).length : Int) = 1 := rfl
  have e2 : wrap64 (0 + 1) = 1 := by unfold wrap64; omega
  rw [e0, e1, e2, if_pos (by decide), if_pos (by decide), if_pos (by decide)]
  by_cases h : (s.size : Int) > 65536
  · rw [if_pos h, decide_eq_true h]
  · rw [if_neg h, decide_eq_false h, if_neg (by decide)]
theorem impl_ybig_ev (s : ByteArray) : Ev (fun k => impl_ybig.f k [s]) (decide ((s.size : Int) > 65536)) := ⟨2, fun k hk => impl_ybig_end k s hk⟩

theorem size_list (s : ByteArray) : s.data.toList.length = s.size := by rw [Array.length_toList]; rfl
theorem put_eq (m d : ByteArray) (o q n : Nat) (ho : o + q ≤ m.size) (hn : n = Nat.min q d.size) : (m.extract 0 o ++ d.extract 0 n) ++ m.extract (o + n) m.size = ⟨(By.putAt m.data.toList o (d.data.toList.take q)).toArray⟩ := by
  apply ByteArray.ext
  apply Array.toList_inj.1
  rw [ByteArray.data_append, ByteArray.data_append, Array.toList_append, Array.toList_append, ByteArray.data_extract, Array.toList_extract, List.extract_eq_take_drop, ByteArray.data_extract, Array.toList_extract, List.extract_eq_take_drop, ByteArray.data_extract, Array.toList_extract, List.extract_eq_take_drop]
  unfold By.putAt
  have hl : (d.data.toList.take q).length = n := by rw [List.length_take, size_list, hn]
  have ht : d.data.toList.take n = d.data.toList.take q := by
    rw [hn]
    rcases Nat.le_total q d.size with h | h
    · rw [show Nat.min q d.size = q from Nat.min_eq_left h]
    · rw [show Nat.min q d.size = d.size from Nat.min_eq_right h, List.take_of_length_le (by rw [size_list]; exact Nat.le_refl _), List.take_of_length_le (by rw [size_list]; exact h)]
  rw [List.drop_zero, List.drop_zero, Nat.sub_zero, Nat.sub_zero, hl, ht, List.take_of_length_le (l := List.drop _ _) (by rw [List.length_drop, size_list]; exact Nat.le_refl _)]
theorem drop_eq (d : ByteArray) (q n : Nat) (hn : n = Nat.min q d.size) : (d.extract n d.size).data.toList = d.data.toList.drop q := by
  rw [By.extract_toList, hn]
  rcases Nat.le_total q d.size with h | h
  · rw [show Nat.min q d.size = q from Nat.min_eq_left h]
  · rw [show Nat.min q d.size = d.size from Nat.min_eq_right h, List.drop_eq_nil_of_le (by rw [size_list]; exact Nat.le_refl _), List.drop_eq_nil_of_le (by rw [size_list]; exact h)]
/-- A buffer of the list, from no place on. -/
theorem spreadL_hit (x : S80) (xs : List S80) (m d : List UInt8) (h0 : 0 ≤ x.f0) (h1 : 0 ≤ x.f1) (hw : x.f2 = true) : spreadL (x :: xs) m 0 d = spreadL xs (By.putAt m x.f0.toNat (d.take x.f1.toNat)) 0 (d.drop x.f1.toNat) := by
  simp only [spreadL]
  rw [if_neg (by rw [hw]; simp)]
  by_cases h : x.f1 ≤ 0
  · have hz : x.f1 = 0 := by omega
    rw [if_pos h, hz]
    simp [By.putAt_nil]
  · rw [if_neg h, Int.add_zero, Int.sub_zero]
theorem spread_loop (xs : List S80) (n : Nat) (hn : n ≤ 65536) (hlen : (xs.length : Int) ≤ 1000) (hg : ∀ x, x ∈ xs → 0 ≤ x.f0 ∧ 0 ≤ x.f1 ∧ x.f0 + x.f1 ≤ (n : Int)) (e : Nat) :
    ∀ (j : Nat) (cur dat : ByteArray), j + e = xs.length → cur.size = n → (dat.size : Int) ≤ 65536 → Ev (fun k => spec_SpreadBufs.l0 k cur xs dat (j : Int)) ⟨(spreadL (xs.drop j) cur.data.toList 0 dat.data.toList).toArray⟩ := by
  induction e with
  | zero =>
    intro j cur dat hj hc hd
    rw [List.drop_eq_nil_of_le (by omega)]
    exact Ev.step (f := fun _ => some cur) (fun k => by simp only [spec_SpreadBufs.l0]; rw [if_neg (by omega)]) (Ev.now _)
  | succ e ih =>
    intro j cur dat hj hc hd
    have hlt : j < xs.length := by omega
    have hr := rd80 xs j hlt
    obtain ⟨a0, a1, a2⟩ := hg xs[j] (List.getElem_mem hlt)
    rw [List.drop_eq_getElem_cons hlt]
    cases hw : xs[j].f2 with
    | false =>
      have := ih (j + 1) cur dat (by omega) hc hd
      simp only [spreadL]
      rw [if_pos hw]
      refine Ev.step (fun k => ?_) this
      simp only [spec_SpreadBufs.l0]
      rw [if_pos (by omega), if_pos (by omega), hr, if_neg (by rw [hw]; simp), w64 (by omega) (by omega), show ((j : Int) + 1) = ((j + 1 : Nat) : Int) from by omega]
    | true =>
      rw [spreadL_hit _ _ _ _ a0 a1 hw]
      obtain ⟨o, ho⟩ : ∃ o : Nat, xs[j].f0 = (o : Int) := ⟨xs[j].f0.toNat, by omega⟩
      obtain ⟨q, hq⟩ : ∃ q : Nat, xs[j].f1 = (q : Int) := ⟨xs[j].f1.toNat, by omega⟩
      obtain ⟨c, hcm⟩ : ∃ c : Nat, c = Nat.min q dat.size := ⟨_, rfl⟩
      rw [ho, hq] at a2
      have hcq : c ≤ q := by rw [hcm]; exact Nat.min_le_left _ _
      have hcd : c ≤ dat.size := by rw [hcm]; exact Nat.min_le_right _ _
      have hmin : spec_l01Min.f (q : Int) (dat.size : Int) = some (c : Int) := by
        unfold spec_l01Min.f
        rcases Nat.lt_or_ge q dat.size with h | h
        · rw [if_pos (by omega), hcm, show Nat.min q dat.size = q from Nat.min_eq_left (by omega)]
        · rw [if_neg (by omega), hcm, show Nat.min q dat.size = dat.size from Nat.min_eq_right h]
      have hp := put_eq cur dat o q c (by omega) hcm
      have hdr := drop_eq dat q c hcm
      have s1 : (cur.extract 0 o).size = o := by rw [ByteArray.size_extract]; omega
      have s2 : (dat.extract 0 c).size = c := by rw [ByteArray.size_extract]; omega
      have s3 : (cur.extract (o + c) cur.size).size = cur.size - (o + c) := by rw [ByteArray.size_extract]; omega
      have s4 : (dat.extract c dat.size).size ≤ dat.size := by rw [ByteArray.size_extract]; omega
      have hsz : ((cur.extract 0 o ++ dat.extract 0 c) ++ cur.extract (o + c) cur.size).size = n := by
        rw [ByteArray.size_append, ByteArray.size_append, s1, s2, s3]; omega
      have := ih (j + 1) ((cur.extract 0 o ++ dat.extract 0 c) ++ cur.extract (o + c) cur.size) (dat.extract c dat.size) (by omega) hsz (by omega)
      rw [hdr] at this
      have hl : ((cur.extract 0 o ++ dat.extract 0 c) ++ cur.extract (o + c) cur.size).data.toList = By.putAt cur.data.toList o (dat.data.toList.take q) := by rw [hp]
      rw [hl] at this
      rw [ho, hq, Int.toNat_natCast, Int.toNat_natCast]
      refine Ev.step (fun k => ?_) this
      simp only [spec_SpreadBufs.l0]
      rw [if_pos (by omega), if_pos (by omega), hr, if_pos hw, ho, hq, hmin, Option.bind_some, w64 (a := (o : Int) + (c : Int)) (by omega) (by omega), w64 (a := (j : Int) + 1) (by omega) (by omega), Int.toNat_natCast, Int.toNat_natCast, show ((o : Int) + (c : Int)).toNat = o + c from by omega, ByteArray.size_append, s1, s2, s3]
      rw [if_pos (by omega), if_pos (by omega), if_pos (by omega), if_pos (by omega), if_pos (by omega), if_pos (by omega), if_pos (by omega), if_pos (by omega), show ((j : Int) + 1) = ((j + 1 : Nat) : Int) from by omega]

theorem good_mem (s : ByteArray) (xs : List S80) (hm : memOk s) (hg : xs.any (bufBad (s.size : Int)) = false) (x : S80) (hx : x ∈ xs) : 0 ≤ x.f0 ∧ 0 ≤ x.f1 ∧ x.f0 + x.f1 ≤ (s.size : Int) := by
  have hb := List.any_eq_false.mp hg x hx
  unfold bufBad at hb
  have hf : fitsB (s.size : Int) x.f0 x.f1 = true := by
    cases h : fitsB (s.size : Int) x.f0 x.f1 with
    | true => rfl
    | false => rw [h] at hb; exact absurd rfl hb
  obtain ⟨_, h2, _⟩ := hm
  exact (fits_iff _ _ _ (by omega) (by omega)).mp hf
theorem spread_ends (s : ByteArray) (xs : List S80) (d : ByteArray) : ∃ r, Ev (fun k => spec_SpreadBufs.f k s xs d) r ∧ Ev (fun k => impl_SpreadBufs.f k s xs d) r ∧ (r = ⟨#[]⟩ ∨ (memOk s ∧ (xs.length : Int) ≤ 1000 ∧ xs.any (bufBad (s.size : Int)) = false ∧ r = ⟨(spreadL xs s.data.toList 0 d.data.toList).toArray⟩)) := by
  have jt : Ev (fun k => spec_SpreadBufs.j0 k s xs d true) (⟨#[]⟩ : ByteArray) := Ev.step (f := fun _ => some ⟨#[]⟩) (fun k => by simp only [spec_SpreadBufs.j0]; rw [if_pos trivial]) (Ev.now _)
  by_cases hd : (d.size : Int) > 65536
  · refine ⟨⟨#[]⟩, ?_, ?_, Or.inl rfl⟩
    · unfold spec_SpreadBufs.f; simp only [if_pos hd]; exact jt
    · unfold impl_SpreadBufs.f
      refine Ev.bind (impl_ybig_ev d) ?_
      simp only [decide_eq_true hd, if_true]; exact Ev.now _
  · have sbad : Ev (fun k => spec_l10Bufs.f k s xs) false → Ev (fun k => spec_SpreadBufs.f k s xs d) (⟨#[]⟩ : ByteArray) := fun h => by
      unfold spec_SpreadBufs.f; simp only [if_neg hd]
      refine Ev.bind h ?_
      exact jt
    have ib : Ev (fun k => impl_ybig.f k [d]) false := by have := impl_ybig_ev d; rwa [decide_eq_false hd] at this
    by_cases hm : memOk s
    · rcases impl_ymemOk_eq s with ⟨_, ei⟩ | ⟨hn, _⟩
      · by_cases hl : (xs.length : Int) ≤ 1000
        · have be := bufs_ev s xs hm hl
          have hl' : ¬ (xs.length : Int) > 1000 := by omega
          cases hg : xs.any (bufBad (s.size : Int)) with
          | true =>
            rw [hg] at be
            refine ⟨_, sbad be, ?_, Or.inl rfl⟩
            unfold impl_SpreadBufs.f impl_ybufsOk.f
            refine Ev.bind ib ?_
            simp only [Bool.false_eq_true, if_false, ei, Option.bind_some, if_true, if_neg hl', hg, Bool.not_true]
            exact Ev.now _
          | false =>
            rw [hg] at be
            have gm := good_mem s xs hm hg
            have hm' := hm
            obtain ⟨m1, m2, m3⟩ := hm'
            refine ⟨⟨(spreadL xs s.data.toList 0 d.data.toList).toArray⟩, ?_, ?_, Or.inr ⟨hm, hl, rfl, rfl⟩⟩
            · unfold spec_SpreadBufs.f; simp only [if_neg hd]
              refine Ev.bind be ?_
              have := spread_loop xs s.size (by omega) hl gm xs.length 0 s d (by omega) rfl (by omega)
              rw [List.drop_zero] at this
              exact Ev.step (fun k => by simp only [spec_SpreadBufs.j0, Bool.not_false, Bool.not_true, Bool.false_eq_true, if_false]; rfl) this
            · have key : impl_yspread.f s xs 0 d = some ⟨(spreadL xs s.data.toList 0 d.data.toList).toArray⟩ := by
                unfold impl_yspread.f
                rw [if_pos ⟨m2, by omega, by omega, by omega, List.all_eq_true.mpr fun x hx => by
                  have := gm x hx
                  unfold bufFits
                  rw [Bool.and_eq_true, Bool.and_eq_true]
                  exact ⟨decide_eq_true this.1, decide_eq_true this.2.1, decide_eq_true this.2.2⟩⟩]
              unfold impl_SpreadBufs.f impl_ybufsOk.f
              refine Ev.bind ib ?_
              simp only [Bool.false_eq_true, if_false, ei, Option.bind_some, if_true, if_neg hl', hg, Bool.not_false, key]
              exact Ev.now _
        · have hl' : (xs.length : Int) > 1000 := by omega
          refine ⟨_, sbad (bufs_bad s xs (fun h => hl h.2)), ?_, Or.inl rfl⟩
          unfold impl_SpreadBufs.f
          refine Ev.bind ib ?_
          simp only [Bool.false_eq_true, if_false, ei, Option.bind_some, if_true, if_pos hl']
          exact Ev.now _
      · exact absurd hm hn
    · rcases impl_ymemOk_eq s with ⟨hn, _⟩ | ⟨_, ei⟩
      · exact absurd hn hm
      · refine ⟨_, sbad (bufs_bad s xs (fun h => hm h.1)), ?_, Or.inl rfl⟩
        unfold impl_SpreadBufs.f
        refine Ev.bind ib ?_
        simp only [Bool.false_eq_true, if_false, ei, Option.bind_some]
        exact Ev.now _
theorem FnExactSpreadBufs : laws_FnExactSpreadBufs.Pure := by
  intro s xs d _ hQ _
  obtain ⟨hlm, _⟩ := hQ
  refine Ev.rounds (r := true) ?_
  unfold laws_FnExactSpreadBufs.f
  by_cases h1 : (s.size : Int) > 1048576
  · simp only [if_pos h1]; exact Ev.now _
  · by_cases h2 : (d.size : Int) > 1048576
    · simp only [if_neg h1, if_pos h2]; exact Ev.now _
    · simp only [if_neg h1, if_neg h2]
      have sz : ∃ r, laws_szBufS.f xs 1048576 = some r ∧ (r < 0 ∨ (xs.length : Int) ≤ 1048576) := by
        unfold laws_szBufS.f
        rw [w64 (by omega) (by omega)]
        by_cases hn : 1048576 - (xs.length : Int) < 0
        · rw [if_pos hn]; exact ⟨-1, rfl, Or.inl (by omega)⟩
        · rw [if_neg hn]; exact ⟨_, rfl, Or.inr (by omega)⟩
      obtain ⟨r, hr, hc⟩ := sz
      refine Ev.bind (Ev.congr (fun _ => hr) (Ev.now r)) ?_
      by_cases hrn : r < 0
      · simp only [if_pos hrn]; exact Ev.now _
      · simp only [if_neg hrn]
        have hl : xs.length ≤ 11728124029610 := by omega
        obtain ⟨v, r1, r2, _⟩ := spread_ends s (xs.map toB) d
        refine Ev.bind (to_all xs hl) (Ev.bind r1 (Ev.bind (to_all xs hl) (Ev.bind r2 ?_)))
        simp only [if_true]
        refine Ev.bind (to_all xs hl) (Ev.bind (eq_all (xs.map toB) (by rw [List.length_map]; exact hl)) ?_)
        simp only [if_true]; exact Ev.now _

end Go.Proofs.Ytjpgelnhmcblmaa.Pure
