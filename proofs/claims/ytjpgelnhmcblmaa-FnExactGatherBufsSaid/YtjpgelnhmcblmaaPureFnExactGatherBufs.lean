/- The program's GatherBufs returns what the reference's returns, for all arguments. Conditions: none. -/
import Derived.Test.YtjpgelnhmcblmaaQFnExactGatherBufsx
import Derived.Test.YtjpgelnhmcblmaaPl
import Derived.Test.YtjpgelnhmcblmaaTFnExactGatherBufs
set_option linter.unusedVariables false
set_option linter.unusedSimpArgs false
namespace Go.Proofs.Ytjpgelnhmcblmaa.Pure
open Go.RowKit Go.Proofs.Ytjpgelnhmcblmaa.QFnExactGatherBufs Go.Proofs.YtjpgelnhmcblmaaW.PrintWords Go.Proofs.YtjpgelnhmcblmaaW.PrintLast Go.Proofs.Ytjpgelnhmcblmaa.Pl Go.Proofs.YtjpgelnhmcblmaaW.PrintMore
/-- A loop that takes the size of every element off a budget: it ends, below zero or with every element small. -/
theorem sz_loop {α : Type} (d : α) (M : Int) (ok : α → Prop) (L : Nat → List α → Int → Int → Option Int) (g : Nat → α → Int → Option Int)
    (hL : ∀ k xs s i, L (k + 1) xs s i = if i < (xs.length : Int) then (if 0 ≤ i then ((g k (xs.getD i.toNat d) s).bind fun t => (if t < 0 then (some (-1)) else (L k xs t (wrap64 (i + 1))))) else none) else some s)
    (xs : List α) (hlen : (xs.length : Int) ≤ 4611686018427387904)
    (hg : ∀ x s, x ∈ xs → 0 ≤ s → s ≤ M → ∃ t, Ev (fun k => g k x s) t ∧ (t < 0 ∨ (0 ≤ t ∧ t ≤ s ∧ ok x))) (e : Nat) :
    ∀ (j : Nat) (s : Int), 0 ≤ s → s ≤ M → j ≤ xs.length → xs.length - j = e → (∀ q, q < j → ok (xs.getD q d)) → ∃ r, Ev (fun k => L k xs s (j : Int)) r ∧ (r < 0 ∨ (0 ≤ r ∧ r ≤ s ∧ ∀ x, x ∈ xs → ok x)) := by
  induction e with
  | zero =>
    intro j s h0 hM hj he hok
    refine ⟨s, Ev.step (f := fun _ => some s) (fun k => by rw [hL, if_neg (by omega)]) (Ev.now _), Or.inr ⟨h0, Int.le_refl _, fun x hx => ?_⟩⟩
    obtain ⟨q, hq, rfl⟩ := List.getElem_of_mem hx
    have := hok q (by omega)
    rwa [List.getD_eq_getElem?_getD, List.getElem?_eq_getElem hq, Option.getD_some] at this
  | succ e ih =>
    intro j s h0 hM hj he hok
    have hlt : j < xs.length := by omega
    have hmem : xs.getD j d ∈ xs := by
      rw [List.getD_eq_getElem?_getD, List.getElem?_eq_getElem hlt, Option.getD_some]; exact List.getElem_mem hlt
    obtain ⟨t, ht, hc⟩ := hg (xs.getD j d) s hmem h0 hM
    have hs : ∀ k, L (k + 1) xs s (j : Int) = ((g k (xs.getD j d) s).bind fun t => (if t < 0 then (some (-1)) else (L k xs t (wrap64 ((j : Int) + 1))))) := fun k => by
      rw [hL, if_pos (by omega), if_pos (by omega), Int.toNat_natCast]
    by_cases hn : t < 0
    · refine ⟨-1, Ev.step (fun k => hs k) (Ev.bind ht ?_), Or.inl (by omega)⟩
      simp only [if_pos hn]
      exact Ev.now _
    · have hc' := hc.resolve_left hn
      obtain ⟨r, hr, hrc⟩ := ih (j + 1) t hc'.1 (by omega) (by omega) (by omega) (fun q hq => by
        by_cases hqj : q = j
        · subst hqj; exact hc'.2.2
        · exact hok q (by omega))
      refine ⟨r, Ev.step (fun k => hs k) (Ev.bind ht ?_), ?_⟩
      · simp only [if_neg hn]
        rw [w64 (by omega) (by omega), show ((j : Int) + 1) = ((j + 1 : Nat) : Int) from by omega]
        exact hr
      · rcases hrc with h | h
        · exact Or.inl h
        · exact Or.inr ⟨h.1, by omega, h.2.2⟩
/-- A loop that turns every element. -/
theorem to_loop {α β γ : Type} (d : α) (z : β) (mk : γ → β) (c : α → β) (L : Nat → List α → List β → Int → Option (List β)) (g : Nat → α → Option γ)
    (hL : ∀ k xs ys i, L (k + 1) xs ys i = if i < (xs.length : Int) then (if 0 ≤ i then ((g k (xs.getD i.toNat d)).bind fun b => (if i < (ys.length : Int) then (L k xs (ys.set i.toNat (mk b)) (wrap64 (i + 1))) else none)) else none) else some ys)
    (xs : List α) (hlen : (xs.length : Int) ≤ 4611686018427387904)
    (hg : ∀ x, x ∈ xs → ∃ b, Ev (fun k => g k x) b ∧ mk b = c x) (e : Nat) :
    ∀ (j : Nat), j ≤ xs.length → xs.length - j = e → Ev (fun k => L k xs ((xs.take j).map c ++ List.replicate (xs.length - j) z) (j : Int)) (xs.map c) := by
  induction e with
  | zero =>
    intro j hj he
    obtain rfl : j = xs.length := by omega
    refine Ev.step (f := fun _ => some (xs.map c)) (fun k => ?_) (Ev.now _)
    rw [hL, if_neg (by omega), List.take_length, Nat.sub_self, List.replicate_zero, List.append_nil]
  | succ e ih =>
    intro j hj he
    have hlt : j < xs.length := by omega
    have hx : xs.getD j d = xs[j] := by rw [List.getD_eq_getElem?_getD, List.getElem?_eq_getElem hlt, Option.getD_some]
    obtain ⟨b, hb, hbc⟩ := hg xs[j] (List.getElem_mem hlt)
    have hlm : ((xs.take j).map c).length = j := by rw [List.length_map, List.length_take]; omega
    have hly : (((xs.take j).map c ++ List.replicate (xs.length - j) z).length : Int) = (xs.length : Int) := by
      rw [List.length_append, hlm, List.length_replicate]; omega
    have hset : (((xs.take j).map c ++ List.replicate (xs.length - j) z).set j (mk b)) = (xs.take (j + 1)).map c ++ List.replicate (xs.length - (j + 1)) z := by
      rw [List.set_append_right _ _ (by omega), hlm, Nat.sub_self, show xs.length - j = (xs.length - (j + 1)) + 1 from by omega, List.replicate_succ, List.set_cons_zero, hbc, List.take_succ_eq_append_getElem hlt, List.map_append, List.append_assoc]
      rfl
    refine Ev.step (f := fun k => (g k xs[j]).bind fun b => L k xs (((xs.take j).map c ++ List.replicate (xs.length - j) z).set j (mk b)) (((j + 1 : Nat) : Int))) (fun k => ?_) (Ev.bind (f := fun k b => L k xs (((xs.take j).map c ++ List.replicate (xs.length - j) z).set j (mk b)) (((j + 1 : Nat) : Int))) hb ?_)
    · have hlj : (j : Int) < (xs.length : Int) := by omega
      rw [hL, if_pos (by omega), if_pos (by omega), Int.toNat_natCast, hx, hly, w64 (by omega) (by omega)]
      simp only [if_pos hlj]
      rfl
    · rw [hset]
      exact ih (j + 1) (by omega) (by omega)
/-- A loop that asks every pair of elements. -/
theorem eq_loop {α : Type} (d : α) (L : Nat → List α → List α → Int → Option Bool) (g : Nat → α → α → Option Bool)
    (hL : ∀ k xs ys i, L (k + 1) xs ys i = if i < (xs.length : Int) then (if 0 ≤ i then (if i < (ys.length : Int) then ((g k (xs.getD i.toNat d) (ys.getD i.toNat d)).bind fun t => (if t = true then (L k xs ys (wrap64 (i + 1))) else (some false))) else none) else none) else some true)
    (xs : List α) (hlen : (xs.length : Int) ≤ 4611686018427387904)
    (hg : ∀ x, x ∈ xs → Ev (fun k => g k x x) true) (e : Nat) :
    ∀ (j : Nat), j ≤ xs.length → xs.length - j = e → Ev (fun k => L k xs xs (j : Int)) true := by
  induction e with
  | zero =>
    intro j hj he
    exact Ev.step (f := fun _ => some true) (fun k => by rw [hL, if_neg (by omega)]) (Ev.now _)
  | succ e ih =>
    intro j hj he
    have hlt : j < xs.length := by omega
    have hx : xs.getD j d = xs[j] := by rw [List.getD_eq_getElem?_getD, List.getElem?_eq_getElem hlt, Option.getD_some]
    refine Ev.step (f := fun k => (g k xs[j] xs[j]).bind fun t => (if t = true then L k xs xs (((j + 1 : Nat) : Int)) else (some false))) (fun k => ?_) (Ev.bind (f := fun k t => (if t = true then L k xs xs (((j + 1 : Nat) : Int)) else (some false))) (hg xs[j] (List.getElem_mem hlt)) ?_)
    · rw [hL, if_pos (by omega), if_pos (by omega), Int.toNat_natCast, hx, if_pos (by omega), w64 (by omega) (by omega)]
      rfl
    · simp only [if_true]
      exact ih (j + 1) (by omega) (by omega)

/-- A memory's size is right. -/
def memOk (s : ByteArray) : Prop := 256 ≤ (s.size : Int) ∧ (s.size : Int) ≤ 65536 ∧ (s.size : Int) % 256 = 0
theorem impl_ymemOk_eq (s : ByteArray) : (memOk s ∧ impl_ymemOk.f s = some true) ∨ (¬ memOk s ∧ impl_ymemOk.f s = some false) := by
  unfold impl_ymemOk.f memOk
  by_cases h0 : (s.size : Int) ≥ 256
  · rw [if_pos h0]
    by_cases h1 : (s.size : Int) ≤ 65536
    · rw [if_pos h1]
      by_cases h2 : (s.size : Int) % 256 = 0
      · left; exact ⟨⟨h0, h1, h2⟩, by simp [h2]⟩
      · right; exact ⟨fun h => h2 h.2.2, by simp [h2]⟩
    · rw [if_neg h1]; right; exact ⟨fun h => h1 h.2.1, rfl⟩
  · rw [if_neg h0]; right; exact ⟨fun h => h0 h.1, rfl⟩
theorem spec_MemFault_eq (s : ByteArray) : (memOk s ∧ spec_MemFault.f s = some 0) ∨ (¬ memOk s ∧ spec_MemFault.f s = some 1) := by
  unfold spec_MemFault.f memOk
  by_cases h0 : (s.size : Int) = 0
  · rw [if_pos h0]; right; exact ⟨fun h => by omega, rfl⟩
  · rw [if_neg h0]
    by_cases h1 : (s.size : Int) % 256 = 0
    · rw [if_pos h1]
      by_cases h2 : (s.size : Int) > 65536
      · rw [if_pos h2]; right; exact ⟨fun h => by omega, rfl⟩
      · rw [if_neg h2]; left; exact ⟨⟨by omega, by omega, h1⟩, rfl⟩
    · rw [if_neg h1]; right; exact ⟨fun h => h1 h.2.2, rfl⟩

def toB (x : S126) : S80 := ⟨x.f0, x.f1, x.f2⟩
theorem to_all (xs : List S126) (h0 : xs.length ≤ 11728124029610) : Ev (fun k => laws_toBufS.f k xs) (xs.map toB) := by
  have := to_loop z126 z80 (fun b : Int × Int × Bool => (⟨b.1, b.2.1, b.2.2⟩ : S80)) toB laws_toBufS.l0 (fun _ x => laws_toBuf.f x.f0 x.f1 x.f2) (fun k xs ys i => by simp only [laws_toBufS.l0]; rfl) xs (by omega) (fun x hx => ⟨_, Ev.now _, rfl⟩) xs.length 0 (Nat.zero_le _) rfl
  refine Ev.congr (fun k => ?_) this
  unfold laws_toBufS.f
  rw [if_pos (by omega), if_pos (by omega), Int.toNat_natCast]
  rfl
theorem eq_all (xs : List S80) (h0 : xs.length ≤ 11728124029610) : Ev (fun k => laws_eqBufS.f k xs xs) true := by
  have := eq_loop z80 laws_eqBufS.l0 (fun _ x y => laws_eqBuf.f x.f0 x.f1 x.f2 y.f0 y.f1 y.f2) (fun k xs ys i => by simp only [laws_eqBufS.l0]; rfl) xs (by omega) (fun x _ => Ev.congr (fun k => by
    have hb : (x.f2 != x.f2) = false := by simp
    unfold laws_eqBuf.f; rw [if_pos rfl, if_pos rfl, hb, if_neg (by simp)]) (Ev.now _)) xs.length 0 (Nat.zero_le _) rfl
  refine Ev.congr (fun k => ?_) this
  unfold laws_eqBufS.f
  rw [if_pos rfl]
  rfl
theorem fits_iff (n a z : Int) (hn0 : 0 ≤ n) (hn : n ≤ 140737488351232) : fitsB n a z = true ↔ 0 ≤ a ∧ 0 ≤ z ∧ a + z ≤ n := by
  unfold fitsB
  simp only [Bool.and_eq_true, decide_eq_true_eq]
  constructor
  · rintro ⟨h0, h1, h2, h3⟩
    rw [w64 (by omega) (by omega)] at h3
    omega
  · rintro ⟨h0, h1, h2⟩
    refine ⟨h0, h1, by omega, ?_⟩
    rw [w64 (by omega) (by omega)]
    omega
theorem in_eq (s : ByteArray) (a z : Int) : spec_l10In.f s a z = some (fitsB (s.size : Int) a z) := by
  unfold spec_l10In.f fitsB
  by_cases h0 : a ≥ 0
  · rw [if_pos h0, decide_eq_true h0]
    by_cases h1 : z ≥ 0
    · rw [if_pos h1, decide_eq_true h1]
      by_cases h2 : a ≤ (s.size : Int)
      · rw [if_pos h2, decide_eq_true h2]; rfl
      · rw [if_neg h2, decide_eq_false h2]; rfl
    · rw [if_neg h1, decide_eq_false h1]; rfl
  · rw [if_neg h0, decide_eq_false h0]; rfl
theorem rd80 (xs : List S80) (j : Nat) (hlt : j < xs.length) : rd_T80 xs (j : Int) = xs[j] := by unfold rd_T80; rw [Int.toNat_natCast, List.getD_eq_getElem?_getD, List.getElem?_eq_getElem hlt, Option.getD_some]
theorem bufs_loop (s : ByteArray) (xs : List S80) (hlen : (xs.length : Int) ≤ 1000) (e : Nat) : ∀ j : Nat, j ≤ xs.length → xs.length - j = e → Ev (fun k => spec_l10Bufs.l0 k s xs (j : Int)) (!((xs.drop j).any (bufBad (s.size : Int)))) := by
  induction e with
  | zero =>
    intro j hj he
    rw [List.drop_eq_nil_of_le (by omega)]
    exact Ev.step (f := fun _ => some true) (fun k => by simp only [spec_l10Bufs.l0]; rw [if_neg (by omega)]) (Ev.now _)
  | succ e ih =>
    intro j hj he
    have hlt : j < xs.length := by omega
    rw [List.drop_eq_getElem_cons hlt, List.any_cons]
    have hstep : ∀ k, spec_l10Bufs.l0 (k + 1) s xs (j : Int) = if bufBad (s.size : Int) xs[j] = true then some false else spec_l10Bufs.l0 k s xs (((j + 1 : Nat) : Int)) := by
      intro k
      simp only [spec_l10Bufs.l0]
      rw [if_pos (by omega), if_pos (by omega), rd80 xs j hlt, in_eq, Option.bind_some, w64 (by omega) (by omega)]
      unfold bufBad
      cases fitsB (s.size : Int) xs[j].f0 xs[j].f1 <;> rfl
    cases hv : bufBad (s.size : Int) xs[j] with
    | true =>
      refine Ev.step (f := fun _ => some false) (fun k => by rw [hstep, hv, if_pos rfl]) ?_
      rw [Bool.true_or]; exact Ev.now _
    | false =>
      refine Ev.step (fun k => by rw [hstep, hv, if_neg (by simp)]) ?_
      rw [Bool.false_or]; exact ih (j + 1) (by omega) (by omega)
/-- The reference's test of the buffers, and the program's. -/
theorem bufs_ev (s : ByteArray) (xs : List S80) (hm : memOk s) (hlen : (xs.length : Int) ≤ 1000) : Ev (fun k => spec_l10Bufs.f k s xs) (!(xs.any (bufBad (s.size : Int)))) := by
  rcases spec_MemFault_eq s with ⟨_, em⟩ | ⟨hn, _⟩
  · have := bufs_loop s xs hlen xs.length 0 (Nat.zero_le _) rfl
    rw [List.drop_zero] at this
    refine Ev.congr (f := fun k => spec_l10Bufs.j0 k s xs false) (fun k => ?_) (Ev.step (fun k => ?_) this)
    · unfold spec_l10Bufs.f; rw [em, Option.bind_some, if_pos rfl, decide_eq_false (by omega)]
    · simp only [spec_l10Bufs.j0]; rw [if_neg (by simp)]; rfl
  · exact absurd hm hn
theorem bufs_bad (s : ByteArray) (xs : List S80) (h : ¬ (memOk s ∧ (xs.length : Int) ≤ 1000)) : Ev (fun k => spec_l10Bufs.f k s xs) false := by
  have stop : Ev (fun k => spec_l10Bufs.j0 k s xs true) false := Ev.step (f := fun _ => some false) (fun k => by simp only [spec_l10Bufs.j0]; rw [if_pos trivial]) (Ev.now _)
  refine Ev.congr (fun k => ?_) stop
  unfold spec_l10Bufs.f
  rcases spec_MemFault_eq s with ⟨hm, em⟩ | ⟨_, em⟩
  · rw [em, Option.bind_some, if_pos rfl, decide_eq_true (by
      have : ¬ (xs.length : Int) ≤ 1000 := fun hl => h ⟨hm, hl⟩
      omega)]
  · rw [em, Option.bind_some, if_neg (by decide)]
theorem good_at (s : ByteArray) (xs : List S80) (hm : memOk s) (hg : xs.any (bufBad (s.size : Int)) = false) (j : Nat) (hlt : j < xs.length) : 0 ≤ xs[j].f0 ∧ 0 ≤ xs[j].f1 ∧ xs[j].f0 + xs[j].f1 ≤ (s.size : Int) := by
  have h := List.any_eq_false.mp hg xs[j] (List.getElem_mem hlt)
  unfold bufBad at h
  have hf : fitsB (s.size : Int) xs[j].f0 xs[j].f1 = true := by
    cases hc : fitsB (s.size : Int) xs[j].f0 xs[j].f1 with
    | true => rfl
    | false => rw [hc] at h; exact absurd rfl h
  have := hm.2.1
  exact (fits_iff _ _ _ (by omega) (by omega)).mp hf
theorem strOf_bytes (s : ByteArray) : strOfNums (bytesOf s) = s := by
  unfold strOfNums bytesOf
  apply ByteArray.ext
  apply Array.ext'
  rw [List.map_map]
  have : ((fun n : Int => UInt8.ofNat n.toNat) ∘ fun b : UInt8 => (b.toNat : Int)) = id := by
    funext b; simp
  rw [this, List.map_id]
theorem bytesOf_add (a b : ByteArray) : bytesOf (a ++ b) = bytesOf a ++ bytesOf b := by
  unfold bytesOf
  rw [ByteArray.data_append, Array.toList_append, List.map_append]

def restSum : List S80 → Int
  | [] => 0
  | x :: xs => (if x.f2 = true then 0 else x.f1) + restSum xs
theorem gather_both (s : ByteArray) (xs : List S80) (hm : memOk s) (hlen : (xs.length : Int) ≤ 1000) (hg : xs.any (bufBad (s.size : Int)) = false) (e : Nat) :
    ∀ (j : Nat), j ≤ xs.length → xs.length - j = e →
    0 ≤ restSum (xs.drop j) ∧ restSum (xs.drop j) ≤ 65536 * (e : Int) ∧
    (∀ acc : Int, 0 ≤ acc → acc ≤ 65536 * (j : Int) → Ev (fun k => impl_ysize.l0 k false acc xs (xs.length : Int) (j : Int)) (acc + restSum (xs.drop j))) ∧
    (∀ acc : ByteArray, (acc.size : Int) ≤ 65536 → ((acc.size : Int) + restSum (xs.drop j) ≤ 65536 → ∃ r, Ev (fun k => spec_GatherBufs.l0 k s xs acc (j : Int)) r ∧ Ev (fun k => impl_ygather.l0 k s (bytesOf acc) xs (xs.length : Int) (j : Int)) r) ∧
      ((acc.size : Int) + restSum (xs.drop j) > 65536 → Ev (fun k => spec_GatherBufs.l0 k s xs acc (j : Int)) (⟨#[]⟩ : ByteArray))) := by
  induction e with
  | zero =>
    intro j hj he
    rw [List.drop_eq_nil_of_le (by omega)]
    refine ⟨Int.le_refl _, by simp [restSum], fun acc _ _ => ?_, fun acc ha => ⟨fun _ => ⟨acc, ?_, ?_⟩, fun h => ?_⟩⟩
    · refine Ev.step (f := fun _ => some (acc + restSum [])) (fun k => ?_) (Ev.now _)
      simp only [impl_ysize.l0, restSum, Int.add_zero]
      rw [if_neg (by omega)]
    · refine Ev.step (f := fun _ => some acc) (fun k => ?_) (Ev.now _)
      simp only [spec_GatherBufs.l0]
      rw [if_neg (by omega)]
    · refine Ev.step (f := fun _ => some acc) (fun k => ?_) (Ev.now _)
      simp only [impl_ygather.l0]
      rw [if_neg (by omega), strOf_bytes]
    · simp only [restSum] at h; omega
  | succ e ih =>
    intro j hj he
    have hlt : j < xs.length := by omega
    obtain ⟨g0, g1, g2⟩ := good_at s xs hm hg j hlt
    have hs := hm.2.1
    obtain ⟨i0, i1, i2, i3⟩ := ih (j + 1) (by omega) (by omega)
    have e1 : ((j : Int) + 1) = ((j + 1 : Nat) : Int) := by omega
    have wj : wrap64 ((j : Int) + 1) = ((j + 1 : Nat) : Int) := by rw [w64 (by omega) (by omega), e1]
    rw [List.drop_eq_getElem_cons hlt]
    cases hw : xs[j].f2 with
    | true =>
      have hsum : restSum (xs[j] :: xs.drop (j + 1)) = restSum (xs.drop (j + 1)) := by simp [restSum, hw]
      rw [hsum]
      refine ⟨i0, by omega, fun acc a0 a1 => ?_, fun acc ha => ?_⟩
      · refine Ev.step (fun k => ?_) (i2 acc a0 (by omega))
        simp only [impl_ysize.l0]
        rw [if_pos (by omega), if_pos (by omega), if_pos (by omega), rd80 xs j hlt, hw, if_neg (by simp), wj]
      · have st : ∀ k, spec_GatherBufs.l0 (k + 1) s xs acc (j : Int) = spec_GatherBufs.l0 k s xs acc ((j + 1 : Nat) : Int) := fun k => by
          simp only [spec_GatherBufs.l0]
          rw [if_pos (by omega), if_pos (by omega), rd80 xs j hlt, hw, if_pos rfl, if_neg (by omega), wj]
        refine ⟨fun h => ?_, fun h => ?_⟩
        · obtain ⟨r, r1, r2⟩ := (i3 acc ha).1 h
          refine ⟨r, Ev.step st r1, Ev.step (fun k => ?_) r2⟩
          simp only [impl_ygather.l0]
          rw [if_pos (by omega), if_pos (by omega), if_pos (by omega), rd80 xs j hlt, hw, if_pos rfl, wj]
        · exact Ev.step st ((i3 acc ha).2 h)
    | false =>
      have hsum : restSum (xs[j] :: xs.drop (j + 1)) = xs[j].f1 + restSum (xs.drop (j + 1)) := by simp [restSum, hw]
      rw [hsum]
      have w1 : wrap64 (xs[j].f0 + xs[j].f1) = xs[j].f0 + xs[j].f1 := w64 (by omega) (by omega)
      have hx : ((s.extract xs[j].f0.toNat (xs[j].f0 + xs[j].f1).toNat).size : Int) = xs[j].f1 := by
        rw [ByteArray.size_extract]; omega
      refine ⟨by omega, by omega, fun acc a0 a1 => ?_, fun acc ha => ?_⟩
      · have := i2 (acc + xs[j].f1) (by omega) (by omega)
        rw [show acc + xs[j].f1 + restSum (xs.drop (j + 1)) = acc + (xs[j].f1 + restSum (xs.drop (j + 1))) from by omega] at this
        refine Ev.step (fun k => ?_) this
        simp only [impl_ysize.l0]
        rw [if_pos (by omega), if_pos (by omega), if_pos (by omega), rd80 xs j hlt, hw, if_pos (by rfl), wj, w64 (by omega) (by omega)]
      · have hsz : (((acc ++ s.extract xs[j].f0.toNat (xs[j].f0 + xs[j].f1).toNat).size : Nat) : Int) = (acc.size : Int) + xs[j].f1 := by
          rw [ByteArray.size_append]; omega
        have st : ∀ k, spec_GatherBufs.l0 (k + 1) s xs acc (j : Int) = if (acc.size : Int) + xs[j].f1 > 65536 then some (⟨#[]⟩ : ByteArray) else spec_GatherBufs.l0 k s xs (acc ++ s.extract xs[j].f0.toNat (xs[j].f0 + xs[j].f1).toNat) ((j + 1 : Nat) : Int) := fun k => by
          simp only [spec_GatherBufs.l0]
          rw [if_pos (by omega), if_pos (by omega), rd80 xs j hlt, hw, if_neg (by simp), w1, if_pos (by omega), if_pos (by omega), if_pos (by omega), if_pos (by omega), hsz, wj]
        refine ⟨fun h => ?_, fun h => ?_⟩
        · obtain ⟨r, r1, r2⟩ := (i3 (acc ++ s.extract xs[j].f0.toNat (xs[j].f0 + xs[j].f1).toNat) (by omega)).1 (by omega)
          refine ⟨r, Ev.step (fun k => by rw [st, if_neg (by omega)]) r1, Ev.step (fun k => ?_) r2⟩
          simp only [impl_ygather.l0]
          rw [if_pos (by omega), if_pos (by omega), if_pos (by omega), rd80 xs j hlt, hw, if_neg (by simp), w1, if_pos (by omega), if_pos (by omega), if_pos (by omega), if_pos (by rw [bytesOf_length]; omega), wj, bytesOf_add]
        · by_cases hb : (acc.size : Int) + xs[j].f1 > 65536
          · exact Ev.step (f := fun _ => some (⟨#[]⟩ : ByteArray)) (fun k => by rw [st, if_pos hb]) (Ev.now _)
          · exact Ev.step (fun k => by rw [st, if_neg hb]) ((i3 (acc ++ s.extract xs[j].f0.toNat (xs[j].f0 + xs[j].f1).toNat) (by omega)).2 (by omega))
theorem gather_ends (s : ByteArray) (xs : List S80) : ∃ r, Ev (fun k => spec_GatherBufs.f k s xs) r ∧ Ev (fun k => impl_GatherBufs.f k s xs) r := by
  have sbad : Ev (fun k => spec_l10Bufs.f k s xs) false → Ev (fun k => spec_GatherBufs.f k s xs) (⟨#[]⟩ : ByteArray) := fun h => by
    refine Ev.bind h ?_
    simp only [Bool.false_eq_true, if_false]; exact Ev.now _
  by_cases hm : memOk s
  · rcases impl_ymemOk_eq s with ⟨_, ei⟩ | ⟨hn, _⟩
    · by_cases hl : (xs.length : Int) ≤ 1000
      · have be := bufs_ev s xs hm hl
        have hi : ∀ k, impl_GatherBufs.f k s xs = (if (!(xs.any (bufBad (s.size : Int)))) = true then ((impl_ysize.f k xs false).bind fun t131 => (if t131 > 65536 then (some (⟨#[]⟩ : ByteArray)) else ((impl_ygather.f k s xs).bind fun t132 => (some t132)))) else (some (⟨#[]⟩ : ByteArray))) := fun k => by
          unfold impl_GatherBufs.f impl_ybufsOk.f
          rw [ei]; rw [Option.bind_some, if_pos rfl, if_neg (by omega), Option.bind_some]
        cases hg : xs.any (bufBad (s.size : Int)) with
        | true =>
          rw [hg] at be hi
          exact ⟨_, sbad be, Ev.congr (f := fun _ => some (⟨#[]⟩ : ByteArray)) (fun k => by rw [hi, if_neg (by simp)]) (Ev.now _)⟩
        | false =>
          rw [hg] at be hi
          obtain ⟨_, _, i2, i3⟩ := gather_both s xs hm hl hg xs.length 0 (Nat.zero_le _) rfl
          have ys := i2 0 (Int.le_refl _) (by omega)
          have g := i3 (⟨#[]⟩ : ByteArray) (by decide)
          rw [List.drop_zero] at ys g
          rw [Int.zero_add] at ys
          have e0 : (((⟨#[]⟩ : ByteArray).size : Nat) : Int) = 0 := rfl
          rw [e0, Int.zero_add] at g
          have is : ∀ r, Ev (fun k => (impl_ysize.f k xs false).bind fun t131 => (if t131 > 65536 then (some (⟨#[]⟩ : ByteArray)) else ((impl_ygather.f k s xs).bind fun t132 => (some t132)))) r → Ev (fun k => impl_GatherBufs.f k s xs) r := fun r h => Ev.congr (fun k => by rw [hi, if_pos (by rfl)]) h
          have ss : ∀ r, Ev (fun k => spec_GatherBufs.l0 k s xs (⟨#[]⟩ : ByteArray) 0) r → Ev (fun k => spec_GatherBufs.f k s xs) r := fun r h => by
            refine Ev.bind be ?_
            simp only [Bool.not_false, if_true]; exact h
          by_cases hb : restSum xs > 65536
          · refine ⟨_, ss _ (g.2 hb), is _ (Ev.bind ys ?_)⟩
            simp only [if_pos hb]; exact Ev.now _
          · obtain ⟨r, r1, r2⟩ := g.1 (by omega)
            refine ⟨r, ss _ r1, is _ (Ev.bind ys ?_)⟩
            simp only [if_neg hb]
            exact Ev.bind r2 (Ev.now _)
      · refine ⟨_, sbad (bufs_bad s xs (fun h => hl h.2)), Ev.congr (f := fun _ => some (⟨#[]⟩ : ByteArray)) (fun k => ?_) (Ev.now _)⟩
        unfold impl_GatherBufs.f
        rw [ei]; rw [Option.bind_some, if_pos rfl, if_pos (by omega)]
    · exact absurd hm hn
  · rcases impl_ymemOk_eq s with ⟨hn, _⟩ | ⟨_, ei⟩
    · exact absurd hn hm
    · refine ⟨_, sbad (bufs_bad s xs (fun h => hm h.1)), Ev.congr (f := fun _ => some (⟨#[]⟩ : ByteArray)) (fun k => ?_) (Ev.now _)⟩
      unfold impl_GatherBufs.f
      rw [ei]; rw [Option.bind_some, if_neg (by simp)]
theorem FnExactGatherBufs : laws_FnExactGatherBufs.Pure := by
  intro s xs _ hQ
  obtain ⟨hlm, _⟩ := hQ
  refine Ev.rounds (r := true) ?_
  unfold laws_FnExactGatherBufs.f
  by_cases h1 : (s.size : Int) > 1048576
  · simp only [if_pos h1]; exact Ev.now _
  · simp only [if_neg h1]
    have sz : ∃ r, laws_szBufS.f xs 1048576 = some r ∧ (r < 0 ∨ (xs.length : Int) ≤ 1048576) := by
      unfold laws_szBufS.f
      rw [w64 (by omega) (by omega)]
      by_cases hn : 1048576 - (xs.length : Int) < 0
      · rw [if_pos hn]; exact ⟨-1, rfl, Or.inl (by omega)⟩
      · rw [if_neg hn]; exact ⟨_, rfl, Or.inr (by omega)⟩
    obtain ⟨r, hr, hc⟩ := sz
    refine Ev.bind (Ev.congr (fun _ => hr) (Ev.now r)) ?_
    by_cases hrn : r < 0
    · simp only [if_pos hrn]; exact Ev.now _
    · simp only [if_neg hrn]
      have hl : xs.length ≤ 11728124029610 := by omega
      obtain ⟨v, r1, r2⟩ := gather_ends s (xs.map toB)
      refine Ev.bind (to_all xs hl) (Ev.bind r1 (Ev.bind (to_all xs hl) (Ev.bind r2 ?_)))
      simp only [if_true]
      refine Ev.bind (to_all xs hl) (Ev.bind (eq_all (xs.map toB) (by rw [List.length_map]; exact hl)) ?_)
      simp only [if_true]; exact Ev.now _

end Go.Proofs.Ytjpgelnhmcblmaa.Pure
