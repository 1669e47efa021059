/- What a reader of a packed image takes, in plain Lean. -/
import Derived.Test.YtoifdnnjdohfmaaDoorPl
import Derived.Test.YtoifdnnjdohfmaaDoorCx
namespace Go.Proofs.YtoifdnnjdohfmaaDoor.Up
open Go Go.RowKit Go.Proofs.YtoifdnnjdohfmaaDoorW.PrintWords Go.Proofs.YtoifdnnjdohfmaaDoorW.PrintLast Go.Proofs.YtoifdnnjdohfmaaDoorW.PrintMore Go.Proofs.YtoifdnnjdohfmaaDoor.Pl
/-- What a reader is: its place, and what it refused. -/
structure RS where
  p : Nat
  e : Option (Int × Int)
def rFail (s : RS) (c a : Int) : RS := match s.e with | none => ⟨s.p, some (c, a)⟩ | some _ => s
def rTake (t : ByteArray) (s : RS) (n : Nat) : ByteArray × RS :=
  match s.e with
  | some _ => (⟨#[]⟩, s)
  | none => if s.p + n ≤ t.size then (t.extract s.p (s.p + n), ⟨s.p + n, none⟩) else (⟨#[]⟩, ⟨s.p, some (3, (t.size : Int))⟩)
theorem rTake_p (t : ByteArray) (s : RS) (n : Nat) (hp : s.p ≤ t.size) : (rTake t s n).2.p ≤ t.size := by
  unfold rTake
  cases s.e with
  | some q => exact hp
  | none =>
    show (if s.p + n ≤ t.size then (t.extract s.p (s.p + n), (⟨s.p + n, none⟩ : RS)) else (⟨#[]⟩, ⟨s.p, some (3, (t.size : Int))⟩)).2.p ≤ t.size
    split
    · assumption
    · exact hp
theorem rTake_none {t : ByteArray} {s : RS} {n : Nat} (h : (rTake t s n).2.e = none) : s.e = none ∧ s.p + n ≤ t.size ∧ rTake t s n = (t.extract s.p (s.p + n), ⟨s.p + n, none⟩) := by
  unfold rTake at h ⊢
  cases he : s.e with
  | some q => rw [he] at h; exact absurd (he ▸ h) (by simp)
  | none =>
    rw [he] at h
    by_cases hh : s.p + n ≤ t.size
    · exact ⟨rfl, hh, if_pos hh⟩
    · have h' : (if s.p + n ≤ t.size then (t.extract s.p (s.p + n), (⟨s.p + n, none⟩ : RS)) else (⟨#[]⟩, ⟨s.p, some (3, (t.size : Int))⟩)).2.e = none := h
      rw [if_neg hh] at h'
      exact absurd h' (by simp)
/-- The word at a place of the text. -/
def rW (t : ByteArray) (p : Nat) : Int := bt t (p : Int) + bt t ((p + 1 : Nat) : Int) * 256 + bt t ((p + 2 : Nat) : Int) * 65536 + bt t ((p + 3 : Nat) : Int) * 16777216
theorem rW_range (t : ByteArray) (p : Nat) : 0 ≤ rW t p ∧ rW t p ≤ 4294967295 := by
  unfold rW
  have b0 := bt_range t (p : Int); have b1 := bt_range t ((p + 1 : Nat) : Int); have b2 := bt_range t ((p + 2 : Nat) : Int); have b3 := bt_range t ((p + 3 : Nat) : Int)
  omega
theorem bt_ext (t : ByteArray) (p n j : Nat) (h : p + n ≤ t.size) (hj : j < n) : bt (t.extract p (p + n)) (j : Int) = bt t ((p + j : Nat) : Int) := by
  unfold bt
  simp only [Int.toNat_natCast]
  have hs : (t.extract p (p + n)).size = n := by rw [ByteArray.size_extract]; omega
  rw [dif_pos (by omega), dif_pos (by omega), ByteArray.getElem_extract]
def rWord (t : ByteArray) (s : RS) : Int × RS := if (rTake t s 4).2.e = none then (rW t s.p, (rTake t s 4).2) else (0, (rTake t s 4).2)
theorem rWord_p (t : ByteArray) (s : RS) (hp : s.p ≤ t.size) : (rWord t s).2.p ≤ t.size := by
  have := rTake_p t s 4 hp
  unfold rWord
  split <;> exact this
theorem rFail_p (s : RS) (c a : Int) : (rFail s c a).p = s.p := by unfold rFail; cases s.e <;> rfl
/-- A number in bounds. -/
def rCount (t : ByteArray) (s : RS) (hi : Int) : Int × RS := if (rWord t s).2.e = none then (if (rWord t s).1 ≤ hi then rWord t s else (0, rFail (rWord t s).2 3 (s.p : Int))) else (0, (rWord t s).2)
theorem rWord_range (t : ByteArray) (s : RS) : 0 ≤ (rWord t s).1 ∧ (rWord t s).1 ≤ 4294967295 := by
  unfold rWord
  have := rW_range t s.p
  split
  · exact this
  · show (0 : Int) ≤ 0 ∧ (0 : Int) ≤ 4294967295
    omega
def mix7 (s : ByteArray) : Int := Go.Proofs.YtoifdnnjdohfmaaDoor.Cw.mixOf s 7
/-- The sum behind the text, and nothing behind it. -/
def rEnd (t : ByteArray) (s : RS) : RS := if (rWord t s).2.e = none then (if (rWord t s).2.p = t.size then (if (rWord t s).1 = mix7 (t.extract 0 s.p) then (rWord t s).2 else ⟨(rWord t s).2.p, some (10, (s.p : Int))⟩) else ⟨(rWord t s).2.p, some (3, ((rWord t s).2.p : Int))⟩) else (rWord t s).2
/-- A name: its length, and so many bytes. -/
def rName (t : ByteArray) (s : RS) : ByteArray × RS := if (rTake t s 1).2.e = none then rTake t (rTake t s 1).2 (bt t (s.p : Int)).toNat else (⟨#[]⟩, (rTake t s 1).2)
theorem rName_p (t : ByteArray) (s : RS) (hp : s.p ≤ t.size) : (rName t s).2.p ≤ t.size := by
  unfold rName
  have h1 := rTake_p t s 1 hp
  split
  · exact rTake_p t _ _ h1
  · exact h1
/-- A table of n words. -/
def rTab (t : ByteArray) : Nat → RS → List Int × RS
  | 0, s => ([], s)
  | n + 1, s => (((rWord t s).1 - 2) :: (rTab t n (rWord t s).2).1, (rTab t n (rWord t s).2).2)
theorem rTab_p (t : ByteArray) (n : Nat) : ∀ s : RS, s.p ≤ t.size → (rTab t n s).2.p ≤ t.size := by
  induction n with
  | zero => intro s h; exact h
  | succ n ih => intro s h; exact ih _ (rWord_p t s h)
theorem rTab_len (t : ByteArray) (n : Nat) : ∀ s : RS, (rTab t n s).1.length = n := by
  induction n with
  | zero => intro s; rfl
  | succ n ih => intro s; show ((rTab t n (rWord t s).2).1.length + 1) = n + 1; rw [ih]
def rCode (s : RS) : Int × Int := match s.e with | none => (0, 0) | some q => q
theorem rCount_p (t : ByteArray) (s : RS) (hi : Int) (hp : s.p ≤ t.size) : (rCount t s hi).2.p ≤ t.size := by
  have h := rWord_p t s hp
  unfold rCount
  split
  · split
    · exact h
    · show (rFail (rWord t s).2 3 (s.p : Int)).p ≤ t.size
      rw [rFail_p]; exact h
  · exact h
theorem rCount_range (t : ByteArray) (s : RS) (hi : Int) (h : 0 ≤ hi) : 0 ≤ (rCount t s hi).1 ∧ (rCount t s hi).1 ≤ hi := by
  have hr := rWord_range t s
  unfold rCount
  split
  · split
    · rename_i h2
      exact ⟨hr.1, h2⟩
    · exact ⟨Int.le_refl _, h⟩
  · exact ⟨Int.le_refl _, h⟩
/-- The texts of the clusters. -/
def rDat (t : ByteArray) : Nat → RS → List ByteArray × RS
  | 0, s => ([], s)
  | n + 1, s => ((rTake t s 16).1 :: (rDat t n (rTake t s 16).2).1, (rDat t n (rTake t s 16).2).2)
theorem rTake_size (t : ByteArray) (s : RS) (n : Nat) : (rTake t s n).1.size ≤ t.size := by
  unfold rTake
  cases s.e with
  | some q => exact Nat.zero_le _
  | none =>
    show (if s.p + n ≤ t.size then (t.extract s.p (s.p + n), (⟨s.p + n, none⟩ : RS)) else (⟨#[]⟩, ⟨s.p, some (3, (t.size : Int))⟩)).1.size ≤ t.size
    split
    · show (t.extract s.p (s.p + n)).size ≤ t.size
      rw [ByteArray.size_extract]; omega
    · exact Nat.zero_le _
theorem rName_size (t : ByteArray) (s : RS) : (rName t s).1.size ≤ t.size := by
  unfold rName
  split
  · exact rTake_size t _ _
  · exact Nat.zero_le _
theorem k_row_ne {W : World} {k ty ty' : Nat} {cs : Array Value} {row : Option Nat} (hk : W.heap[k]? = some (.cells cs ty' (0, 0))) (hne : ty ≠ ty') (hty : ∀ k, row = some k → ∃ cells, W.heap[k]? = some (.cells cells ty (0, 0))) : some k ≠ row := by
  intro e
  obtain ⟨cells, hc⟩ := hty k e.symm
  exact blk_ne hc hk hne rfl
theorem k_row_keeps {W W1 : World} {k ty ty' : Nat} {cs : Array Value} {row : Option Nat} (hk : W.heap[k]? = some (.cells cs ty' (0, 0))) (hg : W.grownBy W1 row) (hne : ty ≠ ty') (hty : ∀ k, row = some k → ∃ cells, W.heap[k]? = some (.cells cells ty (0, 0))) : W1.heap[k]? = some (.cells cs ty' (0, 0)) := blk_grown hk hg (k_row_ne hk hne hty)
theorem k_far {α : Type} {d : Kd α} {e base M ty j : Nat} {W : World} {v : Value} {xs : List α} {cs : Array Value} (h : d.R e W base (fun _ => True) v xs) (hb : W.heap[M]? = some (.cells cs ty (0, 0))) (ht : ∀ q, q ∈ e :: d.E → q ≠ ty) (u : Value) : d.R e (W.setCell ⟨M, j, none⟩ u) base (fun _ => True) v xs :=
  Kd.R_mono (Kd.R_far (p := ⟨M, j, none⟩) (Kd.R_types h hb ht) (fun _ hk => hk.2) u) (fun _ _ => trivial)
theorem k_far7 {α : Type} {d : Kd α} {e base g ty : Nat} {W : World} {v : Value} {xs : List α} {cs : Array Value} (h : d.R e W base (fun _ => True) v xs) (hb : W.heap[g]? = some (.cells cs ty (0, 0))) (ht : ∀ q, q ∈ e :: d.E → q ≠ ty) (v0 v1 v2 v3 v4 v5 v6 : Value) : d.R e (((((((W.setCell ⟨g, 0, none⟩ v0).setCell ⟨g, 1, none⟩ v1).setCell ⟨g, 2, none⟩ v2).setCell ⟨g, 3, none⟩ v3).setCell ⟨g, 4, none⟩ v4).setCell ⟨g, 5, none⟩ v5).setCell ⟨g, 6, none⟩ v6) base (fun _ => True) v xs :=
  Kd.R_mono (Kd.R_far (p := ⟨g, 6, none⟩) (Kd.R_far (p := ⟨g, 5, none⟩) (Kd.R_far (p := ⟨g, 4, none⟩) (Kd.R_far (p := ⟨g, 3, none⟩) (Kd.R_far (p := ⟨g, 2, none⟩) (Kd.R_far (p := ⟨g, 1, none⟩) (Kd.R_far (p := ⟨g, 0, none⟩) (Kd.R_types h hb ht) (fun _ hk => hk.2) v0) (fun _ hk => hk.2) v1) (fun _ hk => hk.2) v2) (fun _ hk => hk.2) v3) (fun _ hk => hk.2) v4) (fun _ hk => hk.2) v5) (fun _ hk => hk.2) v6) (fun _ _ => trivial)
theorem k_kp {α : Type} {d : Kd α} {e base g ty : Nat} {W W1 : World} {v : Value} {xs : List α} {cs : Array Value} (h : d.R e W base (fun _ => True) v xs) (hg : W.heap[g]? = some (.cells cs ty (0, 0))) (ht : ∀ q, q ∈ e :: d.E → q ≠ ty) (k : KeepBut W W1 g none) : d.R e W1 base (fun _ => True) v xs :=
  Kd.R_mono (Kd.R_keep (g := g) (Kd.R_types h hg ht) k (fun _ h => h.2)) (fun _ _ => trivial)
theorem k_own_ne {W : World} {a b : Value} {ty ty' : Nat} (h : ∀ k, a.ownBlock = some k → ∃ cells, W.heap[k]? = some (.cells cells ty (0, 0))) (h' : ∀ k, b.ownBlock = some k → ∃ cells, W.heap[k]? = some (.cells cells ty' (0, 0))) (hne : ty ≠ ty') : ∀ k, some k = a.ownBlock → some k ≠ b.ownBlock := by
  intro k hk hb
  obtain ⟨c, hc⟩ := h k hk.symm
  obtain ⟨c', hc'⟩ := h' k hb.symm
  exact blk_ne hc hc' hne rfl
end Go.Proofs.YtoifdnnjdohfmaaDoor.Up
