-- Written for this claim by this session's own driver (wip/xprint.py).
import Derived.Test.YtoifdnnjdohfmaaDoorQFnExactUnpackImagex0
import Derived.Test.YtoifdnnjdohfmaaDoorQFnExactUnpackImagex2
import Derived.Test.YtoifdnnjdohfmaaDoorQFnExactUnpackImagex3
namespace Go.Proofs.YtoifdnnjdohfmaaDoor.QFnExactUnpackImage
open Go.RowKit Go.Proofs.YtoifdnnjdohfmaaDoorW.PrintWords Go.Proofs.YtoifdnnjdohfmaaDoorW.PrintLast Go.Proofs.YtoifdnnjdohfmaaDoorW.PrintMore
attribute [local go_sem] max2_int min2_int max_two min_two max_three min_three max_four min_four   -- for this text's walks alone
set_option linter.unusedVariables false
set_option linter.unusedSimpArgs false

/-! ### spec_UnpackImage: function 5 -/
open Go.Proofs.YtoifdnnjdohfmaaDoor.Up
/-- Did it end early. -/
def sh (s : RS) : Bool := s.e.isSome
theorem empty_iffS (s : ByteArray) : s.toList = ([] : List UInt8) ↔ s.size = 0 := by
  rw [ByteArray.toList_eq]
  constructor
  · intro h
    have := congrArg List.length h
    simpa [Array.length_toList] using this
  · intro h
    have h2 : s.data.size = 0 := h
    exact List.eq_nil_of_length_eq_zero (by rw [Array.length_toList]; exact h2)
theorem rTake_bad {t : ByteArray} {s : RS} {n : Nat} (h : ¬ (rTake t s n).2.e = none) : (rTake t s n).1 = ⟨#[]⟩ := by
  unfold rTake at h ⊢
  cases he : s.e with
  | some q => rfl
  | none =>
    rw [he] at h
    by_cases hh : s.p + n ≤ t.size
    · exact absurd (show (if s.p + n ≤ t.size then (t.extract s.p (s.p + n), (⟨s.p + n, none⟩ : RS)) else (⟨#[]⟩, ⟨s.p, some (3, (t.size : Int))⟩)).2.e = none by rw [if_pos hh]) h
    · exact (show (if s.p + n ≤ t.size then (t.extract s.p (s.p + n), (⟨s.p + n, none⟩ : RS)) else (⟨#[]⟩, ⟨s.p, some (3, (t.size : Int))⟩)).1 = _ by rw [if_neg hh])
theorem stake (t : ByteArray) (s : RS) (n : Nat) (hn : n ≤ 255) (ht : t.size ≤ 65536) (hp : s.p ≤ t.size) : spec_l13Cut_take.f t (s.p : Int) (sh s) (n : Int) = some ((rTake t s n).1, t, ((rTake t s n).2.p : Int), sh (rTake t s n).2) := by
  obtain ⟨p, e⟩ := s
  have hp' : p ≤ t.size := hp
  unfold spec_l13Cut_take.f
  cases e with
  | some q => rw [if_pos (show sh ⟨p, some q⟩ = true from rfl)]; rfl
  | none =>
    rw [if_neg (show ¬ sh ⟨p, none⟩ = true from Bool.false_ne_true)]
    dsimp only
    rw [Go.Proofs.YtoifdnnjdohfmaaDoor.Pl.w64 (a := (t.size : Int) - (p : Int)) (by omega) (by omega)]
    by_cases hh : p + n ≤ t.size
    · have hr : rTake t ⟨p, none⟩ n = (t.extract p (p + n), ⟨p + n, none⟩) := by unfold rTake; exact if_pos hh
      rw [hr, if_neg (by omega), Go.Proofs.YtoifdnnjdohfmaaDoor.Pl.w64 (a := (p : Int) + (n : Int)) (by omega) (by omega), if_pos (by omega), if_pos (by omega), if_pos (by omega)]
      rw [show (((p : Int) + (n : Int)).toNat) = p + n from by omega, Int.toNat_natCast]
      rfl
    · have hr : rTake t ⟨p, none⟩ n = (⟨#[]⟩, ⟨p, some (3, (t.size : Int))⟩) := by unfold rTake; exact if_neg hh
      rw [hr, if_pos (by omega)]
      rfl
theorem sW_word (t : ByteArray) (p : Nat) (h : p + 4 ≤ t.size) : spec_l01Word.f (t.extract p (p + 4)) 0 = some (rW t p) := by
  have hs : ((t.extract p (p + 4)).size : Int) = 4 := by rw [ByteArray.size_extract]; omega
  have e0 : bt (t.extract p (p + 4)) 0 = bt t (p : Int) := bt_ext t p 4 0 h (by decide)
  have e1 : bt (t.extract p (p + 4)) 1 = bt t ((p + 1 : Nat) : Int) := bt_ext t p 4 1 h (by decide)
  have e2 : bt (t.extract p (p + 4)) 2 = bt t ((p + 2 : Nat) : Int) := bt_ext t p 4 2 h (by decide)
  have e3 : bt (t.extract p (p + 4)) 3 = bt t ((p + 3 : Nat) : Int) := bt_ext t p 4 3 h (by decide)
  have b0 := bt_range t (p : Int); have b1 := bt_range t ((p + 1 : Nat) : Int); have b2 := bt_range t ((p + 2 : Nat) : Int); have b3 := bt_range t ((p + 3 : Nat) : Int)
  unfold spec_l01Word.f rW
  rw [hs, show wrap64 (0 + 1) = 1 from by unfold wrap64; omega, show wrap64 (0 + 2) = 2 from by unfold wrap64; omega, show wrap64 (0 + 3) = 3 from by unfold wrap64; omega]
  rw [if_pos (by decide), if_pos (by decide), if_pos (by decide), if_pos (by decide), if_pos (by decide), if_pos (by decide), if_pos (by decide), if_pos (by decide), e0, e1, e2, e3]
  generalize bt t (p : Int) = x0 at b0 ⊢
  generalize bt t ((p + 1 : Nat) : Int) = x1 at b1 ⊢
  generalize bt t ((p + 2 : Nat) : Int) = x2 at b2 ⊢
  generalize bt t ((p + 3 : Nat) : Int) = x3 at b3 ⊢
  rw [Go.Proofs.YtoifdnnjdohfmaaDoor.Pl.w64 (a := x0) (by omega) (by omega), Go.Proofs.YtoifdnnjdohfmaaDoor.Pl.w64 (a := x1) (by omega) (by omega), Go.Proofs.YtoifdnnjdohfmaaDoor.Pl.w64 (a := x2) (by omega) (by omega), Go.Proofs.YtoifdnnjdohfmaaDoor.Pl.w64 (a := x3) (by omega) (by omega)]
  rw [Go.Proofs.YtoifdnnjdohfmaaDoor.Pl.w64 (a := x1 * 256) (by omega) (by omega), Go.Proofs.YtoifdnnjdohfmaaDoor.Pl.w64 (a := x2 * 65536) (by omega) (by omega), Go.Proofs.YtoifdnnjdohfmaaDoor.Pl.w64 (a := x3 * 16777216) (by omega) (by omega)]
  rw [Go.Proofs.YtoifdnnjdohfmaaDoor.Pl.w64 (a := x0 + x1 * 256) (by omega) (by omega), Go.Proofs.YtoifdnnjdohfmaaDoor.Pl.w64 (a := x0 + x1 * 256 + x2 * 65536) (by omega) (by omega), Go.Proofs.YtoifdnnjdohfmaaDoor.Pl.w64 (by omega) (by omega)]
theorem sword (t : ByteArray) (s : RS) (ht : t.size ≤ 65536) (hp : s.p ≤ t.size) : spec_l13Cut_word.f t (s.p : Int) (sh s) = some ((rWord t s).1, t, ((rWord t s).2.p : Int), sh (rWord t s).2) := by
  have h4 := stake t s 4 (by decide) ht hp
  unfold spec_l13Cut_word.f
  rw [show ((4 : Int)) = ((4 : Nat) : Int) from rfl, h4, Option.bind_some]
  dsimp only
  by_cases he : (rTake t s 4).2.e = none
  · obtain ⟨h1, h2, h3⟩ := rTake_none he
    have hne : ¬ (rTake t s 4).1.toList = ([] : List UInt8) := by
      rw [empty_iffS, h3]
      show ¬ (t.extract s.p (s.p + 4)).size = 0
      rw [ByteArray.size_extract]; omega
    rw [if_neg hne]
    have hw : rWord t s = (rW t s.p, (rTake t s 4).2) := by unfold rWord; exact if_pos he
    rw [hw, h3]
    dsimp only
    rw [sW_word t s.p h2, Option.bind_some]
  · have hb := rTake_bad he
    rw [hb, if_pos ((empty_iffS _).mpr rfl)]
    have hw : rWord t s = (0, (rTake t s 4).2) := by unfold rWord; exact if_neg he
    rw [hw]
theorem stext (t : ByteArray) (s : RS) (ht : t.size ≤ 65536) (hp : s.p ≤ t.size) : spec_l13Cut_text.f t (s.p : Int) (sh s) = some ((rName t s).1, t, ((rName t s).2.p : Int), sh (rName t s).2) := by
  have h4 := stake t s 1 (by decide) ht hp
  unfold spec_l13Cut_text.f
  rw [show ((1 : Int)) = ((1 : Nat) : Int) from rfl, h4, Option.bind_some]
  dsimp only
  by_cases he : (rTake t s 1).2.e = none
  · obtain ⟨h1, h2, h3⟩ := rTake_none he
    have hsz : (t.extract s.p (s.p + 1)).size = 1 := by rw [ByteArray.size_extract]; omega
    have hne : ¬ (rTake t s 1).1.toList = ([] : List UInt8) := by
      rw [empty_iffS, h3]
      show ¬ (t.extract s.p (s.p + 1)).size = 0
      omega
    rw [if_neg hne]
    have hw : rName t s = rTake t (rTake t s 1).2 (bt t (s.p : Int)).toNat := by unfold rName; exact if_pos he
    rw [hw, h3]
    dsimp only
    rw [if_pos (by omega), show bt (t.extract s.p (s.p + 1)) 0 = bt t (s.p : Int) from bt_ext t s.p 1 0 h2 (by decide)]
    have hb := bt_range t (s.p : Int)
    rw [Go.Proofs.YtoifdnnjdohfmaaDoor.Pl.w64 (by omega) (by omega)]
    have h5 := stake t ⟨s.p + 1, none⟩ (bt t (s.p : Int)).toNat (by omega) ht h2
    rw [show (((bt t (s.p : Int)).toNat : Nat) : Int) = bt t (s.p : Int) from by omega] at h5
    rw [h5, Option.bind_some]
  · have hb := rTake_bad he
    rw [hb, if_pos ((empty_iffS _).mpr rfl)]
    have hw : rName t s = (⟨#[]⟩, (rTake t s 1).2) := by unfold rName; exact if_neg he
    rw [hw]
theorem rWord_w (t : ByteArray) (s : RS) : wrap64 ((rWord t s).1 - 2) = (rWord t s).1 - 2 := by
  have := rWord_range t s
  exact Go.Proofs.YtoifdnnjdohfmaaDoor.Pl.w64 (by omega) (by omega)
theorem stable_l (t : ByteArray) (ht : t.size ≤ 65536) (n : Nat) (hn : n ≤ 1000) : ∀ d i : Nat, i + d = n → ∀ (s : RS) (xs : List Int), s.p ≤ t.size → xs.length ≤ i → ∃ k, spec_l13Cut_table.l0 k (n : Int) xs (i : Int) t (s.p : Int) (sh s) = some (xs ++ (rTab t d s).1, t, ((rTab t d s).2.p : Int), sh (rTab t d s).2) := by
  intro d
  induction d with
  | zero =>
    intro i hi s xs hp hx
    refine ⟨1, ?_⟩
    unfold spec_l13Cut_table.l0
    rw [if_neg (by omega)]
    show some (xs, t, (s.p : Int), sh s) = some (xs ++ [], t, (s.p : Int), sh s)
    rw [List.append_nil]
  | succ d ih =>
    intro i hi s xs hp hx
    obtain ⟨k, hk⟩ := ih (i + 1) (by omega) (rWord t s).2 (xs ++ [(rWord t s).1 - 2]) (rWord_p t s hp) (by rw [List.length_append]; simp; omega)
    refine ⟨k + 1, ?_⟩
    unfold spec_l13Cut_table.l0
    rw [if_pos (by omega), sword t s ht hp, Option.bind_some]
    dsimp only
    rw [if_pos (by omega), rWord_w, Go.Proofs.YtoifdnnjdohfmaaDoor.Pl.w64 (a := (i : Int) + 1) (by omega) (by omega), show (i : Int) + 1 = ((i + 1 : Nat) : Int) from by omega, hk, List.append_assoc]
    rfl
theorem stable (t : ByteArray) (s : RS) (n : Nat) (ht : t.size ≤ 65536) (hp : s.p ≤ t.size) (hn : n ≤ 1000) : ∃ k, spec_l13Cut_table.f k t (s.p : Int) (sh s) (n : Int) = some ((rTab t n s).1, t, ((rTab t n s).2.p : Int), sh (rTab t n s).2) := by
  obtain ⟨k, hk⟩ := stable_l t ht n hn n 0 (by omega) s [] hp (Nat.le_refl _)
  exact ⟨k, hk⟩
/-- The reader and what lies beside it. -/
structure SpW (w W : World) (t : ByteArray) (g : Nat) (s : RS) : Prop where
  rd : IsS41 w W g t (s.p : Int) (sh s)
  be : Below w.heap.size w W
  rs : W.heap[w.heap.size]? = some (.cells #[.int .i64 0, .int .i64 0, .string ⟨#[]⟩, .string ⟨#[]⟩, .slice none 0 0, .slice none 0 0, .slice none 0 0] 28 (0, 0))
theorem kp_blk {W W' : World} {g k ty : Nat} {cs : Array Value} (h : KeepBut W W' g none) (hb : W.heap[k]? = some (.cells cs ty (0, 0))) (hne : k ≠ g) : W'.heap[k]? = some (.cells cs ty (0, 0)) := (h.2 k (blk_lt hb) hne (by simp)).trans hb
theorem SpW.ne {w W : World} {t : ByteArray} {g k ty : Nat} {s : RS} {cs : Array Value} (h : SpW w W t g s) (hb : W.heap[k]? = some (.cells cs ty (0, 0))) (hne : ty ≠ 41) : k ≠ g := blk_ne hb h.rd.1 hne
theorem SpW.kp {w W W' : World} {t : ByteArray} {g : Nat} {s s' : RS} (h : SpW w W t g s) (k : KeepBut W W' g none) (h' : IsS41 w W' g t (s'.p : Int) (sh s')) (hb : Below w.heap.size w W') : SpW w W' t g s' := ⟨h', hb, kp_blk k h.rs (h.ne h.rs (by decide))⟩
theorem SpW.below {w W W' : World} {t : ByteArray} {g : Nat} {s : RS} (h : SpW w W t g s) (hb : Below W.heap.size W W') : SpW w W' t g s := ⟨⟨blk_below h.rd.1 hb, h.rd.2⟩, below_step h.be hb, blk_below h.rs hb⟩
theorem SpW.far {w W : World} {t : ByteArray} {g gb ty : Nat} {s : RS} {cs : Array Value} (h : SpW w W t g s) (hb : W.heap[gb]? = some (.cells cs ty (0, 0))) (h1 : ty ≠ 41) (h4 : ty ≠ 28) (hge : w.heap.size ≤ gb) (j : Nat) (v : Value) : SpW w (W.setCell ⟨gb, j, none⟩ v) t g s :=
  ⟨⟨blk_far h.rd.1 (p := ⟨gb, j, none⟩) (blk_ne h.rd.1 hb (Ne.symm h1)) v, h.rd.2⟩, below_set h.be hge, blk_far h.rs (p := ⟨gb, j, none⟩) (blk_ne h.rs hb (Ne.symm h4)) v⟩
theorem SpW.grown {w W W1 : World} {t : ByteArray} {g ty : Nat} {s : RS} {row : Option Nat} (h : SpW w W t g s) (hg : W.grownBy W1 row) (hb : Below w.heap.size w W1) (h1 : ty ≠ 41) (h4 : ty ≠ 28) (hty : ∀ k, row = some k → ∃ cells, W.heap[k]? = some (.cells cells ty (0, 0))) : SpW w W1 t g s :=
  ⟨⟨k_row_keeps h.rd.1 hg h1 hty, h.rd.2⟩, hb, k_row_keeps h.rs hg h4 hty⟩
theorem sw_take (w W : World) (t : ByteArray) (g : Nat) (s : RS) (n : Nat) (hn : n ≤ 255) (ht : t.size ≤ 65536) (hp : s.p ≤ t.size) (h : SpW w W t g s) :
    Calls Tryd.prog 15 #[.pointer (some ⟨g, 0, none⟩), .int .i64 (n : Int)] W fun e w' => e = .returned (.string (rTake t s n).1) ∧ SpW w w' t g (rTake t s n).2 ∧ KeepBut W w' g none :=
  (spec_l13Cut_take.calls g t _ _ _ _ _ _ _ w W h.rd h.be (stake t s n hn ht hp)).mono fun _ _ ⟨he, hi, hb, hk⟩ => ⟨he, h.kp hk hi hb, hk⟩
theorem sw_word (w W : World) (t : ByteArray) (g : Nat) (s : RS) (ht : t.size ≤ 65536) (hp : s.p ≤ t.size) (h : SpW w W t g s) :
    Calls Tryd.prog 16 #[.pointer (some ⟨g, 0, none⟩)] W fun e w' => e = .returned (.int .i64 (rWord t s).1) ∧ SpW w w' t g (rWord t s).2 ∧ KeepBut W w' g none :=
  (spec_l13Cut_word.calls g t _ _ _ _ _ _ w W h.rd h.be (sword t s ht hp)).mono fun _ _ ⟨he, hi, hb, hk⟩ => ⟨he, h.kp hk hi hb, hk⟩
theorem sw_text (w W : World) (t : ByteArray) (g : Nat) (s : RS) (ht : t.size ≤ 65536) (hp : s.p ≤ t.size) (h : SpW w W t g s) :
    Calls Tryd.prog 17 #[.pointer (some ⟨g, 0, none⟩)] W fun e w' => e = .returned (.string (rName t s).1) ∧ SpW w w' t g (rName t s).2 ∧ KeepBut W w' g none :=
  (spec_l13Cut_text.calls g t _ _ _ _ _ _ w W h.rd h.be (stext t s ht hp)).mono fun _ _ ⟨he, hi, hb, hk⟩ => ⟨he, h.kp hk hi hb, hk⟩
theorem sw_table (w W : World) (t : ByteArray) (g : Nat) (s : RS) (n : Nat) (hn : n ≤ 1000) (ht : t.size ≤ 65536) (hp : s.p ≤ t.size) (h : SpW w W t g s) :
    Calls Tryd.prog 18 #[.pointer (some ⟨g, 0, none⟩), .int .i64 (n : Int)] W fun e w' => ∃ v, e = .returned v ∧ Kd.R (Kd.int .i64) 2 w' w.heap.size (fun _ => True) v (rTab t n s).1 ∧ SpW w w' t g (rTab t n s).2 ∧ KeepBut W w' g none := by
  obtain ⟨k, hk⟩ := stable t s n ht hp hn
  exact (spec_l13Cut_table.calls k g t _ _ _ _ _ _ _ w W h.rd h.be hk).mono fun _ _ ⟨v, he, hr, hi, hb, hk⟩ => ⟨v, he, Kd.R_lower hr h.be.size, h.kp hk hi hb, hk⟩
open Go.Proofs.YtoifdnnjdohfmaaDoor.Pl Go.Proofs.YtoifdnnjdohfmaaDoor.Cw in
theorem uspec_l01Mod_eq (a m : Int) (hm : 0 < m) (hm1 : m ≤ 4611686018427387904) : spec_l01Mod.f a m = some (a % m) := by
  unfold spec_l01Mod.f; rw [if_neg (by omega)]; exact go_mod a m hm hm1
open Go.Proofs.YtoifdnnjdohfmaaDoor.Pl Go.Proofs.YtoifdnnjdohfmaaDoor.Cw in
theorem uspec_mix_ends (s : ByteArray) (hs : (s.size : Int) ≤ 140737488351232) (x : Int) (d : Nat) : ∀ i : Nat, i + d = s.size → Ev (fun k => spec_Mix.l0 k s (mixFrom s x i) i) (mixEnd (mixFrom s x s.size)) := by
  induction d with
  | zero =>
    intro i hi
    obtain rfl : i = s.size := by omega
    exact Ev.step (f := fun _ => some (mixEnd (mixFrom s x s.size))) (fun k => by simp only [spec_Mix.l0]; rw [if_neg (by omega)]; rfl) (Ev.now _)
  | succ d ih =>
    intro i hi
    refine Ev.step (fun k => ?_) (ih (i + 1) (by omega))
    simp only [spec_Mix.l0]
    rw [if_pos (by omega), if_pos (by omega), w64 (a := (i : Int) + 1) (by omega) (by omega)]
    have e1 : ((i : Int) + 1) = ((i + 1 : Nat) : Int) := by omega
    rw [e1]; rfl
open Go.Proofs.YtoifdnnjdohfmaaDoor.Pl Go.Proofs.YtoifdnnjdohfmaaDoor.Cw in
theorem uspec_Mix_ev (s : ByteArray) (seed : Int) (hs : (s.size : Int) ≤ 65536) : Ev (fun k => spec_Mix.f k s seed) (mixOf s seed) := by
  have h0 := Int.emod_nonneg seed (show (2147483629:Int) ≠ 0 by decide)
  have h1 := Int.emod_lt_of_pos seed (show (0:Int) < 2147483629 by decide)
  refine Ev.congr (f := fun k => spec_Mix.l0 k s (mixFrom s (seed % 2147483629 + 1) 0) (0 : Nat)) (fun k => ?_) (uspec_mix_ends s (by omega) _ s.size 0 (by omega))
  unfold spec_Mix.f
  rw [if_neg (by omega), uspec_l01Mod_eq _ _ (by omega) (by omega)]
  simp only [Option.bind_some]
  rw [w64 (by omega) (by omega)]; rfl
theorem smix (t : ByteArray) (ht : t.size ≤ 65536) (W : World) : Calls Tryd.prog 19 #[.string t, .int .i64 7] W fun e w' => e = .returned (.int .i64 (mix7 t)) ∧ Drawn0 W w' := by
  obtain ⟨K, hK⟩ := uspec_Mix_ev t 7 (by omega)
  exact spec_Mix.calls K t 7 _ W (hK K (Nat.le_refl _))
theorem info_strS : (Tryd.prog.info? 9).map (fun i => (i.zero, i.size, i.bytes)) = some (some (.string ⟨#[]⟩), 1, 16) := by kernel_rfl
theorem info_snapS : (Tryd.prog.info? 47).map (fun i => (i.zero, i.size, i.bytes)) = some (some (.agg #[(.string ⟨#[]⟩), (.slice none 0 0)]), 2, 40) := by kernel_rfl
def spec_UnpackImage.T22 : Bool × List (List Nat × List Nat) := (true, [([], []), ([0], [0]), ([], []), ([2], [2]), ([3], [3]), ([1, 4, 3], [1, 4]), ([0, 1, 2, 3, 4, 5], []), ([6, 5, 5, 0, 1, 2, 3, 4, 5], [5, 6])])
def spec_UnpackImage.B22 : List Nat := [0, 1, 0, 4, 12, 31, 63, 127]
theorem spec_UnpackImage.tab22 : rtab .any (opsOf Tryd.f5 22) = spec_UnpackImage.T22 := by kernel_rfl
theorem spec_UnpackImage.bits22 : waitsOk spec_UnpackImage.T22.2 spec_UnpackImage.B22 = true := by kernel_rfl
def sSnaps (t : ByteArray) (k : Nat) : Nat → RS → List S47 × RS
  | 0, s => ([], s)
  | n + 1, s => ((⟨(rName t s).1, (rTab t k (rName t s).2).1⟩ : S47) :: (sSnaps t k n (rTab t k (rName t s).2).2).1, (sSnaps t k n (rTab t k (rName t s).2).2).2)
abbrev USR := Int × Int × ByteArray × ByteArray × List Int × List ByteArray × List S47
def usNo (c a : Int) : USR := (c, a, ⟨#[]⟩, ⟨#[]⟩, [], [], [])
def UPS (w : World) (r : USR) (e : Ending) (w' : World) : Prop := ∃ vT vD vS : Value, e = .returned (.agg #[.int .i64 r.1, .int .i64 r.2.1, .string r.2.2.1, .string r.2.2.2.1, vT, vD, vS]) ∧ Kd.R (Kd.int .i64) 2 w' w.heap.size (fun _ => True) vT r.2.2.2.2.1 ∧ Kd.R Kd.string 9 w' w.heap.size (fun _ => True) vD r.2.2.2.2.2.1 ∧ Kd.R k47 47 w' w.heap.size (fun _ => True) vS r.2.2.2.2.2.2 ∧ Below w.heap.size w w'
theorem UPS.no {w w' : World} {c a : Int} (hb : Below w.heap.size w w') {e : Ending} (he : e = .returned (.agg #[.int .i64 c, .int .i64 a, .string ⟨#[]⟩, .string ⟨#[]⟩, .slice none 0 0, .slice none 0 0, .slice none 0 0])) : UPS w (usNo c a) e w' :=
  ⟨_, _, _, he, Kd.R_nil _ _ _ _ _, Kd.R_nil _ _ _ _ _, Kd.R_nil _ _ _ _ _, hb⟩
def FaultIs (F : ByteArray → ByteArray → List Int → List ByteArray → List S47 → Int) : Prop := (∀ nm bk tb xs ys, nm.size ≤ 65536 → bk.size ≤ 65536 → tb.length ≤ 65536 → xs.length ≤ 65536 → ys.length ≤ 65536 → (∀ y, y ∈ ys → y.f0.size ≤ 65536 ∧ y.f1.length ≤ 65536) → ∃ k, spec_ImageFault.f k nm bk tb xs ys = some (F nm bk tb xs ys))
theorem rDat_len (t : ByteArray) (n : Nat) : ∀ s : RS, (rDat t n s).1.length = n := by
  induction n with
  | zero => intro s; rfl
  | succ n ih => intro s; show ((rDat t n (rTake t s 16).2).1.length + 1) = n + 1; rw [ih]
theorem sSnaps_ok (t : ByteArray) (k : Nat) (n : Nat) : ∀ s : RS, ∀ y, y ∈ (sSnaps t k n s).1 → y.f0.size ≤ t.size ∧ y.f1.length = k := by
  induction n with
  | zero => intro s y hy; exact absurd hy (by simp [sSnaps])
  | succ n ih =>
    intro s y hy
    rcases List.mem_cons.mp hy with rfl | hy
    · exact ⟨rName_size t s, rTab_len t k _⟩
    · exact ih _ y hy
/-- What the three counts are after i of them. -/
def Cnt (t : ByteArray) : Nat → Int → Int → Int → RS → Prop
  | 0, a, b, c, s => s = ⟨4, none⟩ ∧ a = 0 ∧ b = 0 ∧ c = 0
  | 1, a, b, c, s => rWord t ⟨4, none⟩ = (a, s) ∧ a ≤ 64 ∧ b = 0 ∧ c = 0
  | 2, a, b, c, s => ∃ s1, rWord t ⟨4, none⟩ = (a, s1) ∧ a ≤ 64 ∧ rWord t s1 = (b, s) ∧ b ≤ 128 ∧ c = 0
  | _, a, b, c, s => ∃ s1 s2, rWord t ⟨4, none⟩ = (a, s1) ∧ a ≤ 64 ∧ rWord t s1 = (b, s2) ∧ b ≤ 128 ∧ rWord t s2 = (c, s) ∧ c ≤ 8
def specR (F : ByteArray → ByteArray → List Int → List ByteArray → List S47 → Int) (t nm bk : ByteArray) (tb : List Int) (xs : List ByteArray) (ys : List S47) (s8 : RS) : USR :=
  if sh (rWord t s8).2 = true then usNo 3 (t.size : Int) else if ((rWord t s8).2.p : Int) < (t.size : Int) then usNo 3 ((rWord t s8).2.p : Int) else if (rWord t s8).1 = mix7 (t.extract 0 s8.p) then (if F nm bk tb xs ys = 0 then (0, 0, nm, bk, tb, xs, ys) else usNo 1 0) else usNo 10 (s8.p : Int)
def specQ (F : ByteArray → ByteArray → List Int → List ByteArray → List S47 → Int) (t : ByteArray) (k1 k2 k3 : Nat) (s3 : RS) : USR :=
  specR F t (rName t s3).1 (rName t (rName t s3).2).1 (rTab t k1 (rName t (rName t s3).2).2).1 (rDat t k2 (rTab t k1 (rName t (rName t s3).2).2).2).1 (sSnaps t k1 k3 (rDat t k2 (rTab t k1 (rName t (rName t s3).2).2).2).2).1 (sSnaps t k1 k3 (rDat t k2 (rTab t k1 (rName t (rName t s3).2).2).2).2).2
def specC (F : ByteArray → ByteArray → List Int → List ByteArray → List S47 → Int) (t : ByteArray) : USR :=
  if (rWord t ⟨4, none⟩).1 ≤ 64 then (if (rWord t (rWord t ⟨4, none⟩).2).1 ≤ 128 then (if (rWord t (rWord t (rWord t ⟨4, none⟩).2).2).1 ≤ 8 then specQ F t (rWord t ⟨4, none⟩).1.toNat (rWord t (rWord t ⟨4, none⟩).2).1.toNat (rWord t (rWord t (rWord t ⟨4, none⟩).2).2).1.toNat (rWord t (rWord t (rWord t ⟨4, none⟩).2).2).2 else usNo 3 ((rWord t (rWord t ⟨4, none⟩).2).2.p : Int)) else usNo 3 ((rWord t ⟨4, none⟩).2.p : Int)) else usNo 3 4
theorem specC_1 {F : ByteArray → ByteArray → List Int → List ByteArray → List S47 → Int} {t : ByteArray} {a : Int} {s1 : RS} (h1 : rWord t ⟨4, none⟩ = (a, s1)) (ha : ¬ a ≤ 64) : specC F t = usNo 3 4 := by
  unfold specC; rw [h1]; exact if_neg ha
theorem specC_2 {F : ByteArray → ByteArray → List Int → List ByteArray → List S47 → Int} {t : ByteArray} {a b : Int} {s1 s2 : RS} (h1 : rWord t ⟨4, none⟩ = (a, s1)) (ha : a ≤ 64) (h2 : rWord t s1 = (b, s2)) (hb : ¬ b ≤ 128) : specC F t = usNo 3 (s1.p : Int) := by
  unfold specC; rw [h1]; dsimp only; rw [h2, if_pos ha]; exact if_neg hb
theorem specC_3 {F : ByteArray → ByteArray → List Int → List ByteArray → List S47 → Int} {t : ByteArray} {a b c : Int} {s1 s2 s3 : RS} (h1 : rWord t ⟨4, none⟩ = (a, s1)) (ha : a ≤ 64) (h2 : rWord t s1 = (b, s2)) (hb : b ≤ 128) (h3 : rWord t s2 = (c, s3)) (hc : ¬ c ≤ 8) : specC F t = usNo 3 (s2.p : Int) := by
  unfold specC; rw [h1]; dsimp only; rw [h2]; dsimp only; rw [h3, if_pos ha, if_pos hb]; exact if_neg hc
theorem specC_ok {F : ByteArray → ByteArray → List Int → List ByteArray → List S47 → Int} {t : ByteArray} {a b c : Nat} {s1 s2 s3 : RS} (h1 : rWord t ⟨4, none⟩ = ((a : Int), s1)) (ha : (a : Int) ≤ 64) (h2 : rWord t s1 = ((b : Int), s2)) (hb : (b : Int) ≤ 128) (h3 : rWord t s2 = ((c : Int), s3)) (hc : (c : Int) ≤ 8) : specC F t = specQ F t a b c s3 := by
  unfold specC; rw [h1]; dsimp only; rw [h2]; dsimp only; rw [h3, if_pos ha, if_pos hb, if_pos hc]; simp only [Int.toNat_natCast]
def specP (F : ByteArray → ByteArray → List Int → List ByteArray → List S47 → Int) (t : ByteArray) : USR :=
  if (t.size : Int) > 65536 then usNo 2 0 else if (rTake t ⟨0, none⟩ 4).1.toList = [73, 77, 71, 49] then specC F t else usNo 3 0
set_option maxHeartbeats 16000000 in
set_option maxRecDepth 100000 in
theorem sup_go (F : ByteArray → ByteArray → List Int → List ByteArray → List S47 → Int) (hF : FaultIs F) (w : World) (t : ByteArray) (ht : t.size ≤ 65536) (res : USR) (hres : specC F t = res) (h4 : rTake t ⟨0, none⟩ 4 = (⟨#[73, 77, 71, 49]⟩, ⟨4, none⟩)) (hp4 : 4 ≤ t.size) :
    Calls Tryd.prog 5 #[.string t] w (UPS w res) := by
  have HT := Aside0.mk ht
  have HP4 := Aside0.mk hp4
  have HRES := Aside0.mk hres
  have HR0 := Aside0.mk (show (w.alloc (Obj.cells #[.int .i64 0, .int .i64 0, .string ⟨#[]⟩, .string ⟨#[]⟩, .slice none 0 0, .slice none 0 0, .slice none 0 0] 28)).heap[w.heap.size]? = some (.cells #[.int .i64 0, .int .i64 0, .string ⟨#[]⟩, .string ⟨#[]⟩, .slice none 0 0, .slice none 0 0, .slice none 0 0] 28 (0, 0)) from blk_new _ _)
  have hbig : ¬ ((t.size : Int) > 65536) := by omega
  have hU0 : SpW w ((w.alloc (Obj.cells #[.int .i64 0, .int .i64 0, .string ⟨#[]⟩, .string ⟨#[]⟩, .slice none 0 0, .slice none 0 0, .slice none 0 0] 28)).alloc (Obj.cells #[.string t, .int .i64 0, .bool false] 41)) t (w.heap.size + 1) ⟨0, none⟩ := by
    refine ⟨⟨?_, by omega⟩, below_alloc (below_alloc (Below.refl _ _) _) _, blk_alloc HR0.out _⟩
    have := blk_new (w.alloc (Obj.cells #[.int .i64 0, .int .i64 0, .string ⟨#[]⟩, .string ⟨#[]⟩, .slice none 0 0, .slice none 0 0, .slice none 0 0] 28)) (Obj.cells #[.string t, .int .i64 0, .bool false] 41)
    simpa [sh] using this
  have ht4 := fun W h => sw_take w W t (w.heap.size + 1) ⟨0, none⟩ 4 (by decide) ht (Nat.zero_le _) h
  rw [h4] at ht4
  have HU0 := Aside0.mk hU0
  have HT4 := Aside0.mk ht4
  clear ht hp4 hres hU0 ht4 h4
  go_enter Tryd.func5, Tryd.ntmps5
  go_wp2_with (fail)
  go_at_call 15
  refine (HT4.out _ HU0.out).mono ?_
  rintro e W ⟨rfl, hu, hk⟩
  obtain ⟨g, hge⟩ : ∃ b, w.heap.size + 1 = b := ⟨_, rfl⟩
  rw [hge] at hu ⊢
  have HU := Aside0.mk hu
  clear HU0 HT4 HR0 hk hu hge hbig
  go_wp2_with (fail)
  have hM0 := blk_alloc (blk_new W (Obj.cells #[.int .i64 64, .int .i64 128, .int .i64 8] 2)) (Obj.cells #[.int .i64 0, .int .i64 0, .int .i64 0] 2)
  have hN0 := blk_new (W.alloc (Obj.cells #[.int .i64 64, .int .i64 128, .int .i64 8] 2)) (Obj.cells #[.int .i64 0, .int .i64 0, .int .i64 0] 2)
  rw [show (W.alloc (Obj.cells #[.int .i64 64, .int .i64 128, .int .i64 8] 2)).heap.size = W.heap.size + 1 from by simp] at hN0
  have hu1 := HU.out.below (below_alloc (below_alloc (Below.refl _ _) (Obj.cells #[.int .i64 64, .int .i64 128, .int .i64 8] 2)) (Obj.cells #[.int .i64 0, .int .i64 0, .int .i64 0] 2))
  have hge1 : w.heap.size ≤ W.heap.size := HU.out.be.size
  generalize ((W.alloc (Obj.cells #[.int .i64 64, .int .i64 128, .int .i64 8] 2)).alloc (Obj.cells #[.int .i64 0, .int .i64 0, .int .i64 0] 2)) = W1 at hM0 hN0 hu1 ⊢
  obtain ⟨gn, hgn⟩ : ∃ b, W.heap.size + 1 = b := ⟨_, rfl⟩
  rw [hgn] at hN0 ⊢
  obtain ⟨gm, hgm⟩ : ∃ b, W.heap.size = b := ⟨_, rfl⟩
  rw [hgm] at hM0 ⊢
  have HGN : Aside0 (w.heap.size ≤ gn ∧ gm ≠ gn) := ⟨by omega⟩
  have HU1 := Aside0.mk hu1
  have HM0 := Aside0.mk hM0
  have HN0 := Aside0.mk hN0
  clear hM0 hN0 hu1 hge1 hgm hgn HU
  go_loopg [6] 3 (fun gq v6 wr => ∃ (i : Nat) (s : RS) (a b c : Int), v6 = .int .i64 i ∧ Aside0 (i ≤ 3) ∧ Aside0 (3 - i ≤ gq) ∧ Aside0 (SpW w wr t g s) ∧ Aside0 (s.p ≤ t.size) ∧ Aside0 (wr.heap[gm]? = some (.cells #[.int .i64 64, .int .i64 128, .int .i64 8] 2 (0, 0))) ∧ Aside0 (wr.heap[gn]? = some (.cells #[.int .i64 a, .int .i64 b, .int .i64 c] 2 (0, 0))) ∧ Aside0 (Cnt t i a b c s))
  case atStart => exact ⟨0, ⟨4, none⟩, 0, 0, 0, rfl, ⟨Nat.zero_le _⟩, ⟨by omega⟩, HU1, HP4, HM0, HN0, ⟨⟨rfl, rfl, rfl, rfl⟩⟩⟩
  case round =>
    clear HU1 HM0 HN0
    obtain ⟨i, s, a, b, c, rfl, hi, hg, HU, HPS, HM, HN, HC⟩ := hrel
    obtain rfl | rfl | rfl | rfl : i = 0 ∨ i = 1 ∨ i = 2 ∨ i = 3 := by have := hi.out; omega
    · obtain ⟨rfl, rfl, rfl, rfl⟩ := HC.out
      obtain ⟨x, s', hx⟩ : ∃ x s', rWord t ⟨4, none⟩ = (x, s') := ⟨_, _, rfl⟩
      have hps : s'.p ≤ t.size := by have := rWord_p t ⟨4, none⟩ HPS.out; rw [hx] at this; exact this
      have hw := fun W h => sw_word w W t g ⟨4, none⟩ HT.out HPS.out h
      rw [hx] at hw
      dsimp only at hw
      have HX := Aside0.mk hx
      have HPS2 := Aside0.mk hps
      have HW := Aside0.mk hw
      have ca := (blk_cell HU.out.rd.1 1).trans rfl
      clear hx hps hw
      go_wp2_with (fail)
      go_at_call 16
      refine (HW.out _ HU.out).mono ?_
      rintro e W2 ⟨rfl, hu, hk⟩
      have HU2 := Aside0.mk hu
      have HM2 := Aside0.mk (kp_blk hk HM.out (HU.out.ne HM.out (by decide)))
      have HN2 := Aside0.mk (kp_blk hk HN.out (HU.out.ne HN.out (by decide)))
      have cs_ := (blk_cell HN2.out 0).trans rfl
      have fs_ := blk_frozen HN2.out 0
      clear hu hk ca
      go_upto_region 13 with (fail)
      have hu3 := HU2.out.far HN2.out (by decide) (by decide) HGN.out.1 0 (.int .i64 x)
      have hn3 := blk_put HN2.out 0 (.int .i64 x) rfl (cs' := #[.int .i64 x, .int .i64 0, .int .i64 0])
      have hm3 := blk_far HM2.out (p := ⟨gn, 0, none⟩) HGN.out.2 (.int .i64 x)
      generalize W2.setCell ⟨gn, 0, none⟩ (.int .i64 x) = W3 at hu3 hn3 hm3 ⊢
      have HU3 := Aside0.mk hu3
      have HN3 := Aside0.mk hn3
      have HM3 := Aside0.mk hm3
      have cn_ := (blk_cell HN3.out 0).trans rfl
      have cm_ := (blk_cell HM3.out 0).trans rfl
      clear hu3 hn3 hm3 cs_ fs_
      by_cases hgt : x > 64
      · have hres : usNo 3 4 = res := by rw [← HRES.out]; exact (specC_1 HX.out (by omega)).symm
        have HRES2 := Aside0.mk hres
        clear hres
        go_quiet (fail)
        have f0_ := blk_frozen HU3.out.rs 0
        have f1_ := blk_frozen HU3.out.rs 1
        have f2_ := blk_frozen HU3.out.rs 2
        have f3_ := blk_frozen HU3.out.rs 3
        have f4_ := blk_frozen HU3.out.rs 4
        have f5_ := blk_frozen HU3.out.rs 5
        have f6_ := blk_frozen HU3.out.rs 6
        have z0_ : (W3.drewN nq).cell? ⟨w.heap.size, 0, none⟩ = some (.int .i64 0) := (blk_cell HU3.out.rs 0).trans rfl
        have z1_ : (W3.drewN nq).cell? ⟨w.heap.size, 1, none⟩ = some (.int .i64 0) := (blk_cell HU3.out.rs 1).trans rfl
        have z2_ : (W3.drewN nq).cell? ⟨w.heap.size, 2, none⟩ = some (.string ⟨#[]⟩) := (blk_cell HU3.out.rs 2).trans rfl
        have z3_ : (W3.drewN nq).cell? ⟨w.heap.size, 3, none⟩ = some (.string ⟨#[]⟩) := (blk_cell HU3.out.rs 3).trans rfl
        have z4_ : (W3.drewN nq).cell? ⟨w.heap.size, 4, none⟩ = some (.slice none 0 0) := (blk_cell HU3.out.rs 4).trans rfl
        have z5_ : (W3.drewN nq).cell? ⟨w.heap.size, 5, none⟩ = some (.slice none 0 0) := (blk_cell HU3.out.rs 5).trans rfl
        have z6_ : (W3.drewN nq).cell? ⟨w.heap.size, 6, none⟩ = some (.slice none 0 0) := (blk_cell HU3.out.rs 6).trans rfl
        go_wp2
        refine bodyPost_ret (results_cell_row rfl _ _ w.heap.size 28 #[.int .i64 3, .int .i64 4, .string ⟨#[]⟩, .string ⟨#[]⟩, .slice none 0 0, .slice none 0 0, .slice none 0 0] (0, 0) _ rfl (blk_put (cs := #[.int .i64 3, .int .i64 4, .string ⟨#[]⟩, .string ⟨#[]⟩, .slice none 0 0, .slice none 0 0, .slice none 0 0]) (blk_put (cs := #[.int .i64 3, .int .i64 4, .string ⟨#[]⟩, .string ⟨#[]⟩, .slice none 0 0, .slice none 0 0, .slice none 0 0]) (blk_put (cs := #[.int .i64 3, .int .i64 4, .string ⟨#[]⟩, .string ⟨#[]⟩, .slice none 0 0, .slice none 0 0, .slice none 0 0]) (blk_put (cs := #[.int .i64 3, .int .i64 4, .string ⟨#[]⟩, .string ⟨#[]⟩, .slice none 0 0, .slice none 0 0, .slice none 0 0]) (blk_put (cs := #[.int .i64 3, .int .i64 4, .string ⟨#[]⟩, .string ⟨#[]⟩, .slice none 0 0, .slice none 0 0, .slice none 0 0]) (blk_put (cs := #[.int .i64 3, .int .i64 0, .string ⟨#[]⟩, .string ⟨#[]⟩, .slice none 0 0, .slice none 0 0, .slice none 0 0]) (blk_put (cs := #[.int .i64 0, .int .i64 0, .string ⟨#[]⟩, .string ⟨#[]⟩, .slice none 0 0, .slice none 0 0, .slice none 0 0]) HU3.out.rs 0 _ rfl) 1 _ rfl) 2 _ rfl) 3 _ rfl) 4 _ rfl) 5 _ rfl) 6 _ rfl) Tryd.underlying28 rfl (by kernel_rfl)) rfl ?_
        rw [← HRES2.out]
        exact UPS.no (below_set (below_set (below_set (below_set (below_set (below_set (below_set (pw_below_drewN HU3.out.be nq) (Nat.le_refl _)) (Nat.le_refl _)) (Nat.le_refl _)) (Nat.le_refl _)) (Nat.le_refl _)) (Nat.le_refl _)) (Nat.le_refl _)) rfl
      · have hle : ¬ x > 64 := hgt
        go_quiet (fail)
        have HU4 := Aside0.mk (HU3.out.below (pw_below_drewN (Below.refl _ _) nq))
        have HM4 := Aside0.mk (blk_drewN HM3.out nq)
        have HN4 := Aside0.mk (blk_drewN HN3.out nq)
        clear cn_ cm_
        go_wp2
        go_roundg 2
        case measure => have := hg.out; omega
        case rel => exact ⟨1, s', x, 0, 0, (by first | rfl | (simp; done)), ⟨by omega⟩, ⟨by omega⟩, HU4, HPS2, HM4, HN4, ⟨⟨HX.out, by omega, rfl, rfl⟩⟩⟩
    · obtain ⟨hc1, ha1, rfl, rfl⟩ := HC.out
      obtain ⟨x, s', hx⟩ : ∃ x s', rWord t s = (x, s') := ⟨_, _, rfl⟩
      have hps : s'.p ≤ t.size := by have := rWord_p t s HPS.out; rw [hx] at this; exact this
      have hw := fun W h => sw_word w W t g s HT.out HPS.out h
      rw [hx] at hw
      dsimp only at hw
      have HX := Aside0.mk hx
      have HPS2 := Aside0.mk hps
      have HW := Aside0.mk hw
      have ca := (blk_cell HU.out.rd.1 1).trans rfl
      clear hx hps hw
      go_wp2_with (fail)
      go_at_call 16
      refine (HW.out _ HU.out).mono ?_
      rintro e W2 ⟨rfl, hu, hk⟩
      have HU2 := Aside0.mk hu
      have HM2 := Aside0.mk (kp_blk hk HM.out (HU.out.ne HM.out (by decide)))
      have HN2 := Aside0.mk (kp_blk hk HN.out (HU.out.ne HN.out (by decide)))
      have cs_ := (blk_cell HN2.out 1).trans rfl
      have fs_ := blk_frozen HN2.out 1
      clear hu hk ca
      go_upto_region 13 with (fail)
      have hu3 := HU2.out.far HN2.out (by decide) (by decide) HGN.out.1 1 (.int .i64 x)
      have hn3 := blk_put HN2.out 1 (.int .i64 x) rfl (cs' := #[.int .i64 a, .int .i64 x, .int .i64 0])
      have hm3 := blk_far HM2.out (p := ⟨gn, 1, none⟩) HGN.out.2 (.int .i64 x)
      generalize W2.setCell ⟨gn, 1, none⟩ (.int .i64 x) = W3 at hu3 hn3 hm3 ⊢
      have HU3 := Aside0.mk hu3
      have HN3 := Aside0.mk hn3
      have HM3 := Aside0.mk hm3
      have cn_ := (blk_cell HN3.out 1).trans rfl
      have cm_ := (blk_cell HM3.out 1).trans rfl
      clear hu3 hn3 hm3 cs_ fs_
      by_cases hgt : x > 128
      · have hres : usNo 3 (s.p : Int) = res := by rw [← HRES.out]; exact (specC_2 hc1 ha1 HX.out (by omega)).symm
        have HRES2 := Aside0.mk hres
        clear hres
        go_quiet (fail)
        have f0_ := blk_frozen HU3.out.rs 0
        have f1_ := blk_frozen HU3.out.rs 1
        have f2_ := blk_frozen HU3.out.rs 2
        have f3_ := blk_frozen HU3.out.rs 3
        have f4_ := blk_frozen HU3.out.rs 4
        have f5_ := blk_frozen HU3.out.rs 5
        have f6_ := blk_frozen HU3.out.rs 6
        have z0_ : (W3.drewN nq).cell? ⟨w.heap.size, 0, none⟩ = some (.int .i64 0) := (blk_cell HU3.out.rs 0).trans rfl
        have z1_ : (W3.drewN nq).cell? ⟨w.heap.size, 1, none⟩ = some (.int .i64 0) := (blk_cell HU3.out.rs 1).trans rfl
        have z2_ : (W3.drewN nq).cell? ⟨w.heap.size, 2, none⟩ = some (.string ⟨#[]⟩) := (blk_cell HU3.out.rs 2).trans rfl
        have z3_ : (W3.drewN nq).cell? ⟨w.heap.size, 3, none⟩ = some (.string ⟨#[]⟩) := (blk_cell HU3.out.rs 3).trans rfl
        have z4_ : (W3.drewN nq).cell? ⟨w.heap.size, 4, none⟩ = some (.slice none 0 0) := (blk_cell HU3.out.rs 4).trans rfl
        have z5_ : (W3.drewN nq).cell? ⟨w.heap.size, 5, none⟩ = some (.slice none 0 0) := (blk_cell HU3.out.rs 5).trans rfl
        have z6_ : (W3.drewN nq).cell? ⟨w.heap.size, 6, none⟩ = some (.slice none 0 0) := (blk_cell HU3.out.rs 6).trans rfl
        go_wp2
        refine bodyPost_ret (results_cell_row rfl _ _ w.heap.size 28 #[.int .i64 3, .int .i64 (s.p : Int), .string ⟨#[]⟩, .string ⟨#[]⟩, .slice none 0 0, .slice none 0 0, .slice none 0 0] (0, 0) _ rfl (blk_put (cs := #[.int .i64 3, .int .i64 (s.p : Int), .string ⟨#[]⟩, .string ⟨#[]⟩, .slice none 0 0, .slice none 0 0, .slice none 0 0]) (blk_put (cs := #[.int .i64 3, .int .i64 (s.p : Int), .string ⟨#[]⟩, .string ⟨#[]⟩, .slice none 0 0, .slice none 0 0, .slice none 0 0]) (blk_put (cs := #[.int .i64 3, .int .i64 (s.p : Int), .string ⟨#[]⟩, .string ⟨#[]⟩, .slice none 0 0, .slice none 0 0, .slice none 0 0]) (blk_put (cs := #[.int .i64 3, .int .i64 (s.p : Int), .string ⟨#[]⟩, .string ⟨#[]⟩, .slice none 0 0, .slice none 0 0, .slice none 0 0]) (blk_put (cs := #[.int .i64 3, .int .i64 (s.p : Int), .string ⟨#[]⟩, .string ⟨#[]⟩, .slice none 0 0, .slice none 0 0, .slice none 0 0]) (blk_put (cs := #[.int .i64 3, .int .i64 0, .string ⟨#[]⟩, .string ⟨#[]⟩, .slice none 0 0, .slice none 0 0, .slice none 0 0]) (blk_put (cs := #[.int .i64 0, .int .i64 0, .string ⟨#[]⟩, .string ⟨#[]⟩, .slice none 0 0, .slice none 0 0, .slice none 0 0]) HU3.out.rs 0 _ rfl) 1 _ rfl) 2 _ rfl) 3 _ rfl) 4 _ rfl) 5 _ rfl) 6 _ rfl) Tryd.underlying28 rfl (by kernel_rfl)) rfl ?_
        rw [← HRES2.out]
        exact UPS.no (below_set (below_set (below_set (below_set (below_set (below_set (below_set (pw_below_drewN HU3.out.be nq) (Nat.le_refl _)) (Nat.le_refl _)) (Nat.le_refl _)) (Nat.le_refl _)) (Nat.le_refl _)) (Nat.le_refl _)) (Nat.le_refl _)) rfl
      · have hle : ¬ x > 128 := hgt
        go_quiet (fail)
        have HU4 := Aside0.mk (HU3.out.below (pw_below_drewN (Below.refl _ _) nq))
        have HM4 := Aside0.mk (blk_drewN HM3.out nq)
        have HN4 := Aside0.mk (blk_drewN HN3.out nq)
        clear cn_ cm_
        go_wp2
        go_roundg 1
        case measure => have := hg.out; omega
        case rel => exact ⟨2, s', a, x, 0, (by first | rfl | (simp; done)), ⟨by omega⟩, ⟨by omega⟩, HU4, HPS2, HM4, HN4, ⟨⟨_, hc1, ha1, HX.out, by omega, rfl⟩⟩⟩
    · obtain ⟨s1, hc1, ha1, hc2, hb1, rfl⟩ := HC.out
      obtain ⟨x, s', hx⟩ : ∃ x s', rWord t s = (x, s') := ⟨_, _, rfl⟩
      have hps : s'.p ≤ t.size := by have := rWord_p t s HPS.out; rw [hx] at this; exact this
      have hw := fun W h => sw_word w W t g s HT.out HPS.out h
      rw [hx] at hw
      dsimp only at hw
      have HX := Aside0.mk hx
      have HPS2 := Aside0.mk hps
      have HW := Aside0.mk hw
      have ca := (blk_cell HU.out.rd.1 1).trans rfl
      clear hx hps hw
      go_wp2_with (fail)
      go_at_call 16
      refine (HW.out _ HU.out).mono ?_
      rintro e W2 ⟨rfl, hu, hk⟩
      have HU2 := Aside0.mk hu
      have HM2 := Aside0.mk (kp_blk hk HM.out (HU.out.ne HM.out (by decide)))
      have HN2 := Aside0.mk (kp_blk hk HN.out (HU.out.ne HN.out (by decide)))
      have cs_ := (blk_cell HN2.out 2).trans rfl
      have fs_ := blk_frozen HN2.out 2
      clear hu hk ca
      go_upto_region 13 with (fail)
      have hu3 := HU2.out.far HN2.out (by decide) (by decide) HGN.out.1 2 (.int .i64 x)
      have hn3 := blk_put HN2.out 2 (.int .i64 x) rfl (cs' := #[.int .i64 a, .int .i64 b, .int .i64 x])
      have hm3 := blk_far HM2.out (p := ⟨gn, 2, none⟩) HGN.out.2 (.int .i64 x)
      generalize W2.setCell ⟨gn, 2, none⟩ (.int .i64 x) = W3 at hu3 hn3 hm3 ⊢
      have HU3 := Aside0.mk hu3
      have HN3 := Aside0.mk hn3
      have HM3 := Aside0.mk hm3
      have cn_ := (blk_cell HN3.out 2).trans rfl
      have cm_ := (blk_cell HM3.out 2).trans rfl
      clear hu3 hn3 hm3 cs_ fs_
      by_cases hgt : x > 8
      · have hres : usNo 3 (s.p : Int) = res := by rw [← HRES.out]; exact (specC_3 hc1 ha1 hc2 hb1 HX.out (by omega)).symm
        have HRES2 := Aside0.mk hres
        clear hres
        go_quiet (fail)
        have f0_ := blk_frozen HU3.out.rs 0
        have f1_ := blk_frozen HU3.out.rs 1
        have f2_ := blk_frozen HU3.out.rs 2
        have f3_ := blk_frozen HU3.out.rs 3
        have f4_ := blk_frozen HU3.out.rs 4
        have f5_ := blk_frozen HU3.out.rs 5
        have f6_ := blk_frozen HU3.out.rs 6
        have z0_ : (W3.drewN nq).cell? ⟨w.heap.size, 0, none⟩ = some (.int .i64 0) := (blk_cell HU3.out.rs 0).trans rfl
        have z1_ : (W3.drewN nq).cell? ⟨w.heap.size, 1, none⟩ = some (.int .i64 0) := (blk_cell HU3.out.rs 1).trans rfl
        have z2_ : (W3.drewN nq).cell? ⟨w.heap.size, 2, none⟩ = some (.string ⟨#[]⟩) := (blk_cell HU3.out.rs 2).trans rfl
        have z3_ : (W3.drewN nq).cell? ⟨w.heap.size, 3, none⟩ = some (.string ⟨#[]⟩) := (blk_cell HU3.out.rs 3).trans rfl
        have z4_ : (W3.drewN nq).cell? ⟨w.heap.size, 4, none⟩ = some (.slice none 0 0) := (blk_cell HU3.out.rs 4).trans rfl
        have z5_ : (W3.drewN nq).cell? ⟨w.heap.size, 5, none⟩ = some (.slice none 0 0) := (blk_cell HU3.out.rs 5).trans rfl
        have z6_ : (W3.drewN nq).cell? ⟨w.heap.size, 6, none⟩ = some (.slice none 0 0) := (blk_cell HU3.out.rs 6).trans rfl
        go_wp2
        refine bodyPost_ret (results_cell_row rfl _ _ w.heap.size 28 #[.int .i64 3, .int .i64 (s.p : Int), .string ⟨#[]⟩, .string ⟨#[]⟩, .slice none 0 0, .slice none 0 0, .slice none 0 0] (0, 0) _ rfl (blk_put (cs := #[.int .i64 3, .int .i64 (s.p : Int), .string ⟨#[]⟩, .string ⟨#[]⟩, .slice none 0 0, .slice none 0 0, .slice none 0 0]) (blk_put (cs := #[.int .i64 3, .int .i64 (s.p : Int), .string ⟨#[]⟩, .string ⟨#[]⟩, .slice none 0 0, .slice none 0 0, .slice none 0 0]) (blk_put (cs := #[.int .i64 3, .int .i64 (s.p : Int), .string ⟨#[]⟩, .string ⟨#[]⟩, .slice none 0 0, .slice none 0 0, .slice none 0 0]) (blk_put (cs := #[.int .i64 3, .int .i64 (s.p : Int), .string ⟨#[]⟩, .string ⟨#[]⟩, .slice none 0 0, .slice none 0 0, .slice none 0 0]) (blk_put (cs := #[.int .i64 3, .int .i64 (s.p : Int), .string ⟨#[]⟩, .string ⟨#[]⟩, .slice none 0 0, .slice none 0 0, .slice none 0 0]) (blk_put (cs := #[.int .i64 3, .int .i64 0, .string ⟨#[]⟩, .string ⟨#[]⟩, .slice none 0 0, .slice none 0 0, .slice none 0 0]) (blk_put (cs := #[.int .i64 0, .int .i64 0, .string ⟨#[]⟩, .string ⟨#[]⟩, .slice none 0 0, .slice none 0 0, .slice none 0 0]) HU3.out.rs 0 _ rfl) 1 _ rfl) 2 _ rfl) 3 _ rfl) 4 _ rfl) 5 _ rfl) 6 _ rfl) Tryd.underlying28 rfl (by kernel_rfl)) rfl ?_
        rw [← HRES2.out]
        exact UPS.no (below_set (below_set (below_set (below_set (below_set (below_set (below_set (pw_below_drewN HU3.out.be nq) (Nat.le_refl _)) (Nat.le_refl _)) (Nat.le_refl _)) (Nat.le_refl _)) (Nat.le_refl _)) (Nat.le_refl _)) (Nat.le_refl _)) rfl
      · have hle : ¬ x > 8 := hgt
        go_quiet (fail)
        have HU4 := Aside0.mk (HU3.out.below (pw_below_drewN (Below.refl _ _) nq))
        have HM4 := Aside0.mk (blk_drewN HM3.out nq)
        have HN4 := Aside0.mk (blk_drewN HN3.out nq)
        clear cn_ cm_
        go_wp2
        go_roundg 0
        case measure => have := hg.out; omega
        case rel => exact ⟨3, s', a, b, x, (by first | rfl | (simp; done)), ⟨by omega⟩, ⟨by omega⟩, HU4, HPS2, HM4, HN4, ⟨⟨_, _, hc1, ha1, hc2, hb1, HX.out, by omega⟩⟩⟩
    · obtain ⟨s1, s2, hc1, ha1, hc2, hb1, hc3, hd1⟩ := HC.out
      have hr1 := rWord_range t ⟨4, none⟩
      have hr2 := rWord_range t s1
      have hr3 := rWord_range t s2
      rw [hc1] at hr1
      rw [hc2] at hr2
      rw [hc3] at hr3
      dsimp only at hr1 hr2 hr3
      obtain ⟨k1, rfl⟩ : ∃ k : Nat, a = (k : Int) := ⟨a.toNat, by omega⟩
      obtain ⟨k2, rfl⟩ : ∃ k : Nat, b = (k : Int) := ⟨b.toNat, by omega⟩
      obtain ⟨k3, rfl⟩ : ∃ k : Nat, c = (k : Int) := ⟨c.toNat, by omega⟩
      have hres := HRES.out
      rw [specC_ok hc1 ha1 hc2 hb1 hc3 hd1] at hres
      have HRES3 := Aside0.mk hres
      have HK1 : Aside0 (k1 ≤ 64) := ⟨by omega⟩
      have HK2 : Aside0 (k2 ≤ 128) := ⟨by omega⟩
      have HK3 : Aside0 (k3 ≤ 8) := ⟨by omega⟩
      obtain ⟨nm, s4, hn4⟩ : ∃ n s', rName t s = (n, s') := ⟨_, _, rfl⟩
      obtain ⟨bk, s5, hn5⟩ : ∃ n s', rName t s4 = (n, s') := ⟨_, _, rfl⟩
      obtain ⟨tb, s6, hn6⟩ : ∃ n s', rTab t k1 s5 = (n, s') := ⟨_, _, rfl⟩
      have hp4 : s4.p ≤ t.size := by have := rName_p t s HPS.out; rw [hn4] at this; exact this
      have hp5 : s5.p ≤ t.size := by have := rName_p t s4 hp4; rw [hn5] at this; exact this
      have hp6 : s6.p ≤ t.size := by have := rTab_p t k1 s5 hp5; rw [hn6] at this; exact this
      have HNM1 : Aside0 (∀ W, SpW w W t g s → Calls Tryd.prog 17 #[.pointer (some ⟨g, 0, none⟩)] W fun e w' => e = .returned (.string nm) ∧ SpW w w' t g s4 ∧ KeepBut W w' g none) := ⟨fun W h => by have := sw_text w W t g s HT.out HPS.out h; rw [hn4] at this; exact this⟩
      have HNM2 : Aside0 (∀ W, SpW w W t g s4 → Calls Tryd.prog 17 #[.pointer (some ⟨g, 0, none⟩)] W fun e w' => e = .returned (.string bk) ∧ SpW w w' t g s5 ∧ KeepBut W w' g none) := ⟨fun W h => by have := sw_text w W t g s4 HT.out hp4 h; rw [hn5] at this; exact this⟩
      have HTAB : Aside0 (∀ W, SpW w W t g s5 → Calls Tryd.prog 18 #[.pointer (some ⟨g, 0, none⟩), .int .i64 (k1 : Int)] W fun e w' => ∃ v, e = .returned v ∧ Kd.R (Kd.int .i64) 2 w' w.heap.size (fun _ => True) v tb ∧ SpW w w' t g s6 ∧ KeepBut W w' g none) := ⟨fun W h => by have := sw_table w W t g s5 k1 (by have := HK1.out; omega) HT.out hp5 h; rw [hn6] at this; exact this⟩
      have HQ : Aside0 (rName t s = (nm, s4) ∧ rName t s4 = (bk, s5) ∧ rTab t k1 s5 = (tb, s6)) := ⟨⟨hn4, hn5, hn6⟩⟩
      have HP6 := Aside0.mk hp6
      clear hr1 hr2 hr3 hc1 ha1 hc2 hb1 hc3 hd1 hres hn4 hn5 hn6 hp4 hp5 hp6 hi hg HC
      go_wp2_with (fail)
      have hua := HU.out.below (below_alloc (Below.refl _ _) (Obj.cells #[.string ⟨#[]⟩, .string ⟨#[]⟩, .slice none 0 0, .slice none 0 0, .slice none 0 0] 26))
      have hma := blk_new wr (Obj.cells #[.string ⟨#[]⟩, .string ⟨#[]⟩, .slice none 0 0, .slice none 0 0, .slice none 0 0] 26)
      have hna := blk_alloc HN.out (Obj.cells #[.string ⟨#[]⟩, .string ⟨#[]⟩, .slice none 0 0, .slice none 0 0, .slice none 0 0] 26)
      have hwm : w.heap.size ≤ wr.heap.size := HU.out.be.size
      generalize wr.alloc (Obj.cells #[.string ⟨#[]⟩, .string ⟨#[]⟩, .slice none 0 0, .slice none 0 0, .slice none 0 0] 26) = Wa at hua hma hna ⊢
      obtain ⟨M, hMe⟩ : ∃ b, wr.heap.size = b := ⟨_, rfl⟩
      rw [hMe] at hma hwm ⊢
      have HUa := Aside0.mk hua
      have HMa := Aside0.mk hma
      have HNa := Aside0.mk hna
      have HMW := Aside0.mk hwm
      have HMG : Aside0 (M ≠ g) := ⟨hua.ne hma (by decide)⟩
      have HGG : Aside0 (gn ≠ g) := ⟨hua.ne hna (by decide)⟩
      have HNM : Aside0 (gn ≠ M) := ⟨blk_ne hna hma (by decide)⟩
      clear hua hma hna hwm hMe HU HM HN
      go_at_call 17
      refine (HNM1.out _ HUa.out).mono ?_
      rintro e Wb ⟨rfl, hu, hk⟩
      have HUb := Aside0.mk hu
      have HMb := Aside0.mk (kp_blk hk HMa.out HMG.out)
      have HNb := Aside0.mk (kp_blk hk HNa.out HGG.out)
      have c_ := (blk_cell HMb.out 0).trans rfl
      have f_ := blk_frozen HMb.out 0
      clear hu hk HUa HMa HNa HNM1
      go_upto_region 17 with (fail)
      have hu := HUb.out.far HMb.out (by decide) (by decide) HMW.out 0 (.string nm)
      have hm := blk_put HMb.out 0 (.string nm) rfl (cs' := #[.string nm, .string ⟨#[]⟩, .slice none 0 0, .slice none 0 0, .slice none 0 0])
      have hn := blk_far HNb.out (p := ⟨M, 0, none⟩) HNM.out (.string nm)
      generalize Wb.setCell ⟨M, 0, none⟩ (.string nm) = Wc at hu hm hn ⊢
      have HUc := Aside0.mk hu
      have HMc := Aside0.mk hm
      have HNc := Aside0.mk hn
      clear hu hm hn c_ f_ HUb HMb HNb
      go_wp2_with (fail)
      go_at_call 17
      refine (HNM2.out _ HUc.out).mono ?_
      rintro e Wd ⟨rfl, hu, hk⟩
      have HUd := Aside0.mk hu
      have HMd := Aside0.mk (kp_blk hk HMc.out HMG.out)
      have HNd := Aside0.mk (kp_blk hk HNc.out HGG.out)
      have c_ := (blk_cell HMd.out 1).trans rfl
      have f_ := blk_frozen HMd.out 1
      clear hu hk HUc HMc HNc HNM2
      go_upto_region 18 with (fail)
      have hu := HUd.out.far HMd.out (by decide) (by decide) HMW.out 1 (.string bk)
      have hm := blk_put HMd.out 1 (.string bk) rfl (cs' := #[.string nm, .string bk, .slice none 0 0, .slice none 0 0, .slice none 0 0])
      have hn := blk_far HNd.out (p := ⟨M, 1, none⟩) HNM.out (.string bk)
      generalize Wd.setCell ⟨M, 1, none⟩ (.string bk) = We at hu hm hn ⊢
      have HUe := Aside0.mk hu
      have HMe := Aside0.mk hm
      have HNe := Aside0.mk hn
      have cn_ := (blk_cell HNe.out 0).trans rfl
      clear hu hm hn c_ f_ HUd HMd HNd
      go_wp2_with (fail)
      go_at_call 18
      refine (HTAB.out _ HUe.out).mono ?_
      rintro e Wf ⟨vT, rfl, hr, hu, hk⟩
      obtain ⟨AT, cT, rfl⟩ := Kd.R_slice hr
      have HUf := Aside0.mk hu
      have HMf := Aside0.mk (kp_blk hk HMe.out HMG.out)
      have HNf := Aside0.mk (kp_blk hk HNe.out HGG.out)
      have HTf := Aside0.mk hr
      have c_ := (blk_cell HMf.out 2).trans rfl
      have f_ := blk_frozen HMf.out 2
      clear hu hk hr cn_ HUe HMe HNe HTAB
      go_wp2_with (fail)
      have hu := HUf.out.far HMf.out (by decide) (by decide) HMW.out 2 (.slice AT tb.length cT)
      have hm := blk_put HMf.out 2 (.slice AT tb.length cT) rfl (cs' := #[.string nm, .string bk, .slice AT tb.length cT, .slice none 0 0, .slice none 0 0])
      have hn := blk_far HNf.out (p := ⟨M, 2, none⟩) HNM.out (.slice AT tb.length cT)
      have ht := k_far (j := 2) HTf.out HMf.out (by decide) (.slice AT tb.length cT)
      generalize Wf.setCell ⟨M, 2, none⟩ (.slice AT tb.length cT) = Wg at hu hm hn ht ⊢
      have HU7 := Aside0.mk hu
      have HM7 := Aside0.mk hm
      have HG7 := Aside0.mk hn
      have HT7 := Aside0.mk ht
      clear hu hm hn ht c_ f_ HUf HMf HNf HTf
      go_loopg [9] k2 (fun gq v9 wr => ∃ (j : Nat) (xs : List ByteArray) (sx : RS) (vD : Value), v9 = .int .i64 j ∧ Aside0 (j ≤ k2) ∧ Aside0 (k2 - j ≤ gq) ∧ Aside0 (SpW w wr t g sx) ∧ Aside0 (sx.p ≤ t.size) ∧ Aside0 (wr.heap[gn]? = some (.cells #[.int .i64 (k1 : Int), .int .i64 (k2 : Int), .int .i64 (k3 : Int)] 2 (0, 0))) ∧ Aside0 (wr.heap[M]? = some (.cells #[.string nm, .string bk, .slice AT tb.length cT, vD, .slice none 0 0] 26 (0, 0))) ∧ Aside0 (Kd.R (Kd.int .i64) 2 wr w.heap.size (fun _ => True) (.slice AT tb.length cT) tb) ∧ Aside0 (Kd.R Kd.string 9 wr w.heap.size (fun _ => True) vD xs) ∧ Aside0 (xs.length = j) ∧ Aside0 (rDat t k2 s6 = (xs ++ (rDat t (k2 - j) sx).1, (rDat t (k2 - j) sx).2)))
      case atStart => exact ⟨0, [], s6, .slice none 0 0, rfl, ⟨Nat.zero_le _⟩, ⟨by omega⟩, HU7, HP6, HG7, HM7, HT7, ⟨Kd.R_nil _ _ _ _ _⟩, ⟨rfl⟩, ⟨rfl⟩⟩
      case round =>
        clear HU7 HM7 HG7 HT7
        obtain ⟨j, xs, sx, vD, rfl, hj, hg, HU, HPX, HG, HM, HTT, HRD, hx, HE⟩ := hrel
        have cn_ := (blk_cell HG.out 1).trans rfl
        by_cases hlt : j < k2
        · have hltz : (j : Int) < (k2 : Int) := by omega
          obtain ⟨AD, cD, rfl⟩ := Kd.R_slice HRD.out
          have hT := fun W h => sw_take w W t g sx 16 (by decide) HT.out HPX.out h
          have hP2 := rTake_p t sx 16 HPX.out
          have hstep : rDat t (k2 - j) sx = ((rTake t sx 16).1 :: (rDat t (k2 - (j + 1)) (rTake t sx 16).2).1, (rDat t (k2 - (j + 1)) (rTake t sx 16).2).2) := by rw [show k2 - j = (k2 - (j + 1)) + 1 from by omega]; rfl
          have hE := HE.out
          rw [hstep] at hE
          obtain ⟨x, hx0⟩ : ∃ x, rTake t sx 16 = x := ⟨_, rfl⟩
          rw [hx0] at hT hP2 hE
          obtain ⟨p, s2x⟩ := x
          dsimp only at hP2
          have HTK : Aside0 (∀ W, SpW w W t g sx → Calls Tryd.prog 15 #[.pointer (some ⟨g, 0, none⟩), .int .i64 16] W fun e w' => e = .returned (.string p) ∧ SpW w w' t g s2x ∧ KeepBut W w' g none) := ⟨fun W h => hT W h⟩
          have HP2 := Aside0.mk hP2
          have HE2 : Aside0 (rDat t k2 s6 = ((xs ++ [p]) ++ (rDat t (k2 - (j + 1)) s2x).1, (rDat t (k2 - (j + 1)) s2x).2)) := ⟨by rw [hE, List.append_assoc]; rfl⟩
          obtain ⟨y9, hy9⟩ : ∃ y, xs ++ [p] = y := ⟨_, rfl⟩
          have HY9 := Aside0.mk hy9
          rw [hy9] at HE2
          clear hy9
          have HXL : Aside0 (xs.length ≤ 1000) := ⟨by have := hx.out; have := HK2.out; omega⟩
          have HUd : Aside0 (SpW w wr.drew t g sx) := ⟨HU.out.below (below_drew (Below.refl _ _))⟩
          have HMd : Aside0 (wr.drew.heap[M]? = some (.cells #[.string nm, .string bk, .slice AT tb.length cT, .slice AD xs.length cD, .slice none 0 0] 26 (0, 0))) := ⟨HM.out⟩
          have HGd : Aside0 (wr.drew.heap[gn]? = some (.cells #[.int .i64 (k1 : Int), .int .i64 (k2 : Int), .int .i64 (k3 : Int)] 2 (0, 0))) := ⟨HG.out⟩
          have HRd : Aside0 (Kd.R Kd.string 9 wr.drew w.heap.size (fun _ => True) (.slice AD xs.length cD) xs) := ⟨Kd.R_drew HRD.out⟩
          have HTd : Aside0 (Kd.R (Kd.int .i64) 2 wr.drew w.heap.size (fun _ => True) (.slice AT tb.length cT) tb) := ⟨Kd.R_drew HTT.out⟩
          clear hT hP2 hE hx0 hstep HU HM HG HRD HTT
          go_upto_region 22 with (fail)
          clear cn_
          refine start_ (n := 8) (S := fun w' => w'.cell? ⟨M, 3, none⟩ = some (.slice AD xs.length cD)) (ds := [7]) #[false, false, false, false, false, false, false, false] (by kernel_rfl) rfl rfl ((blk_cell HMd.out 3).trans rfl) (fun hHeld => ?_)
          refine with_tabW spec_UnpackImage.tab22 spec_UnpackImage.bits22 (fun HT_ HW_ => ?_)
          refine pure_ (i := 0) (N := some 71) (v := ?_) (a' := ?_) #[true, false, false, false, false, false, false, false] rfl rfl (any_of HT_.out (by kernel_rfl)) (fun _ _ _ h => h) (Or.inl ⟨by rfl, ?_⟩) ?_ ?_
          rotate_left
          · intro w'
            go_simp
            with_reducible rfl
          rotate_left
          · simp only [Act.put, List.setIfInBounds_toArray, List.set_cons_zero, List.set_cons_succ, i64_w, i32_w]
            rfl
          refine pure_ (i := 2) (N := some 73) (v := ?_) (a' := ?_) #[true, false, true, false, false, false, false, false] rfl rfl (any_of HT_.out (by kernel_rfl)) (fun _ _ _ h => h) (Or.inl ⟨by rfl, ?_⟩) ?_ ?_
          rotate_left
          · intro w'
            go_simp
            with_reducible rfl
          rotate_left
          · simp only [Act.put, List.setIfInBounds_toArray, List.set_cons_zero, List.set_cons_succ, i64_w, i32_w]
            rfl
          refine take_ (i := 1) (N := some 72) (v := ?_) (a' := ?_) #[true, true, true, false, false, false, false, false] rfl rfl (take_ofW HT_.out HW_.out (by kernel_rfl)) (fun _ _ _ h => h) (Or.inl ⟨by rfl, ?_⟩) hHeld ?_ ?_
          rotate_left
          · intro w' s0
            go_simp
            with_reducible rfl
          rotate_left
          · simp only [Act.put, List.setIfInBounds_toArray, List.set_cons_zero, List.set_cons_succ, i64_w, i32_w]
            rfl
          refine one_ (i := 3) (N := some 74) #[true, true, true, true, false, false, false, false] rfl rfl (one_of HT_.out (by kernel_rfl)) (by decide) (fun K hK => ?_)
          refine goes_ (N := some 74) Tryd.func15 (by kernel_rfl) rfl #[.pointer (some ⟨g, 0, none⟩), .int .i64 16] (by rfl) rfl rfl (by simp only [List.map_toArray, List.map_cons, List.map_nil]; rfl) ?_
          with_reducible refine (HTK.out _ HUd.out).mono ?_
          rintro e w3 ⟨rfl, hs, hk⟩
          refine ⟨_, rfl, ?_⟩
          have HU3_ := Aside0.mk hs
          have HM3_ := Aside0.mk (kp_blk hk HMd.out HMG.out)
          have HG3_ := Aside0.mk (kp_blk hk HGd.out HGG.out)
          have HR3_ := Aside0.mk (k_kp HRd.out HUd.out.rd.1 (by decide) hk)
          have HT3_ := Aside0.mk (k_kp HTd.out HUd.out.rd.1 (by decide) hk)
          clear hs hk
          refine hK.out _ _ ((blk_cell HM3_.out 3).trans rfl) (fun hHeld => ?_)
          clear hK K
          refine norm_ (a' := ?_) ?_ ?_
          rotate_left
          · show Act.put _ (some 74) _ = _
            simp only [Act.put, List.setIfInBounds_toArray, List.set_cons_zero, List.set_cons_succ, i64_w, i32_w]
            rfl
          refine one_ (i := 4) (N := some 75) #[true, true, true, true, true, false, false, false] rfl rfl (one_of HT_.out (by kernel_rfl)) (by decide) (fun K hK => ?_)
          refine value_ (w1 := ?_) (v := ?_) (by rfl) rfl ?_ ?_
          rotate_left 2
          · go_simp
            constructor
            · rfl
            · rfl
          refine hK.out _ _ ((blk_cell (blk_alloc HM3_.out _) 3).trans rfl) (fun hHeld => ?_)
          clear hK K
          refine norm_ (a' := ?_) ?_ ?_
          rotate_left
          · show Act.put _ (some 75) _ = _
            simp only [Act.put, List.setIfInBounds_toArray, List.set_cons_zero, List.set_cons_succ, i64_w, i32_w]
            rfl
          refine one_ (i := 5) (N := some 76) #[true, true, true, true, true, true, false, false] rfl rfl (one_of HT_.out (by kernel_rfl)) (by decide) (fun K hK => ?_)
          refine Kd.R_append_step Kd.string (w0 := w) w.heap.size (by rfl) (.tmp 72) (.tmp 75) 23 9 (.string ⟨#[]⟩) 16 rfl Tryd.underlying23 info_strS rfl (by decide) (by omega) (.slice AD xs.length cD) xs p [.string p] (fun _ => True) (fun _ => False) rfl rfl ?aP (fun _ hk => hk.elim) ?aF ?aO ?aB ?aS ?aL ?_
          case aP => exact rfl
          case aF => exact (fun _ _ => trivial)
          case aO => exact HR3_.out
          case aB => exact HU3_.out.be
          case aS => exact HU3_.out.be.size
          case aL => have := HXL.out; omega
          intro v9 w9 ho hb hg9 hat
          rw [HY9.out] at ho
          obtain ⟨A9, c9, rfl⟩ := Kd.R_slice ho
          have HU9 := Aside0.mk (HU3_.out.grown hg9 hb (by decide) (by decide) (Kd.R_typed HR3_.out))
          have HM9 := Aside0.mk (k_row_keeps HM3_.out hg9 (by decide) (Kd.R_typed HR3_.out))
          have HG9 := Aside0.mk (k_row_keeps HG3_.out hg9 (by decide) (Kd.R_typed HR3_.out))
          have HT9 := Aside0.mk (Kd.R_over' HT3_.out (Kd.R_typed HR3_.out) (by decide) hg9)
          have HR9 := Aside0.mk ho
          have f9_ := blk_frozen HM9.out 3
          clear ho hb hg9 hat
          refine hK.out _ _ ((blk_cell HM9.out 3).trans rfl) (fun hHeld => ?_)
          clear hK K
          refine norm_ (a' := ?_) ?_ ?_
          rotate_left
          · show Act.put _ (some 76) _ = _
            simp only [Act.put, List.setIfInBounds_toArray, List.set_cons_zero, List.set_cons_succ, i64_w, i32_w]
            rfl
          refine pure_ (i := 6) (N := some 77) (v := ?_) (a' := ?_) #[true, true, true, true, true, true, true, false] rfl rfl (any_of HT_.out (by kernel_rfl)) (fun _ _ _ h => h) (Or.inl ⟨by rfl, ?_⟩) ?_ ?_
          rotate_left
          · intro w'
            go_simp
            with_reducible rfl
          rotate_left
          · simp only [Act.put, List.setIfInBounds_toArray, List.set_cons_zero, List.set_cons_succ, i64_w, i32_w]
            rfl
          refine last_ (i := 7) (N := none) #[true, true, true, true, true, true, true, true] rfl rfl (one_of HT_.out (by kernel_rfl)) (by decide) (fun K hK => ?_)
          refine skip_ (w1 := ?_) (by rfl) rfl ?_ ?_
          rotate_left
          · go_simp
            rfl
          refine hK.out _ _ ?_
          clear hK K
          refine done_ (done_of HT_.out (by kernel_rfl)) ?_

          have hlen9 : y9.length = j + 1 := by rw [← HY9.out, List.length_append, hx.out]; rfl
          have HL9 := Aside0.mk hlen9
          have HUe := Aside0.mk (HU9.out.far HM9.out (by decide) (by decide) HMW.out 3 (.slice A9 y9.length c9))
          have HGe := Aside0.mk (blk_far HG9.out (p := ⟨M, 3, none⟩) HNM.out (.slice A9 y9.length c9))
          have HMe := Aside0.mk (blk_put HM9.out 3 (.slice A9 y9.length c9) rfl (cs' := #[.string nm, .string bk, .slice AT tb.length cT, .slice A9 y9.length c9, .slice none 0 0]))
          have HTe := Aside0.mk (k_far (j := 3) HT9.out HM9.out (by decide) (.slice A9 y9.length c9))
          have HRe := Aside0.mk (k_far (j := 3) HR9.out HM9.out (by decide) (.slice A9 y9.length c9))
          clear hlen9
          (try go_wp2)
          go_roundg (k2 - (j + 1))
          case measure => have := hg.out; omega
          case rel => exact ⟨j + 1, y9, s2x, .slice A9 y9.length c9, (by have e9 : wrap64 ((j : Int) + 1) = ((j + 1 : Nat) : Int) := (by have := HK2.out; rw [Go.Proofs.YtoifdnnjdohfmaaDoor.Pl.w64 (by omega) (by omega)]; omega); first | (rw [e9]; done) | (rw [Go.Proofs.YtoifdnnjdohfmaaDoor.Pl.i64w, e9]; done) | (simp only [e9]; done)), ⟨hlt⟩, ⟨by omega⟩, HUe, HP2, HGe, HMe, HTe, HRe, HL9, HE2⟩
        · have hltz : ¬ (j : Int) < (k2 : Int) := by omega
          have hjn : j = k2 := by have := hj.out; omega
          subst hjn
          obtain ⟨AD, cD, rfl⟩ := Kd.R_slice HRD.out
          have hE := HE.out
          rw [Nat.sub_self] at hE
          have HDAT : Aside0 (rDat t j s6 = (xs, sx)) := ⟨by rw [hE]; show (xs ++ [], sx) = _; rw [List.append_nil]⟩
          clear hE HE
          go_wp2_with (fail)
          clear cn_
          go_loopg [10] k3 (fun gq v10 wr => ∃ (i : Nat) (ys : List S47) (sy : RS) (vS : Value), v10 = .int .i64 i ∧ Aside0 (i ≤ k3) ∧ Aside0 (k3 - i ≤ gq) ∧ Aside0 (SpW w wr t g sy) ∧ Aside0 (sy.p ≤ t.size) ∧ Aside0 (wr.heap[gn]? = some (.cells #[.int .i64 (k1 : Int), .int .i64 (j : Int), .int .i64 (k3 : Int)] 2 (0, 0))) ∧ Aside0 (wr.heap[M]? = some (.cells #[.string nm, .string bk, .slice AT tb.length cT, .slice AD xs.length cD, vS] 26 (0, 0))) ∧ Aside0 (Kd.R (Kd.int .i64) 2 wr w.heap.size (fun _ => True) (.slice AT tb.length cT) tb) ∧ Aside0 (Kd.R Kd.string 9 wr w.heap.size (fun _ => True) (.slice AD xs.length cD) xs) ∧ Aside0 (Kd.R k47 47 wr w.heap.size (fun _ => True) vS ys) ∧ Aside0 (ys.length = i) ∧ Aside0 (sSnaps t k1 k3 sx = (ys ++ (sSnaps t k1 (k3 - i) sy).1, (sSnaps t k1 (k3 - i) sy).2)))
          case atStart => exact ⟨0, [], sx, .slice none 0 0, rfl, ⟨Nat.zero_le _⟩, ⟨by omega⟩, HU, HPX, HG, HM, HTT, HRD, ⟨Kd.R_nil _ _ _ _ _⟩, ⟨rfl⟩, ⟨rfl⟩⟩
          case round =>
            clear HU HPX HG HM HTT HRD hx
            obtain ⟨i, ys, sy, vS, rfl, hi, hgi, HU, HPX, HG, HM, HTT, HRD, HSS, hx, HE⟩ := hrel
            have cn_ := (blk_cell HG.out 2).trans rfl
            by_cases hlt : i < k3
            · have hltz2 : (i : Int) < (k3 : Int) := by omega
              obtain ⟨AS, cS, rfl⟩ := Kd.R_slice HSS.out
              obtain ⟨p, sa, hna⟩ : ∃ n s', rName t sy = (n, s') := ⟨_, _, rfl⟩
              obtain ⟨q, sb, hnb⟩ : ∃ n s', rTab t k1 sa = (n, s') := ⟨_, _, rfl⟩
              have hpa : sa.p ≤ t.size := by have := rName_p t sy HPX.out; rw [hna] at this; exact this
              have hpb : sb.p ≤ t.size := by have := rTab_p t k1 sa hpa; rw [hnb] at this; exact this
              have hstep : sSnaps t k1 (k3 - i) sy = (⟨p, q⟩ :: (sSnaps t k1 (k3 - (i + 1)) sb).1, (sSnaps t k1 (k3 - (i + 1)) sb).2) := by
                rw [show k3 - i = (k3 - (i + 1)) + 1 from by omega]
                show ((⟨(rName t sy).1, (rTab t k1 (rName t sy).2).1⟩ : S47) :: (sSnaps t k1 (k3 - (i + 1)) (rTab t k1 (rName t sy).2).2).1, (sSnaps t k1 (k3 - (i + 1)) (rTab t k1 (rName t sy).2).2).2) = _
                rw [hna, hnb]
              have hE := HE.out
              rw [hstep] at hE
              have HNM : Aside0 (∀ W, SpW w W t g sy → Calls Tryd.prog 17 #[.pointer (some ⟨g, 0, none⟩)] W fun e w' => e = .returned (.string p) ∧ SpW w w' t g sa ∧ KeepBut W w' g none) := ⟨fun W h => by have := sw_text w W t g sy HT.out HPX.out h; rw [hna] at this; exact this⟩
              have HTB : Aside0 (∀ W, SpW w W t g sa → Calls Tryd.prog 18 #[.pointer (some ⟨g, 0, none⟩), .int .i64 (k1 : Int)] W fun e w' => ∃ v, e = .returned v ∧ Kd.R (Kd.int .i64) 2 w' w.heap.size (fun _ => True) v q ∧ SpW w w' t g sb ∧ KeepBut W w' g none) := ⟨fun W h => by have := sw_table w W t g sa k1 (by have := HK1.out; omega) HT.out hpa h; rw [hnb] at this; exact this⟩
              have HPB := Aside0.mk hpb
              have HE2 : Aside0 (sSnaps t k1 k3 sx = ((ys ++ [⟨p, q⟩]) ++ (sSnaps t k1 (k3 - (i + 1)) sb).1, (sSnaps t k1 (k3 - (i + 1)) sb).2)) := ⟨by rw [hE, List.append_assoc]; rfl⟩
              obtain ⟨y9, hy9⟩ : ∃ y, ys ++ [⟨p, q⟩] = y := ⟨_, rfl⟩
              have HY9 := Aside0.mk hy9
              rw [hy9] at HE2
              clear hy9
              have HXL : Aside0 (ys.length ≤ 1000) := ⟨by have := hx.out; have := HK3.out; omega⟩
              clear hna hnb hpa hpb hstep hE
              go_wp2_with (fail)
              go_at_call 17
              refine (HNM.out _ HU.out).mono ?_
              rintro e Wb ⟨rfl, hu, hk⟩
              have HUb := Aside0.mk hu
              have HMb := Aside0.mk (kp_blk hk HM.out HMG.out)
              have HNb := Aside0.mk (kp_blk hk HG.out HGG.out)
              have HTb := Aside0.mk (k_kp HTT.out HU.out.rd.1 (by decide) hk)
              have HRb := Aside0.mk (k_kp HRD.out HU.out.rd.1 (by decide) hk)
              have HSb := Aside0.mk (k_kp HSS.out HU.out.rd.1 (by decide) hk)
              clear hu hk cn_ HU HM HG HTT HRD HSS HNM
              go_upto_region 27 with (fail)
              have hu := HUb.out.below (below_alloc (Below.refl _ _) (Obj.cells #[.string p, .slice none 0 0] 47))
              have hm := blk_alloc HMb.out (Obj.cells #[.string p, .slice none 0 0] 47)
              have hn := blk_alloc HNb.out (Obj.cells #[.string p, .slice none 0 0] 47)
              have hq := blk_new Wb (Obj.cells #[.string p, .slice none 0 0] 47)
              have ht := Kd.R_alloc HTb.out (Obj.cells #[.string p, .slice none 0 0] 47)
              have hd := Kd.R_alloc HRb.out (Obj.cells #[.string p, .slice none 0 0] 47)
              have hs := Kd.R_alloc (Kd.R_elderB HSb.out Wb.heap.size (Nat.le_refl _)) (Obj.cells #[.string p, .slice none 0 0] 47)
              have hwb : w.heap.size ≤ Wb.heap.size := HUb.out.be.size
              generalize Wb.alloc (Obj.cells #[.string p, .slice none 0 0] 47) = Wc at hu hm hn hq ht hd hs ⊢
              obtain ⟨B, hB⟩ : ∃ b, Wb.heap.size = b := ⟨_, rfl⟩
              rw [hB] at hq hs hwb ⊢
              have HUc := Aside0.mk hu
              have HMc := Aside0.mk hm
              have HNc := Aside0.mk hn
              have HQc := Aside0.mk hq
              have HTc := Aside0.mk ht
              have HRc := Aside0.mk hd
              have HSc := Aside0.mk hs
              have HWB := Aside0.mk hwb
              have HBG : Aside0 (B ≠ g) := ⟨hu.ne hq (by decide)⟩
              have HMB : Aside0 (M ≠ B) := ⟨blk_ne hm hq (by decide)⟩
              have HNB : Aside0 (gn ≠ B) := ⟨blk_ne hn hq (by decide)⟩
              have cn_ := (blk_cell HNc.out 0).trans rfl
              clear hu hm hn hq ht hd hs hwb hB HUb HMb HNb HTb HRb HSb
              go_wp2_with (fail)
              go_at_call 18
              refine (HTB.out _ HUc.out).mono ?_
              rintro e Wd ⟨vQ, rfl, hr, hu, hk⟩
              obtain ⟨AQ, cQ, rfl⟩ := Kd.R_slice hr
              have HUd := Aside0.mk hu
              have HMd := Aside0.mk (kp_blk hk HMc.out HMG.out)
              have HNd := Aside0.mk (kp_blk hk HNc.out HGG.out)
              have HQd := Aside0.mk (kp_blk hk HQc.out HBG.out)
              have HTd := Aside0.mk (k_kp HTc.out HUc.out.rd.1 (by decide) hk)
              have HRd := Aside0.mk (k_kp HRc.out HUc.out.rd.1 (by decide) hk)
              have HSd := Aside0.mk (Kd.R_mono (Kd.R_keep (g := g) (Kd.R_types HSc.out HUc.out.rd.1 (by decide)) hk (fun _ h => h.2)) (fun _ h => h.1))
              have HVd := Aside0.mk hr
              have c_ := (blk_cell HQd.out 1).trans rfl
              have f_ := blk_frozen HQd.out 1
              clear hu hk hr cn_ HUc HMc HNc HQc HTc HRc HSc HTB
              go_upto_region 28 with (fail)
              have hu := HUd.out.far HQd.out (by decide) (by decide) HWB.out 1 (.slice AQ q.length cQ)
              have hm := blk_far HMd.out (p := ⟨B, 1, none⟩) HMB.out (.slice AQ q.length cQ)
              have hn := blk_far HNd.out (p := ⟨B, 1, none⟩) HNB.out (.slice AQ q.length cQ)
              have hq := blk_put HQd.out 1 (.slice AQ q.length cQ) rfl (cs' := #[.string p, .slice AQ q.length cQ])
              have ht := k_far (j := 1) HTd.out HQd.out (by decide) (.slice AQ q.length cQ)
              have hd := k_far (j := 1) HRd.out HQd.out (by decide) (.slice AQ q.length cQ)
              have hv := k_far (j := 1) HVd.out HQd.out (by decide) (.slice AQ q.length cQ)
              have hs := Kd.R_mono (ok' := fun _ => True) (Kd.R_far (p := ⟨B, 1, none⟩) HSd.out (fun _ hk => hk.2) (.slice AQ q.length cQ)) (fun _ _ => trivial)
              generalize Wd.setCell ⟨B, 1, none⟩ (.slice AQ q.length cQ) = We at hu hm hn hq ht hd hv hs ⊢
              have HUe := Aside0.mk hu
              have HMe := Aside0.mk hm
              have HNe := Aside0.mk hn
              have HQe := Aside0.mk hq
              have HTe := Aside0.mk ht
              have HRe := Aside0.mk hd
              have HVe := Aside0.mk hv
              have HSe := Aside0.mk hs
              clear hu hm hn hq ht hd hv hs c_ f_ HUd HMd HNd HQd HTd HRd HVd HSd
              have cm_ := (blk_cell HMe.out 4).trans rfl
              have cq0_ := (blk_cell HQe.out 0).trans rfl
              have cq1_ := (blk_cell HQe.out 1).trans rfl
              go_wp2_with ((refine Kd.R_append k47 (w0 := w) w.heap.size rfl (.tmp 95) (.tmp 97) 24 47 (.agg #[(.string ⟨#[]⟩), (.slice none 0 0)]) 40 rfl Tryd.underlying24 info_snapS rfl (by decide) (by omega) (.slice AS ys.length cS) ys (⟨p, q⟩ : S47) [.string p, .slice AQ q.length cQ] (fun _ => True) (fun k_ => some k_ = (.slice AQ q.length cQ : Value).ownBlock) rfl rfl ?aP ?aK ?aF ?aO ?aB ?aS ?aL ?_); (case aP => exact k47_mkM _ _ _ (⟨p, q⟩ : S47) (Kd.R_mono (Kd.R_tight rfl HVe.out) (fun _ h_ => h_))); (case aK => exact fun k_ hk_ => ⟨trivial, k_own_ne (Kd.R_typed HVe.out) (Kd.R_typed HSe.out) (by decide) k_ hk_⟩); (case aF => exact fun _ _ => trivial); (case aO => exact HSe.out); (case aB => exact HUe.out.be); (case aS => exact HUe.out.be.size); (case aL => have := HXL.out; omega); (intro v9 w9 ho hb hg9 hat); (rw [HY9.out] at ho); (obtain ⟨A9, c9, rfl⟩ := Kd.R_slice ho); (have HU9 := Aside0.mk (HUe.out.grown hg9 hb (by decide) (by decide) (Kd.R_typed HSe.out))); (have HM9 := Aside0.mk (k_row_keeps HMe.out hg9 (by decide) (Kd.R_typed HSe.out))); (have HN9 := Aside0.mk (k_row_keeps HNe.out hg9 (by decide) (Kd.R_typed HSe.out))); (have HT9 := Aside0.mk (Kd.R_over' HTe.out (Kd.R_typed HSe.out) (by decide) hg9)); (have HR9 := Aside0.mk (Kd.R_over' HRe.out (Kd.R_typed HSe.out) (by decide) hg9)); (have HS9 := Aside0.mk ho); (have c_ := (blk_cell HM9.out 4).trans rfl); (have f_ := blk_frozen HM9.out 4); (clear ho hb hg9 hat cm_ cq0_ cq1_ HUe HMe HNe HQe HTe HRe HVe HSe))
              have hlen9 : y9.length = i + 1 := by rw [← HY9.out, List.length_append, hx.out]; rfl
              have HL9 := Aside0.mk hlen9
              have HUf := Aside0.mk (HU9.out.far HM9.out (by decide) (by decide) HMW.out 4 (.slice A9 y9.length c9))
              have HGf := Aside0.mk (blk_far HN9.out (p := ⟨M, 4, none⟩) (blk_ne HN9.out HM9.out (by decide)) (.slice A9 y9.length c9))
              have HMf := Aside0.mk (blk_put HM9.out 4 (.slice A9 y9.length c9) rfl (cs' := #[.string nm, .string bk, .slice AT tb.length cT, .slice AD xs.length cD, .slice A9 y9.length c9]))
              have HTf := Aside0.mk (k_far (j := 4) HT9.out HM9.out (by decide) (.slice A9 y9.length c9))
              have HRf := Aside0.mk (k_far (j := 4) HR9.out HM9.out (by decide) (.slice A9 y9.length c9))
              have HSf := Aside0.mk (k_far (j := 4) HS9.out HM9.out (by decide) (.slice A9 y9.length c9))
              clear hlen9 c_ f_
              go_roundg (k3 - (i + 1))
              case measure => have := hgi.out; omega
              case rel => exact ⟨i + 1, y9, sb, .slice A9 y9.length c9, (by have e9 : wrap64 ((i : Int) + 1) = ((i + 1 : Nat) : Int) := (by have := HK3.out; rw [Go.Proofs.YtoifdnnjdohfmaaDoor.Pl.w64 (by omega) (by omega)]; omega); first | (rw [e9]; done) | (rw [Go.Proofs.YtoifdnnjdohfmaaDoor.Pl.i64w, e9]; done) | (simp only [e9]; done)), ⟨hlt⟩, ⟨by omega⟩, HUf, HPB, HGf, HMf, HTf, HRf, HSf, HL9, HE2⟩
            · have hltz2 : ¬ (i : Int) < (k3 : Int) := by omega
              have hin : i = k3 := by have := hi.out; omega
              subst hin
              obtain ⟨AS, cS, rfl⟩ := Kd.R_slice HSS.out
              have hE := HE.out
              rw [Nat.sub_self] at hE
              have HSN : Aside0 (sSnaps t k1 i sx = (ys, sy)) := ⟨by rw [hE]; show (ys ++ [], sy) = _; rw [List.append_nil]⟩
              obtain ⟨x, s9, hx9⟩ : ∃ x s', rWord t sy = (x, s') := ⟨_, _, rfl⟩
              have hw := fun W h => sw_word w W t g sy HT.out HPX.out h
              have hp9 : s9.p ≤ t.size := by have := rWord_p t sy HPX.out; rw [hx9] at this; exact this
              rw [hx9] at hw
              dsimp only at hw
              have HW := Aside0.mk hw
              have HP9 := Aside0.mk hp9
              have hres : specR F t nm bk tb xs ys sy = res := by
                have hr := HRES3.out
                unfold specQ at hr
                simp only [HQ.out.1, HQ.out.2.1, HQ.out.2.2, HDAT.out, HSN.out] at hr
                exact hr
              unfold specR at hres
              rw [hx9] at hres
              dsimp only at hres
              have HRES4 := Aside0.mk hres
              have ca_ := (blk_cell HU.out.rd.1 1).trans rfl
              clear hE HE hres hw hx9 hp9
              go_wp2_with (fail)
              go_at_call 16
              refine (HW.out _ HU.out).mono ?_
              rintro e Wb ⟨rfl, hu, hk⟩
              have HUb := Aside0.mk hu
              have HMb := Aside0.mk (kp_blk hk HM.out HMG.out)
              have HTb := Aside0.mk (k_kp HTT.out HU.out.rd.1 (by decide) hk)
              have HRb := Aside0.mk (k_kp HRD.out HU.out.rd.1 (by decide) hk)
              have HSb := Aside0.mk (k_kp HSS.out HU.out.rd.1 (by decide) hk)
              have ca_ := (blk_cell HUb.out.rd.1 1).trans rfl
              have cs_ := (blk_cell HUb.out.rd.1 2).trans rfl
              clear hu hk cn_ HU HM HG HTT HRD HSS HW
              by_cases hsh : sh s9 = true
              · have hres := HRES4.out
                rw [if_pos hsh] at hres
                have HRES2 := Aside0.mk hres
                rw [hsh] at cs_
                clear hres ca_
                have f0_ := blk_frozen HUb.out.rs 0
                have f1_ := blk_frozen HUb.out.rs 1
                have f2_ := blk_frozen HUb.out.rs 2
                have f3_ := blk_frozen HUb.out.rs 3
                have f4_ := blk_frozen HUb.out.rs 4
                have f5_ := blk_frozen HUb.out.rs 5
                have f6_ := blk_frozen HUb.out.rs 6
                have z0_ : Wb.cell? ⟨w.heap.size, 0, none⟩ = some (.int .i64 0) := (blk_cell HUb.out.rs 0).trans rfl
                have z1_ : Wb.cell? ⟨w.heap.size, 1, none⟩ = some (.int .i64 0) := (blk_cell HUb.out.rs 1).trans rfl
                have z2_ : Wb.cell? ⟨w.heap.size, 2, none⟩ = some (.string ⟨#[]⟩) := (blk_cell HUb.out.rs 2).trans rfl
                have z3_ : Wb.cell? ⟨w.heap.size, 3, none⟩ = some (.string ⟨#[]⟩) := (blk_cell HUb.out.rs 3).trans rfl
                have z4_ : Wb.cell? ⟨w.heap.size, 4, none⟩ = some (.slice none 0 0) := (blk_cell HUb.out.rs 4).trans rfl
                have z5_ : Wb.cell? ⟨w.heap.size, 5, none⟩ = some (.slice none 0 0) := (blk_cell HUb.out.rs 5).trans rfl
                have z6_ : Wb.cell? ⟨w.heap.size, 6, none⟩ = some (.slice none 0 0) := (blk_cell HUb.out.rs 6).trans rfl
                go_wp2
                refine bodyPost_ret (results_cell_row rfl _ _ w.heap.size 28 #[.int .i64 3, .int .i64 (t.size : Int), .string ⟨#[]⟩, .string ⟨#[]⟩, .slice none 0 0, .slice none 0 0, .slice none 0 0] (0, 0) _ rfl (blk_put (cs := #[.int .i64 3, .int .i64 (t.size : Int), .string ⟨#[]⟩, .string ⟨#[]⟩, .slice none 0 0, .slice none 0 0, .slice none 0 0]) (blk_put (cs := #[.int .i64 3, .int .i64 (t.size : Int), .string ⟨#[]⟩, .string ⟨#[]⟩, .slice none 0 0, .slice none 0 0, .slice none 0 0]) (blk_put (cs := #[.int .i64 3, .int .i64 (t.size : Int), .string ⟨#[]⟩, .string ⟨#[]⟩, .slice none 0 0, .slice none 0 0, .slice none 0 0]) (blk_put (cs := #[.int .i64 3, .int .i64 (t.size : Int), .string ⟨#[]⟩, .string ⟨#[]⟩, .slice none 0 0, .slice none 0 0, .slice none 0 0]) (blk_put (cs := #[.int .i64 3, .int .i64 (t.size : Int), .string ⟨#[]⟩, .string ⟨#[]⟩, .slice none 0 0, .slice none 0 0, .slice none 0 0]) (blk_put (cs := #[.int .i64 3, .int .i64 0, .string ⟨#[]⟩, .string ⟨#[]⟩, .slice none 0 0, .slice none 0 0, .slice none 0 0]) (blk_put (cs := #[.int .i64 0, .int .i64 0, .string ⟨#[]⟩, .string ⟨#[]⟩, .slice none 0 0, .slice none 0 0, .slice none 0 0]) HUb.out.rs 0 _ rfl) 1 _ rfl) 2 _ rfl) 3 _ rfl) 4 _ rfl) 5 _ rfl) 6 _ rfl) Tryd.underlying28 rfl (by kernel_rfl)) rfl ?_
                rw [← HRES2.out]
                exact UPS.no (below_set (below_set (below_set (below_set (below_set (below_set (below_set HUb.out.be (Nat.le_refl _)) (Nat.le_refl _)) (Nat.le_refl _)) (Nat.le_refl _)) (Nat.le_refl _)) (Nat.le_refl _)) (Nat.le_refl _)) rfl
              · have hres := HRES4.out
                rw [if_neg hsh] at hres
                have HRES5 := Aside0.mk hres
                rw [Bool.eq_false_iff.mpr hsh] at cs_
                clear hres
                by_cases hat : (s9.p : Int) < (t.size : Int)
                · have hres := HRES5.out
                  rw [if_pos hat] at hres
                  have HRES2 := Aside0.mk hres
                  clear hres
                  have f0_ := blk_frozen HUb.out.rs 0
                  have f1_ := blk_frozen HUb.out.rs 1
                  have f2_ := blk_frozen HUb.out.rs 2
                  have f3_ := blk_frozen HUb.out.rs 3
                  have f4_ := blk_frozen HUb.out.rs 4
                  have f5_ := blk_frozen HUb.out.rs 5
                  have f6_ := blk_frozen HUb.out.rs 6
                  have z0_ : Wb.cell? ⟨w.heap.size, 0, none⟩ = some (.int .i64 0) := (blk_cell HUb.out.rs 0).trans rfl
                  have z1_ : Wb.cell? ⟨w.heap.size, 1, none⟩ = some (.int .i64 0) := (blk_cell HUb.out.rs 1).trans rfl
                  have z2_ : Wb.cell? ⟨w.heap.size, 2, none⟩ = some (.string ⟨#[]⟩) := (blk_cell HUb.out.rs 2).trans rfl
                  have z3_ : Wb.cell? ⟨w.heap.size, 3, none⟩ = some (.string ⟨#[]⟩) := (blk_cell HUb.out.rs 3).trans rfl
                  have z4_ : Wb.cell? ⟨w.heap.size, 4, none⟩ = some (.slice none 0 0) := (blk_cell HUb.out.rs 4).trans rfl
                  have z5_ : Wb.cell? ⟨w.heap.size, 5, none⟩ = some (.slice none 0 0) := (blk_cell HUb.out.rs 5).trans rfl
                  have z6_ : Wb.cell? ⟨w.heap.size, 6, none⟩ = some (.slice none 0 0) := (blk_cell HUb.out.rs 6).trans rfl
                  go_wp2
                  refine bodyPost_ret (results_cell_row rfl _ _ w.heap.size 28 #[.int .i64 3, .int .i64 (s9.p : Int), .string ⟨#[]⟩, .string ⟨#[]⟩, .slice none 0 0, .slice none 0 0, .slice none 0 0] (0, 0) _ rfl (blk_put (cs := #[.int .i64 3, .int .i64 (s9.p : Int), .string ⟨#[]⟩, .string ⟨#[]⟩, .slice none 0 0, .slice none 0 0, .slice none 0 0]) (blk_put (cs := #[.int .i64 3, .int .i64 (s9.p : Int), .string ⟨#[]⟩, .string ⟨#[]⟩, .slice none 0 0, .slice none 0 0, .slice none 0 0]) (blk_put (cs := #[.int .i64 3, .int .i64 (s9.p : Int), .string ⟨#[]⟩, .string ⟨#[]⟩, .slice none 0 0, .slice none 0 0, .slice none 0 0]) (blk_put (cs := #[.int .i64 3, .int .i64 (s9.p : Int), .string ⟨#[]⟩, .string ⟨#[]⟩, .slice none 0 0, .slice none 0 0, .slice none 0 0]) (blk_put (cs := #[.int .i64 3, .int .i64 (s9.p : Int), .string ⟨#[]⟩, .string ⟨#[]⟩, .slice none 0 0, .slice none 0 0, .slice none 0 0]) (blk_put (cs := #[.int .i64 3, .int .i64 0, .string ⟨#[]⟩, .string ⟨#[]⟩, .slice none 0 0, .slice none 0 0, .slice none 0 0]) (blk_put (cs := #[.int .i64 0, .int .i64 0, .string ⟨#[]⟩, .string ⟨#[]⟩, .slice none 0 0, .slice none 0 0, .slice none 0 0]) HUb.out.rs 0 _ rfl) 1 _ rfl) 2 _ rfl) 3 _ rfl) 4 _ rfl) 5 _ rfl) 6 _ rfl) Tryd.underlying28 rfl (by kernel_rfl)) rfl ?_
                  rw [← HRES2.out]
                  exact UPS.no (below_set (below_set (below_set (below_set (below_set (below_set (below_set HUb.out.be (Nat.le_refl _)) (Nat.le_refl _)) (Nat.le_refl _)) (Nat.le_refl _)) (Nat.le_refl _)) (Nat.le_refl _)) (Nat.le_refl _)) rfl
                · have hres := HRES5.out
                  rw [if_neg hat] at hres
                  have HRES6 := Aside0.mk hres
                  clear hres
                  have hsl1 : (0 : Int) ≤ (sy.p : Int) := by omega
                  have hsl2 : (sy.p : Int) ≤ (t.size : Int) := by have := HPX.out; omega
                  have hmx := fun W => smix (t.extract 0 sy.p) (by rw [ByteArray.size_extract]; have := HT.out; omega) W
                  have HMX := Aside0.mk hmx
                  clear hmx
                  go_wp2_with (fail)
                  go_at_call 19
                  refine (HMX.out Wb).mono ?_
                  rintro e Wc ⟨rfl, hdr⟩
                  obtain ⟨m, rfl⟩ := hdr.out
                  have HUc := Aside0.mk (HUb.out.below (pw_below_drewN (Below.refl _ _) m))
                  have HMc := Aside0.mk (blk_drewN HMb.out m)
                  have HTc := Aside0.mk (Kd.R_drewN HTb.out m)
                  have HRc := Aside0.mk (Kd.R_drewN HRb.out m)
                  have HSc := Aside0.mk (Kd.R_drewN HSb.out m)
                  clear hdr ca_ cs_
                  generalize Wb.drewN m = Wc at HUc HMc HTc HRc HSc ⊢
                  clear HUb HMb HTb HRb HSb HMX
                  obtain ⟨mx, hmx⟩ : ∃ z, mix7 (t.extract 0 sy.p) = z := ⟨_, rfl⟩
                  have hres := HRES6.out
                  rw [hmx] at hres ⊢
                  by_cases hsm : x = mx
                  · rw [if_pos hsm] at hres
                    have HRES7 := Aside0.mk hres
                    obtain ⟨kf, hkf⟩ := hF nm bk tb xs ys (by have := rName_size t s; rw [HQ.out.1] at this; exact Nat.le_trans this HT.out) (by have := rName_size t s4; rw [HQ.out.2.1] at this; exact Nat.le_trans this HT.out) (by have := rTab_len t k1 s5; rw [HQ.out.2.2] at this; have h2 := HK1.out; dsimp only at this; omega) (by have := rDat_len t j s6; rw [HDAT.out] at this; have h2 := HK2.out; dsimp only at this; omega) (by have := hx.out; have h2 := HK3.out; omega) (fun y hy => by
                      have := sSnaps_ok t k1 i sx
                      rw [HSN.out] at this
                      have h1 := this y hy
                      have h2 := HK1.out
                      have h3 := HT.out
                      exact ⟨Nat.le_trans h1.1 h3, by omega⟩)
                    obtain ⟨fv, hfv⟩ : ∃ f, F nm bk tb xs ys = f := ⟨_, rfl⟩
                    rw [hfv] at hkf
                    have hIF := fun W hT hD hS => spec_ImageFault.calls kf nm bk AT cT tb AD cD xs AS cS ys fv W hT (Kd.R_reads' HTc.out).2.1 hD (Kd.R_reads' HRc.out).2.1 hS (Kd.R_reads' HSc.out).2.1 hkf
                    have HIF := Aside0.mk hIF
                    have HFV := Aside0.mk hfv
                    have m0 : Wc.cell? ⟨M, 0, none⟩ = some (.string nm) := (blk_cell HMc.out 0).trans rfl
                    have m1 : Wc.cell? ⟨M, 1, none⟩ = some (.string bk) := (blk_cell HMc.out 1).trans rfl
                    have m2 : Wc.cell? ⟨M, 2, none⟩ = some (.slice AT tb.length cT) := (blk_cell HMc.out 2).trans rfl
                    have m3 : Wc.cell? ⟨M, 3, none⟩ = some (.slice AD xs.length cD) := (blk_cell HMc.out 3).trans rfl
                    have m4 : Wc.cell? ⟨M, 4, none⟩ = some (.slice AS ys.length cS) := (blk_cell HMc.out 4).trans rfl
                    subst hsm
                    clear hIF hfv hkf hres
                    go_wp2_with (fail)
                    go_at_call 13
                    refine (HIF.out _ (Kd.R_reads' HTc.out).2.2 (Kd.R_reads' HRc.out).2.2 (Kd.R_reads' HSc.out).2.2).mono ?_
                    rintro e Wi ⟨rfl, hb⟩
                    have HUi := Aside0.mk (HUc.out.below hb)
                    have HMi := Aside0.mk (blk_below HMc.out hb)
                    have HTi := Aside0.mk (Kd.R_below HTc.out hb)
                    have HRi := Aside0.mk (Kd.R_below HRc.out hb)
                    have HSi := Aside0.mk (Kd.R_below HSc.out hb)
                    clear hb m0 m1 m2 m3 m4 HUc HMc HTc HRc HSc HIF
                    by_cases hf0 : fv = 0
                    · have hres := HRES7.out
                      rw [HFV.out, if_pos hf0] at hres
                      have HRES2 := Aside0.mk hres
                      subst hf0
                      have m0 : Wi.cell? ⟨M, 0, none⟩ = some (.string nm) := (blk_cell HMi.out 0).trans rfl
                      have m1 : Wi.cell? ⟨M, 1, none⟩ = some (.string bk) := (blk_cell HMi.out 1).trans rfl
                      have m2 : Wi.cell? ⟨M, 2, none⟩ = some (.slice AT tb.length cT) := (blk_cell HMi.out 2).trans rfl
                      have m3 : Wi.cell? ⟨M, 3, none⟩ = some (.slice AD xs.length cD) := (blk_cell HMi.out 3).trans rfl
                      have m4 : Wi.cell? ⟨M, 4, none⟩ = some (.slice AS ys.length cS) := (blk_cell HMi.out 4).trans rfl
                      clear hres
                      have f0_ := blk_frozen HUi.out.rs 0
                      have f1_ := blk_frozen HUi.out.rs 1
                      have f2_ := blk_frozen HUi.out.rs 2
                      have f3_ := blk_frozen HUi.out.rs 3
                      have f4_ := blk_frozen HUi.out.rs 4
                      have f5_ := blk_frozen HUi.out.rs 5
                      have f6_ := blk_frozen HUi.out.rs 6
                      have z0_ : Wi.cell? ⟨w.heap.size, 0, none⟩ = some (.int .i64 0) := (blk_cell HUi.out.rs 0).trans rfl
                      have z1_ : Wi.cell? ⟨w.heap.size, 1, none⟩ = some (.int .i64 0) := (blk_cell HUi.out.rs 1).trans rfl
                      have z2_ : Wi.cell? ⟨w.heap.size, 2, none⟩ = some (.string ⟨#[]⟩) := (blk_cell HUi.out.rs 2).trans rfl
                      have z3_ : Wi.cell? ⟨w.heap.size, 3, none⟩ = some (.string ⟨#[]⟩) := (blk_cell HUi.out.rs 3).trans rfl
                      have z4_ : Wi.cell? ⟨w.heap.size, 4, none⟩ = some (.slice none 0 0) := (blk_cell HUi.out.rs 4).trans rfl
                      have z5_ : Wi.cell? ⟨w.heap.size, 5, none⟩ = some (.slice none 0 0) := (blk_cell HUi.out.rs 5).trans rfl
                      have z6_ : Wi.cell? ⟨w.heap.size, 6, none⟩ = some (.slice none 0 0) := (blk_cell HUi.out.rs 6).trans rfl
                      go_wp2
                      refine bodyPost_ret (results_cell_row rfl _ _ w.heap.size 28 #[.int .i64 0, .int .i64 0, .string nm, .string bk, .slice AT tb.length cT, .slice AD xs.length cD, .slice AS ys.length cS] (0, 0) _ rfl (blk_put (cs := #[.int .i64 0, .int .i64 0, .string nm, .string bk, .slice AT tb.length cT, .slice AD xs.length cD, .slice none 0 0]) (blk_put (cs := #[.int .i64 0, .int .i64 0, .string nm, .string bk, .slice AT tb.length cT, .slice none 0 0, .slice none 0 0]) (blk_put (cs := #[.int .i64 0, .int .i64 0, .string nm, .string bk, .slice none 0 0, .slice none 0 0, .slice none 0 0]) (blk_put (cs := #[.int .i64 0, .int .i64 0, .string nm, .string ⟨#[]⟩, .slice none 0 0, .slice none 0 0, .slice none 0 0]) (blk_put (cs := #[.int .i64 0, .int .i64 0, .string ⟨#[]⟩, .string ⟨#[]⟩, .slice none 0 0, .slice none 0 0, .slice none 0 0]) (blk_put (cs := #[.int .i64 0, .int .i64 0, .string ⟨#[]⟩, .string ⟨#[]⟩, .slice none 0 0, .slice none 0 0, .slice none 0 0]) (blk_put (cs := #[.int .i64 0, .int .i64 0, .string ⟨#[]⟩, .string ⟨#[]⟩, .slice none 0 0, .slice none 0 0, .slice none 0 0]) HUi.out.rs 0 _ rfl) 1 _ rfl) 2 _ rfl) 3 _ rfl) 4 _ rfl) 5 _ rfl) 6 _ rfl) Tryd.underlying28 rfl (by kernel_rfl)) rfl ?_
                      rw [← HRES2.out]
                      exact ⟨_, _, _, rfl, k_far7 HTi.out HUi.out.rs (by decide) _ _ _ _ _ _ _, k_far7 HRi.out HUi.out.rs (by decide) _ _ _ _ _ _ _, k_far7 HSi.out HUi.out.rs (by decide) _ _ _ _ _ _ _, below_set (below_set (below_set (below_set (below_set (below_set (below_set HUi.out.be (Nat.le_refl _)) (Nat.le_refl _)) (Nat.le_refl _)) (Nat.le_refl _)) (Nat.le_refl _)) (Nat.le_refl _)) (Nat.le_refl _)⟩
                    · have hz1 : (fv != 0) = true := bne_iff_ne.mpr hf0
                      have hz2 : (fv == 0) = false := beq_eq_false_iff_ne.mpr hf0
                      have hres := HRES7.out
                      rw [HFV.out, if_neg hf0] at hres
                      have HRES2 := Aside0.mk hres
                      clear hres
                      have f0_ := blk_frozen HUi.out.rs 0
                      have f1_ := blk_frozen HUi.out.rs 1
                      have f2_ := blk_frozen HUi.out.rs 2
                      have f3_ := blk_frozen HUi.out.rs 3
                      have f4_ := blk_frozen HUi.out.rs 4
                      have f5_ := blk_frozen HUi.out.rs 5
                      have f6_ := blk_frozen HUi.out.rs 6
                      have z0_ : Wi.cell? ⟨w.heap.size, 0, none⟩ = some (.int .i64 0) := (blk_cell HUi.out.rs 0).trans rfl
                      have z1_ : Wi.cell? ⟨w.heap.size, 1, none⟩ = some (.int .i64 0) := (blk_cell HUi.out.rs 1).trans rfl
                      have z2_ : Wi.cell? ⟨w.heap.size, 2, none⟩ = some (.string ⟨#[]⟩) := (blk_cell HUi.out.rs 2).trans rfl
                      have z3_ : Wi.cell? ⟨w.heap.size, 3, none⟩ = some (.string ⟨#[]⟩) := (blk_cell HUi.out.rs 3).trans rfl
                      have z4_ : Wi.cell? ⟨w.heap.size, 4, none⟩ = some (.slice none 0 0) := (blk_cell HUi.out.rs 4).trans rfl
                      have z5_ : Wi.cell? ⟨w.heap.size, 5, none⟩ = some (.slice none 0 0) := (blk_cell HUi.out.rs 5).trans rfl
                      have z6_ : Wi.cell? ⟨w.heap.size, 6, none⟩ = some (.slice none 0 0) := (blk_cell HUi.out.rs 6).trans rfl
                      go_wp2
                      refine bodyPost_ret (results_cell_row rfl _ _ w.heap.size 28 #[.int .i64 1, .int .i64 0, .string ⟨#[]⟩, .string ⟨#[]⟩, .slice none 0 0, .slice none 0 0, .slice none 0 0] (0, 0) _ rfl (blk_put (cs := #[.int .i64 1, .int .i64 0, .string ⟨#[]⟩, .string ⟨#[]⟩, .slice none 0 0, .slice none 0 0, .slice none 0 0]) (blk_put (cs := #[.int .i64 1, .int .i64 0, .string ⟨#[]⟩, .string ⟨#[]⟩, .slice none 0 0, .slice none 0 0, .slice none 0 0]) (blk_put (cs := #[.int .i64 1, .int .i64 0, .string ⟨#[]⟩, .string ⟨#[]⟩, .slice none 0 0, .slice none 0 0, .slice none 0 0]) (blk_put (cs := #[.int .i64 1, .int .i64 0, .string ⟨#[]⟩, .string ⟨#[]⟩, .slice none 0 0, .slice none 0 0, .slice none 0 0]) (blk_put (cs := #[.int .i64 1, .int .i64 0, .string ⟨#[]⟩, .string ⟨#[]⟩, .slice none 0 0, .slice none 0 0, .slice none 0 0]) (blk_put (cs := #[.int .i64 1, .int .i64 0, .string ⟨#[]⟩, .string ⟨#[]⟩, .slice none 0 0, .slice none 0 0, .slice none 0 0]) (blk_put (cs := #[.int .i64 0, .int .i64 0, .string ⟨#[]⟩, .string ⟨#[]⟩, .slice none 0 0, .slice none 0 0, .slice none 0 0]) HUi.out.rs 0 _ rfl) 1 _ rfl) 2 _ rfl) 3 _ rfl) 4 _ rfl) 5 _ rfl) 6 _ rfl) Tryd.underlying28 rfl (by kernel_rfl)) rfl ?_
                      rw [← HRES2.out]
                      exact UPS.no (below_set (below_set (below_set (below_set (below_set (below_set (below_set HUi.out.be (Nat.le_refl _)) (Nat.le_refl _)) (Nat.le_refl _)) (Nat.le_refl _)) (Nat.le_refl _)) (Nat.le_refl _)) (Nat.le_refl _)) rfl
                  · rw [if_neg hsm] at hres
                    have HRES2 := Aside0.mk hres
                    have hz1 : (x != mx) = true := bne_iff_ne.mpr hsm
                    have hz2 : (x == mx) = false := beq_eq_false_iff_ne.mpr hsm
                    clear hres
                    have f0_ := blk_frozen HUc.out.rs 0
                    have f1_ := blk_frozen HUc.out.rs 1
                    have f2_ := blk_frozen HUc.out.rs 2
                    have f3_ := blk_frozen HUc.out.rs 3
                    have f4_ := blk_frozen HUc.out.rs 4
                    have f5_ := blk_frozen HUc.out.rs 5
                    have f6_ := blk_frozen HUc.out.rs 6
                    have z0_ : Wc.cell? ⟨w.heap.size, 0, none⟩ = some (.int .i64 0) := (blk_cell HUc.out.rs 0).trans rfl
                    have z1_ : Wc.cell? ⟨w.heap.size, 1, none⟩ = some (.int .i64 0) := (blk_cell HUc.out.rs 1).trans rfl
                    have z2_ : Wc.cell? ⟨w.heap.size, 2, none⟩ = some (.string ⟨#[]⟩) := (blk_cell HUc.out.rs 2).trans rfl
                    have z3_ : Wc.cell? ⟨w.heap.size, 3, none⟩ = some (.string ⟨#[]⟩) := (blk_cell HUc.out.rs 3).trans rfl
                    have z4_ : Wc.cell? ⟨w.heap.size, 4, none⟩ = some (.slice none 0 0) := (blk_cell HUc.out.rs 4).trans rfl
                    have z5_ : Wc.cell? ⟨w.heap.size, 5, none⟩ = some (.slice none 0 0) := (blk_cell HUc.out.rs 5).trans rfl
                    have z6_ : Wc.cell? ⟨w.heap.size, 6, none⟩ = some (.slice none 0 0) := (blk_cell HUc.out.rs 6).trans rfl
                    go_wp2
                    refine bodyPost_ret (results_cell_row rfl _ _ w.heap.size 28 #[.int .i64 10, .int .i64 (sy.p : Int), .string ⟨#[]⟩, .string ⟨#[]⟩, .slice none 0 0, .slice none 0 0, .slice none 0 0] (0, 0) _ rfl (blk_put (cs := #[.int .i64 10, .int .i64 (sy.p : Int), .string ⟨#[]⟩, .string ⟨#[]⟩, .slice none 0 0, .slice none 0 0, .slice none 0 0]) (blk_put (cs := #[.int .i64 10, .int .i64 (sy.p : Int), .string ⟨#[]⟩, .string ⟨#[]⟩, .slice none 0 0, .slice none 0 0, .slice none 0 0]) (blk_put (cs := #[.int .i64 10, .int .i64 (sy.p : Int), .string ⟨#[]⟩, .string ⟨#[]⟩, .slice none 0 0, .slice none 0 0, .slice none 0 0]) (blk_put (cs := #[.int .i64 10, .int .i64 (sy.p : Int), .string ⟨#[]⟩, .string ⟨#[]⟩, .slice none 0 0, .slice none 0 0, .slice none 0 0]) (blk_put (cs := #[.int .i64 10, .int .i64 (sy.p : Int), .string ⟨#[]⟩, .string ⟨#[]⟩, .slice none 0 0, .slice none 0 0, .slice none 0 0]) (blk_put (cs := #[.int .i64 10, .int .i64 0, .string ⟨#[]⟩, .string ⟨#[]⟩, .slice none 0 0, .slice none 0 0, .slice none 0 0]) (blk_put (cs := #[.int .i64 0, .int .i64 0, .string ⟨#[]⟩, .string ⟨#[]⟩, .slice none 0 0, .slice none 0 0, .slice none 0 0]) HUc.out.rs 0 _ rfl) 1 _ rfl) 2 _ rfl) 3 _ rfl) 4 _ rfl) 5 _ rfl) 6 _ rfl) Tryd.underlying28 rfl (by kernel_rfl)) rfl ?_
                    rw [← HRES2.out]
                    exact UPS.no (below_set (below_set (below_set (below_set (below_set (below_set (below_set HUc.out.be (Nat.le_refl _)) (Nat.le_refl _)) (Nat.le_refl _)) (Nat.le_refl _)) (Nat.le_refl _)) (Nat.le_refl _)) (Nat.le_refl _)) rfl
set_option maxHeartbeats 16000000 in
set_option maxRecDepth 100000 in
theorem sup_calls (F : ByteArray → ByteArray → List Int → List ByteArray → List S47 → Int) (hF : FaultIs F) (w : World) (t : ByteArray) (res : USR) (hres : specP F t = res) :
    Calls Tryd.prog 5 #[.string t] w (UPS w res) := by
  have HR0 := Aside0.mk (show (w.alloc (Obj.cells #[.int .i64 0, .int .i64 0, .string ⟨#[]⟩, .string ⟨#[]⟩, .slice none 0 0, .slice none 0 0, .slice none 0 0] 28)).heap[w.heap.size]? = some (.cells #[.int .i64 0, .int .i64 0, .string ⟨#[]⟩, .string ⟨#[]⟩, .slice none 0 0, .slice none 0 0, .slice none 0 0] 28 (0, 0)) from blk_new _ _)
  have HB0 : Aside0 (Below w.heap.size w (w.alloc (Obj.cells #[.int .i64 0, .int .i64 0, .string ⟨#[]⟩, .string ⟨#[]⟩, .slice none 0 0, .slice none 0 0, .slice none 0 0] 28))) := ⟨below_alloc (Below.refl _ _) _⟩
  unfold specP at hres
  by_cases hbig : (t.size : Int) > 65536
  · rw [if_pos hbig] at hres
    have HRES2 := Aside0.mk hres
    clear hres
    go_enter Tryd.func5, Tryd.ntmps5
    go_upto_region 1 with (fail)
    generalize (w.alloc (Obj.cells #[.int .i64 0, .int .i64 0, .string ⟨#[]⟩, .string ⟨#[]⟩, .slice none 0 0, .slice none 0 0, .slice none 0 0] 28)) = W at HR0 HB0 ⊢
    have f0_ := blk_frozen HR0.out 0
    have f1_ := blk_frozen HR0.out 1
    have f2_ := blk_frozen HR0.out 2
    have f3_ := blk_frozen HR0.out 3
    have f4_ := blk_frozen HR0.out 4
    have f5_ := blk_frozen HR0.out 5
    have f6_ := blk_frozen HR0.out 6
    have z0_ : W.cell? ⟨w.heap.size, 0, none⟩ = some (.int .i64 0) := (blk_cell HR0.out 0).trans rfl
    have z1_ : W.cell? ⟨w.heap.size, 1, none⟩ = some (.int .i64 0) := (blk_cell HR0.out 1).trans rfl
    have z2_ : W.cell? ⟨w.heap.size, 2, none⟩ = some (.string ⟨#[]⟩) := (blk_cell HR0.out 2).trans rfl
    have z3_ : W.cell? ⟨w.heap.size, 3, none⟩ = some (.string ⟨#[]⟩) := (blk_cell HR0.out 3).trans rfl
    have z4_ : W.cell? ⟨w.heap.size, 4, none⟩ = some (.slice none 0 0) := (blk_cell HR0.out 4).trans rfl
    have z5_ : W.cell? ⟨w.heap.size, 5, none⟩ = some (.slice none 0 0) := (blk_cell HR0.out 5).trans rfl
    have z6_ : W.cell? ⟨w.heap.size, 6, none⟩ = some (.slice none 0 0) := (blk_cell HR0.out 6).trans rfl
    go_wp2
    refine bodyPost_ret (results_cell_row rfl _ _ w.heap.size 28 #[.int .i64 2, .int .i64 0, .string ⟨#[]⟩, .string ⟨#[]⟩, .slice none 0 0, .slice none 0 0, .slice none 0 0] (0, 0) _ rfl (blk_put (cs := #[.int .i64 2, .int .i64 0, .string ⟨#[]⟩, .string ⟨#[]⟩, .slice none 0 0, .slice none 0 0, .slice none 0 0]) (blk_put (cs := #[.int .i64 2, .int .i64 0, .string ⟨#[]⟩, .string ⟨#[]⟩, .slice none 0 0, .slice none 0 0, .slice none 0 0]) (blk_put (cs := #[.int .i64 2, .int .i64 0, .string ⟨#[]⟩, .string ⟨#[]⟩, .slice none 0 0, .slice none 0 0, .slice none 0 0]) (blk_put (cs := #[.int .i64 2, .int .i64 0, .string ⟨#[]⟩, .string ⟨#[]⟩, .slice none 0 0, .slice none 0 0, .slice none 0 0]) (blk_put (cs := #[.int .i64 2, .int .i64 0, .string ⟨#[]⟩, .string ⟨#[]⟩, .slice none 0 0, .slice none 0 0, .slice none 0 0]) (blk_put (cs := #[.int .i64 2, .int .i64 0, .string ⟨#[]⟩, .string ⟨#[]⟩, .slice none 0 0, .slice none 0 0, .slice none 0 0]) (blk_put (cs := #[.int .i64 0, .int .i64 0, .string ⟨#[]⟩, .string ⟨#[]⟩, .slice none 0 0, .slice none 0 0, .slice none 0 0]) HR0.out 0 _ rfl) 1 _ rfl) 2 _ rfl) 3 _ rfl) 4 _ rfl) 5 _ rfl) 6 _ rfl) Tryd.underlying28 rfl (by kernel_rfl)) rfl ?_
    rw [← HRES2.out]
    exact UPS.no (below_set (below_set (below_set (below_set (below_set (below_set (below_set HB0.out (Nat.le_refl _)) (Nat.le_refl _)) (Nat.le_refl _)) (Nat.le_refl _)) (Nat.le_refl _)) (Nat.le_refl _)) (Nat.le_refl _)) rfl
  · have ht : t.size ≤ 65536 := by omega
    rw [if_neg hbig] at hres
    by_cases hpre : (rTake t ⟨0, none⟩ 4).1.toList = [73, 77, 71, 49]
    · rw [if_pos hpre] at hres
      have he : (rTake t ⟨0, none⟩ 4).2.e = none := by
        apply Classical.byContradiction
        intro h
        rw [rTake_bad h, ByteArray.toList_eq] at hpre
        exact absurd hpre (by decide)
      obtain ⟨_, h2, h3⟩ := rTake_none he
      have hx : (rTake t ⟨0, none⟩ 4).1 = ⟨#[73, 77, 71, 49]⟩ := by
        apply ByteArray.ext
        apply Array.toList_inj.mp
        rw [← ByteArray.toList_eq]
        exact hpre
      refine sup_go F hF w t ht res hres ?_ (by simpa using h2)
      rw [h3] at hx ⊢
      rw [show t.extract (⟨0, none⟩ : RS).p ((⟨0, none⟩ : RS).p + 4) = _ from hx]
    · rw [if_neg hpre] at hres
      have HRES2 := Aside0.mk hres
      have hU0 : SpW w ((w.alloc (Obj.cells #[.int .i64 0, .int .i64 0, .string ⟨#[]⟩, .string ⟨#[]⟩, .slice none 0 0, .slice none 0 0, .slice none 0 0] 28)).alloc (Obj.cells #[.string t, .int .i64 0, .bool false] 41)) t (w.heap.size + 1) ⟨0, none⟩ := by
        refine ⟨⟨?_, by omega⟩, below_alloc (below_alloc (Below.refl _ _) _) _, blk_alloc HR0.out _⟩
        have := blk_new (w.alloc (Obj.cells #[.int .i64 0, .int .i64 0, .string ⟨#[]⟩, .string ⟨#[]⟩, .slice none 0 0, .slice none 0 0, .slice none 0 0] 28)) (Obj.cells #[.string t, .int .i64 0, .bool false] 41)
        simpa [sh] using this
      have ht4 := fun W h => sw_take w W t (w.heap.size + 1) ⟨0, none⟩ 4 (by decide) ht (Nat.zero_le _) h
      obtain ⟨x, s, hxs⟩ : ∃ x s, rTake t ⟨0, none⟩ 4 = (x, s) := ⟨_, _, rfl⟩
      rw [hxs] at ht4 hpre
      dsimp only at ht4 hpre
      have hz2 : (x.toList == ([73, 77, 71, 49] : List UInt8)) = false := beq_eq_false_iff_ne.mpr hpre
      have HU0 := Aside0.mk hU0
      have HT4 := Aside0.mk ht4
      clear hres hU0 ht4 hxs HB0
      go_enter Tryd.func5, Tryd.ntmps5
      go_wp2_with (fail)
      go_at_call 15
      refine (HT4.out _ HU0.out).mono ?_
      rintro e W ⟨rfl, hu, hk⟩
      have HU := Aside0.mk hu
      clear HU0 HT4 HR0 hk hu
      have f0_ := blk_frozen HU.out.rs 0
      have f1_ := blk_frozen HU.out.rs 1
      have f2_ := blk_frozen HU.out.rs 2
      have f3_ := blk_frozen HU.out.rs 3
      have f4_ := blk_frozen HU.out.rs 4
      have f5_ := blk_frozen HU.out.rs 5
      have f6_ := blk_frozen HU.out.rs 6
      have z0_ : W.cell? ⟨w.heap.size, 0, none⟩ = some (.int .i64 0) := (blk_cell HU.out.rs 0).trans rfl
      have z1_ : W.cell? ⟨w.heap.size, 1, none⟩ = some (.int .i64 0) := (blk_cell HU.out.rs 1).trans rfl
      have z2_ : W.cell? ⟨w.heap.size, 2, none⟩ = some (.string ⟨#[]⟩) := (blk_cell HU.out.rs 2).trans rfl
      have z3_ : W.cell? ⟨w.heap.size, 3, none⟩ = some (.string ⟨#[]⟩) := (blk_cell HU.out.rs 3).trans rfl
      have z4_ : W.cell? ⟨w.heap.size, 4, none⟩ = some (.slice none 0 0) := (blk_cell HU.out.rs 4).trans rfl
      have z5_ : W.cell? ⟨w.heap.size, 5, none⟩ = some (.slice none 0 0) := (blk_cell HU.out.rs 5).trans rfl
      have z6_ : W.cell? ⟨w.heap.size, 6, none⟩ = some (.slice none 0 0) := (blk_cell HU.out.rs 6).trans rfl
      go_wp2
      refine bodyPost_ret (results_cell_row rfl _ _ w.heap.size 28 #[.int .i64 3, .int .i64 0, .string ⟨#[]⟩, .string ⟨#[]⟩, .slice none 0 0, .slice none 0 0, .slice none 0 0] (0, 0) _ rfl (blk_put (cs := #[.int .i64 3, .int .i64 0, .string ⟨#[]⟩, .string ⟨#[]⟩, .slice none 0 0, .slice none 0 0, .slice none 0 0]) (blk_put (cs := #[.int .i64 3, .int .i64 0, .string ⟨#[]⟩, .string ⟨#[]⟩, .slice none 0 0, .slice none 0 0, .slice none 0 0]) (blk_put (cs := #[.int .i64 3, .int .i64 0, .string ⟨#[]⟩, .string ⟨#[]⟩, .slice none 0 0, .slice none 0 0, .slice none 0 0]) (blk_put (cs := #[.int .i64 3, .int .i64 0, .string ⟨#[]⟩, .string ⟨#[]⟩, .slice none 0 0, .slice none 0 0, .slice none 0 0]) (blk_put (cs := #[.int .i64 3, .int .i64 0, .string ⟨#[]⟩, .string ⟨#[]⟩, .slice none 0 0, .slice none 0 0, .slice none 0 0]) (blk_put (cs := #[.int .i64 3, .int .i64 0, .string ⟨#[]⟩, .string ⟨#[]⟩, .slice none 0 0, .slice none 0 0, .slice none 0 0]) (blk_put (cs := #[.int .i64 0, .int .i64 0, .string ⟨#[]⟩, .string ⟨#[]⟩, .slice none 0 0, .slice none 0 0, .slice none 0 0]) HU.out.rs 0 _ rfl) 1 _ rfl) 2 _ rfl) 3 _ rfl) 4 _ rfl) 5 _ rfl) 6 _ rfl) Tryd.underlying28 rfl (by kernel_rfl)) rfl ?_
      rw [← HRES2.out]
      exact UPS.no (below_set (below_set (below_set (below_set (below_set (below_set (below_set HU.out.be (Nat.le_refl _)) (Nat.le_refl _)) (Nat.le_refl _)) (Nat.le_refl _)) (Nat.le_refl _)) (Nat.le_refl _)) (Nat.le_refl _)) rfl

end Go.Proofs.YtoifdnnjdohfmaaDoor.QFnExactUnpackImage
