-- Written for this claim by this session's own driver (wip/xprint.py).
import Derived.Test.YtoifdnnjdohfmaaDoorQFnExactUnpackImagex0
import Derived.Test.YtoifdnnjdohfmaaDoorQFnExactUnpackImagex5
import Derived.Test.YtoifdnnjdohfmaaDoorQFnExactUnpackImagex6
namespace Go.Proofs.YtoifdnnjdohfmaaDoor.QFnExactUnpackImage
open Go.RowKit Go.Proofs.YtoifdnnjdohfmaaDoorW.PrintWords Go.Proofs.YtoifdnnjdohfmaaDoorW.PrintLast Go.Proofs.YtoifdnnjdohfmaaDoorW.PrintMore
attribute [local go_sem] max2_int min2_int max_two min_two max_three min_three max_four min_four   -- for this text's walks alone
set_option linter.unusedVariables false
set_option linter.unusedSimpArgs false

/-! ### impl_UnpackImage: function 6 -/
/-- Only block g has turned, and what has grown. -/
structure KB (w W : World) (g : Nat) : Prop where
  keep : KeepBut w W g none
  os : W.os = w.os
  tape : W.tape = w.tape
  output : W.output = w.output
theorem KB.refl (w : World) (g : Nat) : KB w w g := ⟨KeepBut.refl _ _ _, rfl, rfl, rfl⟩
theorem KB.set_ {w W : World} {g : Nat} (h : KB w W g) (j : Nat) (u : Value) : KB w (W.setCell ⟨g, j, none⟩ u) g := ⟨h.keep.set_ j u, h.os, h.tape, h.output⟩
theorem KB.trans {w W W2 : World} {g : Nat} (h : KB w W g) (k : KB W W2 g) : KB w W2 g := ⟨h.keep.trans k.keep (.inl rfl), k.os.trans h.os, k.tape.trans h.tape, k.output.trans h.output⟩
theorem KB.blk {w W : World} {g g' : Nat} {o : Obj} (h : KB w W g) (hb : w.heap[g']? = some o) (hg : g' ≠ g) : W.heap[g']? = some o := h.keep.blk hb hg (by simp)
theorem kb_drewN {w W : World} {g : Nat} (h : KB w W g) (m : Nat) : KB w (W.drewN m) g := ⟨keep_drewN h.keep m, h.os, h.tape, h.output⟩
theorem kb_alloc {w W : World} {g : Nat} (h : KB w W g) (o : Obj) : KB w (W.alloc o) g := ⟨keep_alloc h.keep o, h.os, h.tape, h.output⟩
theorem KB.below {w W : World} {g B : Nat} (h : KB w W g) (hB : B ≤ g) (hw : B ≤ w.heap.size) : Below B w W := ⟨h.os, h.tape, h.output, h.keep.1, fun k hk => h.keep.2 k (by omega) (by omega) (by simp)⟩
theorem KB.of_below {w W : World} {g : Nat} (h : Below w.heap.size w W) : KB w W g := ⟨KeepBut.of_below h _ _, h.os, h.tape, h.output⟩
theorem uone (W : World) (s : ByteArray) (e : TypeId) : Kd.C Kd.string (W.alloc (Obj.cells #[Value.string s] e)) (some ⟨W.heap.size, 0, none⟩) ([s] : List ByteArray).length [s] := by
  refine ⟨rfl, by simp, fun _ => ⟨⟨W.heap.size, 0, none⟩, rfl, fun j p hj => ⟨[.string p], rfl, rfl, fun i u hu => ?_⟩⟩⟩
  have hj0 : j = 0 := by
    rcases Nat.eq_zero_or_pos j with h | h
    · exact h
    · rw [List.getElem?_eq_none (by simp; omega)] at hj; exact absurd hj (by simp)
  have hi0 : i = 0 := by
    rcases Nat.eq_zero_or_pos i with h | h
    · exact h
    · rw [List.getElem?_eq_none (by simp; omega)] at hu; exact absurd hu (by simp)
  subst hj0
  subst hi0
  simp at hj hu
  subst hj
  subst hu
  simp [Kd.string, Kd.scalar, Addr.add]
theorem uBig (s : ByteArray) : impl_ybig.f 2 [s] = some (decide ((s.size : Int) > 65536)) := by
  unfold impl_ybig.f
  simp only [impl_ybig.l0]
  have e0 : rdOf ByteArray.empty [s] 0 = s := rfl
  have e1 : (([s] : List ByteArray).length : Int) = 1 := rfl
  have e2 : wrap64 (0 + 1) = 1 := by unfold wrap64; omega
  rw [e0, e1, e2, if_pos (by decide), if_pos (by decide), if_pos (by decide)]
  by_cases h : (s.size : Int) > 65536
  · rw [if_pos h, decide_eq_true h]
  · rw [if_neg h, decide_eq_false h, if_neg (by decide)]
theorem ubg (a0 : ByteArray) (W : World) (b : Nat) (hb : b = W.heap.size) : Calls Tryd.prog 20 #[.slice (some ⟨b, 0, none⟩) 1 1] (W.alloc (Obj.cells #[Value.string a0] 9)) fun e w' => e = .returned (.bool (decide ((a0.size : Int) > 65536))) ∧ Below W.heap.size W w' := by
  subst hb
  refine (impl_ybig.calls 2 (some ⟨W.heap.size, 0, none⟩) 1 [a0] _ _ (uone W a0 9) (by simp) (uBig a0)).mono ?_
  rintro e w' ⟨rfl, ⟨m, rfl⟩⟩
  exact ⟨rfl, pw_below_drewN (below_alloc (Below.refl _ _) _) _⟩
open Go.Proofs.YtoifdnnjdohfmaaDoor.Up
def ErrIs (W : World) (ev : Value) : Option (Int × Int) → Prop
  | none => ev = .nilIface
  | some c => ∃ b, ev = .iface 82 (.pointer (some ⟨b, 0, none⟩)) ∧ W.heap[b]? = some (.cells #[.int .i64 c.1, .int .i64 c.2] 86 (0, 0))
def RdSt (w W : World) (g : Nat) (t : ByteArray) (s : RS) : Prop :=
  w.heap.size ≤ g ∧ Below w.heap.size w W ∧ ∃ ev, W.heap[g]? = some (.cells #[.string t, .int .i64 (s.p : Int), ev] 55 (0, 0)) ∧ ErrIs W ev s.e
theorem ErrIs.kb {W W' : World} {g : Nat} {ev : Value} {er : Option (Int × Int)} {cs : Array Value} (h : ErrIs W ev er) (k : KB W W' g) (hg : W.heap[g]? = some (.cells cs 55 (0, 0))) : ErrIs W' ev er := by
  cases er with
  | none => exact h
  | some c =>
    obtain ⟨b, h1, h2⟩ := h
    refine ⟨b, h1, k.blk h2 ?_⟩
    rintro rfl
    rw [hg] at h2
    injection h2 with h2
    injection h2 with _ h2
    exact absurd h2 (by decide)
theorem RdSt.below {w W W' : World} {g : Nat} {t : ByteArray} {s : RS} (h : RdSt w W g t s) (hb : Below W.heap.size W W') : RdSt w W' g t s := by
  obtain ⟨h0, h1, ev, h2, h3⟩ := h
  refine ⟨h0, below_step h1 hb, ev, blk_below h2 hb, ?_⟩
  cases he : s.e with
  | none => rw [he] at h3; exact h3
  | some c =>
    rw [he] at h3
    obtain ⟨b, h4, h5⟩ := h3
    exact ⟨b, h4, blk_below h5 hb⟩
set_option maxHeartbeats 4000000 in
theorem rd_fail (w W : World) (g : Nat) (t : ByteArray) (s : RS) (c a : Int) (h : RdSt w W g t s) :
    Calls Tryd.prog 52 #[.pointer (some ⟨g, 0, none⟩), .int .i64 c, .int .i64 a] W fun e w' => e = .returned (.tuple #[]) ∧ RdSt w w' g t (rFail s c a) ∧ KB W w' g := by
  obtain ⟨p, er⟩ := s
  obtain ⟨h0, h1, ev, h2, h3⟩ := h
  have H1 := Aside0.mk h1
  have H2 := Aside0.mk h2
  have c2 : W.cell? ⟨g, 2, none⟩ = some ev := (blk_cell h2 2).trans rfl
  have f2 := blk_frozen h2 2
  have HG := Aside0.mk h0
  have hlt := blk_lt h2
  have HLT := Aside0.mk hlt
  cases er with
  | some q =>
    obtain ⟨b, rfl, h4⟩ := h3
    have H4 := Aside0.mk h4
    clear h0 h1 h2 h4 hlt
    go_enter Tryd.func52, Tryd.ntmps52
    go_wp2
    ((try simp only [Exit.inBlock, Exit.then]); refine bodyPost_end (results_none rfl _ _ _) rfl ?_)
    exact ⟨rfl, ⟨HG.out, H1.out, _, H2.out, b, rfl, H4.out⟩, KB.refl _ _⟩
  | none =>
    obtain rfl : ev = .nilIface := h3
    have hne : ¬ g = W.heap.size := by omega
    have c2b : (W.alloc (Obj.cells #[.int .i64 c, .int .i64 a] 86)).cell? ⟨g, 2, none⟩ = some .nilIface := (blk_cell (blk_alloc h2 _) 2).trans rfl
    have f2b : (W.alloc (Obj.cells #[.int .i64 c, .int .i64 a] 86)).frozen? ⟨g, 2, none⟩ = false := blk_frozen (blk_alloc h2 _) 2
    clear h0 h1 h2 hlt
    go_enter Tryd.func52, Tryd.ntmps52
    go_wp2
    ((try simp only [Exit.inBlock, Exit.then]); refine bodyPost_end (results_none rfl _ _ _) rfl ?_)
    refine ⟨rfl, ⟨HG.out, below_set (below_alloc H1.out _) HG.out, _, blk_put (blk_alloc H2.out _) 2 _ rfl, W.heap.size, rfl, ?_⟩, (kb_alloc (KB.refl _ _) _).set_ 2 _⟩
    exact blk_far (blk_new W _) (p := ⟨g, 2, none⟩) (fun e => hne e.symm) _
theorem q0 {P : Program} {f : FuncId} {args : Array Value} {W : World} {v : Value} (h : Calls P f args W fun e w' => e = .returned v ∧ Drawn0 W w') : Calls P f args W fun e w' => e = .returned v ∧ ∃ m, w' = W.drewN m := h.mono fun _ _ ⟨he, hd⟩ => ⟨he, hd.out⟩
set_option maxHeartbeats 8000000 in
theorem rd_take (w W : World) (g : Nat) (t : ByteArray) (s : RS) (n : Nat) (hn : n ≤ 255) (ht : t.size ≤ 65536) (hp : s.p ≤ t.size) (h : RdSt w W g t s) :
    Calls Tryd.prog 24 #[.pointer (some ⟨g, 0, none⟩), .int .i64 (n : Int)] W fun e w' => e = .returned (.string (rTake t s n).1) ∧ RdSt w w' g t (rTake t s n).2 ∧ KB W w' g := by
  obtain ⟨p, er⟩ := s
  have HS := Aside0.mk h
  obtain ⟨h0, h1, ev, h2, h3⟩ := h
  have c0 : W.cell? ⟨g, 0, none⟩ = some (.string t) := (blk_cell h2 0).trans rfl
  have c1 : W.cell? ⟨g, 1, none⟩ = some (.int .i64 (p : Int)) := (blk_cell h2 1).trans rfl
  have c2 : W.cell? ⟨g, 2, none⟩ = some ev := (blk_cell h2 2).trans rfl
  have f1 := blk_frozen h2 1
  have H2 := Aside0.mk h2
  have HG := Aside0.mk h0
  have H1 := Aside0.mk h1
  cases er with
  | some q =>
    obtain ⟨b, rfl, h4⟩ := h3
    clear h0 h1 h2 h4
    go_enter Tryd.func24, Tryd.ntmps24
    go_wp2
    go_ret
    exact ⟨rfl, HS.out, KB.refl _ _⟩
  | none =>
    obtain rfl : ev = .nilIface := h3
    have hfit := fun W => impl_yfits.calls (t.size : Int) (p : Int) (n : Int) (decide (p + n ≤ t.size)) W (by
      have hp' : p ≤ t.size := hp
      unfold impl_yfits.f
      rw [if_pos (by omega), if_pos (by omega), if_pos (by omega), Go.Proofs.YtoifdnnjdohfmaaDoor.Pl.w64 (by omega) (by omega)]
      congr 1
      by_cases hh : p + n ≤ t.size
      · rw [decide_eq_true hh, decide_eq_true (by omega)]
      · rw [decide_eq_false hh, decide_eq_false (by omega)])
    have HFIT := Aside0.mk hfit
    clear h0 h1 h2 hfit
    by_cases hh : p + n ≤ t.size
    · have hr : rTake t ⟨p, none⟩ n = (t.extract p (p + n), ⟨p + n, none⟩) := by unfold rTake; exact if_pos hh
      rw [hr]
      rw [decide_eq_true hh] at HFIT
      have w1 : wrap64 ((p : Int) + (n : Int)) = ((p + n : Nat) : Int) := by rw [Go.Proofs.YtoifdnnjdohfmaaDoor.Pl.w64 (by omega) (by omega)]; omega
      have w2 : IntKind.i64.wrap ((p : Int) + (n : Int)) = ((p + n : Nat) : Int) := by rw [Go.Proofs.YtoifdnnjdohfmaaDoor.Pl.i64w]; exact w1
      obtain ⟨q, hq⟩ : ∃ q, p + n = q := ⟨_, rfl⟩
      rw [hq] at w1 w2 hh ⊢
      have hpq : p ≤ q := by omega
      clear hq hr
      go_enter Tryd.func24, Tryd.ntmps24
      go_wp2_with (fail)
      go_quiet ((go_at_call 53; exact Calls.quiet_of (q0 (HFIT.out _))))
      go_wp2_with (fail)
      go_quiet (fail)
      go_wp2
      go_ret
      exact ⟨rfl, ⟨HG.out, below_set (pw_below_drewN H1.out _) HG.out, _, blk_put (blk_below H2.out (pw_below_drewN (Below.refl _ _) _)) 1 _ rfl, rfl⟩, (kb_drewN (KB.refl _ _) _).set_ 1 _⟩
    · have hr : rTake t ⟨p, none⟩ n = (⟨#[]⟩, ⟨p, some (3, (t.size : Int))⟩) := by unfold rTake; exact if_neg hh
      rw [hr]
      rw [decide_eq_false hh] at HFIT
      clear hr hh
      go_enter Tryd.func24, Tryd.ntmps24
      go_wp2_with (fail)
      go_quiet ((go_at_call 53; exact Calls.quiet_of (q0 (HFIT.out _))))
      go_wp2_with (fail)
      go_at_call 52
      refine (rd_fail w _ g t ⟨p, none⟩ 3 (t.size : Int) (HS.out.below (pw_below_drewN (Below.refl _ _) nq))).mono ?_
      rintro e w' ⟨rfl, hs, hk⟩
      have HS2 := Aside0.mk hs
      have HK := Aside0.mk hk
      clear hs hk
      go_wp2
      go_ret
      exact ⟨rfl, HS2.out, (kb_drewN (KB.refl _ _) nq).trans HK.out⟩
theorem rW_word (t : ByteArray) (p : Nat) (h : p + 4 ≤ t.size) : impl_ywordAt.f (t.extract p (p + 4)) 0 = some (rW t p) := by
  have hs : ((t.extract p (p + 4)).size : Int) = 4 := by rw [ByteArray.size_extract]; omega
  have e0 : bt (t.extract p (p + 4)) 0 = bt t (p : Int) := bt_ext t p 4 0 h (by decide)
  have e1 : bt (t.extract p (p + 4)) 1 = bt t ((p + 1 : Nat) : Int) := bt_ext t p 4 1 h (by decide)
  have e2 : bt (t.extract p (p + 4)) 2 = bt t ((p + 2 : Nat) : Int) := bt_ext t p 4 2 h (by decide)
  have e3 : bt (t.extract p (p + 4)) 3 = bt t ((p + 3 : Nat) : Int) := bt_ext t p 4 3 h (by decide)
  have b0 := bt_range t (p : Int); have b1 := bt_range t ((p + 1 : Nat) : Int); have b2 := bt_range t ((p + 2 : Nat) : Int); have b3 := bt_range t ((p + 3 : Nat) : Int)
  unfold impl_ywordAt.f rW
  rw [hs, show wrap64 (0 + 1) = 1 from by unfold wrap64; omega, show wrap64 (0 + 2) = 2 from by unfold wrap64; omega, show wrap64 (0 + 3) = 3 from by unfold wrap64; omega]
  rw [if_pos (by decide), if_pos (by decide), if_pos (by decide), if_pos (by decide), if_pos (by decide), if_pos (by decide), if_pos (by decide), if_pos (by decide), e0, e1, e2, e3]
  generalize bt t (p : Int) = x0 at b0 ⊢
  generalize bt t ((p + 1 : Nat) : Int) = x1 at b1 ⊢
  generalize bt t ((p + 2 : Nat) : Int) = x2 at b2 ⊢
  generalize bt t ((p + 3 : Nat) : Int) = x3 at b3 ⊢
  rw [Go.Proofs.YtoifdnnjdohfmaaDoor.Pl.w64 (a := x0) (by omega) (by omega), Go.Proofs.YtoifdnnjdohfmaaDoor.Pl.w64 (a := x1) (by omega) (by omega), Go.Proofs.YtoifdnnjdohfmaaDoor.Pl.w64 (a := x2) (by omega) (by omega), Go.Proofs.YtoifdnnjdohfmaaDoor.Pl.w64 (a := x3) (by omega) (by omega)]
  rw [Go.Proofs.YtoifdnnjdohfmaaDoor.Pl.w64 (a := x1 * 256) (by omega) (by omega), Go.Proofs.YtoifdnnjdohfmaaDoor.Pl.w64 (a := x2 * 65536) (by omega) (by omega), Go.Proofs.YtoifdnnjdohfmaaDoor.Pl.w64 (a := x3 * 16777216) (by omega) (by omega)]
  rw [Go.Proofs.YtoifdnnjdohfmaaDoor.Pl.or_join' 8 (x1 * 256) x0 (by omega) (by omega) (by omega) (by omega) (by omega) (by omega), Go.Proofs.YtoifdnnjdohfmaaDoor.Pl.or_join' 16 (x2 * 65536) (x0 + x1 * 256) (by omega) (by omega) (by omega) (by omega) (by omega) (by omega), Go.Proofs.YtoifdnnjdohfmaaDoor.Pl.or_join' 24 (x3 * 16777216) _ (by omega) (by omega) (by omega) (by omega) (by omega) (by omega)]
/-- What the reader's error cell holds: nothing, or something. -/
theorem RdSt.blk {w W : World} {g : Nat} {t : ByteArray} {s : RS} (h : RdSt w W g t s) : ∃ cs, W.heap[g]? = some (.cells cs 55 (0, 0)) := by
  obtain ⟨_, _, ev, h2, _⟩ := h
  exact ⟨_, h2⟩
theorem RdSt.err {w W : World} {g : Nat} {t : ByteArray} {s : RS} (h : RdSt w W g t s) : (s.e = none ∧ W.cell? ⟨g, 2, none⟩ = some .nilIface) ∨ (¬ s.e = none ∧ ∃ b, W.cell? ⟨g, 2, none⟩ = some (.iface 82 (.pointer (some ⟨b, 0, none⟩)))) := by
  obtain ⟨_, _, ev, h2, h3⟩ := h
  have c2 : W.cell? ⟨g, 2, none⟩ = some ev := (blk_cell h2 2).trans rfl
  cases he : s.e with
  | none =>
    rw [he] at h3
    obtain rfl : ev = .nilIface := h3
    exact Or.inl ⟨rfl, c2⟩
  | some q =>
    rw [he] at h3
    obtain ⟨b, rfl, _⟩ := h3
    exact Or.inr ⟨by simp, b, c2⟩
theorem RdSt.at1 {w W : World} {g : Nat} {t : ByteArray} {s : RS} (h : RdSt w W g t s) : W.cell? ⟨g, 0, none⟩ = some (.string t) ∧ W.cell? ⟨g, 1, none⟩ = some (.int .i64 (s.p : Int)) := by
  obtain ⟨_, _, ev, h2, h3⟩ := h
  exact ⟨(blk_cell h2 0).trans rfl, (blk_cell h2 1).trans rfl⟩
set_option maxHeartbeats 8000000 in
theorem rd_word (w W : World) (g : Nat) (t : ByteArray) (s : RS) (ht : t.size ≤ 65536) (hp : s.p ≤ t.size) (h : RdSt w W g t s) :
    Calls Tryd.prog 26 #[.pointer (some ⟨g, 0, none⟩)] W fun e w' => e = .returned (.int .i64 (rWord t s).1) ∧ RdSt w w' g t (rWord t s).2 ∧ KB W w' g := by
  have hT := rd_take w W g t s 4 (by decide) ht hp h
  have HN := fun h => rTake_none (t := t) (s := s) (n := 4) h
  have HT := Aside0.mk hT
  have HN' := Aside0.mk HN
  unfold rWord
  obtain ⟨x, hx⟩ : ∃ x, rTake t s 4 = x := ⟨_, rfl⟩
  rw [hx] at HT HN' ⊢
  clear hT HN h hx
  obtain ⟨tx, s2⟩ := x
  obtain ⟨res, hres⟩ : ∃ r, (if s2.e = none then (rW t s.p, s2) else (0, s2)) = r := ⟨_, rfl⟩
  show Calls _ _ _ _ fun e w' => e = .returned (.int .i64 (if s2.e = none then (rW t s.p, s2) else (0, s2)).1) ∧ RdSt w w' g t (if s2.e = none then (rW t s.p, s2) else (0, s2)).2 ∧ KB W w' g
  rw [hres]
  have HRES := Aside0.mk hres
  clear hres
  go_enter Tryd.func26, Tryd.ntmps26
  go_wp2_with (fail)
  go_at_call 24
  refine HT.out.mono ?_
  rintro e w1 ⟨rfl, hs, hk⟩
  have HS := Aside0.mk hs
  have HK := Aside0.mk hk
  rcases hs.err with ⟨he, hc⟩ | ⟨he, b, hc⟩
  · clear hs hk
    obtain ⟨_, hle, hxx⟩ := HN'.out he
    have hw := rW_word t s.p hle
    have htx : tx = t.extract s.p (s.p + 4) := congrArg Prod.fst hxx
    rw [← htx] at hw
    have HW := Aside0.mk hw
    have hres := HRES.out
    rw [if_pos he] at hres
    have HRES := Aside0.mk hres
    clear hxx htx hw he hle hres
    go_wp2_with (fail)
    go_at_call 54
    refine (impl_ywordAt.calls _ _ _ _ HW.out).mono ?_
    rintro e w2 ⟨rfl, ⟨m, rfl⟩⟩
    go_wp2
    go_ret
    rw [← HRES.out]
    exact ⟨rfl, HS.out.below (pw_below_drewN (Below.refl _ _) _), kb_drewN HK.out _⟩
  · clear hs hk
    have hres := HRES.out
    rw [if_neg he] at hres
    have HRES := Aside0.mk hres
    clear he hres
    go_wp2
    go_ret
    rw [← HRES.out]
    exact ⟨rfl, HS.out, HK.out⟩
theorem yinR (a lo hi : Int) : impl_yin.f a lo hi = some (decide (lo ≤ a) && decide (a ≤ hi)) := by
  unfold impl_yin.f
  by_cases h : a ≥ lo
  · rw [if_pos h, decide_eq_true (show lo ≤ a from h)]; rfl
  · rw [if_neg h, decide_eq_false (show ¬ lo ≤ a from h)]; rfl
set_option maxHeartbeats 8000000 in
theorem rd_count (w W : World) (g : Nat) (t : ByteArray) (s : RS) (hi : Int) (ht : t.size ≤ 65536) (hp : s.p ≤ t.size) (h : RdSt w W g t s) :
    Calls Tryd.prog 22 #[.pointer (some ⟨g, 0, none⟩), .int .i64 0, .int .i64 hi] W fun e w' => e = .returned (.int .i64 (rCount t s hi).1) ∧ RdSt w w' g t (rCount t s hi).2 ∧ KB W w' g := by
  have hT := rd_word w W g t s ht hp h
  have hR := rWord_range t s
  have HT := Aside0.mk hT
  have HS0 := Aside0.mk h
  obtain ⟨res, hres⟩ : ∃ r, rCount t s hi = r := ⟨_, rfl⟩
  rw [hres]
  unfold rCount at hres
  obtain ⟨x, hx⟩ : ∃ x, rWord t s = x := ⟨_, rfl⟩
  rw [hx] at HT hres hR
  have HRES := Aside0.mk hres
  obtain ⟨c0, c1⟩ := h.at1
  obtain ⟨n, s2⟩ := x
  dsimp only at hR
  have hin := fun W => impl_yin.calls n 0 hi (decide (n ≤ hi)) W (by rw [yinR, decide_eq_true hR.1]; rfl)
  have HIN := Aside0.mk hin
  clear hT h hx hres hin hR
  go_enter Tryd.func22, Tryd.ntmps22
  go_wp2_with (fail)
  go_at_call 26
  refine HT.out.mono ?_
  rintro e w1 ⟨rfl, hs, hk⟩
  have HS := Aside0.mk hs
  have HK := Aside0.mk hk
  rcases hs.err with ⟨he, hc⟩ | ⟨he, b, hc⟩
  · clear hs hk
    have hres := HRES.out
    rw [if_pos he] at hres
    by_cases hle : n ≤ hi
    · rw [if_pos hle] at hres
      have HRES := Aside0.mk hres
      rw [decide_eq_true hle] at HIN
      clear he hle hres
      go_wp2_with (fail)
      go_at_call 51
      refine (HIN.out _).mono ?_
      rintro e w2 ⟨rfl, ⟨m, rfl⟩⟩
      go_wp2
      go_ret
      rw [← HRES.out]
      exact ⟨rfl, HS.out.below (pw_below_drewN (Below.refl _ _) _), kb_drewN HK.out _⟩
    · rw [if_neg hle] at hres
      have HRES := Aside0.mk hres
      rw [decide_eq_false hle] at HIN
      clear he hle hres
      go_wp2_with (fail)
      go_at_call 51
      refine (HIN.out _).mono ?_
      rintro e w2 ⟨rfl, ⟨m, rfl⟩⟩
      go_wp2_with (fail)
      go_at_call 52
      refine (rd_fail w _ g t s2 3 (s.p : Int) (HS.out.below (pw_below_drewN (Below.refl _ _) _))).mono ?_
      rintro e w3 ⟨rfl, hs3, hk3⟩
      have HS3 := Aside0.mk hs3
      have HK3 := Aside0.mk hk3
      rcases hs3.err with ⟨he3, hc3⟩ | ⟨he3, b3, hc3⟩
      · exfalso
        unfold rFail at he3
        cases h9 : s2.e with
        | none => rw [h9] at he3; exact absurd he3 (by simp)
        | some q => rw [h9] at he3; rw [h9] at he3; exact absurd he3 (by simp)
      · clear hs3 hk3 he3
        go_wp2
        go_ret
        rw [← HRES.out]
        exact ⟨rfl, HS3.out, (kb_drewN HK.out _).trans HK3.out⟩
  · clear hs hk
    have hres := HRES.out
    rw [if_neg he] at hres
    have HRES := Aside0.mk hres
    clear he hres
    go_wp2
    go_ret
    rw [← HRES.out]
    exact ⟨rfl, HS.out, HK.out⟩
open Go.Proofs.YtoifdnnjdohfmaaDoor.Pl Go.Proofs.YtoifdnnjdohfmaaDoor.Cw in
theorem impl_mix_ends (s : ByteArray) (hs : (s.size : Int) ≤ 140737488351232) (x : Int) (d : Nat) : ∀ i : Nat, i + d = s.size → Ev (fun k => impl_ymix.l0 k s (mixFrom s x i) s.size i) (mixEnd (mixFrom s x s.size)) := by
  induction d with
  | zero =>
    intro i hi
    obtain rfl : i = s.size := by omega
    exact Ev.step (f := fun _ => some (mixEnd (mixFrom s x s.size))) (fun k => by simp only [impl_ymix.l0]; rw [if_neg (by omega)]; rfl) (Ev.now _)
  | succ d ih =>
    intro i hi
    refine Ev.step (fun k => ?_) (ih (i + 1) (by omega))
    simp only [impl_ymix.l0]
    rw [if_pos (by omega), if_pos (by omega), if_pos (by omega), w64 (a := (i : Int) + 1) (by omega) (by omega)]
    have e1 : ((i : Int) + 1) = ((i + 1 : Nat) : Int) := by omega
    rw [e1]; rfl
open Go.Proofs.YtoifdnnjdohfmaaDoor.Pl Go.Proofs.YtoifdnnjdohfmaaDoor.Cw in
theorem impl_ymod_eq (a m : Int) (hm : 0 < m) (hm1 : m ≤ 4611686018427387904) : impl_ymod.f a m = some (a % m) := by
  unfold impl_ymod.f; rw [if_neg (by omega)]; exact go_mod a m hm hm1
open Go.Proofs.YtoifdnnjdohfmaaDoor.Pl Go.Proofs.YtoifdnnjdohfmaaDoor.Cw in
theorem impl_ymix_ev (s : ByteArray) (seed : Int) (hs : (s.size : Int) ≤ 140737488351232) : Ev (fun k => impl_ymix.f k s seed) (mixOf s seed) := by
  have h0 := Int.emod_nonneg seed (show (2147483629:Int) ≠ 0 by decide)
  have h1 := Int.emod_lt_of_pos seed (show (0:Int) < 2147483629 by decide)
  refine Ev.congr (f := fun k => impl_ymix.l0 k s (mixFrom s (seed % 2147483629 + 1) 0) s.size (0 : Nat)) (fun k => ?_) (impl_mix_ends s hs _ s.size 0 (by omega))
  unfold impl_ymix.f
  rw [impl_ymod_eq _ _ (by omega) (by omega)]
  simp only [Option.bind_some]
  rw [w64 (by omega) (by omega)]; rfl
theorem mix7_calls (s : ByteArray) (hs : s.size ≤ 65536) (W : World) : Calls Tryd.prog 41 #[.string s, .int .i64 7] W fun e w' => e = .returned (.int .i64 (mix7 s)) ∧ Drawn0 W w' := by
  obtain ⟨k, hk⟩ := (impl_ymix_ev s 7 (by omega)).rounds
  exact impl_ymix.calls k s 7 _ W hk
set_option maxHeartbeats 8000000 in
theorem rd_end (w W : World) (g : Nat) (t : ByteArray) (s : RS) (ht : t.size ≤ 65536) (hp : s.p ≤ t.size) (h : RdSt w W g t s) :
    Calls Tryd.prog 27 #[.pointer (some ⟨g, 0, none⟩), .int .i64 7] W fun e w' => e = .returned (.tuple #[]) ∧ RdSt w w' g t (rEnd t s) ∧ KB W w' g := by
  have hT := rd_word w W g t s ht hp h
  have hP := rWord_p t s hp
  have HT := Aside0.mk hT
  obtain ⟨res, hres⟩ : ∃ r, rEnd t s = r := ⟨_, rfl⟩
  rw [hres]
  unfold rEnd at hres
  obtain ⟨x, hx⟩ : ∃ x, rWord t s = x := ⟨_, rfl⟩
  rw [hx] at HT hres hP
  have HRES := Aside0.mk hres
  obtain ⟨c0, c1⟩ := h.at1
  obtain ⟨n, p2, er⟩ := x
  dsimp only at hP
  have hmx := fun W => mix7_calls (t.extract 0 s.p) (by rw [ByteArray.size_extract]; omega) W
  have HMX := Aside0.mk hmx
  obtain ⟨p, er0⟩ := s
  have hple : (p : Int) ≤ (t.size : Int) := by have : p ≤ t.size := hp; omega
  clear hT h hx hres hmx
  go_enter Tryd.func27, Tryd.ntmps27
  go_wp2_with (fail)
  go_at_call 26
  refine HT.out.mono ?_
  rintro e w1 ⟨rfl, hs, hk⟩
  have HS := Aside0.mk hs
  have HK := Aside0.mk hk
  obtain ⟨d0, d1⟩ := hs.at1
  rcases hs.err with ⟨he, hc⟩ | ⟨he, b, hc⟩
  · obtain rfl : er = none := he
    clear hs hk c0 c1
    have hres := HRES.out
    rw [if_pos rfl] at hres
    by_cases hz : p2 = t.size
    · rw [if_pos hz] at hres
      have hzi : ((p2 : Int) != (t.size : Int)) = false := by rw [hz]; simp
      have hzi2 : ((p2 : Int) == (t.size : Int)) = true := by rw [hz]; simp
      by_cases hm : n = mix7 (t.extract 0 p)
      · rw [if_pos hm] at hres
        have HRES2 := Aside0.mk hres
        have hmi : (n != mix7 (t.extract 0 p)) = false := by rw [hm]; simp
        have hmi2 : (n == mix7 (t.extract 0 p)) = true := by rw [hm]; simp
        obtain ⟨mv, hmv⟩ : ∃ m, mix7 (t.extract 0 p) = m := ⟨_, rfl⟩
        rw [hmv] at hmi hmi2
        have HMX2 : Aside0 (∀ W, Calls Tryd.prog 41 #[.string (t.extract 0 p), .int .i64 7] W fun e w' => e = .returned (.int .i64 mv) ∧ Drawn0 W w') := ⟨fun W => by rw [← hmv]; exact HMX.out W⟩
        clear hres hm hmv hz
        go_wp2_with (fail)
        go_quiet (fail)
        go_wp2_with (fail)
        go_at_call 41
        refine (HMX2.out _).mono ?_
        rintro e w2 ⟨rfl, ⟨m2, rfl⟩⟩
        go_wp2
        ((try simp only [Exit.inBlock, Exit.then]); refine bodyPost_end (results_none rfl _ _ _) rfl ?_)
        rw [← HRES2.out]
        exact ⟨rfl, HS.out.below (pw_below_drewN (Below.refl _ _) _), kb_drewN HK.out _⟩
      · rw [if_neg hm] at hres
        have HRES2 := Aside0.mk hres
        have hmi : (n != mix7 (t.extract 0 p)) = true := bne_iff_ne.mpr hm
        have hmi2 : (n == mix7 (t.extract 0 p)) = false := beq_eq_false_iff_ne.mpr hm
        obtain ⟨mv, hmv⟩ : ∃ m, mix7 (t.extract 0 p) = m := ⟨_, rfl⟩
        rw [hmv] at hmi hmi2
        have HMX2 : Aside0 (∀ W, Calls Tryd.prog 41 #[.string (t.extract 0 p), .int .i64 7] W fun e w' => e = .returned (.int .i64 mv) ∧ Drawn0 W w') := ⟨fun W => by rw [← hmv]; exact HMX.out W⟩
        clear hres hm hmv hz
        go_wp2_with (fail)
        go_quiet (fail)
        go_wp2_with (fail)
        go_at_call 41
        refine (HMX2.out _).mono ?_
        rintro e w2 ⟨rfl, ⟨m2, rfl⟩⟩
        go_wp2_with (fail)
        go_at_call 52
        refine (rd_fail w _ g t ⟨p2, none⟩ 10 (p : Int) (HS.out.below (pw_below_drewN (Below.refl _ _) _))).mono ?_
        rintro e w3 ⟨rfl, hs3, hk3⟩
        have HS3 := Aside0.mk hs3
        have HK3 := Aside0.mk hk3
        obtain ⟨_, _, ev3, hb3, b3, hev3, _⟩ := id hs3
        have hc3 : w3.cell? ⟨g, 2, none⟩ = some ev3 := (blk_cell hb3 2).trans rfl
        rw [hev3] at hc3
        clear hs3 hk3 hb3 hev3
        go_wp2
        ((try simp only [Exit.inBlock, Exit.then]); refine bodyPost_end (results_none rfl _ _ _) rfl ?_)
        rw [← HRES2.out]
        exact ⟨rfl, HS3.out, (kb_drewN HK.out _).trans HK3.out⟩
    · rw [if_neg hz] at hres
      have hzi : ((p2 : Int) != (t.size : Int)) = true := bne_iff_ne.mpr (fun h => hz (by omega))
      have hzi2 : ((p2 : Int) == (t.size : Int)) = false := beq_eq_false_iff_ne.mpr (fun h => hz (by omega))
      have HRES2 := Aside0.mk hres
      clear hres hz
      go_wp2_with (fail)
      go_quiet (fail)
      go_wp2_with (fail)
      go_at_call 52
      refine (rd_fail w _ g t ⟨p2, none⟩ 3 (p2 : Int) (HS.out.below (pw_below_drewN (Below.refl _ _) _))).mono ?_
      rintro e w3 ⟨rfl, hs3, hk3⟩
      have HS3 := Aside0.mk hs3
      have HK3 := Aside0.mk hk3
      obtain ⟨_, _, ev3, hb3, b3, hev3, _⟩ := id hs3
      have hc3 : w3.cell? ⟨g, 2, none⟩ = some ev3 := (blk_cell hb3 2).trans rfl
      rw [hev3] at hc3
      clear hs3 hk3 hb3 hev3
      go_wp2
      ((try simp only [Exit.inBlock, Exit.then]); refine bodyPost_end (results_none rfl _ _ _) rfl ?_)
      rw [← HRES2.out]
      exact ⟨rfl, HS3.out, (kb_drewN HK.out _).trans HK3.out⟩
  · clear hs hk c0 c1
    have hres := HRES.out
    rw [if_neg he] at hres
    have HRES2 := Aside0.mk hres
    clear he hres
    go_wp2_with (fail)
    go_quiet (fail)
    go_wp2
    ((try simp only [Exit.inBlock, Exit.then]); refine bodyPost_end (results_none rfl _ _ _) rfl ?_)
    rw [← HRES2.out]
    exact ⟨rfl, HS.out.below (pw_below_drewN (Below.refl _ _) _), kb_drewN HK.out _⟩
theorem kb_drew {w W : World} {g : Nat} (h : KB w W g) : KB w W.drew g := ⟨h.keep, h.os, h.tape, h.output⟩
theorem KB.cell {w W : World} {g : Nat} (h : KB w W g) {a : Addr} {v : Value} (hc : w.cell? a = some v) (hne : a.block ≠ g) : W.cell? a = some v := keep_cell h.keep hc hne
set_option maxHeartbeats 8000000 in
set_option maxRecDepth 100000 in
theorem rd_name (w W : World) (g B : Nat) (t : ByteArray) (s : RS) (ht : t.size ≤ 65536) (hp : s.p ≤ t.size) (hB : W.cell? ⟨B, 0, none⟩ = some (.pointer (some ⟨g, 0, none⟩))) (hBg : B ≠ g) (h : RdSt w W g t s) :
    Calls Tryd.prog 23 #[.pointer (some ⟨B, 0, none⟩)] W fun e w' => e = .returned (.string (rName t s).1) ∧ RdSt w w' g t (rName t s).2 ∧ KB W w' g := by
  have hT := rd_take w W g t s 1 (by decide) ht hp h
  have hP := rTake_p t s 1 hp
  have hN := fun h => rTake_none (t := t) (s := s) (n := 1) h
  have hb0 := bt_range t (s.p : Int)
  obtain ⟨nb, hnb⟩ : ∃ n : Nat, bt t (s.p : Int) = (n : Int) := ⟨(bt t (s.p : Int)).toNat, by omega⟩
  have HT := Aside0.mk hT
  have HN := Aside0.mk hN
  obtain ⟨res, hres⟩ : ∃ r, rName t s = r := ⟨_, rfl⟩
  rw [hres]
  unfold rName at hres
  rw [hnb, Int.toNat_natCast] at hres
  obtain ⟨x, hx⟩ : ∃ x, rTake t s 1 = x := ⟨_, rfl⟩
  rw [hx] at HT HN hres hP
  have HRES := Aside0.mk hres
  have HNB := Aside0.mk hnb
  have HB := Aside0.mk hB
  have HBG := Aside0.mk hBg
  have hn255 : nb ≤ 255 := by omega
  have HN255 := Aside0.mk hn255
  obtain ⟨tx, s2⟩ := x
  have HP := Aside0.mk hP
  clear hT hN h hx hres hnb hb0 hn255 hBg hP
  go_enter Tryd.func23, Tryd.ntmps23
  go_wp2_with (fail)
  go_at_call 24
  refine HT.out.mono ?_
  rintro e w1 ⟨rfl, hs, hk⟩
  have HS := Aside0.mk hs
  have HK := Aside0.mk hk
  have hB1 := hk.cell HB.out HBG.out
  clear hB
  rcases hs.err with ⟨he, hc⟩ | ⟨he, b, hc⟩
  · clear hs hk
    obtain ⟨_, hle, hxx⟩ := HN.out he
    have htx : tx = t.extract s.p (s.p + 1) := congrArg Prod.fst hxx
    have hsz : tx.size = 1 := by rw [htx, ByteArray.size_extract]; omega
    have hbt : bt tx 0 = (nb : Int) := by rw [htx, ← HNB.out]; exact bt_ext t s.p 1 0 hle (by decide)
    have hix : ∀ h : 0 < tx.size, ((tx[0]'h).toNat : Int) = (nb : Int) := fun h => (bt_at tx 0 h).trans hbt
    have hlt : 0 < tx.size := by omega
    have hlti : (0 : Int) < (tx.size : Int) := by omega
    have hres := HRES.out
    rw [if_pos he] at hres
    have HRES2 := Aside0.mk hres
    have hT2 := rd_take w w1.drew g t s2 nb HN255.out ht HP.out (HS.out.below (below_drew (Below.refl _ _)))
    have HT2 := Aside0.mk hT2
    clear hxx htx he hle hres hT2 hbt hsz
    have w1_ : wrap64 (nb : Int) = (nb : Int) := by have := HN255.out; unfold wrap64; omega
    have w2_ : IntKind.i64.wrap (nb : Int) = (nb : Int) := by rw [Go.Proofs.YtoifdnnjdohfmaaDoor.Pl.i64w]; exact w1_
    go_upto_region 4 with (fail)
    go_region_with (go_at_call 24; refine HT2.out.mono ?_; rintro e w2 ⟨rfl, hs2, hk2⟩; have HS2 := Aside0.mk hs2; have HK2 := Aside0.mk hk2; clear hs2 hk2)
    all_goals
      go_wp2
      go_ret
      rw [← HRES2.out]
      exact ⟨rfl, HS2.out, (kb_drew HK.out).trans HK2.out⟩
  · clear hs hk
    have hres := HRES.out
    rw [if_neg he] at hres
    have HRES2 := Aside0.mk hres
    clear he hres
    go_wp2
    go_ret
    rw [← HRES2.out]
    exact ⟨rfl, HS.out, HK.out⟩
theorem KB.grown {w W W1 : World} {g b : Nat} {row : Option Nat} (h : KB w W g) (hg : W.grownBy W1 row) (hb : Below b W W1) (hr : row = none ∨ ∃ k, row = some k ∧ w.heap.size ≤ k) : KB w W1 g :=
  ⟨h.keep.trans (KeepBut.of_grown hg g) (hr.elim .inl (fun h => .inr h)), hb.os.trans h.os, hb.tape.trans h.tape, hb.output.trans h.output⟩
theorem RdSt.grown {w W W1 : World} {g b ty : Nat} {t : ByteArray} {s : RS} {row : Option Nat} (h : RdSt w W g t s) (hg : W.grownBy W1 row) (hb : Below b W W1) (hwb : w.heap.size ≤ b) (h1 : ty ≠ 55) (h2 : ty ≠ 86) (hty : ∀ k, row = some k → ∃ cells, W.heap[k]? = some (.cells cells ty (0, 0))) : RdSt w W1 g t s := by
  obtain ⟨q0, q1, ev, q2, q3⟩ := h
  have ne : ∀ (k ty' : Nat) (cs : Array Value), W.heap[k]? = some (.cells cs ty' (0, 0)) → ty ≠ ty' → some k ≠ row := by
    intro k ty' cs hk hne e
    obtain ⟨cells, hc⟩ := hty k e.symm
    rw [hk] at hc
    injection hc with hc
    injection hc with _ hc
    exact hne hc.symm
  refine ⟨q0, q1.trans (hb.mono hwb), ev, blk_grown q2 hg (ne _ _ _ q2 h1), ?_⟩
  cases he : s.e with
  | none => rw [he] at q3; exact q3
  | some c =>
    rw [he] at q3
    obtain ⟨b', q4, q5⟩ := q3
    exact ⟨b', q4, blk_grown q5 hg (ne _ _ _ q5 h2)⟩
theorem own_ty {w : World} {base : Nat} {ok : Nat → Prop} {v : Value} {xs : List Int} (h : Kd.R (Kd.int .i64) 2 w base ok v xs) : ∀ k, v.ownBlock = some k → ∃ cells, w.heap[k]? = some (.cells cells 2 (0, 0)) := Kd.R_typed h
set_option maxHeartbeats 8000000 in
set_option maxRecDepth 100000 in
theorem rd_table (w W : World) (g B1 B2 : Nat) (t : ByteArray) (s : RS) (n : Nat) (hn : n ≤ 128) (ht : t.size ≤ 65536) (hp : s.p ≤ t.size) (hB1 : W.cell? ⟨B1, 0, none⟩ = some (.int .i64 (n : Int))) (hB2 : W.cell? ⟨B2, 0, none⟩ = some (.pointer (some ⟨g, 0, none⟩))) (hB2g : B2 ≠ g) (h : RdSt w W g t s) :
    Calls Tryd.prog 25 #[.pointer (some ⟨B1, 0, none⟩), .pointer (some ⟨B2, 0, none⟩)] W fun e w' => ∃ v, e = .returned v ∧ Kd.R (Kd.int .i64) 2 w' W.heap.size (fun _ => True) v (rTab t n s).1 ∧ RdSt w w' g t (rTab t n s).2 ∧ KB W w' g := by
  obtain ⟨res, hres⟩ : ∃ r, rTab t n s = r := ⟨_, rfl⟩
  rw [hres]
  have HRES := Aside0.mk hres
  have HS := Aside0.mk h
  have HP := Aside0.mk hp
  have HN := Aside0.mk hn
  have HB2 := Aside0.mk hB2
  have HB2G := Aside0.mk hB2g
  clear hres h hp hn hB2 hB2g
  go_enter Tryd.func25, Tryd.ntmps25
  go_wp2
  go_loopg [3, 5] n (fun gq v3 v5 wr => ∃ (j : Nat) (xs : List Int) (s1 : RS), v5 = .int .i64 j ∧ Aside0 (j ≤ n) ∧ Aside0 (n - j ≤ gq) ∧ Aside0 (Kd.R (Kd.int .i64) 2 wr W.heap.size (fun _ => True) v3 xs) ∧ Aside0 (xs.length = j) ∧ Aside0 (RdSt w wr g t s1) ∧ Aside0 (s1.p ≤ t.size) ∧ Aside0 (KB W wr g) ∧ Aside0 (res = (xs ++ (rTab t (n - j) s1).1, (rTab t (n - j) s1).2)))
  case atStart => exact ⟨0, [], s, rfl, ⟨Nat.zero_le _⟩, ⟨by omega⟩, ⟨Kd.R_nil _ _ _ _ _⟩, ⟨rfl⟩, HS, HP, ⟨KB.refl _ _⟩, ⟨by rw [← HRES.out]; rfl⟩⟩
  case round =>
    obtain ⟨j, xs, s1, rfl, hj, hg, HO, hx, HS1, HP1, HK, HE⟩ := hrel
    by_cases hlt : j < n
    · have hltz : (j : Int) < (n : Int) := by omega
      have hT := rd_word w wr g t s1 ht HP1.out HS1.out
      have hP2 := rWord_p t s1 HP1.out
      have hR2 := rWord_range t s1
      have hstep : rTab t (n - j) s1 = (((rWord t s1).1 - 2) :: (rTab t (n - (j + 1)) (rWord t s1).2).1, (rTab t (n - (j + 1)) (rWord t s1).2).2) := by rw [show n - j = (n - (j + 1)) + 1 from by omega]; rfl
      have hE := HE.out
      rw [hstep] at hE
      obtain ⟨x, hx0⟩ : ∃ x, rWord t s1 = x := ⟨_, rfl⟩
      rw [hx0] at hT hP2 hR2 hE
      obtain ⟨wd, s2⟩ := x
      dsimp only at hP2 hR2
      have hw2 : wrap64 (wd - 2) = wd - 2 := by unfold wrap64; omega
      have hw2b : IntKind.i64.wrap (wd - 2) = wd - 2 := by rw [Go.Proofs.YtoifdnnjdohfmaaDoor.Pl.i64w]; exact hw2
      have HT := Aside0.mk hT
      have HP2 := Aside0.mk hP2
      have HE2 : Aside0 (res = ((xs ++ [wd - 2]) ++ (rTab t (n - (j + 1)) s2).1, (rTab t (n - (j + 1)) s2).2)) := ⟨by rw [hE, List.append_assoc]; rfl⟩
      have hB2 := HK.out.cell HB2.out HB2G.out
      have hlen : xs.length ≤ 1000 := by have := hx.out; have := HN.out; omega
      have HLEN := Aside0.mk hlen
      clear hT hP2 hR2 hE hx0 hstep hlen
      go_wp2_with (fail)
      go_at_call 26
      refine HT.out.mono ?_
      rintro e w1 ⟨rfl, hs, hk⟩
      have HS2 := Aside0.mk hs
      have HK2 := Aside0.mk hk
      have HO2 := Aside0.mk (Kd.R_mono (Kd.R_keep (g := g) (Kd.R_types HO.out HS1.out.blk.choose_spec (by decide)) hk.keep (fun _ h => h.2)) (fun _ h => trivial))
      have HK3 := Aside0.mk (HK.out.trans hk)
      clear hs hk
      go_wp2_with ((with_reducible refine gate_builtin (b := .append) (xs := #[.tmp 7, .tmp 11]) rfl ?_); at_builtin; refine Kd.R_append (Kd.int .i64) W.heap.size rfl (.tmp 7) (.tmp 11) 22 2 (.int .i64 0) 8 rfl Tryd.underlying22 info2 rfl (by decide) (by omega) u3 xs (wd - 2) [.int .i64 (wd - 2)] (fun _ => True) (fun _ => False) rfl rfl ?aP (fun _ hk => hk.elim) ?aF ?aO (Below.refl _ _) ?aS ?aL ?_; (case aP => exact rfl); (case aF => exact (fun _ _ => trivial)); (case aO => exact HO2.out); (case aS => exact HK3.out.keep.1); (case aL => have := HLEN.out; omega); intro v9 w9 ho hb hg9 hat; have HO9 := Aside0.mk ho; have HS9 := Aside0.mk (HS2.out.grown hg9 hb (HS.out.2.1.size) (by decide) (by decide) (own_ty HO2.out)); have HK9 := Aside0.mk (HK3.out.grown hg9 hb (Kd.R_base2 HO2.out)); clear ho hb hg9 hat)
      go_roundg (n - (j + 1))
      case measure => have := hg.out; omega
      case rel => exact ⟨j + 1, xs ++ [wd - 2], s2, (by have e9 : wrap64 ((j : Int) + 1) = ((j + 1 : Nat) : Int) := (by have := HN.out; rw [Go.Proofs.YtoifdnnjdohfmaaDoor.Pl.w64 (by omega) (by omega)]; omega); first | (rw [e9]; done) | (rw [Go.Proofs.YtoifdnnjdohfmaaDoor.Pl.i64w, e9]; done) | (simp only [e9]; done)), ⟨hlt⟩, ⟨by omega⟩, HO9, ⟨by rw [List.length_append, hx.out]; rfl⟩, HS9, HP2, HK9, HE2⟩
    · have hltz : ¬ (j : Int) < (n : Int) := by omega
      have hjn : j = n := by have := hj.out; omega
      subst hjn
      go_wp2
      go_ret
      have hE := HE.out
      rw [Nat.sub_self] at hE
      have hE2 : res = (xs, s1) := by rw [hE]; show (xs ++ [], s1) = _; rw [List.append_nil]
      rw [hE2]
      exact ⟨_, rfl, HO.out, HS1.out, HK.out⟩
/-- What the door lays: errors.errorType. -/
def DoorAs (w : World) : Prop := w.cell? ⟨0, 0, none⟩ = some (.iface 129 (.agg #[.pointer (some ⟨1, 53, none⟩)]))
theorem DoorAs.below {w W : World} (h : DoorAs w) (hb : Below w.heap.size w W) : DoorAs W := pw_cell_below hb h
set_option maxHeartbeats 8000000 in
set_option maxRecDepth 100000 in
theorem rd_code (w W : World) (g : Nat) (t : ByteArray) (s : RS) (hd : DoorAs w) (hw : w.heap.size ≤ W.heap.size) (h : RdSt w W g t s) :
    Calls Tryd.prog 28 #[.pointer (some ⟨g, 0, none⟩)] W fun e w' => e = .returned (.tuple #[.int .i64 (rCode s).1, .int .i64 (rCode s).2]) ∧ Below W.heap.size W w' := by
  have hD : DoorAs W := hd.below h.2.1
  obtain ⟨p, er⟩ := s
  have HS := Aside0.mk h
  obtain ⟨h0, h1, ev, h2, h3⟩ := h
  have c2 : (W.alloc (Obj.cells #[.pointer none] 82)).cell? ⟨g, 2, none⟩ = some ev := (blk_cell (blk_alloc h2 _) 2).trans rfl
  cases er with
  | none =>
    obtain rfl : ev = .nilIface := h3
    have hn := fun W' => Go.Proofs.YtoifdnnjdohfmaaDoor.As.as_nil (.iface 84 (.pointer (some ⟨W.heap.size, 0, none⟩))) W'
    clear h0 h1 h2 hD
    go_enter Tryd.func28, Tryd.ntmps28
    go_wp2_with (fail)
    go_at_call 55
    refine (hn _).mono ?_
    rintro e w1 ⟨rfl, rfl⟩
    clear hn
    go_wp2
    go_ret2
    exact ⟨rfl, below_alloc (Below.refl _ _) _⟩
  | some q =>
    obtain ⟨b, rfl, h4⟩ := h3
    obtain ⟨qc, qa⟩ := q
    have hA1 : (W.alloc (Obj.cells #[.pointer none] 82)).cell? ⟨W.heap.size, 0, none⟩ = some (.pointer none) := (blk_cell (blk_new _ _) 0).trans rfl
    have hA2 : (W.alloc (Obj.cells #[.pointer none] 82)).frozen? ⟨W.heap.size, 0, none⟩ = false := blk_frozen (blk_new _ _) 0
    have hit := Go.Proofs.YtoifdnnjdohfmaaDoor.As.as_hit' ⟨b, 0, none⟩ ⟨W.heap.size, 0, none⟩ (.pointer none) (W.alloc (Obj.cells #[.pointer none] 82)) (hD.below (below_alloc (Below.refl _ _) _)) hA1 hA2
    have HIT := Aside0.mk hit
    have H4 := Aside0.mk h4
    have hbl := blk_lt h4
    have HBL := Aside0.mk hbl
    clear h0 h1 h2 h4 hD hA1 hA2 hit hbl
    go_enter Tryd.func28, Tryd.ntmps28
    go_wp2_with (fail)
    go_at_call 55
    refine HIT.out.mono ?_
    rintro e w1 ⟨rfl, hc, hk, hb⟩
    have hbw := hb W.heap.size (Nat.le_refl _) (by simp)
    have H5 : w1.heap[b]? = some (.cells #[.int .i64 qc, .int .i64 qa] 86 (0, 0)) := (hk b (by have := HBL.out; simp; omega) (by have := HBL.out; show b ≠ W.heap.size; omega)).trans (blk_alloc H4.out _)
    have d0 : w1.cell? ⟨b, 0, none⟩ = some (.int .i64 qc) := (blk_cell H5 0).trans rfl
    have d1 : w1.cell? ⟨b, 1, none⟩ = some (.int .i64 qa) := (blk_cell H5 1).trans rfl
    have HBW := Aside0.mk hbw
    clear hk hb hbw H5
    go_wp2_with (fail)
    go_quiet (fail)
    go_wp2
    go_ret2
    exact ⟨rfl, pw_below_drewN ((below_alloc (Below.refl _ _) _).trans HBW.out) _⟩
def unpPre (t : ByteArray) : Bool := (strings_HasPrefix.f t ⟨#[73, 77, 71, 49]⟩).getD false
theorem unpPre_eq (t : ByteArray) : strings_HasPrefix.f t ⟨#[73, 77, 71, 49]⟩ = some (unpPre t) := by
  unfold unpPre strings_HasPrefix.f stringslite_HasPrefix.f
  have hs : (((⟨#[73, 77, 71, 49]⟩ : ByteArray).size : Nat) : Int) = 4 := rfl
  rw [hs]
  by_cases h : (t.size : Int) ≥ 4
  · rw [if_pos h, if_pos (by decide), if_pos h]; rfl
  · rw [if_neg h]; rfl
theorem unpPre_size {t : ByteArray} (h : unpPre t = true) : 4 ≤ t.size := by
  unfold unpPre strings_HasPrefix.f stringslite_HasPrefix.f at h
  have hs : (((⟨#[73, 77, 71, 49]⟩ : ByteArray).size : Nat) : Int) = 4 := rfl
  rw [hs] at h
  by_cases hh : (t.size : Int) ≥ 4
  · omega
  · rw [if_neg hh] at h; exact absurd h (by simp)
abbrev UR := Int × Int × ByteArray × ByteArray × List Int × List ByteArray × List S47
def UP (w : World) (r : UR) (e : Ending) (w' : World) : Prop := ∃ vT vD vS : Value, e = .returned (.agg #[.int .i64 r.1, .int .i64 r.2.1, .string r.2.2.1, .string r.2.2.2.1, vT, vD, vS]) ∧ Kd.R (Kd.int .i64) 2 w' w.heap.size (fun _ => True) vT r.2.2.2.2.1 ∧ Kd.R Kd.string 9 w' w.heap.size (fun _ => True) vD r.2.2.2.2.2.1 ∧ Kd.S k47 47 w' w.heap.size (fun k_ => some k_ ≠ (vT : Value).ownBlock) vS r.2.2.2.2.2.2 ∧ Below w.heap.size w w'
def uNo (c a : Int) : UR := (c, a, ⟨#[]⟩, ⟨#[]⟩, [], [], [])
/-- The image that was read, where it is right. -/
def unpM (nm bk : ByteArray) (tb : List Int) (xs : List ByteArray) (ys : List S47) : UR := if imgB nm bk tb xs ys = true then (0, 0, nm, bk, tb, xs, ys) else uNo 1 0
theorem UP.no {w w' : World} {c a : Int} (hb : Below w.heap.size w w') {e : Ending} (he : e = .returned (.agg #[.int .i64 c, .int .i64 a, .string ⟨#[]⟩, .string ⟨#[]⟩, .slice none 0 0, .slice none 0 0, .slice none 0 0])) : UP w (uNo c a) e w' :=
  ⟨_, _, _, he, Kd.R_nil _ _ _ _ _, Kd.R_nil _ _ _ _ _, Kd.S_nil _ _ _ _ _, hb⟩
structure UpW (w W : World) (t : ByteArray) (g B2 : Nat) (s : RS) : Prop where
  rd : RdSt w W g t s
  bx : W.heap[B2]? = some (.cells #[.pointer (some ⟨g, 0, none⟩)] 51 (0, 0))
  rs : W.heap[w.heap.size]? = some (.cells #[.int .i64 0, .int .i64 0, .string ⟨#[]⟩, .string ⟨#[]⟩, .slice none 0 0, .slice none 0 0, .slice none 0 0] 28 (0, 0))
theorem ty_ne {W : World} {k k' : Nat} {cs cs' : Array Value} {ty ty' : Nat} (h : W.heap[k]? = some (.cells cs ty (0, 0))) (h' : W.heap[k']? = some (.cells cs' ty' (0, 0))) (hne : ty ≠ ty') : k ≠ k' := by
  rintro rfl
  rw [h] at h'
  injection h' with h'
  injection h' with _ h'
  exact hne h'
theorem UpW.kb {w W W' : World} {t : ByteArray} {g B2 : Nat} {s s' : RS} (h : UpW w W t g B2 s) (k : KB W W' g) (h' : RdSt w W' g t s') : UpW w W' t g B2 s' := by
  obtain ⟨cs, hg⟩ := h.rd.blk
  exact ⟨h', k.blk h.bx (ty_ne h.bx hg (by decide)), k.blk h.rs (ty_ne h.rs hg (by decide))⟩
theorem UpW.below {w W W' : World} {t : ByteArray} {g B2 : Nat} {s : RS} (h : UpW w W t g B2 s) (hb : Below W.heap.size W W') : UpW w W' t g B2 s := ⟨h.rd.below hb, blk_below h.bx hb, blk_below h.rs hb⟩
theorem UpW.b2 {w W : World} {t : ByteArray} {g B2 : Nat} {s : RS} (h : UpW w W t g B2 s) : W.cell? ⟨B2, 0, none⟩ = some (.pointer (some ⟨g, 0, none⟩)) ∧ B2 ≠ g := by
  obtain ⟨cs, hg⟩ := h.rd.blk
  exact ⟨(blk_cell h.bx 0).trans rfl, ty_ne h.bx hg (by decide)⟩
theorem RdSt.set {w W : World} {g gb ty : Nat} {t : ByteArray} {s : RS} {cs : Array Value} (h : RdSt w W g t s) (hb : W.heap[gb]? = some (.cells cs ty (0, 0))) (h1 : 55 ≠ ty) (h2 : 86 ≠ ty) (hge : w.heap.size ≤ gb) (j : Nat) (v : Value) : RdSt w (W.setCell ⟨gb, j, none⟩ v) g t s := by
  obtain ⟨q0, q1, ev, q2, q3⟩ := h
  refine ⟨q0, below_set q1 hge, ev, blk_far q2 (p := ⟨gb, j, none⟩) (ty_ne q2 hb h1) _, ?_⟩
  cases he : s.e with
  | none => rw [he] at q3; exact q3
  | some c =>
    rw [he] at q3
    obtain ⟨b', q4, q5⟩ := q3
    exact ⟨b', q4, blk_far q5 (p := ⟨gb, j, none⟩) (ty_ne q5 hb h2) _⟩
theorem UpW.set {w W : World} {t : ByteArray} {g B2 gb : Nat} {s : RS} {cs : Array Value} (h : UpW w W t g B2 s) (hb : W.heap[gb]? = some (.cells cs 2 (0, 0))) (hge : w.heap.size ≤ gb) (v : Value) : UpW w (W.setCell ⟨gb, 0, none⟩ v) t g B2 s :=
  ⟨h.rd.set hb (by decide) (by decide) hge 0 v, blk_far h.bx (p := ⟨gb, 0, none⟩) (ty_ne h.bx hb (by decide)) _, blk_far h.rs (p := ⟨gb, 0, none⟩) (ty_ne h.rs hb (by decide)) _⟩
theorem UpW.far {w W : World} {t : ByteArray} {g B2 gb ty : Nat} {s : RS} {cs : Array Value} (h : UpW w W t g B2 s) (hb : W.heap[gb]? = some (.cells cs ty (0, 0))) (h1 : 55 ≠ ty) (h2 : 86 ≠ ty) (h3 : 51 ≠ ty) (h4 : 28 ≠ ty) (hge : w.heap.size ≤ gb) (j : Nat) (v : Value) : UpW w (W.setCell ⟨gb, j, none⟩ v) t g B2 s :=
  ⟨h.rd.set hb h1 h2 hge j v, blk_far h.bx (p := ⟨gb, j, none⟩) (ty_ne h.bx hb h3) _, blk_far h.rs (p := ⟨gb, j, none⟩) (ty_ne h.rs hb h4) _⟩
theorem r_far {α : Type} {d : Kd α} {e base M ty j : Nat} {W : World} {v : Value} {xs : List α} {cs : Array Value} (h : d.R e W base (fun _ => True) v xs) (hb : W.heap[M]? = some (.cells cs ty (0, 0))) (ht : ∀ q, q ∈ e :: d.E → q ≠ ty) (u : Value) : d.R e (W.setCell ⟨M, j, none⟩ u) base (fun _ => True) v xs :=
  Kd.R_mono (Kd.R_far (p := ⟨M, j, none⟩) (Kd.R_types h hb ht) (fun _ hk => hk.2) u) (fun _ _ => trivial)
def impl_UnpackImage.T6 : Bool × List (List Nat × List Nat) := (true, [([], []), ([0], [0]), ([], []), ([2, 1], [2]), ([], []), ([4, 3], [4]), ([], []), ([6, 1, 5, 0, 1, 6], [1, 6]), ([3, 7, 0, 1, 2, 3, 6, 7], [3]), ([5, 8, 0, 1, 2, 3, 4, 5, 6, 7, 8], [5])])
def impl_UnpackImage.B6 : List Nat := [0, 1, 0, 7, 0, 31, 0, 127, 255, 511]
theorem impl_UnpackImage.tab6 : rtab .any (opsOf Tryd.f6 6) = impl_UnpackImage.T6 := by kernel_rfl
theorem impl_UnpackImage.bits6 : waitsOk impl_UnpackImage.T6.2 impl_UnpackImage.B6 = true := by kernel_rfl
def impl_UnpackImage.T12 : Bool × List (List Nat × List Nat) := (true, [([], []), ([0], [0]), ([], []), ([2], [2]), ([3], [3]), ([1, 4, 3], [1, 4]), ([0, 1, 2, 3, 4, 5], []), ([6, 5, 5, 0, 1, 2, 3, 4, 5], [5, 6])])
def impl_UnpackImage.B12 : List Nat := [0, 1, 0, 4, 12, 31, 63, 127]
theorem impl_UnpackImage.tab12 : rtab .any (opsOf Tryd.f6 12) = impl_UnpackImage.T12 := by kernel_rfl
theorem impl_UnpackImage.bits12 : waitsOk impl_UnpackImage.T12.2 impl_UnpackImage.B12 = true := by kernel_rfl
def impl_UnpackImage.T16 : Bool × List (List Nat × List Nat) := (true, [([], []), ([0], [0]), ([], []), ([2], [2]), ([], []), ([4, 3], [4]), ([3, 5], [3, 5]), ([6], [6]), ([1, 7, 5], [1, 7]), ([0, 1, 2, 3, 4, 5, 6, 7, 8], []), ([9, 8, 8, 0, 1, 2, 3, 4, 5, 6, 7, 8], [8, 9])])
def impl_UnpackImage.B16 : List Nat := [0, 1, 0, 4, 0, 28, 60, 124, 255, 511, 1023]
theorem impl_UnpackImage.tab16 : rtab .any (opsOf Tryd.f6 16) = impl_UnpackImage.T16 := by kernel_rfl
theorem impl_UnpackImage.bits16 : waitsOk impl_UnpackImage.T16.2 impl_UnpackImage.B16 = true := by kernel_rfl
theorem info_snap : (Tryd.prog.info? 47).map (fun i => (i.zero, i.size, i.bytes)) = some (some (.agg #[(.string ⟨#[]⟩), (.slice none 0 0)]), 2, 40) := by kernel_rfl
theorem goesV_ {P : Program} {Q : Exit → Act → World → Prop} {ops : Array Oper} {oi : Oper} {N : Option Tmp} {a : Act} {w : World} {K : Act → World → Prop} {f : FuncId} {fn : Func} {ts : Array TypeId} {x : Operand} (hf : P.funcs[f]? = some fn) (hname : (fn.name == "runtime.NumGoroutine") = false) (hb : fn.body.isSome = true) (caps : Array Value)
    (hw : Region.wanted oi (yielded ops a.tmps) = true) (hN : oi.dst = N) (hop : oi.op = .call { callee := .value x, args := #[], argTypes := ts }) (hx : a.eval x = .func (.func f) #[] caps)
    (h : Calls P f caps w fun e w' => ∃ v, e = .returned v ∧ K (a.put N v) w') : if Region.wanted oi (yielded ops a.tmps) = true then Oper.wp P oi a w K Q else K (a.put N undef) w := by
  refine call_ f caps hw hN ?_ h
  have he := enters_ hf hname hb caps w
  unfold execOp
  simp [hop, resolve, Deferred.ofValue, invoke, hx, he]
theorem q_new {N base : Nat} {W : World} {vq vT vS : Value} {q : List Int} (h : Kd.R (Kd.int .i64) 2 W N (fun _ => True) vq q) (hN : base ≤ N) (hT : ∀ k, vT.ownBlock = some k → k < N) (hS : ∀ k, vS.ownBlock = some k → k < N) : Kd.R (Kd.int .i64) 2 W base (fun k => (some k ≠ vT.ownBlock) ∧ some k ≠ vS.ownBlock) vq q :=
  Kd.R_lower (Kd.R_mono (Kd.R_bound h) (fun k hk => ⟨fun e => by have := hT k e.symm; have := hk.2.1; omega, fun e => by have := hS k e.symm; have := hk.2.1; omega⟩)) hN
theorem info_str : (Tryd.prog.info? 9).map (fun i => (i.zero, i.size, i.bytes)) = some (some (.string ⟨#[]⟩), 1, 16) := by kernel_rfl
theorem row_ne {W : World} {k ty ty' : Nat} {cs : Array Value} {row : Option Nat} (hk : W.heap[k]? = some (.cells cs ty' (0, 0))) (hne : ty ≠ ty') (hty : ∀ k, row = some k → ∃ cells, W.heap[k]? = some (.cells cells ty (0, 0))) : some k ≠ row := by
  intro e
  obtain ⟨cells, hc⟩ := hty k e.symm
  exact ty_ne hc hk hne rfl
theorem row_keeps {W W1 : World} {k ty ty' : Nat} {cs : Array Value} {row : Option Nat} (hk : W.heap[k]? = some (.cells cs ty' (0, 0))) (hg : W.grownBy W1 row) (hne : ty ≠ ty') (hty : ∀ k, row = some k → ∃ cells, W.heap[k]? = some (.cells cells ty (0, 0))) : W1.heap[k]? = some (.cells cs ty' (0, 0)) := blk_grown hk hg (row_ne hk hne hty)
theorem UpW.grown {w W W1 : World} {t : ByteArray} {g B2 b ty : Nat} {s : RS} {row : Option Nat} (h : UpW w W t g B2 s) (hg : W.grownBy W1 row) (hb : Below b W W1) (hwb : w.heap.size ≤ b) (h1 : ty ≠ 55) (h2 : ty ≠ 86) (h3 : ty ≠ 51) (h4 : ty ≠ 28) (hty : ∀ k, row = some k → ∃ cells, W.heap[k]? = some (.cells cells ty (0, 0))) : UpW w W1 t g B2 s :=
  ⟨h.rd.grown hg hb hwb h1 h2 hty, row_keeps h.bx hg h3 hty, row_keeps h.rs hg h4 hty⟩
theorem r_kb {α : Type} {d : Kd α} {e base : Nat} {w W W1 : World} {t : ByteArray} {g B2 : Nat} {s : RS} {v : Value} {xs : List α} (h : d.R e W base (fun _ => True) v xs) (hu : UpW w W t g B2 s) (ht : ∀ q, q ∈ e :: d.E → q ≠ 55) (k : KB W W1 g) : d.R e W1 base (fun _ => True) v xs := by
  obtain ⟨cs, hg⟩ := hu.rd.blk
  exact Kd.R_mono (Kd.R_keep (g := g) (Kd.R_types h hg ht) k.keep (fun _ h => h.2)) (fun _ _ => trivial)
theorem r_far7 {α : Type} {d : Kd α} {e base g ty : Nat} {W : World} {v : Value} {xs : List α} {cs : Array Value} (h : d.R e W base (fun _ => True) v xs) (hb : W.heap[g]? = some (.cells cs ty (0, 0))) (ht : ∀ q, q ∈ e :: d.E → q ≠ ty) (v0 v1 v2 v3 v4 v5 v6 : Value) : d.R e (((((((W.setCell ⟨g, 0, none⟩ v0).setCell ⟨g, 1, none⟩ v1).setCell ⟨g, 2, none⟩ v2).setCell ⟨g, 3, none⟩ v3).setCell ⟨g, 4, none⟩ v4).setCell ⟨g, 5, none⟩ v5).setCell ⟨g, 6, none⟩ v6) base (fun _ => True) v xs :=
  Kd.R_mono (Kd.R_far (p := ⟨g, 6, none⟩) (Kd.R_far (p := ⟨g, 5, none⟩) (Kd.R_far (p := ⟨g, 4, none⟩) (Kd.R_far (p := ⟨g, 3, none⟩) (Kd.R_far (p := ⟨g, 2, none⟩) (Kd.R_far (p := ⟨g, 1, none⟩) (Kd.R_far (p := ⟨g, 0, none⟩) (Kd.R_types h hb ht) (fun _ hk => hk.2) v0) (fun _ hk => hk.2) v1) (fun _ hk => hk.2) v2) (fun _ hk => hk.2) v3) (fun _ hk => hk.2) v4) (fun _ hk => hk.2) v5) (fun _ hk => hk.2) v6) (fun _ _ => trivial)
theorem s_far7 {α : Type} {d : Kd α} {e base g ty : Nat} {ok : Nat → Prop} {W : World} {v : Value} {xs : List α} {cs : Array Value} (h : Kd.S d e W base ok v xs) (hb : W.heap[g]? = some (.cells cs ty (0, 0))) (ht : ∀ q, q ∈ e :: d.E → q ≠ ty) (v0 v1 v2 v3 v4 v5 v6 : Value) : Kd.S d e (((((((W.setCell ⟨g, 0, none⟩ v0).setCell ⟨g, 1, none⟩ v1).setCell ⟨g, 2, none⟩ v2).setCell ⟨g, 3, none⟩ v3).setCell ⟨g, 4, none⟩ v4).setCell ⟨g, 5, none⟩ v5).setCell ⟨g, 6, none⟩ v6) base ok v xs :=
  Kd.S_mono (Kd.S_far (p := ⟨g, 6, none⟩) (Kd.S_far (p := ⟨g, 5, none⟩) (Kd.S_far (p := ⟨g, 4, none⟩) (Kd.S_far (p := ⟨g, 3, none⟩) (Kd.S_far (p := ⟨g, 2, none⟩) (Kd.S_far (p := ⟨g, 1, none⟩) (Kd.S_far (p := ⟨g, 0, none⟩) (Kd.S_types h hb ht) (fun _ hk => hk.2) v0) (fun _ hk => hk.2) v1) (fun _ hk => hk.2) v2) (fun _ hk => hk.2) v3) (fun _ hk => hk.2) v4) (fun _ hk => hk.2) v5) (fun _ hk => hk.2) v6) (fun _ hk => hk.1)
theorem s_kb {α : Type} {d : Kd α} {e base : Nat} {ok : Nat → Prop} {w W W1 : World} {t : ByteArray} {g B2 : Nat} {s : RS} {v : Value} {xs : List α} (h : Kd.S d e W base ok v xs) (hu : UpW w W t g B2 s) (ht : ∀ q, q ∈ e :: d.E → q ≠ 55) (k : KB W W1 g) : Kd.S d e W1 base ok v xs := by
  obtain ⟨cs, hg⟩ := hu.rd.blk
  exact Kd.S_mono (Kd.S_keep (g := g) (Kd.S_types h hg ht) k.keep (fun _ h => h.2)) (fun _ h => h.1)
theorem s_told {α : Type} {d : Kd α} {e base : Nat} {ok : Nat → Prop} {w W W1 : World} {t : ByteArray} {g B2 : Nat} {s : RS} {v u : Value} {xs : List α} (h : Kd.S d e W base ok v xs) (hu : UpW w W t g B2 s) (ht : ∀ q, q ∈ e :: d.E → q ≠ 55) (k : KB W W1 g) (hb : ∀ k, u.ownBlock = some k → W.heap.size ≤ k) : Kd.S d e W1 base (fun k => (ok k ∧ some k ≠ u.ownBlock) ∧ k < W.heap.size) v xs := by
  obtain ⟨cs, hg⟩ := hu.rd.blk
  exact Kd.S_told (Kd.S_oldK (g := g) (Kd.S_types h hg ht) k.keep) hb
theorem r_over {W W1 : World} {base ty : Nat} {v : Value} {xs : List Int} {row : Option Nat} (h : Kd.R (Kd.int .i64) 2 W base (fun _ => True) v xs) (hg : W.grownBy W1 row) (hne : ty ≠ 2) (hty : ∀ k, row = some k → ∃ cells, W.heap[k]? = some (.cells cells ty (0, 0))) : Kd.R (Kd.int .i64) 2 W1 base (fun _ => True) v xs := by
  refine Kd.R_mono (Kd.R_grown (ok := fun k => some k ≠ row) ?_ hg (fun _ h => h)) (fun _ _ => trivial)
  refine Kd.R_mono (Kd.R_bound h) (fun k hk => ?_)
  obtain ⟨_, _, _, q, hq, cells, hc⟩ := hk
  have hq2 : q = 2 := by
    rcases List.mem_cons.mp hq with h | h
    · exact h
    · exact absurd h (by simp [Kd.int, Kd.scalar])
  subst hq2
  exact row_ne hc hne hty
/-- The snapshots. -/
def rSnaps (t : ByteArray) (k : Nat) : Nat → RS → List S47 × RS
  | 0, s => ([], s)
  | n + 1, s => ((⟨(rName t s).1, (rTab t k (rName t s).2).1⟩ : S47) :: (rSnaps t k n (rTab t k (rName t s).2).2).1, (rSnaps t k n (rTab t k (rName t s).2).2).2)
theorem rSnaps_size (t : ByteArray) (k : Nat) (n : Nat) : ∀ s : RS, ∀ y, y ∈ (rSnaps t k n s).1 → y.f0.size ≤ t.size := by
  induction n with
  | zero => intro s y hy; exact absurd hy (by simp [rSnaps])
  | succ n ih =>
    intro s y hy
    rcases List.mem_cons.mp hy with rfl | hy
    · exact rName_size t s
    · exact ih _ y hy
theorem unp_sized {t : ByteArray} {k1 k3 : Nat} {s3 s4 s5 s7 s8 : RS} {nm bk : ByteArray} {ys : List S47} (ht : t.size ≤ 65536) (h4 : rName t s3 = (nm, s4)) (h5 : rName t s4 = (bk, s5)) (h8 : rSnaps t k1 k3 s7 = (ys, s8)) : imgSized nm bk ys = true := by
  have e1 := rName_size t s3
  have e2 := rName_size t s4
  have e3 := rSnaps_size t k1 k3 s7
  rw [h4] at e1
  rw [h5] at e2
  rw [h8] at e3
  unfold imgSized
  rw [decide_eq_true (show nm.size ≤ 9223372036854775807 from Nat.le_trans e1 (by omega)), decide_eq_true (show bk.size ≤ 9223372036854775807 from Nat.le_trans e2 (by omega)), Bool.true_and, Bool.true_and, List.all_eq_true]
  intro y hy
  exact decide_eq_true (Nat.le_trans (e3 y hy) (by omega))
/-- What UnpackImage answers behind its two guards. -/
def unpP (t : ByteArray) : UR :=
  if (rCode (rEnd t (rSnaps t (rCount t ⟨4, none⟩ 64).1.toNat (rCount t (rCount t (rCount t ⟨4, none⟩ 64).2 128).2 8).1.toNat (rDat t (rCount t (rCount t ⟨4, none⟩ 64).2 128).1.toNat (rTab t (rCount t ⟨4, none⟩ 64).1.toNat (rName t (rName t (rCount t (rCount t (rCount t ⟨4, none⟩ 64).2 128).2 8).2).2).2).2).2).2)).1 = 0 then
    unpM (rName t (rCount t (rCount t (rCount t ⟨4, none⟩ 64).2 128).2 8).2).1 (rName t (rName t (rCount t (rCount t (rCount t ⟨4, none⟩ 64).2 128).2 8).2).2).1 (rTab t (rCount t ⟨4, none⟩ 64).1.toNat (rName t (rName t (rCount t (rCount t (rCount t ⟨4, none⟩ 64).2 128).2 8).2).2).2).1
      (rDat t (rCount t (rCount t ⟨4, none⟩ 64).2 128).1.toNat (rTab t (rCount t ⟨4, none⟩ 64).1.toNat (rName t (rName t (rCount t (rCount t (rCount t ⟨4, none⟩ 64).2 128).2 8).2).2).2).2).1
      (rSnaps t (rCount t ⟨4, none⟩ 64).1.toNat (rCount t (rCount t (rCount t ⟨4, none⟩ 64).2 128).2 8).1.toNat (rDat t (rCount t (rCount t ⟨4, none⟩ 64).2 128).1.toNat (rTab t (rCount t ⟨4, none⟩ 64).1.toNat (rName t (rName t (rCount t (rCount t (rCount t ⟨4, none⟩ 64).2 128).2 8).2).2).2).2).2).1
  else uNo (rCode (rEnd t (rSnaps t (rCount t ⟨4, none⟩ 64).1.toNat (rCount t (rCount t (rCount t ⟨4, none⟩ 64).2 128).2 8).1.toNat (rDat t (rCount t (rCount t ⟨4, none⟩ 64).2 128).1.toNat (rTab t (rCount t ⟨4, none⟩ 64).1.toNat (rName t (rName t (rCount t (rCount t (rCount t ⟨4, none⟩ 64).2 128).2 8).2).2).2).2).2).2)).1 (rCode (rEnd t (rSnaps t (rCount t ⟨4, none⟩ 64).1.toNat (rCount t (rCount t (rCount t ⟨4, none⟩ 64).2 128).2 8).1.toNat (rDat t (rCount t (rCount t ⟨4, none⟩ 64).2 128).1.toNat (rTab t (rCount t ⟨4, none⟩ 64).1.toNat (rName t (rName t (rCount t (rCount t (rCount t ⟨4, none⟩ 64).2 128).2 8).2).2).2).2).2).2)).2
theorem unpP_eq {t : ByteArray} {k1 k2 k3 : Nat} {s1 s2 s3 s4 s5 s6 s7 s8 s9 : RS} {nm bk : ByteArray} {tb : List Int} {xs : List ByteArray} {ys : List S47} {c a : Int} (h1 : rCount t ⟨4, none⟩ 64 = ((k1 : Int), s1)) (h2 : rCount t s1 128 = ((k2 : Int), s2)) (h3 : rCount t s2 8 = ((k3 : Int), s3)) (h4 : rName t s3 = (nm, s4)) (h5 : rName t s4 = (bk, s5)) (h6 : rTab t k1 s5 = (tb, s6)) (h7 : rDat t k2 s6 = (xs, s7)) (h8 : rSnaps t k1 k3 s7 = (ys, s8)) (h9 : rEnd t s8 = s9) (hc : rCode s9 = (c, a)) :
    unpP t = if c = 0 then unpM nm bk tb xs ys else uNo c a := by
  unfold unpP
  simp only [h1, h2, h3, h4, h5, h6, h7, h8, h9, hc, Int.toNat_natCast]
set_option maxHeartbeats 16000000 in
set_option maxRecDepth 100000 in
theorem unp_go (w : World) (t : ByteArray) (hdoor : DoorAs w) (ht : t.size ≤ 65536) (hp : unpPre t = true) (res : UR) (hpu : unpP t = res) :
    Calls Tryd.prog 6 #[.string t] w (UP w res) := by
  have hbg := fun W b hb => ubg t W b hb
  rw [decide_eq_false (by omega)] at hbg
  have hpre := fun W => strings_HasPrefix.calls t ⟨#[73, 77, 71, 49]⟩ (unpPre t) W (unpPre_eq t)
  rw [hp] at hpre
  have h4 := unpPre_size hp
  have HP4 := Aside0.mk h4
  have HDOOR := Aside0.mk hdoor
  have HT := Aside0.mk ht
  have HR0 := Aside0.mk (show (w.alloc (Obj.cells #[.int .i64 0, .int .i64 0, .string ⟨#[]⟩, .string ⟨#[]⟩, .slice none 0 0, .slice none 0 0, .slice none 0 0] 28)).heap[w.heap.size]? = some (.cells #[.int .i64 0, .int .i64 0, .string ⟨#[]⟩, .string ⟨#[]⟩, .slice none 0 0, .slice none 0 0, .slice none 0 0] 28 (0, 0)) from blk_new _ _)
  have HPU := Aside0.mk hpu
  clear hdoor ht hp h4 hpu
  go_enter Tryd.func6, Tryd.ntmps6
  go_wp2_with (fail)
  go_at_call 20
  refine (hbg _ _ ?hbq).mono ?_
  case hbq => first | rfl | simp
  rintro e w1 ⟨rfl, hb1⟩
  have HB1 := Aside0.mk (below_step (below_alloc (Below.refl _ _) _) hb1)
  have HR1 := Aside0.mk (blk_below HR0.out hb1)
  clear hb1 hbg
  go_wp2_with (fail)
  go_at_call 21
  refine (hpre _).mono ?_
  rintro e w' ⟨rfl, ⟨m, rfl⟩⟩
  have HB2 := Aside0.mk (pw_below_drewN HB1.out m)
  have HR2 := Aside0.mk (blk_below HR1.out (pw_below_drewN (Below.refl _ _) m))
  clear hpre
  generalize w1.drewN m = W at HB2 HR2 ⊢
  clear HB1 HR1
  go_upto_region 6 with (fail)
  have hU0 : UpW w ((W.alloc (Obj.cells #[.string t, .int .i64 4, .nilIface] 55)).alloc (Obj.cells #[.pointer (some ⟨W.heap.size, 0, none⟩)] 51)) t W.heap.size (W.heap.size + 1) ⟨4, none⟩ := by
    refine ⟨⟨HB2.out.size, below_alloc (below_alloc HB2.out _) _, .nilIface, blk_alloc (blk_new _ _) _, rfl⟩, ?_, blk_alloc (blk_alloc HR2.out _) _⟩
    have := blk_new (W.alloc (Obj.cells #[.string t, .int .i64 4, .nilIface] 55)) (Obj.cells #[.pointer (some ⟨W.heap.size, 0, none⟩)] 51)
    simpa using this
  generalize ((W.alloc (Obj.cells #[.string t, .int .i64 4, .nilIface] 55)).alloc (Obj.cells #[.pointer (some ⟨W.heap.size, 0, none⟩)] 51)) = W6 at hU0 ⊢
  clear HB2 HR2
  obtain ⟨B2, hB2e⟩ : ∃ b, W.heap.size + 1 = b := ⟨_, rfl⟩
  rw [hB2e] at hU0 ⊢
  clear hB2e
  obtain ⟨g, hge⟩ : ∃ b, W.heap.size = b := ⟨_, rfl⟩
  rw [hge] at hU0 ⊢
  clear hge
  obtain ⟨n1, s1, hc1⟩ : ∃ n s, rCount t ⟨4, none⟩ 64 = (n, s) := ⟨_, _, rfl⟩
  obtain ⟨n2, s2, hc2⟩ : ∃ n s, rCount t s1 128 = (n, s) := ⟨_, _, rfl⟩
  obtain ⟨n3, s3, hc3⟩ : ∃ n s, rCount t s2 8 = (n, s) := ⟨_, _, rfl⟩
  have hp1 : s1.p ≤ t.size := by have := rCount_p t ⟨4, none⟩ 64 HP4.out; rw [hc1] at this; exact this
  have hp2 : s2.p ≤ t.size := by have := rCount_p t s1 128 hp1; rw [hc2] at this; exact this
  have hp3 : s3.p ≤ t.size := by have := rCount_p t s2 8 hp2; rw [hc3] at this; exact this
  have HC1 : Aside0 (∀ W, RdSt w W g t ⟨4, none⟩ → Calls Tryd.prog 22 #[.pointer (some ⟨g, 0, none⟩), .int .i64 0, .int .i64 64] W fun e w' => e = .returned (.int .i64 n1) ∧ RdSt w w' g t s1 ∧ KB W w' g) := ⟨fun W h => by have := rd_count w W g t ⟨4, none⟩ 64 HT.out HP4.out h; rw [hc1] at this; exact this⟩
  have HC2 : Aside0 (∀ W, RdSt w W g t s1 → Calls Tryd.prog 22 #[.pointer (some ⟨g, 0, none⟩), .int .i64 0, .int .i64 128] W fun e w' => e = .returned (.int .i64 n2) ∧ RdSt w w' g t s2 ∧ KB W w' g) := ⟨fun W h => by have := rd_count w W g t s1 128 HT.out hp1 h; rw [hc2] at this; exact this⟩
  have HC3 : Aside0 (∀ W, RdSt w W g t s2 → Calls Tryd.prog 22 #[.pointer (some ⟨g, 0, none⟩), .int .i64 0, .int .i64 8] W fun e w' => e = .returned (.int .i64 n3) ∧ RdSt w w' g t s3 ∧ KB W w' g) := ⟨fun W h => by have := rd_count w W g t s2 8 HT.out hp2 h; rw [hc3] at this; exact this⟩
  have HP3 := Aside0.mk hp3
  have HN : Aside0 (rCount t ⟨4, none⟩ 64 = (n1, s1) ∧ rCount t s1 128 = (n2, s2) ∧ rCount t s2 8 = (n3, s3)) := ⟨⟨hc1, hc2, hc3⟩⟩
  have HU0 : Aside0 (UpW w W6.drew t g B2 ⟨4, none⟩) := ⟨hU0.below (below_drew (Below.refl _ _))⟩
  have HBX : Aside0 (W6.drew.heap[B2]? = some (.cells #[.pointer (some ⟨g, 0, none⟩)] 51 (0, 0))) := ⟨HU0.out.bx⟩
  have HLT : Aside0 (g < W6.drew.heap.size ∧ B2 < W6.drew.heap.size ∧ w.heap.size < W6.drew.heap.size) := ⟨by
    obtain ⟨cs, hg⟩ := HU0.out.rd.blk
    exact ⟨blk_lt hg, blk_lt HU0.out.bx, blk_lt HU0.out.rs⟩⟩
  clear hp1 hp2 hp3 hc1 hc2 hc3 hU0
  refine start_ (n := 10) (S := fun w' => True) (ds := []) #[false, false, false, false, false, false, false, false, false, false] (by kernel_rfl) rfl rfl trivial (fun hHeld => ?_)
  refine with_tabW impl_UnpackImage.tab6 impl_UnpackImage.bits6 (fun HT_ HW_ => ?_)
  refine inv_at [0, 1, 2, 3, 4, 5, 6, 7, 8, 9] (fun a0_ b a w' => ∃ (gb : Nat) (m6_ : Value), a = putSel a0_ b [(0, 23, .pointer (some ⟨g, 0, none⟩)), (1, 24, .int .i64 n1), (2, 25, .pointer (some ⟨g, 0, none⟩)), (3, 26, .int .i64 n2), (4, 27, .pointer (some ⟨g, 0, none⟩)), (5, 28, .int .i64 n3), (6, 4, m6_), (8, 5, .int .i64 n2), (9, 6, .int .i64 n3)] ∧ (b 1 = false → UpW w w' t g B2 ⟨4, none⟩) ∧ (b 1 = true → b 3 = false → UpW w w' t g B2 s1) ∧ (b 3 = true → b 5 = false → UpW w w' t g B2 s2) ∧ (b 5 = true → UpW w w' t g B2 s3) ∧ (w'.heap[B2]? = some (.cells #[.pointer (some ⟨g, 0, none⟩)] 51 (0, 0))) ∧ ((g < w'.heap.size ∧ B2 < w'.heap.size ∧ w.heap.size < w'.heap.size)) ∧ (b 6 = true → b 7 = false → (w'.heap[gb]? = some (.cells #[.int .i64 0] 2 (0, 0)) ∧ gb ≠ g ∧ gb ≠ B2 ∧ w.heap.size < gb)) ∧ (b 7 = true → (w'.heap[gb]? = some (.cells #[.int .i64 n1] 2 (0, 0)) ∧ gb ≠ g ∧ gb ≠ B2 ∧ w.heap.size < gb)) ∧ (b 6 = true → (m6_ : Value) = .pointer (some ⟨gb, 0, none⟩))) HT_.out HW_.out (by kernel_rfl) (by kernel_rfl) ?_ ?_ ?_
  · exact ⟨0, .bool false, by simp only [putSel, Bool.false_eq_true, if_false], fun _ => HU0.out, fun h_ => absurd h_ (by decide), fun h_ => absurd h_ (by decide), fun h_ => absurd h_ (by decide), HBX.out, HLT.out, fun h_ => absurd h_ (by decide), fun h_ => absurd h_ (by decide), fun h_ => absurd h_ (by decide)⟩
  · skip
    clear HBX HLT HU0
    refine steps_cons ?_ ?_
    · rintro b a w' ⟨gb, m6_, ha, Q_HU0, Q_HU1, Q_HU2, Q_HU3, Q_HBX, Q_HLT, Q_HAX, Q_HAY, Q_X6_⟩ hb_ hon hoff
      refine ⟨_, rfl, fun K hK => ?_⟩
      have e3 : a.tmps[3]? = some (.pointer (some ⟨B2, 0, none⟩)) := by rw [ha]; exact (putSel_off rfl).trans rfl
      replace ha := Aside0.mk ha
      have HU0 := Aside0.mk (Q_HU0 (hoff 1 (by kernel_rfl)))
      have HBX := Aside0.mk Q_HBX
      have HLT := Aside0.mk Q_HLT
      have hs_ : w'.cell? ⟨B2, 0, none⟩ = some (.pointer (some ⟨g, 0, none⟩)) := (blk_cell HBX.out 0).trans rfl
      refine value_ (w1 := w') (v := .pointer (some ⟨g, 0, none⟩)) (by rfl) rfl ?_ ?_
      · go_simp
        (try simp only [i64_w])
        try rfl
      refine hK.out _ _ ⟨gb, m6_, (by rw [ha.out]; exact putSel_upk 0 hb_ rfl rfl rfl), Q_HU0, fun h0_ _ => absurd ((hoff 1 (by kernel_rfl)).symm.trans h0_) (by decide), fun h0_ _ => absurd ((hoff 3 (by kernel_rfl)).symm.trans h0_) (by decide), fun h0_ => absurd ((hoff 5 (by kernel_rfl)).symm.trans h0_) (by decide), Q_HBX, Q_HLT, Q_HAX, fun h0_ => absurd ((hoff 7 (by kernel_rfl)).symm.trans h0_) (by decide), Q_X6_⟩
    refine steps_cons ?_ ?_
    · rintro b a w' ⟨gb, m6_, ha, Q_HU0, Q_HU1, Q_HU2, Q_HU3, Q_HBX, Q_HLT, Q_HAX, Q_HAY, Q_X6_⟩ hb_ hon hoff
      refine ⟨_, rfl, fun K hK => ?_⟩
      have e23 : a.tmps[23]? = some (.pointer (some ⟨g, 0, none⟩)) := by rw [ha]; exact putSel_on (e := (0, 23, .pointer (some ⟨g, 0, none⟩))) 0 rfl rfl (hon 0 (by kernel_rfl)) rfl
      replace ha := Aside0.mk ha
      have HU0 := Aside0.mk (Q_HU0 hb_)
      have HBX := Aside0.mk Q_HBX
      have HLT := Aside0.mk Q_HLT
      refine goes_ (N := some 24) Tryd.func22 (by kernel_rfl) rfl #[.pointer (some ⟨g, 0, none⟩), .int .i64 0, .int .i64 64] (by rfl) rfl rfl (by first | (simp only [List.map_toArray, List.map_cons, List.map_nil, Act.eval, Array.getD_eq_getD_getElem?, Option.getD_some, e23]; done) | (simp only [List.map_toArray, List.map_cons, List.map_nil, Act.eval, Array.getD_eq_getD_getElem?, Option.getD_some, e23]; rfl)) ?_
      refine (HC1.out _ HU0.out.rd).mono ?_
      rintro e w1 ⟨rfl, hs_, hk_⟩
      have HV_ := Aside0.mk (HU0.out.kb hk_ hs_)
      refine ⟨_, rfl, ?_⟩
      refine hK.out _ _ ⟨gb, m6_, (by rw [ha.out]; exact putSel_upk 1 hb_ rfl rfl rfl), fun h0_ => absurd ((up_self b 1).symm.trans h0_) (by decide), fun _ _ => HV_.out, fun h0_ _ => absurd ((hoff 3 (by kernel_rfl)).symm.trans h0_) (by decide), fun h0_ => absurd ((hoff 5 (by kernel_rfl)).symm.trans h0_) (by decide), HV_.out.bx, ⟨Nat.lt_of_lt_of_le HLT.out.1 hk_.keep.1, Nat.lt_of_lt_of_le HLT.out.2.1 hk_.keep.1, Nat.lt_of_lt_of_le HLT.out.2.2 hk_.keep.1⟩, fun h0_ h1_ => ⟨hk_.blk (Q_HAX h0_ h1_).1 (Q_HAX h0_ h1_).2.1, (Q_HAX h0_ h1_).2⟩, fun h0_ => absurd ((hoff 7 (by kernel_rfl)).symm.trans h0_) (by decide), Q_X6_⟩
    refine steps_cons ?_ ?_
    · rintro b a w' ⟨gb, m6_, ha, Q_HU0, Q_HU1, Q_HU2, Q_HU3, Q_HBX, Q_HLT, Q_HAX, Q_HAY, Q_X6_⟩ hb_ hon hoff
      refine ⟨_, rfl, fun K hK => ?_⟩
      have e3 : a.tmps[3]? = some (.pointer (some ⟨B2, 0, none⟩)) := by rw [ha]; exact (putSel_off rfl).trans rfl
      replace ha := Aside0.mk ha
      have HBX := Aside0.mk Q_HBX
      have HLT := Aside0.mk Q_HLT
      have hs_ : w'.cell? ⟨B2, 0, none⟩ = some (.pointer (some ⟨g, 0, none⟩)) := (blk_cell HBX.out 0).trans rfl
      refine value_ (w1 := w') (v := .pointer (some ⟨g, 0, none⟩)) (by rfl) rfl ?_ ?_
      · go_simp
        (try simp only [i64_w])
        try rfl
      refine hK.out _ _ ⟨gb, m6_, (by rw [ha.out]; exact putSel_upk 2 hb_ rfl rfl rfl), Q_HU0, Q_HU1, fun h0_ _ => absurd ((hoff 3 (by kernel_rfl)).symm.trans h0_) (by decide), fun h0_ => absurd ((hoff 5 (by kernel_rfl)).symm.trans h0_) (by decide), Q_HBX, Q_HLT, Q_HAX, fun h0_ => absurd ((hoff 7 (by kernel_rfl)).symm.trans h0_) (by decide), Q_X6_⟩
    refine steps_cons ?_ ?_
    · rintro b a w' ⟨gb, m6_, ha, Q_HU0, Q_HU1, Q_HU2, Q_HU3, Q_HBX, Q_HLT, Q_HAX, Q_HAY, Q_X6_⟩ hb_ hon hoff
      refine ⟨_, rfl, fun K hK => ?_⟩
      have e25 : a.tmps[25]? = some (.pointer (some ⟨g, 0, none⟩)) := by rw [ha]; exact putSel_on (e := (2, 25, .pointer (some ⟨g, 0, none⟩))) 2 rfl rfl (hon 2 (by kernel_rfl)) rfl
      replace ha := Aside0.mk ha
      have HU1 := Aside0.mk (Q_HU1 (hon 1 (by kernel_rfl)) hb_)
      have HBX := Aside0.mk Q_HBX
      have HLT := Aside0.mk Q_HLT
      refine goes_ (N := some 26) Tryd.func22 (by kernel_rfl) rfl #[.pointer (some ⟨g, 0, none⟩), .int .i64 0, .int .i64 128] (by rfl) rfl rfl (by first | (simp only [List.map_toArray, List.map_cons, List.map_nil, Act.eval, Array.getD_eq_getD_getElem?, Option.getD_some, e25]; done) | (simp only [List.map_toArray, List.map_cons, List.map_nil, Act.eval, Array.getD_eq_getD_getElem?, Option.getD_some, e25]; rfl)) ?_
      refine (HC2.out _ HU1.out.rd).mono ?_
      rintro e w1 ⟨rfl, hs_, hk_⟩
      have HV_ := Aside0.mk (HU1.out.kb hk_ hs_)
      refine ⟨_, rfl, ?_⟩
      refine hK.out _ _ ⟨gb, m6_, (by rw [ha.out]; exact putSel_upk 3 hb_ rfl rfl rfl), fun h0_ => absurd ((hon 1 (by kernel_rfl)).symm.trans h0_) (by decide), fun _ h1_ => absurd ((up_self b 3).symm.trans h1_) (by decide), fun _ _ => HV_.out, fun h0_ => absurd ((hoff 5 (by kernel_rfl)).symm.trans h0_) (by decide), HV_.out.bx, ⟨Nat.lt_of_lt_of_le HLT.out.1 hk_.keep.1, Nat.lt_of_lt_of_le HLT.out.2.1 hk_.keep.1, Nat.lt_of_lt_of_le HLT.out.2.2 hk_.keep.1⟩, fun h0_ h1_ => ⟨hk_.blk (Q_HAX h0_ h1_).1 (Q_HAX h0_ h1_).2.1, (Q_HAX h0_ h1_).2⟩, fun h0_ => absurd ((hoff 7 (by kernel_rfl)).symm.trans h0_) (by decide), Q_X6_⟩
    refine steps_cons ?_ ?_
    · rintro b a w' ⟨gb, m6_, ha, Q_HU0, Q_HU1, Q_HU2, Q_HU3, Q_HBX, Q_HLT, Q_HAX, Q_HAY, Q_X6_⟩ hb_ hon hoff
      refine ⟨_, rfl, fun K hK => ?_⟩
      have e3 : a.tmps[3]? = some (.pointer (some ⟨B2, 0, none⟩)) := by rw [ha]; exact (putSel_off rfl).trans rfl
      replace ha := Aside0.mk ha
      have HBX := Aside0.mk Q_HBX
      have HLT := Aside0.mk Q_HLT
      have hs_ : w'.cell? ⟨B2, 0, none⟩ = some (.pointer (some ⟨g, 0, none⟩)) := (blk_cell HBX.out 0).trans rfl
      refine value_ (w1 := w') (v := .pointer (some ⟨g, 0, none⟩)) (by rfl) rfl ?_ ?_
      · go_simp
        (try simp only [i64_w])
        try rfl
      refine hK.out _ _ ⟨gb, m6_, (by rw [ha.out]; exact putSel_upk 4 hb_ rfl rfl rfl), Q_HU0, Q_HU1, Q_HU2, fun h0_ => absurd ((hoff 5 (by kernel_rfl)).symm.trans h0_) (by decide), Q_HBX, Q_HLT, Q_HAX, fun h0_ => absurd ((hoff 7 (by kernel_rfl)).symm.trans h0_) (by decide), Q_X6_⟩
    refine steps_cons ?_ ?_
    · rintro b a w' ⟨gb, m6_, ha, Q_HU0, Q_HU1, Q_HU2, Q_HU3, Q_HBX, Q_HLT, Q_HAX, Q_HAY, Q_X6_⟩ hb_ hon hoff
      refine ⟨_, rfl, fun K hK => ?_⟩
      have e27 : a.tmps[27]? = some (.pointer (some ⟨g, 0, none⟩)) := by rw [ha]; exact putSel_on (e := (4, 27, .pointer (some ⟨g, 0, none⟩))) 4 rfl rfl (hon 4 (by kernel_rfl)) rfl
      replace ha := Aside0.mk ha
      have HU2 := Aside0.mk (Q_HU2 (hon 3 (by kernel_rfl)) hb_)
      have HBX := Aside0.mk Q_HBX
      have HLT := Aside0.mk Q_HLT
      refine goes_ (N := some 28) Tryd.func22 (by kernel_rfl) rfl #[.pointer (some ⟨g, 0, none⟩), .int .i64 0, .int .i64 8] (by rfl) rfl rfl (by first | (simp only [List.map_toArray, List.map_cons, List.map_nil, Act.eval, Array.getD_eq_getD_getElem?, Option.getD_some, e27]; done) | (simp only [List.map_toArray, List.map_cons, List.map_nil, Act.eval, Array.getD_eq_getD_getElem?, Option.getD_some, e27]; rfl)) ?_
      refine (HC3.out _ HU2.out.rd).mono ?_
      rintro e w1 ⟨rfl, hs_, hk_⟩
      have HV_ := Aside0.mk (HU2.out.kb hk_ hs_)
      refine ⟨_, rfl, ?_⟩
      refine hK.out _ _ ⟨gb, m6_, (by rw [ha.out]; exact putSel_upk 5 hb_ rfl rfl rfl), fun h0_ => absurd ((hon 1 (by kernel_rfl)).symm.trans h0_) (by decide), fun _ h1_ => absurd ((hon 3 (by kernel_rfl)).symm.trans h1_) (by decide), fun _ h1_ => absurd ((up_self b 5).symm.trans h1_) (by decide), fun _ => HV_.out, HV_.out.bx, ⟨Nat.lt_of_lt_of_le HLT.out.1 hk_.keep.1, Nat.lt_of_lt_of_le HLT.out.2.1 hk_.keep.1, Nat.lt_of_lt_of_le HLT.out.2.2 hk_.keep.1⟩, fun h0_ h1_ => ⟨hk_.blk (Q_HAX h0_ h1_).1 (Q_HAX h0_ h1_).2.1, (Q_HAX h0_ h1_).2⟩, fun h0_ => absurd ((hoff 7 (by kernel_rfl)).symm.trans h0_) (by decide), Q_X6_⟩
    refine steps_cons ?_ ?_
    · rintro b a w' ⟨gb, m6_, ha, Q_HU0, Q_HU1, Q_HU2, Q_HU3, Q_HBX, Q_HLT, Q_HAX, Q_HAY, Q_X6_⟩ hb_ hon hoff
      refine ⟨_, rfl, fun K hK => ?_⟩
      replace ha := Aside0.mk ha
      have HBX := Aside0.mk Q_HBX
      have HLT := Aside0.mk Q_HLT
      refine value_ (w1 := w'.alloc (Obj.cells #[.int .i64 0] 2)) (v := .pointer (some ⟨w'.heap.size, 0, none⟩)) (by rfl) rfl (by go_simp; try rfl) ?_
      refine hK.out _ _ ⟨w'.heap.size, (.pointer (some ⟨w'.heap.size, 0, none⟩)), (by rw [ha.out]; exact putSel_upk 6 hb_ rfl rfl rfl), fun h0_ => (Q_HU0 h0_).below (below_alloc (Below.refl _ _) _), fun h0_ h1_ => (Q_HU1 h0_ h1_).below (below_alloc (Below.refl _ _) _), fun h0_ h1_ => (Q_HU2 h0_ h1_).below (below_alloc (Below.refl _ _) _), fun h0_ => (Q_HU3 h0_).below (below_alloc (Below.refl _ _) _), blk_alloc HBX.out _, (by have := HLT.out; simp; omega), fun _ _ => ⟨blk_new _ _, by have := HLT.out; omega, by have := HLT.out; omega, HLT.out.2.2⟩, fun h0_ => absurd ((hoff 7 (by kernel_rfl)).symm.trans h0_) (by decide), fun _ => rfl⟩
    refine steps_cons ?_ ?_
    · rintro b a w' ⟨gb, m6_, ha, Q_HU0, Q_HU1, Q_HU2, Q_HU3, Q_HBX, Q_HLT, Q_HAX, Q_HAY, Q_X6_⟩ hb_ hon hoff
      refine ⟨_, rfl, fun K hK => ?_⟩
      have e4 : a.tmps[4]? = some (m6_) := by rw [ha]; exact putSel_on (e := (6, 4, m6_)) 6 rfl rfl (hon 6 (by kernel_rfl)) rfl
      rw [Q_X6_ (hon 6 (by kernel_rfl))] at e4
      have e24 : a.tmps[24]? = some (.int .i64 n1) := by rw [ha]; exact putSel_on (e := (1, 24, .int .i64 n1)) 1 rfl rfl (hon 1 (by kernel_rfl)) rfl
      replace ha := Aside0.mk ha
      have HU3 := Aside0.mk (Q_HU3 (hon 5 (by kernel_rfl)))
      have HBX := Aside0.mk Q_HBX
      have HLT := Aside0.mk Q_HLT
      have HAX := Aside0.mk (Q_HAX (hon 6 (by kernel_rfl)) hb_)
      have hm0_ : w'.cell? ⟨gb, 0, none⟩ = some (.int .i64 0) := (blk_cell HAX.out.1 0).trans rfl
      have hf0_ := blk_frozen HAX.out.1 0
      refine skip_ (w1 := w'.setCell ⟨gb, 0, none⟩ (.int .i64 n1)) (by rfl) rfl (by go_simp; try rfl) ?_
      refine hK.out _ _ ⟨gb, m6_, (by rw [ha.out]; exact putSel_none (v := undef) rfl), fun h0_ => absurd ((hon 1 (by kernel_rfl)).symm.trans h0_) (by decide), fun _ h1_ => absurd ((hon 3 (by kernel_rfl)).symm.trans h1_) (by decide), fun _ h1_ => absurd ((hon 5 (by kernel_rfl)).symm.trans h1_) (by decide), fun _ => HU3.out.set HAX.out.1 (Nat.le_of_lt HAX.out.2.2.2) _, blk_far HBX.out (p := ⟨gb, 0, none⟩) (fun e => HAX.out.2.2.1 e.symm) _, (by simpa [World.setCell] using HLT.out), fun _ h1_ => absurd ((up_self b 7).symm.trans h1_) (by decide), fun _ => ⟨by have h_ := blk_set HAX.out.1 0 (.int .i64 n1); simpa using h_, HAX.out.2⟩, Q_X6_⟩
    refine steps_cons ?_ ?_
    · rintro b a w' ⟨gb, m6_, ha, Q_HU0, Q_HU1, Q_HU2, Q_HU3, Q_HBX, Q_HLT, Q_HAX, Q_HAY, Q_X6_⟩ hb_ hon hoff
      refine ⟨_, rfl, fun K hK => ?_⟩
      have e26 : a.tmps[26]? = some (.int .i64 n2) := by rw [ha]; exact putSel_on (e := (3, 26, .int .i64 n2)) 3 rfl rfl (hon 3 (by kernel_rfl)) rfl
      replace ha := Aside0.mk ha
      have HU3 := Aside0.mk (Q_HU3 (hon 5 (by kernel_rfl)))
      have HBX := Aside0.mk Q_HBX
      have HLT := Aside0.mk Q_HLT
      have HAY := Aside0.mk (Q_HAY (hon 7 (by kernel_rfl)))
      refine value_ (w1 := w') (v := .int .i64 n2) (by rfl) rfl ?_ ?_
      · go_simp
        (try simp only [i64_w])
        try rfl
      refine hK.out _ _ ⟨gb, m6_, (by rw [ha.out]; exact putSel_upk 7 hb_ rfl rfl rfl), fun h0_ => absurd ((hon 1 (by kernel_rfl)).symm.trans h0_) (by decide), fun _ h1_ => absurd ((hon 3 (by kernel_rfl)).symm.trans h1_) (by decide), fun _ h1_ => absurd ((hon 5 (by kernel_rfl)).symm.trans h1_) (by decide), Q_HU3, Q_HBX, Q_HLT, fun _ h1_ => absurd ((hon 7 (by kernel_rfl)).symm.trans h1_) (by decide), Q_HAY, Q_X6_⟩
    refine steps_cons ?_ ?_
    · rintro b a w' ⟨gb, m6_, ha, Q_HU0, Q_HU1, Q_HU2, Q_HU3, Q_HBX, Q_HLT, Q_HAX, Q_HAY, Q_X6_⟩ hb_ hon hoff
      refine ⟨_, rfl, fun K hK => ?_⟩
      have e28 : a.tmps[28]? = some (.int .i64 n3) := by rw [ha]; exact putSel_on (e := (5, 28, .int .i64 n3)) 5 rfl rfl (hon 5 (by kernel_rfl)) rfl
      replace ha := Aside0.mk ha
      have HU3 := Aside0.mk (Q_HU3 (hon 5 (by kernel_rfl)))
      have HBX := Aside0.mk Q_HBX
      have HLT := Aside0.mk Q_HLT
      have HAY := Aside0.mk (Q_HAY (hon 7 (by kernel_rfl)))
      refine value_ (w1 := w') (v := .int .i64 n3) (by rfl) rfl ?_ ?_
      · go_simp
        (try simp only [i64_w])
        try rfl
      refine hK.out _ _ ⟨gb, m6_, (by rw [ha.out]; exact putSel_upk 8 hb_ rfl rfl rfl), fun h0_ => absurd ((hon 1 (by kernel_rfl)).symm.trans h0_) (by decide), fun _ h1_ => absurd ((hon 3 (by kernel_rfl)).symm.trans h1_) (by decide), fun _ h1_ => absurd ((hon 5 (by kernel_rfl)).symm.trans h1_) (by decide), Q_HU3, Q_HBX, Q_HLT, fun _ h1_ => absurd ((hon 7 (by kernel_rfl)).symm.trans h1_) (by decide), Q_HAY, Q_X6_⟩
    exact steps_nil
  rintro b a w' hall ⟨gb, m6_, ha, Q_HU0, Q_HU1, Q_HU2, Q_HU3, Q_HBX, Q_HLT, Q_HAX, Q_HAY, Q_X6_⟩
  clear HBX HLT HU0
  have hb0_ := hall 0 (by kernel_rfl)
  have hb1_ := hall 1 (by kernel_rfl)
  have hb2_ := hall 2 (by kernel_rfl)
  have hb3_ := hall 3 (by kernel_rfl)
  have hb4_ := hall 4 (by kernel_rfl)
  have hb5_ := hall 5 (by kernel_rfl)
  have hb6_ := hall 6 (by kernel_rfl)
  have hb7_ := hall 7 (by kernel_rfl)
  have hb8_ := hall 8 (by kernel_rfl)
  have hb9_ := hall 9 (by kernel_rfl)
  subst ha
  obtain rfl := Q_X6_ hb6_
  simp only [putSel, hb0_, hb1_, hb2_, hb3_, hb4_, hb5_, hb6_, hb7_, hb8_, hb9_, if_true, Act.put, List.setIfInBounds_toArray, List.set_cons_zero, List.set_cons_succ]
  clear Q_HU0
  clear Q_HU1
  clear Q_HU2
  have HU3 := Aside0.mk (Q_HU3 hb5_)
  clear Q_HU3
  have HBX := Aside0.mk Q_HBX
  clear Q_HBX
  have HLT := Aside0.mk Q_HLT
  clear Q_HLT
  clear Q_HAX
  have HAY := Aside0.mk (Q_HAY hb7_)
  clear Q_HAY
  clear hall hb0_ hb1_ hb2_ hb3_ hb4_ hb5_ hb6_ hb7_ hb8_ hb9_
  have hr1 := rCount_range t ⟨4, none⟩ 64 (by decide)
  have hr2 := rCount_range t s1 128 (by decide)
  have hr3 := rCount_range t s2 8 (by decide)
  rw [HN.out.1] at hr1
  rw [HN.out.2.1] at hr2
  rw [HN.out.2.2] at hr3
  dsimp only at hr1 hr2 hr3
  obtain ⟨k1, rfl⟩ : ∃ k : Nat, n1 = (k : Int) := ⟨n1.toNat, by omega⟩
  obtain ⟨k2, rfl⟩ : ∃ k : Nat, n2 = (k : Int) := ⟨n2.toNat, by omega⟩
  obtain ⟨k3, rfl⟩ : ∃ k : Nat, n3 = (k : Int) := ⟨n3.toNat, by omega⟩
  have HK1 : Aside0 (k1 ≤ 64) := ⟨by omega⟩
  have HK2 : Aside0 (k2 ≤ 128) := ⟨by omega⟩
  have HK3 : Aside0 (k3 ≤ 8) := ⟨by omega⟩
  obtain ⟨nm, s4, hn4⟩ : ∃ n s, rName t s3 = (n, s) := ⟨_, _, rfl⟩
  obtain ⟨bk, s5, hn5⟩ : ∃ n s, rName t s4 = (n, s) := ⟨_, _, rfl⟩
  obtain ⟨tb, s6, hn6⟩ : ∃ n s, rTab t k1 s5 = (n, s) := ⟨_, _, rfl⟩
  have hp4 : s4.p ≤ t.size := by have := rName_p t s3 HP3.out; rw [hn4] at this; exact this
  have hp5 : s5.p ≤ t.size := by have := rName_p t s4 hp4; rw [hn5] at this; exact this
  have hp6 : s6.p ≤ t.size := by have := rTab_p t k1 s5 hp5; rw [hn6] at this; exact this
  have hl6 : tb.length = k1 := by have := rTab_len t k1 s5; rw [hn6] at this; exact this
  have hnm1 := rd_name w w' g B2 t s3 HT.out HP3.out HU3.out.b2.1 HU3.out.b2.2 HU3.out.rd
  rw [hn4] at hnm1
  have HNM1 := Aside0.mk hnm1
  have HNM2 : Aside0 (∀ W, UpW w W t g B2 s4 → Calls Tryd.prog 23 #[.pointer (some ⟨B2, 0, none⟩)] W fun e w' => e = .returned (.string bk) ∧ RdSt w w' g t s5 ∧ KB W w' g) := ⟨fun W h => by have := rd_name w W g B2 t s4 HT.out hp4 h.b2.1 h.b2.2 h.rd; rw [hn5] at this; exact this⟩
  have HTAB : Aside0 (∀ W, UpW w W t g B2 s5 → W.cell? ⟨gb, 0, none⟩ = some (.int .i64 (k1 : Int)) → Calls Tryd.prog 25 #[.pointer (some ⟨gb, 0, none⟩), .pointer (some ⟨B2, 0, none⟩)] W fun e w' => ∃ v, e = .returned v ∧ Kd.R (Kd.int .i64) 2 w' W.heap.size (fun _ => True) v tb ∧ RdSt w w' g t s6 ∧ KB W w' g) := ⟨fun W h hc => by have := rd_table w W g gb B2 t s5 k1 (by have := HK1.out; omega) HT.out hp5 hc h.b2.1 h.b2.2 h.rd; rw [hn6] at this; exact this⟩
  have HN2 : Aside0 (rName t s3 = (nm, s4) ∧ rName t s4 = (bk, s5) ∧ rTab t k1 s5 = (tb, s6)) := ⟨⟨hn4, hn5, hn6⟩⟩
  have HP6 := Aside0.mk hp6
  have HL6 := Aside0.mk hl6
  have eg1 : ∀ args w, (callFunc 23 args).run Tryd.prog w = .ok (.enter 23 args) w := enters_of Tryd.func23 (by kernel_rfl) rfl
  have eg2 : ∀ args w, (callFunc 25 args).run Tryd.prog w = .ok (.enter 25 args) w := enters_of Tryd.func25 (by kernel_rfl) rfl
  clear hr1 hr2 hr3 hn4 hn5 hn6 hp4 hp5 hp6 hl6 hnm1 HC1 HC2 HC3
  go_wp2_with (fail)
  go_at_call 23
  refine HNM1.out.mono ?_
  rintro e w4 ⟨rfl, hs4, hk4⟩
  have HU4 := Aside0.mk (HU3.out.kb hk4 hs4)
  have HG4 := Aside0.mk (hk4.blk HAY.out.1 HAY.out.2.1)
  clear hs4 hk4
  go_wp2_with (fail)
  go_at_call 23
  refine (HNM2.out _ HU4.out).mono ?_
  rintro e w5 ⟨rfl, hs5, hk5⟩
  have HU5 := Aside0.mk (HU4.out.kb hk5 hs5)
  have HG5 := Aside0.mk (hk5.blk HG4.out HAY.out.2.1)
  clear hs5 hk5
  go_wp2_with (fail)
  go_at_call 25
  refine (HTAB.out _ HU5.out ((blk_cell HG5.out 0).trans rfl)).mono ?_
  rintro e w6 ⟨vT, rfl, hrT, hs6, hk6⟩
  have HU6 := Aside0.mk (HU5.out.kb hk6 hs6)
  have HG6 := Aside0.mk (hk6.blk HG5.out HAY.out.2.1)
  obtain ⟨AT, cT, rfl⟩ := Kd.R_slice hrT
  have HRT := Aside0.mk hrT
  have HLT5 : Aside0 (gb < w5.heap.size) := ⟨blk_lt HG5.out⟩
  clear hs6 hk6 hrT
  go_wp2_with (fail)
  have hM0 := blk_new w6 (Obj.cells #[.string nm, .string bk, .slice AT tb.length cT, .slice none 0 0, .slice none 0 0] 26)
  have hU7 := HU6.out.below (below_alloc (Below.refl _ _) (Obj.cells #[.string nm, .string bk, .slice AT tb.length cT, .slice none 0 0, .slice none 0 0] 26))
  have hG7 := blk_alloc HG6.out (Obj.cells #[.string nm, .string bk, .slice AT tb.length cT, .slice none 0 0, .slice none 0 0] 26)
  have hT7 := Kd.R_lower (Kd.R_alloc HRT.out (Obj.cells #[.string nm, .string bk, .slice AT tb.length cT, .slice none 0 0, .slice none 0 0] 26)) HU5.out.rd.2.1.size
  generalize w6.alloc (Obj.cells #[.string nm, .string bk, .slice AT tb.length cT, .slice none 0 0, .slice none 0 0] 26) = W7 at hM0 hU7 hG7 hT7 ⊢
  have hMW : w.heap.size ≤ w6.heap.size := HU6.out.rd.2.1.size
  generalize w6.heap.size = M at hM0 hMW ⊢
  have HM7 := Aside0.mk hM0
  have HU7 := Aside0.mk hU7
  have HG7 := Aside0.mk hG7
  have HT7 := Aside0.mk hT7
  have HMW : Aside0 (w.heap.size ≤ M) := ⟨hMW⟩
  have HMG : Aside0 (M ≠ g) := ⟨by obtain ⟨cs, hg⟩ := hU7.rd.blk; exact ty_ne hM0 hg (by decide)⟩
  have HGG : Aside0 (gb ≠ g) := ⟨HAY.out.2.1⟩
  clear hM0 hU7 hG7 hT7 hMW HU6 HG6 HRT HU5 HG5 HU4 HG4 HU3 HBX HLT HLT5 HNM1 HNM2 HTAB
  go_loopg [39] k2 (fun gq v39 wr => ∃ (j : Nat) (xs : List ByteArray) (sx : RS) (vD : Value), v39 = .int .i64 j ∧ Aside0 (j ≤ k2) ∧ Aside0 (k2 - j ≤ gq) ∧ Aside0 (UpW w wr t g B2 sx) ∧ Aside0 (sx.p ≤ t.size) ∧ Aside0 (wr.heap[gb]? = some (.cells #[.int .i64 (k1 : Int)] 2 (0, 0))) ∧ Aside0 (wr.heap[M]? = some (.cells #[.string nm, .string bk, .slice AT tb.length cT, vD, .slice none 0 0] 26 (0, 0))) ∧ Aside0 (Kd.R (Kd.int .i64) 2 wr w.heap.size (fun _ => True) (.slice AT tb.length cT) tb) ∧ Aside0 (Kd.R Kd.string 9 wr w.heap.size (fun _ => True) vD xs) ∧ Aside0 (xs.length = j) ∧ Aside0 (rDat t k2 s6 = (xs ++ (rDat t (k2 - j) sx).1, (rDat t (k2 - j) sx).2)))
  case atStart => exact ⟨0, [], s6, .slice none 0 0, rfl, ⟨Nat.zero_le _⟩, ⟨by omega⟩, HU7, HP6, HG7, HM7, HT7, ⟨Kd.R_nil _ _ _ _ _⟩, ⟨rfl⟩, ⟨rfl⟩⟩
  case round =>
    obtain ⟨j, xs, sx, vD, rfl, hj, hg, HU, HPX, HG, HM, HTT, HRD, hx, HE⟩ := hrel
    by_cases hlt : j < k2
    · have hltz : (j : Int) < (k2 : Int) := by omega
      obtain ⟨AD, cD, rfl⟩ := Kd.R_slice HRD.out
      have hT := fun W h => rd_take w W g t sx 16 (by decide) HT.out HPX.out h
      have hP2 := rTake_p t sx 16 HPX.out
      have hstep : rDat t (k2 - j) sx = ((rTake t sx 16).1 :: (rDat t (k2 - (j + 1)) (rTake t sx 16).2).1, (rDat t (k2 - (j + 1)) (rTake t sx 16).2).2) := by rw [show k2 - j = (k2 - (j + 1)) + 1 from by omega]; rfl
      have hE := HE.out
      rw [hstep] at hE
      obtain ⟨x, hx0⟩ : ∃ x, rTake t sx 16 = x := ⟨_, rfl⟩
      rw [hx0] at hT hP2 hE
      obtain ⟨p, s2x⟩ := x
      dsimp only at hP2
      have HTK : Aside0 (∀ W, UpW w W t g B2 sx → Calls Tryd.prog 24 #[.pointer (some ⟨g, 0, none⟩), .int .i64 16] W fun e w' => e = .returned (.string p) ∧ RdSt w w' g t s2x ∧ KB W w' g) := ⟨fun W h => hT W h.rd⟩
      have HP2 := Aside0.mk hP2
      have HE2 : Aside0 (rDat t k2 s6 = ((xs ++ [p]) ++ (rDat t (k2 - (j + 1)) s2x).1, (rDat t (k2 - (j + 1)) s2x).2)) := ⟨by rw [hE, List.append_assoc]; rfl⟩
      obtain ⟨y9, hy9⟩ : ∃ y, xs ++ [p] = y := ⟨_, rfl⟩
      have HY9 := Aside0.mk hy9
      rw [hy9] at HE2
      clear hy9
      have HXL : Aside0 (xs.length ≤ 1000) := ⟨by have := hx.out; have := HK2.out; omega⟩
      have HUd : Aside0 (UpW w wr.drew t g B2 sx) := ⟨HU.out.below (below_drew (Below.refl _ _))⟩
      have HMd : Aside0 (wr.drew.heap[M]? = some (.cells #[.string nm, .string bk, .slice AT tb.length cT, .slice AD xs.length cD, .slice none 0 0] 26 (0, 0))) := ⟨HM.out⟩
      have HGd : Aside0 (wr.drew.heap[gb]? = some (.cells #[.int .i64 (k1 : Int)] 2 (0, 0))) := ⟨HG.out⟩
      have HRd : Aside0 (Kd.R Kd.string 9 wr.drew w.heap.size (fun _ => True) (.slice AD xs.length cD) xs) := ⟨Kd.R_drew HRD.out⟩
      have HTd : Aside0 (Kd.R (Kd.int .i64) 2 wr.drew w.heap.size (fun _ => True) (.slice AT tb.length cT) tb) := ⟨Kd.R_drew HTT.out⟩
      clear hT hP2 hE hx0 hstep HU HM HG HRD HTT
      go_upto_region 12 with (fail)
      refine start_ (n := 8) (S := fun w' => w'.cell? ⟨M, 3, none⟩ = some (.slice AD xs.length cD) ∧ w'.cell? ⟨B2, 0, none⟩ = some (.pointer (some ⟨g, 0, none⟩))) (ds := [7]) #[false, false, false, false, false, false, false, false] (by kernel_rfl) rfl rfl ⟨(blk_cell HMd.out 3).trans rfl, HUd.out.b2.1⟩ (fun hHeld => ?_)
      refine with_tabW impl_UnpackImage.tab12 impl_UnpackImage.bits12 (fun HT_ HW_ => ?_)
      refine pure_ (i := 0) (N := some 41) (v := ?_) (a' := ?_) #[true, false, false, false, false, false, false, false] rfl rfl (any_of HT_.out (by kernel_rfl)) (fun _ _ _ h => h) (Or.inl ⟨by rfl, ?_⟩) ?_ ?_
      rotate_left
      · intro w'
        go_simp
        with_reducible rfl
      rotate_left
      · simp only [Act.put, List.setIfInBounds_toArray, List.set_cons_zero, List.set_cons_succ, i64_w, i32_w]
        rfl
      refine take_ (i := 1) (N := some 42) (v := ?_) (a' := ?_) #[true, true, false, false, false, false, false, false] rfl rfl (take_ofW HT_.out HW_.out (by kernel_rfl)) (fun _ _ _ h => h) (Or.inl ⟨by rfl, ?_⟩) hHeld ?_ ?_
      rotate_left
      · rintro w' ⟨s0, s1⟩
        go_simp
        with_reducible rfl
      rotate_left
      · simp only [Act.put, List.setIfInBounds_toArray, List.set_cons_zero, List.set_cons_succ, i64_w, i32_w]
        rfl
      refine take_ (i := 2) (N := some 43) (v := ?_) (a' := ?_) #[true, true, true, false, false, false, false, false] rfl rfl (take_ofW HT_.out HW_.out (by kernel_rfl)) (fun _ _ _ h => h) (Or.inl ⟨by rfl, ?_⟩) hHeld ?_ ?_
      rotate_left
      · rintro w' ⟨s0, s1⟩
        go_simp
        with_reducible rfl
      rotate_left
      · simp only [Act.put, List.setIfInBounds_toArray, List.set_cons_zero, List.set_cons_succ, i64_w, i32_w]
        rfl
      refine one_ (i := 3) (N := some 44) #[true, true, true, true, false, false, false, false] rfl rfl (one_of HT_.out (by kernel_rfl)) (by decide) (fun K hK => ?_)
      refine goes_ (N := some 44) Tryd.func24 (by kernel_rfl) rfl #[.pointer (some ⟨g, 0, none⟩), .int .i64 16] (by rfl) rfl rfl (by simp only [List.map_toArray, List.map_cons, List.map_nil]; rfl) ?_
      with_reducible refine (HTK.out _ HUd.out).mono ?_
      rintro e w3 ⟨rfl, hs, hk⟩
      refine ⟨_, rfl, ?_⟩
      have HU3_ := Aside0.mk (HUd.out.kb hk hs)
      have HM3_ := Aside0.mk (hk.blk HMd.out HMG.out)
      have HG3_ := Aside0.mk (hk.blk HGd.out HGG.out)
      have HR3_ := Aside0.mk (r_kb HRd.out HUd.out (by decide) hk)
      have HT3_ := Aside0.mk (r_kb HTd.out HUd.out (by decide) hk)
      clear hs hk
      refine hK.out _ _ ⟨(blk_cell HM3_.out 3).trans rfl, HU3_.out.b2.1⟩ (fun hHeld => ?_)
      clear hK K
      refine norm_ (a' := ?_) ?_ ?_
      rotate_left
      · show Act.put _ (some 44) _ = _
        simp only [Act.put, List.setIfInBounds_toArray, List.set_cons_zero, List.set_cons_succ, i64_w, i32_w]
        rfl
      refine one_ (i := 4) (N := some 45) #[true, true, true, true, true, false, false, false] rfl rfl (one_of HT_.out (by kernel_rfl)) (by decide) (fun K hK => ?_)
      refine value_ (w1 := ?_) (v := ?_) (by rfl) rfl ?_ ?_
      rotate_left 2
      · go_simp
        constructor
        · rfl
        · rfl
      refine hK.out _ _ ⟨(blk_cell (blk_alloc HM3_.out _) 3).trans rfl, (blk_cell (blk_alloc HU3_.out.bx _) 0).trans rfl⟩ (fun hHeld => ?_)
      clear hK K
      refine norm_ (a' := ?_) ?_ ?_
      rotate_left
      · show Act.put _ (some 45) _ = _
        simp only [Act.put, List.setIfInBounds_toArray, List.set_cons_zero, List.set_cons_succ, i64_w, i32_w]
        rfl
      refine one_ (i := 5) (N := some 46) #[true, true, true, true, true, true, false, false] rfl rfl (one_of HT_.out (by kernel_rfl)) (by decide) (fun K hK => ?_)
      refine Kd.R_append_step Kd.string (w0 := w3) w.heap.size (by rfl) (.tmp 42) (.tmp 45) 23 9 (.string ⟨#[]⟩) 16 rfl Tryd.underlying23 info_str rfl (by decide) (by omega) (.slice AD xs.length cD) xs p [.string p] (fun _ => True) (fun _ => False) rfl rfl ?aP (fun _ hk => hk.elim) ?aF ?aO ?aB ?aS ?aL ?_
      case aP => exact rfl
      case aF => exact (fun _ _ => trivial)
      case aO => exact HR3_.out
      case aB => exact Below.refl _ _
      case aS => exact HU3_.out.rd.2.1.size
      case aL => have := HXL.out; omega
      intro v9 w9 ho hb hg9 hat
      rw [HY9.out] at ho
      obtain ⟨A9, c9, rfl⟩ := Kd.R_slice ho
      have HU9 := Aside0.mk (HU3_.out.grown hg9 hb (Nat.le_refl _) (by decide) (by decide) (by decide) (by decide) (Kd.R_typed HR3_.out))
      have HM9 := Aside0.mk (row_keeps HM3_.out hg9 (by decide) (Kd.R_typed HR3_.out))
      have HG9 := Aside0.mk (row_keeps HG3_.out hg9 (by decide) (Kd.R_typed HR3_.out))
      have HT9 := Aside0.mk (r_over HT3_.out hg9 (by decide) (Kd.R_typed HR3_.out))
      have HR9 := Aside0.mk ho
      have f9_ := blk_frozen HM9.out 3
      clear ho hb hg9 hat
      refine hK.out _ _ ⟨(blk_cell HM9.out 3).trans rfl, HU9.out.b2.1⟩ (fun hHeld => ?_)
      clear hK K
      refine norm_ (a' := ?_) ?_ ?_
      rotate_left
      · show Act.put _ (some 46) _ = _
        simp only [Act.put, List.setIfInBounds_toArray, List.set_cons_zero, List.set_cons_succ, i64_w, i32_w]
        rfl
      refine pure_ (i := 6) (N := some 47) (v := ?_) (a' := ?_) #[true, true, true, true, true, true, true, false] rfl rfl (any_of HT_.out (by kernel_rfl)) (fun _ _ _ h => h) (Or.inl ⟨by rfl, ?_⟩) ?_ ?_
      rotate_left
      · intro w'
        go_simp
        with_reducible rfl
      rotate_left
      · simp only [Act.put, List.setIfInBounds_toArray, List.set_cons_zero, List.set_cons_succ, i64_w, i32_w]
        rfl
      refine last_ (i := 7) (N := none) #[true, true, true, true, true, true, true, true] rfl rfl (one_of HT_.out (by kernel_rfl)) (by decide) (fun K hK => ?_)
      refine skip_ (w1 := ?_) (by rfl) rfl ?_ ?_
      rotate_left
      · go_simp
        rfl
      refine hK.out _ _ ?_
      clear hK K
      refine done_ (done_of HT_.out (by kernel_rfl)) ?_

      have hlen9 : y9.length = j + 1 := by rw [← HY9.out, List.length_append, hx.out]; rfl
      have HL9 := Aside0.mk hlen9
      have HUe := Aside0.mk (HU9.out.far HM9.out (by decide) (by decide) (by decide) (by decide) HMW.out 3 (.slice A9 y9.length c9))
      have HGe := Aside0.mk (blk_far HG9.out (p := ⟨M, 3, none⟩) (ty_ne HG9.out HM9.out (by decide)) (.slice A9 y9.length c9))
      have HMe := Aside0.mk (blk_put HM9.out 3 (.slice A9 y9.length c9) rfl (cs' := #[.string nm, .string bk, .slice AT tb.length cT, .slice A9 y9.length c9, .slice none 0 0]))
      have HTe := Aside0.mk (r_far (j := 3) HT9.out HM9.out (by decide) (.slice A9 y9.length c9))
      have HRe := Aside0.mk (r_far (j := 3) HR9.out HM9.out (by decide) (.slice A9 y9.length c9))
      clear hlen9
      (try go_wp2)
      go_roundg (k2 - (j + 1))
      case measure => have := hg.out; omega
      case rel => exact ⟨j + 1, y9, s2x, .slice A9 y9.length c9, (by have e9 : wrap64 ((j : Int) + 1) = ((j + 1 : Nat) : Int) := (by have := HK2.out; rw [Go.Proofs.YtoifdnnjdohfmaaDoor.Pl.w64 (by omega) (by omega)]; omega); first | (rw [e9]; done) | (rw [Go.Proofs.YtoifdnnjdohfmaaDoor.Pl.i64w, e9]; done) | (simp only [e9]; done)), ⟨hlt⟩, ⟨by omega⟩, HUe, HP2, HGe, HMe, HTe, HRe, HL9, HE2⟩
    · have hltz : ¬ (j : Int) < (k2 : Int) := by omega
      have hjn : j = k2 := by have := hj.out; omega
      subst hjn
      obtain ⟨AD, cD, rfl⟩ := Kd.R_slice HRD.out
      have hE := HE.out
      rw [Nat.sub_self] at hE
      have HDAT : Aside0 (rDat t j s6 = (xs, sx)) := ⟨by rw [hE]; show (xs ++ [], sx) = _; rw [List.append_nil]⟩
      clear hE HE HU7 HM7 HG7 HT7
      go_wp2_with (fail)
      go_loopg [50] k3 (fun gq v50 wr => ∃ (i : Nat) (ys : List S47) (sy : RS) (vS : Value), v50 = .int .i64 i ∧ Aside0 (i ≤ k3) ∧ Aside0 (k3 - i ≤ gq) ∧ Aside0 (UpW w wr t g B2 sy) ∧ Aside0 (sy.p ≤ t.size) ∧ Aside0 (wr.heap[gb]? = some (.cells #[.int .i64 (k1 : Int)] 2 (0, 0))) ∧ Aside0 (wr.heap[M]? = some (.cells #[.string nm, .string bk, .slice AT tb.length cT, .slice AD xs.length cD, vS] 26 (0, 0))) ∧ Aside0 (Kd.R (Kd.int .i64) 2 wr w.heap.size (fun _ => True) (.slice AT tb.length cT) tb) ∧ Aside0 (Kd.R Kd.string 9 wr w.heap.size (fun _ => True) (.slice AD xs.length cD) xs) ∧ Aside0 (Kd.S k47 47 wr w.heap.size (fun k_ => some k_ ≠ (.slice AT tb.length cT : Value).ownBlock) vS ys) ∧ Aside0 (ys.length = i) ∧ Aside0 (rSnaps t k1 k3 sx = (ys ++ (rSnaps t k1 (k3 - i) sy).1, (rSnaps t k1 (k3 - i) sy).2)))
      case atStart => exact ⟨0, [], sx, .slice none 0 0, rfl, ⟨Nat.zero_le _⟩, ⟨by omega⟩, HU, HPX, HG, HM, HTT, HRD, ⟨Kd.S_nil _ _ _ _ _⟩, ⟨rfl⟩, ⟨rfl⟩⟩
      case round =>
        clear HU HPX HG HM HTT HRD hx
        obtain ⟨i, ys, sy, vS, rfl, hi, hgi, HU, HPX, HG, HM, HTT, HRD, HSS, hx, HE⟩ := hrel
        by_cases hlt : i < k3
        · have hltz2 : (i : Int) < (k3 : Int) := by omega
          obtain ⟨AS, cS, rfl⟩ := Kd.S_slice HSS.out
          obtain ⟨p, sa, hna⟩ : ∃ n s, rName t sy = (n, s) := ⟨_, _, rfl⟩
          obtain ⟨q, sb, hnb⟩ : ∃ n s, rTab t k1 sa = (n, s) := ⟨_, _, rfl⟩
          have hpa : sa.p ≤ t.size := by have := rName_p t sy HPX.out; rw [hna] at this; exact this
          have hpb : sb.p ≤ t.size := by have := rTab_p t k1 sa hpa; rw [hnb] at this; exact this
          have hstep : rSnaps t k1 (k3 - i) sy = (⟨p, q⟩ :: (rSnaps t k1 (k3 - (i + 1)) sb).1, (rSnaps t k1 (k3 - (i + 1)) sb).2) := by
            rw [show k3 - i = (k3 - (i + 1)) + 1 from by omega]
            show ((⟨(rName t sy).1, (rTab t k1 (rName t sy).2).1⟩ : S47) :: (rSnaps t k1 (k3 - (i + 1)) (rTab t k1 (rName t sy).2).2).1, (rSnaps t k1 (k3 - (i + 1)) (rTab t k1 (rName t sy).2).2).2) = _
            rw [hna, hnb]
          have hE := HE.out
          rw [hstep] at hE
          have HNM : Aside0 (∀ W, UpW w W t g B2 sy → Calls Tryd.prog 23 #[.pointer (some ⟨B2, 0, none⟩)] W fun e w' => e = .returned (.string p) ∧ RdSt w w' g t sa ∧ KB W w' g) := ⟨fun W h => by have := rd_name w W g B2 t sy HT.out HPX.out h.b2.1 h.b2.2 h.rd; rw [hna] at this; exact this⟩
          have HTB : Aside0 (∀ W, UpW w W t g B2 sa → W.cell? ⟨gb, 0, none⟩ = some (.int .i64 (k1 : Int)) → Calls Tryd.prog 25 #[.pointer (some ⟨gb, 0, none⟩), .pointer (some ⟨B2, 0, none⟩)] W fun e w' => ∃ v, e = .returned v ∧ Kd.R (Kd.int .i64) 2 w' W.heap.size (fun _ => True) v q ∧ RdSt w w' g t sb ∧ KB W w' g) := ⟨fun W h hc => by have := rd_table w W g gb B2 t sa k1 (by have := HK1.out; omega) HT.out hpa hc h.b2.1 h.b2.2 h.rd; rw [hnb] at this; exact this⟩
          have HPB := Aside0.mk hpb
          have HE2 : Aside0 (rSnaps t k1 k3 sx = ((ys ++ [⟨p, q⟩]) ++ (rSnaps t k1 (k3 - (i + 1)) sb).1, (rSnaps t k1 (k3 - (i + 1)) sb).2)) := ⟨by rw [hE, List.append_assoc]; rfl⟩
          obtain ⟨y9, hy9⟩ : ∃ y, ys ++ [⟨p, q⟩] = y := ⟨_, rfl⟩
          have HY9 := Aside0.mk hy9
          rw [hy9] at HE2
          clear hy9
          have HXL : Aside0 (ys.length ≤ 1000) := ⟨by have := hx.out; have := HK3.out; omega⟩
          have HUd : Aside0 (UpW w wr.drew t g B2 sy) := ⟨HU.out.below (below_drew (Below.refl _ _))⟩
          have HMd : Aside0 (wr.drew.heap[M]? = some (.cells #[.string nm, .string bk, .slice AT tb.length cT, .slice AD xs.length cD, .slice AS ys.length cS] 26 (0, 0))) := ⟨HM.out⟩
          have HGd : Aside0 (wr.drew.heap[gb]? = some (.cells #[.int .i64 (k1 : Int)] 2 (0, 0))) := ⟨HG.out⟩
          have HRd : Aside0 (Kd.R Kd.string 9 wr.drew w.heap.size (fun _ => True) (.slice AD xs.length cD) xs) := ⟨Kd.R_drew HRD.out⟩
          have HTd : Aside0 (Kd.R (Kd.int .i64) 2 wr.drew w.heap.size (fun _ => True) (.slice AT tb.length cT) tb) := ⟨Kd.R_drew HTT.out⟩
          have HSd : Aside0 (Kd.S k47 47 wr.drew w.heap.size (fun k_ => some k_ ≠ (.slice AT tb.length cT : Value).ownBlock) (.slice AS ys.length cS) ys) := ⟨Kd.S_drew HSS.out⟩
          clear hna hnb hpa hpb hstep hE HU HM HG HRD HTT HSS
          go_upto_region 16 with (fail)
          refine start_ (n := 11) (S := fun w' => w'.cell? ⟨M, 4, none⟩ = some (.slice AS ys.length cS)) (ds := [10]) #[false, false, false, false, false, false, false, false, false, false, false] (by kernel_rfl) rfl rfl ((blk_cell HMd.out 4).trans rfl) (fun hHeld => ?_)
          refine with_tabW impl_UnpackImage.tab16 impl_UnpackImage.bits16 (fun HT_ HW_ => ?_)
          refine pure_ (i := 0) (N := some 52) (v := ?_) (a' := ?_) #[true, false, false, false, false, false, false, false, false, false, false] rfl rfl (any_of HT_.out (by kernel_rfl)) (fun _ _ _ h => h) (Or.inl ⟨by rfl, ?_⟩) ?_ ?_
          rotate_left
          · intro w'
            go_simp
            with_reducible rfl
          rotate_left
          · simp only [Act.put, List.setIfInBounds_toArray, List.set_cons_zero, List.set_cons_succ, i64_w, i32_w]
            rfl
          refine pure_ (i := 2) (N := some 54) (v := ?_) (a' := ?_) #[true, false, true, false, false, false, false, false, false, false, false] rfl rfl (any_of HT_.out (by kernel_rfl)) (fun _ _ _ h => h) (Or.inl ⟨by rfl, ?_⟩) ?_ ?_
          rotate_left
          · intro w'
            go_simp
            with_reducible rfl
          rotate_left
          · simp only [Act.put, List.setIfInBounds_toArray, List.set_cons_zero, List.set_cons_succ, i64_w, i32_w]
            rfl
          refine pure_ (i := 4) (N := some 56) (v := ?_) (a' := ?_) #[true, false, true, false, true, false, false, false, false, false, false] rfl rfl (any_of HT_.out (by kernel_rfl)) (fun _ _ _ h => h) (Or.inl ⟨by rfl, ?_⟩) ?_ ?_
          rotate_left
          · intro w'
            go_simp
            with_reducible rfl
          rotate_left
          · simp only [Act.put, List.setIfInBounds_toArray, List.set_cons_zero, List.set_cons_succ, i64_w, i32_w]
            rfl
          refine take_ (i := 1) (N := some 53) (v := ?_) (a' := ?_) #[true, true, true, false, true, false, false, false, false, false, false] rfl rfl (take_ofW HT_.out HW_.out (by kernel_rfl)) (fun _ _ _ h => h) (Or.inl ⟨by rfl, ?_⟩) hHeld ?_ ?_
          rotate_left
          · intro w' s0
            go_simp
            with_reducible rfl
          rotate_left
          · simp only [Act.put, List.setIfInBounds_toArray, List.set_cons_zero, List.set_cons_succ, i64_w, i32_w]
            rfl
          refine one_ (i := 3) (N := some 55) #[true, true, true, true, true, false, false, false, false, false, false] rfl rfl (one_of HT_.out (by kernel_rfl)) (by decide) (fun K hK => ?_)
          refine goesV_ (N := some 55) Tryd.func23 (by kernel_rfl) rfl #[.pointer (some ⟨B2, 0, none⟩)] (by rfl) rfl rfl (by rfl) ?_
          refine (HNM.out _ HUd.out).mono ?_
          rintro e w3 ⟨rfl, hs, hk⟩
          refine ⟨_, rfl, ?_⟩
          have HU3_ := Aside0.mk (HUd.out.kb hk hs)
          have HM3_ := Aside0.mk (hk.blk HMd.out HMG.out)
          have HG3_ := Aside0.mk (hk.blk HGd.out HGG.out)
          have HR3_ := Aside0.mk (r_kb HRd.out HUd.out (by decide) hk)
          have HT3_ := Aside0.mk (r_kb HTd.out HUd.out (by decide) hk)
          have HS3_ := Aside0.mk (s_kb HSd.out HUd.out (by decide) hk)
          clear hs hk
          refine hK.out _ _ ((blk_cell HM3_.out 4).trans rfl) (fun hHeld => ?_)
          clear hK K
          refine norm_ (a' := ?_) ?_ ?_
          rotate_left
          · show Act.put _ (some 55) _ = _
            simp only [Act.put, List.setIfInBounds_toArray, List.set_cons_zero, List.set_cons_succ, i64_w, i32_w]
            rfl
          refine one_ (i := 5) (N := some 57) #[true, true, true, true, true, true, false, false, false, false, false] rfl rfl (one_of HT_.out (by kernel_rfl)) (by decide) (fun K hK => ?_)
          refine goesV_ (N := some 57) Tryd.func25 (by kernel_rfl) rfl #[.pointer (some ⟨gb, 0, none⟩), .pointer (some ⟨B2, 0, none⟩)] (by rfl) rfl rfl (by rfl) ?_
          refine (HTB.out _ HU3_.out ((blk_cell HG3_.out 0).trans rfl)).mono ?_
          rintro e w4 ⟨vq, rfl, hq, hs, hk⟩
          refine ⟨_, rfl, ?_⟩
          have HU4_ := Aside0.mk (HU3_.out.kb hk hs)
          have HM4_ := Aside0.mk (hk.blk HM3_.out HMG.out)
          have HG4_ := Aside0.mk (hk.blk HG3_.out HGG.out)
          have HR4_ := Aside0.mk (r_kb HR3_.out HU3_.out (by decide) hk)
          have HT4_ := Aside0.mk (r_kb HT3_.out HU3_.out (by decide) hk)
          obtain ⟨AQ, cQ, rfl⟩ := Kd.R_slice hq
          have HS4_ := Aside0.mk (s_told HS3_.out HU3_.out (by decide) hk (Kd.R_base hq))
          have HQ4_ := Aside0.mk (q_new hq HU3_.out.rd.2.1.size (Kd.R_lt HT3_.out) (Kd.S_lt HS3_.out))
          clear hs hk hq
          refine hK.out _ _ ((blk_cell HM4_.out 4).trans rfl) (fun hHeld => ?_)
          clear hK K
          refine norm_ (a' := ?_) ?_ ?_
          rotate_left
          · show Act.put _ (some 57) _ = _
            simp only [Act.put, List.setIfInBounds_toArray, List.set_cons_zero, List.set_cons_succ, i64_w, i32_w]
            rfl
          refine pure_ (i := 6) (N := some 58) (v := ?_) (a' := ?_) #[true, true, true, true, true, true, true, false, false, false, false] rfl rfl (any_of HT_.out (by kernel_rfl)) (fun _ _ _ h => h) (Or.inl ⟨by rfl, ?_⟩) ?_ ?_
          rotate_left
          · intro w'
            go_simp
            with_reducible rfl
          rotate_left
          · simp only [Act.put, List.setIfInBounds_toArray, List.set_cons_zero, List.set_cons_succ, i64_w, i32_w]
            rfl
          refine one_ (i := 7) (N := some 59) #[true, true, true, true, true, true, true, true, false, false, false] rfl rfl (one_of HT_.out (by kernel_rfl)) (by decide) (fun K hK => ?_)
          refine value_ (w1 := ?_) (v := ?_) (by rfl) rfl ?_ ?_
          rotate_left 2
          · go_simp
            constructor
            · rfl
            · rfl
          refine hK.out _ _ ((blk_cell (blk_alloc HM4_.out _) 4).trans rfl) (fun hHeld => ?_)
          clear hK K
          refine norm_ (a' := ?_) ?_ ?_
          rotate_left
          · show Act.put _ (some 59) _ = _
            simp only [Act.put, List.setIfInBounds_toArray, List.set_cons_zero, List.set_cons_succ, i64_w, i32_w]
            rfl
          refine one_ (i := 8) (N := some 60) #[true, true, true, true, true, true, true, true, true, false, false] rfl rfl (one_of HT_.out (by kernel_rfl)) (by decide) (fun K hK => ?_)
          refine Kd.S_append_step k47 (w0 := w4) w.heap.size (by rfl) (.tmp 53) (.tmp 59) 24 47 (.agg #[(.string ⟨#[]⟩), (.slice none 0 0)]) 40 rfl Tryd.underlying24 info_snap rfl (by decide) (by omega) (.slice AS ys.length cS) ys (⟨p, q⟩ : S47) [.string p, .slice AQ q.length cQ] (fun k_ => some k_ ≠ (.slice AT tb.length cT : Value).ownBlock) (fun k_ => some k_ = (.slice AQ q.length cQ : Value).ownBlock) rfl rfl ?aP (fun k_ hk_ => HQ4_.out.1 k_ hk_.symm) ?aF ?aO ?aB ?aS ?aL ?_
          case aP => exact k47_mkM _ _ _ (⟨p, q⟩ : S47) (Kd.R_mono (Kd.R_tight rfl HQ4_.out) (fun _ h_ => h_))
          case aB => exact Below.refl _ _
          case aF => exact (fun k_ hk => Kd.fresh' (Kd.R_lt HT4_.out) k_ hk)
          case aO => exact Kd.S_mono HS4_.out (fun k_ hk => ⟨hk.1.1, fun e_ => hk.1.2 e_⟩)
          case aS => exact HU4_.out.rd.2.1.size
          case aL => have := HXL.out; omega
          intro v9 w9 ho hb hg9 hat
          rw [HY9.out] at ho
          obtain ⟨A9, c9, rfl⟩ := Kd.S_slice ho
          have HU9 := Aside0.mk (HU4_.out.grown hg9 hb (Nat.le_refl _) (by decide) (by decide) (by decide) (by decide) (Kd.S_typed HS4_.out))
          have HM9 := Aside0.mk (row_keeps HM4_.out hg9 (by decide) (Kd.S_typed HS4_.out))
          have HG9 := Aside0.mk (row_keeps HG4_.out hg9 (by decide) (Kd.S_typed HS4_.out))
          have HT9 := Aside0.mk (r_over HT4_.out hg9 (by decide) (Kd.S_typed HS4_.out))
          have HR9 := Aside0.mk (Kd.R_over' HR4_.out (Kd.S_typed HS4_.out) (by decide) hg9)
          have HS9 := Aside0.mk ho
          have f9_ := blk_frozen HM9.out 4
          clear ho hb hg9 hat
          refine hK.out _ _ ((blk_cell HM9.out 4).trans rfl) (fun hHeld => ?_)
          clear hK K
          refine norm_ (a' := ?_) ?_ ?_
          rotate_left
          · show Act.put _ (some 60) _ = _
            simp only [Act.put, List.setIfInBounds_toArray, List.set_cons_zero, List.set_cons_succ, i64_w, i32_w]
            rfl
          refine pure_ (i := 9) (N := some 61) (v := ?_) (a' := ?_) #[true, true, true, true, true, true, true, true, true, true, false] rfl rfl (any_of HT_.out (by kernel_rfl)) (fun _ _ _ h => h) (Or.inl ⟨by rfl, ?_⟩) ?_ ?_
          rotate_left
          · intro w'
            go_simp
            with_reducible rfl
          rotate_left
          · simp only [Act.put, List.setIfInBounds_toArray, List.set_cons_zero, List.set_cons_succ, i64_w, i32_w]
            rfl
          refine last_ (i := 10) (N := none) #[true, true, true, true, true, true, true, true, true, true, true] rfl rfl (one_of HT_.out (by kernel_rfl)) (by decide) (fun K hK => ?_)
          refine skip_ (w1 := ?_) (by rfl) rfl ?_ ?_
          rotate_left
          · go_simp
            rfl
          refine hK.out _ _ ?_
          clear hK K
          refine done_ (done_of HT_.out (by kernel_rfl)) ?_

          have hlen9 : y9.length = i + 1 := by rw [← HY9.out, List.length_append, hx.out]; rfl
          have HL9 := Aside0.mk hlen9
          have HUe := Aside0.mk (HU9.out.far HM9.out (by decide) (by decide) (by decide) (by decide) HMW.out 4 (.slice A9 y9.length c9))
          have HGe := Aside0.mk (blk_far HG9.out (p := ⟨M, 4, none⟩) (ty_ne HG9.out HM9.out (by decide)) (.slice A9 y9.length c9))
          have HMe := Aside0.mk (blk_put HM9.out 4 (.slice A9 y9.length c9) rfl (cs' := #[.string nm, .string bk, .slice AT tb.length cT, .slice AD xs.length cD, .slice A9 y9.length c9]))
          have HTe := Aside0.mk (r_far (j := 4) HT9.out HM9.out (by decide) (.slice A9 y9.length c9))
          have HRe := Aside0.mk (r_far (j := 4) HR9.out HM9.out (by decide) (.slice A9 y9.length c9))
          have HSe := Aside0.mk (Kd.S_set HS9.out HM9.out (by decide) 4 (.slice A9 y9.length c9))
          clear hlen9
          (try go_wp2)
          go_roundg (k3 - (i + 1))
          case measure => have := hgi.out; omega
          case rel => exact ⟨i + 1, y9, sb, .slice A9 y9.length c9, (by have e9 : wrap64 ((i : Int) + 1) = ((i + 1 : Nat) : Int) := (by have := HK3.out; rw [Go.Proofs.YtoifdnnjdohfmaaDoor.Pl.w64 (by omega) (by omega)]; omega); first | (rw [e9]; done) | (rw [Go.Proofs.YtoifdnnjdohfmaaDoor.Pl.i64w, e9]; done) | (simp only [e9]; done)), ⟨hlt⟩, ⟨by omega⟩, HUe, HPB, HGe, HMe, HTe, HRe, HSe, HL9, HE2⟩
        · have hltz2 : ¬ (i : Int) < (k3 : Int) := by omega
          have hin : i = k3 := by have := hi.out; omega
          subst hin
          obtain ⟨AS, cS, rfl⟩ := Kd.S_slice HSS.out
          have hE := HE.out
          rw [Nat.sub_self] at hE
          have HSN : Aside0 (rSnaps t k1 i sx = (ys, sy)) := ⟨by rw [hE]; show (ys ++ [], sy) = _; rw [List.append_nil]⟩
          have hend := rd_end w wr g t sy HT.out HPX.out HU.out.rd
          obtain ⟨se, hse⟩ : ∃ s, rEnd t sy = s := ⟨_, rfl⟩
          rw [hse] at hend
          have HEND := Aside0.mk hend
          have HSE := Aside0.mk hse
          have hb2 := HU.out.b2.1
          clear hE HE hend hse
          go_wp2_with (fail)
          go_at_call 27
          refine HEND.out.mono ?_
          rintro e we ⟨rfl, hs, hk⟩
          have HUe := Aside0.mk (HU.out.kb hk hs)
          have HMe := Aside0.mk (hk.blk HM.out HMG.out)
          have HTe := Aside0.mk (r_kb HTT.out HU.out (by decide) hk)
          have HRe := Aside0.mk (r_kb HRD.out HU.out (by decide) hk)
          have HSe := Aside0.mk (s_kb HSS.out HU.out (by decide) hk)
          have hb2e := HUe.out.b2.1
          clear hs hk hb2
          have hcode := rd_code w we g t se HDOOR.out HUe.out.rd.2.1.size HUe.out.rd
          obtain ⟨cc, ca, hcc⟩ : ∃ c a, rCode se = (c, a) := ⟨_, _, rfl⟩
          rw [hcc] at hcode
          have HCODE := Aside0.mk hcode
          have HCC := Aside0.mk hcc
          clear hcode hcc
          go_wp2_with (fail)
          go_at_call 28
          refine HCODE.out.mono ?_
          rintro e wf ⟨rfl, hb⟩
          have HUf := Aside0.mk (HUe.out.below hb)
          have HMf := Aside0.mk (blk_below HMe.out hb)
          have HTf := Aside0.mk (Kd.R_below HTe.out hb)
          have HRf := Aside0.mk (Kd.R_below HRe.out hb)
          have HSf := Aside0.mk (Kd.S_below HSe.out hb)
          clear hb hb2e
          by_cases hc0 : cc = 0
          · subst hc0
            obtain ⟨fv, hfv⟩ : ∃ f, (if imgB nm bk tb xs ys = true then (0 : Int) else 1) = f := ⟨_, rfl⟩
            have hsz : imgSized nm bk ys = true := unp_sized HT.out HN2.out.1 HN2.out.2.1 HSN.out
            have hIF := fun W hT hD hS => impl_ImageFault.calls nm bk AT cT tb AD cD xs AS cS ys fv W hT (Kd.R_reads' HTf.out).2.1 hD (Kd.R_reads' HRf.out).2.1 hS (Kd.S_reads' HSf.out).2.1 (by unfold impl_ImageFault.f; rw [if_pos hsz, hfv])
            have HIF := Aside0.mk hIF
            have m0 : wf.cell? ⟨M, 0, none⟩ = some (.string nm) := (blk_cell HMf.out 0).trans rfl
            have m1 : wf.cell? ⟨M, 1, none⟩ = some (.string bk) := (blk_cell HMf.out 1).trans rfl
            have m2 : wf.cell? ⟨M, 2, none⟩ = some (.slice AT tb.length cT) := (blk_cell HMf.out 2).trans rfl
            have m3 : wf.cell? ⟨M, 3, none⟩ = some (.slice AD xs.length cD) := (blk_cell HMf.out 3).trans rfl
            have m4 : wf.cell? ⟨M, 4, none⟩ = some (.slice AS ys.length cS) := (blk_cell HMf.out 4).trans rfl
            have HFV := Aside0.mk hfv
            clear hIF hsz hfv
            go_wp2_with (fail)
            go_at_call 29
            refine (HIF.out _ (Kd.R_reads' HTf.out).2.2 (Kd.R_reads' HRf.out).2.2 (Kd.S_reads' HSf.out).2.2).mono ?_
            rintro e wi ⟨rfl, hb⟩
            have HUi := Aside0.mk (HUf.out.below hb)
            have HMi := Aside0.mk (blk_below HMf.out hb)
            have HTi := Aside0.mk (Kd.R_below HTf.out hb)
            have HRi := Aside0.mk (Kd.R_below HRf.out hb)
            have HSi := Aside0.mk (Kd.S_below HSf.out hb)
            clear hb m0 m1 m2 m3 m4
            by_cases hok : imgB nm bk tb xs ys = true
            · have hfv := HFV.out
              rw [if_pos hok] at hfv
              subst hfv
              have hres : ((0, 0, nm, bk, tb, xs, ys) : UR) = res := by rw [← HPU.out, unpP_eq HN.out.1 HN.out.2.1 HN.out.2.2 HN2.out.1 HN2.out.2.1 HN2.out.2.2 HDAT.out HSN.out HSE.out HCC.out, if_pos rfl]; unfold unpM; rw [if_pos hok]
              have HRES2 := Aside0.mk hres
              have m0 : wi.cell? ⟨M, 0, none⟩ = some (.string nm) := (blk_cell HMi.out 0).trans rfl
              have m1 : wi.cell? ⟨M, 1, none⟩ = some (.string bk) := (blk_cell HMi.out 1).trans rfl
              have m2 : wi.cell? ⟨M, 2, none⟩ = some (.slice AT tb.length cT) := (blk_cell HMi.out 2).trans rfl
              have m3 : wi.cell? ⟨M, 3, none⟩ = some (.slice AD xs.length cD) := (blk_cell HMi.out 3).trans rfl
              have m4 : wi.cell? ⟨M, 4, none⟩ = some (.slice AS ys.length cS) := (blk_cell HMi.out 4).trans rfl
              clear hres hok
              have f0_ := blk_frozen HUi.out.rs 0
              have f1_ := blk_frozen HUi.out.rs 1
              have f2_ := blk_frozen HUi.out.rs 2
              have f3_ := blk_frozen HUi.out.rs 3
              have f4_ := blk_frozen HUi.out.rs 4
              have f5_ := blk_frozen HUi.out.rs 5
              have f6_ := blk_frozen HUi.out.rs 6
              have z0_ : wi.cell? ⟨w.heap.size, 0, none⟩ = some (.int .i64 0) := (blk_cell HUi.out.rs 0).trans rfl
              have z1_ : wi.cell? ⟨w.heap.size, 1, none⟩ = some (.int .i64 0) := (blk_cell HUi.out.rs 1).trans rfl
              have z2_ : wi.cell? ⟨w.heap.size, 2, none⟩ = some (.string ⟨#[]⟩) := (blk_cell HUi.out.rs 2).trans rfl
              have z3_ : wi.cell? ⟨w.heap.size, 3, none⟩ = some (.string ⟨#[]⟩) := (blk_cell HUi.out.rs 3).trans rfl
              have z4_ : wi.cell? ⟨w.heap.size, 4, none⟩ = some (.slice none 0 0) := (blk_cell HUi.out.rs 4).trans rfl
              have z5_ : wi.cell? ⟨w.heap.size, 5, none⟩ = some (.slice none 0 0) := (blk_cell HUi.out.rs 5).trans rfl
              have z6_ : wi.cell? ⟨w.heap.size, 6, none⟩ = some (.slice none 0 0) := (blk_cell HUi.out.rs 6).trans rfl
              go_wp2
              refine bodyPost_ret (results_cell_row rfl _ _ w.heap.size 28 #[.int .i64 0, .int .i64 0, .string nm, .string bk, .slice AT tb.length cT, .slice AD xs.length cD, .slice AS ys.length cS] (0, 0) _ rfl (blk_put (cs := #[.int .i64 0, .int .i64 0, .string nm, .string bk, .slice AT tb.length cT, .slice AD xs.length cD, .slice none 0 0]) (blk_put (cs := #[.int .i64 0, .int .i64 0, .string nm, .string bk, .slice AT tb.length cT, .slice none 0 0, .slice none 0 0]) (blk_put (cs := #[.int .i64 0, .int .i64 0, .string nm, .string bk, .slice none 0 0, .slice none 0 0, .slice none 0 0]) (blk_put (cs := #[.int .i64 0, .int .i64 0, .string nm, .string ⟨#[]⟩, .slice none 0 0, .slice none 0 0, .slice none 0 0]) (blk_put (cs := #[.int .i64 0, .int .i64 0, .string ⟨#[]⟩, .string ⟨#[]⟩, .slice none 0 0, .slice none 0 0, .slice none 0 0]) (blk_put (cs := #[.int .i64 0, .int .i64 0, .string ⟨#[]⟩, .string ⟨#[]⟩, .slice none 0 0, .slice none 0 0, .slice none 0 0]) (blk_put (cs := #[.int .i64 0, .int .i64 0, .string ⟨#[]⟩, .string ⟨#[]⟩, .slice none 0 0, .slice none 0 0, .slice none 0 0]) HUi.out.rs 0 _ rfl) 1 _ rfl) 2 _ rfl) 3 _ rfl) 4 _ rfl) 5 _ rfl) 6 _ rfl) Tryd.underlying28 rfl (by kernel_rfl)) rfl ?_
              rw [← HRES2.out]
              exact ⟨_, _, _, rfl, r_far7 HTi.out HUi.out.rs (by decide) _ _ _ _ _ _ _, r_far7 HRi.out HUi.out.rs (by decide) _ _ _ _ _ _ _, s_far7 HSi.out HUi.out.rs (by decide) _ _ _ _ _ _ _, below_set (below_set (below_set (below_set (below_set (below_set (below_set HUi.out.rd.2.1 (Nat.le_refl _)) (Nat.le_refl _)) (Nat.le_refl _)) (Nat.le_refl _)) (Nat.le_refl _)) (Nat.le_refl _)) (Nat.le_refl _)⟩
            · have hfv := HFV.out
              rw [if_neg hok] at hfv
              subst hfv
              have hres : uNo 1 0 = res := by rw [← HPU.out, unpP_eq HN.out.1 HN.out.2.1 HN.out.2.2 HN2.out.1 HN2.out.2.1 HN2.out.2.2 HDAT.out HSN.out HSE.out HCC.out, if_pos rfl]; unfold unpM; rw [if_neg hok]
              have HRES2 := Aside0.mk hres
              clear hres hok
              have f0_ := blk_frozen HUi.out.rs 0
              have f1_ := blk_frozen HUi.out.rs 1
              have f2_ := blk_frozen HUi.out.rs 2
              have f3_ := blk_frozen HUi.out.rs 3
              have f4_ := blk_frozen HUi.out.rs 4
              have f5_ := blk_frozen HUi.out.rs 5
              have f6_ := blk_frozen HUi.out.rs 6
              have z0_ : wi.cell? ⟨w.heap.size, 0, none⟩ = some (.int .i64 0) := (blk_cell HUi.out.rs 0).trans rfl
              have z1_ : wi.cell? ⟨w.heap.size, 1, none⟩ = some (.int .i64 0) := (blk_cell HUi.out.rs 1).trans rfl
              have z2_ : wi.cell? ⟨w.heap.size, 2, none⟩ = some (.string ⟨#[]⟩) := (blk_cell HUi.out.rs 2).trans rfl
              have z3_ : wi.cell? ⟨w.heap.size, 3, none⟩ = some (.string ⟨#[]⟩) := (blk_cell HUi.out.rs 3).trans rfl
              have z4_ : wi.cell? ⟨w.heap.size, 4, none⟩ = some (.slice none 0 0) := (blk_cell HUi.out.rs 4).trans rfl
              have z5_ : wi.cell? ⟨w.heap.size, 5, none⟩ = some (.slice none 0 0) := (blk_cell HUi.out.rs 5).trans rfl
              have z6_ : wi.cell? ⟨w.heap.size, 6, none⟩ = some (.slice none 0 0) := (blk_cell HUi.out.rs 6).trans rfl
              go_wp2
              refine bodyPost_ret (results_cell_row rfl _ _ w.heap.size 28 #[.int .i64 1, .int .i64 0, .string ⟨#[]⟩, .string ⟨#[]⟩, .slice none 0 0, .slice none 0 0, .slice none 0 0] (0, 0) _ rfl (blk_put (cs := #[.int .i64 1, .int .i64 0, .string ⟨#[]⟩, .string ⟨#[]⟩, .slice none 0 0, .slice none 0 0, .slice none 0 0]) (blk_put (cs := #[.int .i64 1, .int .i64 0, .string ⟨#[]⟩, .string ⟨#[]⟩, .slice none 0 0, .slice none 0 0, .slice none 0 0]) (blk_put (cs := #[.int .i64 1, .int .i64 0, .string ⟨#[]⟩, .string ⟨#[]⟩, .slice none 0 0, .slice none 0 0, .slice none 0 0]) (blk_put (cs := #[.int .i64 1, .int .i64 0, .string ⟨#[]⟩, .string ⟨#[]⟩, .slice none 0 0, .slice none 0 0, .slice none 0 0]) (blk_put (cs := #[.int .i64 1, .int .i64 0, .string ⟨#[]⟩, .string ⟨#[]⟩, .slice none 0 0, .slice none 0 0, .slice none 0 0]) (blk_put (cs := #[.int .i64 1, .int .i64 0, .string ⟨#[]⟩, .string ⟨#[]⟩, .slice none 0 0, .slice none 0 0, .slice none 0 0]) (blk_put (cs := #[.int .i64 0, .int .i64 0, .string ⟨#[]⟩, .string ⟨#[]⟩, .slice none 0 0, .slice none 0 0, .slice none 0 0]) HUi.out.rs 0 _ rfl) 1 _ rfl) 2 _ rfl) 3 _ rfl) 4 _ rfl) 5 _ rfl) 6 _ rfl) Tryd.underlying28 rfl (by kernel_rfl)) rfl ?_
              rw [← HRES2.out]
              exact UP.no (below_set (below_set (below_set (below_set (below_set (below_set (below_set HUi.out.rd.2.1 (Nat.le_refl _)) (Nat.le_refl _)) (Nat.le_refl _)) (Nat.le_refl _)) (Nat.le_refl _)) (Nat.le_refl _)) (Nat.le_refl _)) rfl
          · have hz1 : (cc != 0) = true := bne_iff_ne.mpr hc0
            have hz2 : (cc == 0) = false := beq_eq_false_iff_ne.mpr hc0
            have hres : uNo cc ca = res := by rw [← HPU.out, unpP_eq HN.out.1 HN.out.2.1 HN.out.2.2 HN2.out.1 HN2.out.2.1 HN2.out.2.2 HDAT.out HSN.out HSE.out HCC.out, if_neg hc0]
            have HRES2 := Aside0.mk hres
            clear hres
            have f0_ := blk_frozen HUf.out.rs 0
            have f1_ := blk_frozen HUf.out.rs 1
            have f2_ := blk_frozen HUf.out.rs 2
            have f3_ := blk_frozen HUf.out.rs 3
            have f4_ := blk_frozen HUf.out.rs 4
            have f5_ := blk_frozen HUf.out.rs 5
            have f6_ := blk_frozen HUf.out.rs 6
            have z0_ : wf.cell? ⟨w.heap.size, 0, none⟩ = some (.int .i64 0) := (blk_cell HUf.out.rs 0).trans rfl
            have z1_ : wf.cell? ⟨w.heap.size, 1, none⟩ = some (.int .i64 0) := (blk_cell HUf.out.rs 1).trans rfl
            have z2_ : wf.cell? ⟨w.heap.size, 2, none⟩ = some (.string ⟨#[]⟩) := (blk_cell HUf.out.rs 2).trans rfl
            have z3_ : wf.cell? ⟨w.heap.size, 3, none⟩ = some (.string ⟨#[]⟩) := (blk_cell HUf.out.rs 3).trans rfl
            have z4_ : wf.cell? ⟨w.heap.size, 4, none⟩ = some (.slice none 0 0) := (blk_cell HUf.out.rs 4).trans rfl
            have z5_ : wf.cell? ⟨w.heap.size, 5, none⟩ = some (.slice none 0 0) := (blk_cell HUf.out.rs 5).trans rfl
            have z6_ : wf.cell? ⟨w.heap.size, 6, none⟩ = some (.slice none 0 0) := (blk_cell HUf.out.rs 6).trans rfl
            go_wp2
            refine bodyPost_ret (results_cell_row rfl _ _ w.heap.size 28 #[.int .i64 cc, .int .i64 ca, .string ⟨#[]⟩, .string ⟨#[]⟩, .slice none 0 0, .slice none 0 0, .slice none 0 0] (0, 0) _ rfl (blk_put (cs := #[.int .i64 cc, .int .i64 ca, .string ⟨#[]⟩, .string ⟨#[]⟩, .slice none 0 0, .slice none 0 0, .slice none 0 0]) (blk_put (cs := #[.int .i64 cc, .int .i64 ca, .string ⟨#[]⟩, .string ⟨#[]⟩, .slice none 0 0, .slice none 0 0, .slice none 0 0]) (blk_put (cs := #[.int .i64 cc, .int .i64 ca, .string ⟨#[]⟩, .string ⟨#[]⟩, .slice none 0 0, .slice none 0 0, .slice none 0 0]) (blk_put (cs := #[.int .i64 cc, .int .i64 ca, .string ⟨#[]⟩, .string ⟨#[]⟩, .slice none 0 0, .slice none 0 0, .slice none 0 0]) (blk_put (cs := #[.int .i64 cc, .int .i64 ca, .string ⟨#[]⟩, .string ⟨#[]⟩, .slice none 0 0, .slice none 0 0, .slice none 0 0]) (blk_put (cs := #[.int .i64 cc, .int .i64 0, .string ⟨#[]⟩, .string ⟨#[]⟩, .slice none 0 0, .slice none 0 0, .slice none 0 0]) (blk_put (cs := #[.int .i64 0, .int .i64 0, .string ⟨#[]⟩, .string ⟨#[]⟩, .slice none 0 0, .slice none 0 0, .slice none 0 0]) HUf.out.rs 0 _ rfl) 1 _ rfl) 2 _ rfl) 3 _ rfl) 4 _ rfl) 5 _ rfl) 6 _ rfl) Tryd.underlying28 rfl (by kernel_rfl)) rfl ?_
            rw [← HRES2.out]
            exact UP.no (below_set (below_set (below_set (below_set (below_set (below_set (below_set HUf.out.rd.2.1 (Nat.le_refl _)) (Nat.le_refl _)) (Nat.le_refl _)) (Nat.le_refl _)) (Nat.le_refl _)) (Nat.le_refl _)) (Nat.le_refl _)) rfl
set_option maxHeartbeats 16000000 in
set_option maxRecDepth 100000 in
theorem unp_calls (w : World) (t : ByteArray) (hdoor : DoorAs w) (res : UR) (hres : (if (t.size : Int) > 65536 then uNo 2 0 else if unpPre t = false then uNo 3 0 else unpP t) = res) :
    Calls Tryd.prog 6 #[.string t] w (UP w res) := by
  have hbg := fun W b hb => ubg t W b hb
  have HRES := Aside0.mk hres
  have HDOOR := Aside0.mk hdoor
  clear hres hdoor
  have hrs0 : (w.alloc (Obj.cells #[.int .i64 0, .int .i64 0, .string ⟨#[]⟩, .string ⟨#[]⟩, .slice none 0 0, .slice none 0 0, .slice none 0 0] 28)).heap[w.heap.size]? = some (.cells #[.int .i64 0, .int .i64 0, .string ⟨#[]⟩, .string ⟨#[]⟩, .slice none 0 0, .slice none 0 0, .slice none 0 0] 28 (0, 0)) := blk_new _ _
  have HR0 := Aside0.mk hrs0
  clear hrs0
  by_cases hbig : (t.size : Int) > 65536
  · have hres := HRES.out
    rw [if_pos hbig] at hres
    rw [decide_eq_true hbig] at hbg
    have HRES2 := Aside0.mk hres
    clear hres hbig
    go_enter Tryd.func6, Tryd.ntmps6
    go_wp2_with (fail)
    go_at_call 20
    refine (hbg _ _ ?hbq).mono ?_
    case hbq => first | rfl | simp
    rintro e w1 ⟨rfl, hb1⟩
    have HB1 := Aside0.mk (below_step (below_alloc (Below.refl _ _) _) hb1)
    have HR1 := Aside0.mk (blk_below HR0.out hb1)
    clear hb1 hbg
    have f0_ := blk_frozen HR1.out 0
    have f1_ := blk_frozen HR1.out 1
    have f2_ := blk_frozen HR1.out 2
    have f3_ := blk_frozen HR1.out 3
    have f4_ := blk_frozen HR1.out 4
    have f5_ := blk_frozen HR1.out 5
    have f6_ := blk_frozen HR1.out 6
    have z0_ : w1.cell? ⟨w.heap.size, 0, none⟩ = some (.int .i64 0) := (blk_cell HR1.out 0).trans rfl
    have z1_ : w1.cell? ⟨w.heap.size, 1, none⟩ = some (.int .i64 0) := (blk_cell HR1.out 1).trans rfl
    have z2_ : w1.cell? ⟨w.heap.size, 2, none⟩ = some (.string ⟨#[]⟩) := (blk_cell HR1.out 2).trans rfl
    have z3_ : w1.cell? ⟨w.heap.size, 3, none⟩ = some (.string ⟨#[]⟩) := (blk_cell HR1.out 3).trans rfl
    have z4_ : w1.cell? ⟨w.heap.size, 4, none⟩ = some (.slice none 0 0) := (blk_cell HR1.out 4).trans rfl
    have z5_ : w1.cell? ⟨w.heap.size, 5, none⟩ = some (.slice none 0 0) := (blk_cell HR1.out 5).trans rfl
    have z6_ : w1.cell? ⟨w.heap.size, 6, none⟩ = some (.slice none 0 0) := (blk_cell HR1.out 6).trans rfl
    go_wp2
    refine bodyPost_ret (results_cell_row rfl _ _ w.heap.size 28 #[.int .i64 2, .int .i64 0, .string ⟨#[]⟩, .string ⟨#[]⟩, .slice none 0 0, .slice none 0 0, .slice none 0 0] (0, 0) _ rfl (blk_put (cs := #[.int .i64 2, .int .i64 0, .string ⟨#[]⟩, .string ⟨#[]⟩, .slice none 0 0, .slice none 0 0, .slice none 0 0]) (blk_put (cs := #[.int .i64 2, .int .i64 0, .string ⟨#[]⟩, .string ⟨#[]⟩, .slice none 0 0, .slice none 0 0, .slice none 0 0]) (blk_put (cs := #[.int .i64 2, .int .i64 0, .string ⟨#[]⟩, .string ⟨#[]⟩, .slice none 0 0, .slice none 0 0, .slice none 0 0]) (blk_put (cs := #[.int .i64 2, .int .i64 0, .string ⟨#[]⟩, .string ⟨#[]⟩, .slice none 0 0, .slice none 0 0, .slice none 0 0]) (blk_put (cs := #[.int .i64 2, .int .i64 0, .string ⟨#[]⟩, .string ⟨#[]⟩, .slice none 0 0, .slice none 0 0, .slice none 0 0]) (blk_put (cs := #[.int .i64 2, .int .i64 0, .string ⟨#[]⟩, .string ⟨#[]⟩, .slice none 0 0, .slice none 0 0, .slice none 0 0]) (blk_put (cs := #[.int .i64 0, .int .i64 0, .string ⟨#[]⟩, .string ⟨#[]⟩, .slice none 0 0, .slice none 0 0, .slice none 0 0]) HR1.out 0 _ rfl) 1 _ rfl) 2 _ rfl) 3 _ rfl) 4 _ rfl) 5 _ rfl) 6 _ rfl) Tryd.underlying28 rfl (by kernel_rfl)) rfl ?_
    rw [← HRES2.out]
    exact UP.no (below_set (below_set (below_set (below_set (below_set (below_set (below_set HB1.out (Nat.le_refl _)) (Nat.le_refl _)) (Nat.le_refl _)) (Nat.le_refl _)) (Nat.le_refl _)) (Nat.le_refl _)) (Nat.le_refl _)) rfl
  · have hres := HRES.out
    rw [if_neg hbig] at hres
    rw [decide_eq_false hbig] at hbg
    have hpre := fun W => strings_HasPrefix.calls t ⟨#[73, 77, 71, 49]⟩ (unpPre t) W (unpPre_eq t)
    have HT : Aside0 (t.size ≤ 65536) := ⟨by omega⟩
    cases hp : unpPre t with
    | false =>
      rw [if_pos hp] at hres
      rw [hp] at hpre
      have HRES2 := Aside0.mk hres
      clear hres hbig hp
      go_enter Tryd.func6, Tryd.ntmps6
      go_wp2_with (fail)
      go_at_call 20
      refine (hbg _ _ ?hbq).mono ?_
      case hbq => first | rfl | simp
      rintro e w1 ⟨rfl, hb1⟩
      have HB1 := Aside0.mk (below_step (below_alloc (Below.refl _ _) _) hb1)
      have HR1 := Aside0.mk (blk_below HR0.out hb1)
      clear hb1 hbg
      go_wp2_with (fail)
      go_at_call 21
      refine (hpre _).mono ?_
      rintro e w' ⟨rfl, ⟨m, rfl⟩⟩
      have HB2 := Aside0.mk (pw_below_drewN HB1.out m)
      have HR2 := Aside0.mk (blk_below HR1.out (pw_below_drewN (Below.refl _ _) m))
      clear hpre
      have f0_ := blk_frozen HR2.out 0
      have f1_ := blk_frozen HR2.out 1
      have f2_ := blk_frozen HR2.out 2
      have f3_ := blk_frozen HR2.out 3
      have f4_ := blk_frozen HR2.out 4
      have f5_ := blk_frozen HR2.out 5
      have f6_ := blk_frozen HR2.out 6
      have z0_ : (w1.drewN m).cell? ⟨w.heap.size, 0, none⟩ = some (.int .i64 0) := (blk_cell HR2.out 0).trans rfl
      have z1_ : (w1.drewN m).cell? ⟨w.heap.size, 1, none⟩ = some (.int .i64 0) := (blk_cell HR2.out 1).trans rfl
      have z2_ : (w1.drewN m).cell? ⟨w.heap.size, 2, none⟩ = some (.string ⟨#[]⟩) := (blk_cell HR2.out 2).trans rfl
      have z3_ : (w1.drewN m).cell? ⟨w.heap.size, 3, none⟩ = some (.string ⟨#[]⟩) := (blk_cell HR2.out 3).trans rfl
      have z4_ : (w1.drewN m).cell? ⟨w.heap.size, 4, none⟩ = some (.slice none 0 0) := (blk_cell HR2.out 4).trans rfl
      have z5_ : (w1.drewN m).cell? ⟨w.heap.size, 5, none⟩ = some (.slice none 0 0) := (blk_cell HR2.out 5).trans rfl
      have z6_ : (w1.drewN m).cell? ⟨w.heap.size, 6, none⟩ = some (.slice none 0 0) := (blk_cell HR2.out 6).trans rfl
      go_wp2
      refine bodyPost_ret (results_cell_row rfl _ _ w.heap.size 28 #[.int .i64 3, .int .i64 0, .string ⟨#[]⟩, .string ⟨#[]⟩, .slice none 0 0, .slice none 0 0, .slice none 0 0] (0, 0) _ rfl (blk_put (cs := #[.int .i64 3, .int .i64 0, .string ⟨#[]⟩, .string ⟨#[]⟩, .slice none 0 0, .slice none 0 0, .slice none 0 0]) (blk_put (cs := #[.int .i64 3, .int .i64 0, .string ⟨#[]⟩, .string ⟨#[]⟩, .slice none 0 0, .slice none 0 0, .slice none 0 0]) (blk_put (cs := #[.int .i64 3, .int .i64 0, .string ⟨#[]⟩, .string ⟨#[]⟩, .slice none 0 0, .slice none 0 0, .slice none 0 0]) (blk_put (cs := #[.int .i64 3, .int .i64 0, .string ⟨#[]⟩, .string ⟨#[]⟩, .slice none 0 0, .slice none 0 0, .slice none 0 0]) (blk_put (cs := #[.int .i64 3, .int .i64 0, .string ⟨#[]⟩, .string ⟨#[]⟩, .slice none 0 0, .slice none 0 0, .slice none 0 0]) (blk_put (cs := #[.int .i64 3, .int .i64 0, .string ⟨#[]⟩, .string ⟨#[]⟩, .slice none 0 0, .slice none 0 0, .slice none 0 0]) (blk_put (cs := #[.int .i64 0, .int .i64 0, .string ⟨#[]⟩, .string ⟨#[]⟩, .slice none 0 0, .slice none 0 0, .slice none 0 0]) HR2.out 0 _ rfl) 1 _ rfl) 2 _ rfl) 3 _ rfl) 4 _ rfl) 5 _ rfl) 6 _ rfl) Tryd.underlying28 rfl (by kernel_rfl)) rfl ?_
      rw [← HRES2.out]
      exact UP.no (below_set (below_set (below_set (below_set (below_set (below_set (below_set HB2.out (Nat.le_refl _)) (Nat.le_refl _)) (Nat.le_refl _)) (Nat.le_refl _)) (Nat.le_refl _)) (Nat.le_refl _)) (Nat.le_refl _)) rfl
    | true =>
      rw [if_neg (by rw [hp]; decide)] at hres
      exact unp_go w t HDOOR.out HT.out hp res hres
def impl_UnpackImage.f (a0 : ByteArray) : Option (Int × Int × ByteArray × ByteArray × List Int × List ByteArray × List S47) := none
theorem impl_UnpackImage.calls (r : Int) : True := trivial

end Go.Proofs.YtoifdnnjdohfmaaDoor.QFnExactUnpackImage
