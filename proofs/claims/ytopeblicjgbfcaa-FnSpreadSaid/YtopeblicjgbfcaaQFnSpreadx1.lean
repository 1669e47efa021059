-- Written for this claim by this session's own driver (wip/xprint.py).
import Derived.Test.YtopeblicjgbfcaaQFnSpreadx0
namespace Go.Proofs.Ytopeblicjgbfcaa.QFnSpread
open Go.RowKit Go.Proofs.YtopeblicjgbfcaaW.PrintWords Go.Proofs.YtopeblicjgbfcaaW.PrintLast Go.Proofs.YtopeblicjgbfcaaW.PrintMore
attribute [local go_sem] max2_int min2_int max_two min_two max_three min_three max_four min_four   -- for this text's walks alone
set_option linter.unusedVariables false
set_option linter.unusedSimpArgs false

/-- A state of type 42 at block g of W; what its slices lead to came in by w0. -/
def IsS42 (w0 W : World) (g : Nat) (f0 : List Int) (f1 : Int) (f2 : Int) (f3 : Int) : Prop := ∃ A0 c0, W.heap[g]? = some (.cells #[.slice A0 f0.length c0, .int .i64 f1, .int .u64 f2, .int .i64 f3] 42 (0, 0)) ∧ w0.heap.size ≤ g ∧ Kd.C (Kd.int .u8) w0 A0 f0.length f0
theorem IsS42.grown {w0 W : World} {g : Nat} {f0 : List Int} {f1 : Int} {f2 : Int} {f3 : Int} {W1 : World} {row : Option Nat} (h : IsS42 w0 W g f0 f1 f2 f3) (hw : W.grownBy W1 row) (hne : some g ≠ row) : IsS42 w0 W1 g f0 f1 f2 f3 := by
  obtain ⟨A0, c0, hb, hg, hr0⟩ := h
  exact ⟨A0, c0, blk_grown hb hw hne, hg, hr0⟩
theorem IsS42.own_neN {w0 W : World} {g : Nat} {f0 : List Int} {f1 : Int} {f2 : Int} {f3 : Int} {α : Type} {d : Kd α} {e : Nat} {base : Nat} {ok : Nat → Prop} {v : Value} {xs : List α} (h : IsS42 w0 W g f0 f1 f2 f3) (ho : Kd.N d e W base ok v xs) (ht : e ≠ 42) : some g ≠ v.ownBlock := by
  obtain ⟨A0, c0, hb, hg, hr0⟩ := h
  exact Kd.N_ne ho hb ht
theorem IsS42.fresh {w0 W : World} {g : Nat} {f0 : List Int} {f1 : Int} {f2 : Int} {f3 : Int} (h : IsS42 w0 W g f0 f1 f2 f3) : ∀ k, W.heap.size ≤ k → k ≠ g := by
  obtain ⟨A0, c0, hb, hg, hr0⟩ := h
  exact Kd.freshB hb
theorem IsS42.kept {w0 W : World} {g : Nat} {f0 : List Int} {f1 : Int} {f2 : Int} {f3 : Int} {W1 : World} {S : Nat → Prop} (h : IsS42 w0 W g f0 f1 f2 f3) (hk : Kept W W1 S) (hne : ¬ S g) : IsS42 w0 W1 g f0 f1 f2 f3 := by
  obtain ⟨A0, c0, hb, hg, hr0⟩ := h
  exact ⟨A0, c0, blk_kept hb hk hne, hg, hr0⟩
theorem IsS42.below {w0 W : World} {g : Nat} {f0 : List Int} {f1 : Int} {f2 : Int} {f3 : Int} {W1 : World} (h : IsS42 w0 W g f0 f1 f2 f3) (hw : Below W.heap.size W W1) : IsS42 w0 W1 g f0 f1 f2 f3 := h.grown (grown_of_below hw none) (by simp)
theorem IsS42.alloc {w0 W : World} {g : Nat} {f0 : List Int} {f1 : Int} {f2 : Int} {f3 : Int} (h : IsS42 w0 W g f0 f1 f2 f3) (o : Obj) : IsS42 w0 (W.alloc o) g f0 f1 f2 f3 := h.below (below_alloc (Below.refl _ _) o)
theorem IsS42.drewN {w0 W : World} {g : Nat} {f0 : List Int} {f1 : Int} {f2 : Int} {f3 : Int} (h : IsS42 w0 W g f0 f1 f2 f3) (m : Nat) : IsS42 w0 (W.drewN m) g f0 f1 f2 f3 := h
theorem IsS42.drew {w0 W : World} {g : Nat} {f0 : List Int} {f1 : Int} {f2 : Int} {f3 : Int} (h : IsS42 w0 W g f0 f1 f2 f3) : IsS42 w0 W.drew g f0 f1 f2 f3 := h
theorem IsS42.at_ {w0 W : World} {g : Nat} {f0 : List Int} {f1 : Int} {f2 : Int} {f3 : Int} {w' : World} {m : Nat} (hq : W.drewN m = w') (h : IsS42 w0 W g f0 f1 f2 f3) : IsS42 w0 w' g f0 f1 f2 f3 := by subst hq; exact IsS42.drewN h m
theorem IsS42.apart {w0 W : World} {g : Nat} {f0 : List Int} {f1 : Int} {f2 : Int} {f3 : Int} {α : Type} {d : Kd α} {e : Nat} {base : Nat} {ok : Nat → Prop} {v : Value} {xs : List α} (h : IsS42 w0 W g f0 f1 f2 f3) (ho : d.R e W base ok v xs) (ht : ∀ q, q ∈ e :: d.E → q ≠ 42) : d.R e W base (fun k => ok k ∧ k ≠ g) v xs := by
  obtain ⟨A0, c0, hb, hg, hr0⟩ := h
  exact Kd.R_types ho hb ht
theorem IsS42.own_ne {w0 W : World} {g : Nat} {f0 : List Int} {f1 : Int} {f2 : Int} {f3 : Int} {α : Type} {d : Kd α} {e : Nat} {base : Nat} {ok : Nat → Prop} {v : Value} {xs : List α} (h : IsS42 w0 W g f0 f1 f2 f3) (ho : d.R e W base ok v xs) (ht : e ≠ 42) : some g ≠ v.ownBlock := by
  obtain ⟨A0, c0, hb, hg, hr0⟩ := h
  exact Kd.R_ne ho hb ht
theorem IsS42.apartQ {w0 W : World} {g : Nat} {f0 : List Int} {f1 : Int} {f2 : Int} {f3 : Int} {α : Type} {d : Kd α} {e : Nat} {base : Nat} {ok : Nat → Prop} {v : Value} {xs : List α} (h : IsS42 w0 W g f0 f1 f2 f3) (ho : d.Q e W base ok v xs) (ht : ∀ q, q ∈ e :: d.E → q ≠ 42) : d.Q e W base (fun k => ok k ∧ k ≠ g) v xs := by
  obtain ⟨A0, c0, hb, hg, hr0⟩ := h
  exact Kd.Q_types ho hb ht
theorem IsS42.own_neQ {w0 W : World} {g : Nat} {f0 : List Int} {f1 : Int} {f2 : Int} {f3 : Int} {α : Type} {d : Kd α} {e : Nat} {base : Nat} {ok : Nat → Prop} {v : Value} {xs : List α} (h : IsS42 w0 W g f0 f1 f2 f3) (ho : d.Q e W base ok v xs) (ht : e ≠ 42) : some g ≠ v.ownBlock := by
  obtain ⟨A0, c0, hb, hg, hr0⟩ := h
  exact Kd.Q_ne ho hb ht
theorem IsS42.apartS {w0 W : World} {g : Nat} {f0 : List Int} {f1 : Int} {f2 : Int} {f3 : Int} {α : Type} {d : Kd α} {e : Nat} {base : Nat} {ok : Nat → Prop} {v : Value} {xs : List α} (h : IsS42 w0 W g f0 f1 f2 f3) (ho : d.S e W base ok v xs) (ht : ∀ q, q ∈ e :: d.E → q ≠ 42) : d.S e W base (fun k => ok k ∧ k ≠ g) v xs := by
  obtain ⟨A0, c0, hb, hg, hr0⟩ := h
  exact Kd.S_types ho hb ht
theorem IsS42.own_neS {w0 W : World} {g : Nat} {f0 : List Int} {f1 : Int} {f2 : Int} {f3 : Int} {α : Type} {d : Kd α} {e : Nat} {base : Nat} {ok : Nat → Prop} {v : Value} {xs : List α} (h : IsS42 w0 W g f0 f1 f2 f3) (ho : d.S e W base ok v xs) (ht : e ≠ 42) : some g ≠ v.ownBlock := by
  obtain ⟨A0, c0, hb, hg, hr0⟩ := h
  exact Kd.S_ne ho hb ht
theorem IsS42.lt {w0 W : World} {g : Nat} {f0 : List Int} {f1 : Int} {f2 : Int} {f3 : Int} (h : IsS42 w0 W g f0 f1 f2 f3) : g < W.heap.size := by
  obtain ⟨A0, c0, hb, hg, hr0⟩ := h
  exact blk_lt hb
theorem IsS42.ge {w0 W : World} {g : Nat} {f0 : List Int} {f1 : Int} {f2 : Int} {f3 : Int} (h : IsS42 w0 W g f0 f1 f2 f3) : w0.heap.size ≤ g := by
  obtain ⟨A0, c0, hb, hg, hr0⟩ := h
  exact hg
theorem IsS42.ne_blk {w0 W : World} {g : Nat} {f0 : List Int} {f1 : Int} {f2 : Int} {f3 : Int} {a : Nat} {cs : Array Value} {t : TypeId} {fr : Nat × Nat} (h : IsS42 w0 W g f0 f1 f2 f3) (hb2 : W.heap[a]? = some (.cells cs t fr)) (ht : t ≠ 42) : g ≠ a := by
  obtain ⟨A0, c0, hb, hg, hr0⟩ := h
  rintro rfl
  rw [hb] at hb2
  injection hb2 with hb2
  injection hb2 with _ ht2
  exact ht ht2.symm
theorem IsS42.far {w0 W : World} {g : Nat} {f0 : List Int} {f1 : Int} {f2 : Int} {f3 : Int} {p : Addr} (h : IsS42 w0 W g f0 f1 f2 f3) (hne : g ≠ p.block) (u : Value) : IsS42 w0 (W.setCell p u) g f0 f1 f2 f3 := by
  obtain ⟨A0, c0, hb, hg, hr0⟩ := h
  exact ⟨A0, c0, blk_far hb hne u, hg, hr0⟩
theorem cellS42_0 {W : World} {g : Nat} {A0 : Option Addr} {c0 : Nat} {f0 : List Int} {f1 : Int} {f2 : Int} {f3 : Int} (h : W.heap[g]? = some (.cells #[.slice A0 f0.length c0, .int .i64 f1, .int .u64 f2, .int .i64 f3] 42 (0, 0))) : W.cell? ⟨g, 0, none⟩ = some (.slice A0 f0.length c0) := (blk_cell h 0).trans rfl
theorem cellS42_1 {W : World} {g : Nat} {A0 : Option Addr} {c0 : Nat} {f0 : List Int} {f1 : Int} {f2 : Int} {f3 : Int} (h : W.heap[g]? = some (.cells #[.slice A0 f0.length c0, .int .i64 f1, .int .u64 f2, .int .i64 f3] 42 (0, 0))) : W.cell? ⟨g, 1, none⟩ = some (.int .i64 f1) := (blk_cell h 1).trans rfl
theorem IsS42.set_1 {w0 W : World} {g : Nat} {f0 : List Int} {f1 : Int} {f2 : Int} {f3 : Int} (h : IsS42 w0 W g f0 f1 f2 f3) (x : Int) : IsS42 w0 (W.setCell ⟨g, 1, none⟩ (.int .i64 x)) g f0 x f2 f3 := by
  obtain ⟨A0, c0, hb, hg, hr0⟩ := h
  exact ⟨A0, c0, by simpa using blk_set hb 1 (.int .i64 x), hg, hr0⟩
theorem cellS42_2 {W : World} {g : Nat} {A0 : Option Addr} {c0 : Nat} {f0 : List Int} {f1 : Int} {f2 : Int} {f3 : Int} (h : W.heap[g]? = some (.cells #[.slice A0 f0.length c0, .int .i64 f1, .int .u64 f2, .int .i64 f3] 42 (0, 0))) : W.cell? ⟨g, 2, none⟩ = some (.int .u64 f2) := (blk_cell h 2).trans rfl
theorem IsS42.set_2 {w0 W : World} {g : Nat} {f0 : List Int} {f1 : Int} {f2 : Int} {f3 : Int} (h : IsS42 w0 W g f0 f1 f2 f3) (x : Int) : IsS42 w0 (W.setCell ⟨g, 2, none⟩ (.int .u64 x)) g f0 f1 x f3 := by
  obtain ⟨A0, c0, hb, hg, hr0⟩ := h
  exact ⟨A0, c0, by simpa using blk_set hb 2 (.int .u64 x), hg, hr0⟩
theorem cellS42_3 {W : World} {g : Nat} {A0 : Option Addr} {c0 : Nat} {f0 : List Int} {f1 : Int} {f2 : Int} {f3 : Int} (h : W.heap[g]? = some (.cells #[.slice A0 f0.length c0, .int .i64 f1, .int .u64 f2, .int .i64 f3] 42 (0, 0))) : W.cell? ⟨g, 3, none⟩ = some (.int .i64 f3) := (blk_cell h 3).trans rfl
theorem IsS42.set_3 {w0 W : World} {g : Nat} {f0 : List Int} {f1 : Int} {f2 : Int} {f3 : Int} (h : IsS42 w0 W g f0 f1 f2 f3) (x : Int) : IsS42 w0 (W.setCell ⟨g, 3, none⟩ (.int .i64 x)) g f0 f1 f2 x := by
  obtain ⟨A0, c0, hb, hg, hr0⟩ := h
  exact ⟨A0, c0, by simpa using blk_set hb 3 (.int .i64 x), hg, hr0⟩
theorem IsS42.new (w0 W : World) (A0 : Option Addr) (c0 : Nat) (f0 : List Int) (f1 : Int) (f2 : Int) (f3 : Int) (hB : Below w0.heap.size w0 W) (hr0 : Kd.C (Kd.int .u8) w0 A0 f0.length f0) : IsS42 w0 (W.alloc (.cells #[.slice A0 f0.length c0, .int .i64 f1, .int .u64 f2, .int .i64 f3] 42)) W.heap.size f0 f1 f2 f3 := ⟨A0, c0, by simpa using heap_alloc_new W _, hB.size, hr0⟩

/-! ### spec_l01Source: function 7 -/
def srcStep (m b : Int) : Int := IntKind.u64.wrap (Go.bits .xor .u64 m (IntKind.u64.wrap b) * 1099511628211)
def srcSeed (l : List Int) : Nat → Int
  | 0 => 88172645463325252
  | n + 1 => srcStep (srcSeed l n) (rd l n)
def spec_l01Source.f (l0 : List Int) : Option (List Int × Int × Int × Int) := some (l0, 0, srcSeed l0 (min l0.length 64), min (l0.length : Int) 12)
set_option maxHeartbeats 4000000 in
set_option maxRecDepth 100000 in
theorem spec_l01Source.calls (A0 : Option Addr) (c0 : Nat) (l0 : List Int) (r1 : List Int) (r2 : Int) (r3 : Int) (r4 : Int) (w0 w : World) (hB : Below w0.heap.size w0 w) (hr0 : Kd.C (Kd.int .u8) w0 A0 l0.length l0) (hc0 : l0.length ≤ c0) (h : spec_l01Source.f l0 = some (r1, r2, r3, r4)) :
    Calls Try.prog 7 #[.slice A0 l0.length c0] w fun e w' => ∃ g_ : Nat, e = .returned (.pointer (some ⟨g_, 0, none⟩)) ∧ IsS42 w0 w' g_ r1 r2 r3 r4 ∧ Below w0.heap.size w0 w' ∧ Below w.heap.size w w' := by
  unfold spec_l01Source.f at h
  simp only [Option.some.injEq, Prod.mk.injEq] at h
  obtain ⟨rfl, rfl, rfl, rfl⟩ := h
  have HR := Aside0.mk hr0
  have HB0 := Aside0.mk hB
  have hmx := hr0.2.1
  clear hr0 hB
  have hge : Aside0 (w0.heap.size ≤ w.heap.size) := ⟨HB0.out.size⟩
  go_enter Try.func7, Try.ntmps7
  go_wp2
  go_loopg [4] l0.length (fun gq v4 wr => ∃ j : Nat, v4 = .int .i64 j ∧ Aside0 (j ≤ l0.length) ∧ Aside0 (j ≤ 64) ∧ Aside0 (l0.length - j ≤ gq) ∧ Aside0 (wr.heap[w.heap.size]? = some (.cells #[.slice A0 l0.length c0, .int .i64 0, .int .u64 (srcSeed l0 j), .int .i64 0] 42 (0, 0))) ∧ Aside0 (Below w.heap.size w wr))
  case atStart => exact ⟨0, rfl, ⟨Nat.zero_le _⟩, ⟨Nat.zero_le _⟩, ⟨by omega⟩, ⟨blk_new _ _⟩, ⟨below_alloc (Below.refl _ _) _⟩⟩
  case round =>
    obtain ⟨j, rfl, hj, hj64, hg, BK, HB⟩ := hrel
    by_cases c1 : j < l0.length
    · by_cases c2 : j < 64
      · have c1b : decide (j < l0.length) = true := decide_eq_true c1
        have c1c : ((j : Int) < (l0.length : Int)) := by omega
        have c2b : decide (j < 64) = true := decide_eq_true c2
        have c2c : decide ((j : Int) < 64) = true := decide_eq_true (by omega)
        obtain ⟨ad, e_, hx⟩ := Kd.at_int HR.out (j : Int) (by omega) (by omega)
        cases e_
        replace hx := pw_cell_below HB.out (pw_cell_below HB0.out hx)
        rw [Int.toNat_natCast] at hx
        have hm : wr.cell? ⟨w.heap.size, 2, none⟩ = some (.int .u64 (srcSeed l0 j)) := (blk_cell BK.out 2).trans rfl
        have hf : wr.frozen? ⟨w.heap.size, 2, none⟩ = false := blk_frozen BK.out 2
        obtain ⟨m, hmm⟩ : ∃ m, srcSeed l0 j = m := ⟨_, rfl⟩
        obtain ⟨x, hxx⟩ : ∃ x, rd l0 j = x := ⟨_, rfl⟩
        have HM := Aside0.mk hmm
        have HX := Aside0.mk hxx
        rw [hmm] at hm
        rw [hxx] at hx
        have hj1 : ((j : Int) + 1) = ((j + 1 : Nat) : Int) := by omega
        clear hmm hxx
        have HJ1 := Aside0.mk hj1
        clear hj1
        go_wp2
        go_region
        go_wp2
        go_roundg (l0.length - (j + 1))
        case measure => have := hg.out; omega
        case rel =>
          refine ⟨j + 1, by first | rfl | (rw [← HJ1.out]), ⟨c1⟩, ⟨by omega⟩, ⟨by omega⟩, ⟨?_⟩, ⟨?_⟩⟩
          · rw [show srcSeed l0 (j + 1) = srcStep m x from by simp only [srcSeed]; rw [HM.out, HX.out]]
            have hs := blk_set BK.out 2 (.int .u64 (srcStep m x))
            exact blk_drew (by simpa [srcStep] using hs)
          · repeat (first | (with_reducible first | exact HB.out | apply below_drew1) | refine below_set ?_ (Nat.le_refl _))
      · have c1b : decide (j < l0.length) = true := decide_eq_true c1
        have c2b : decide (j < 64) = false := decide_eq_false c2
        have c2c : decide ((j : Int) < 64) = false := decide_eq_false (by omega)
        have hjj : j = min l0.length 64 := by have := hj64.out; omega
        have HJ := Aside0.mk hjj
        clear hjj
        have c12 : decide (12 < l0.length) = true := decide_eq_true (by have := hj64.out; omega)
        have c12b : decide (12 < (l0.length : Int)) = true := decide_eq_true (by have := hj64.out; omega)
        have c12c := Aside0.mk (show 12 ≤ l0.length by have := hj64.out; omega)
        have hm : wr.cell? ⟨w.heap.size, 3, none⟩ = some (.int .i64 0) := (blk_cell BK.out 3).trans rfl
        have hf : wr.frozen? ⟨w.heap.size, 3, none⟩ = false := blk_frozen BK.out 3
        have h1 : (wr.setCell ⟨w.heap.size, 3, none⟩ (.int .i64 l0.length)).cell? ⟨w.heap.size, 3, none⟩ = some (.int .i64 l0.length) := World.cell?_setCell_same _ _ _ hm
        go_wp2
        go_ret
        refine ⟨w.heap.size, rfl, ⟨A0, c0, ?_, hge.out, HR.out⟩, ?_, ?_⟩
        · rw [← HJ.out, show min (l0.length : Int) 12 = 12 from by have := c12c.out; omega]
          have hs := blk_set (blk_set BK.out 3 (.int .i64 l0.length)) 3 (.int .i64 12)
          simpa using hs
        · repeat (first | (with_reducible first | exact HB0.out.trans (HB.out.mono hge.out)) | refine below_set ?_ hge.out)
        · repeat (first | (with_reducible first | exact HB.out) | refine below_set ?_ (Nat.le_refl _))
    · have c1b : decide (j < l0.length) = false := decide_eq_false c1
      have c1c : ¬ ((j : Int) < (l0.length : Int)) := by omega
      have hjj : j = min l0.length 64 := by have := hj.out; have := hj64.out; omega
      have HJ := Aside0.mk hjj
      clear hjj
      have hm : wr.cell? ⟨w.heap.size, 3, none⟩ = some (.int .i64 0) := (blk_cell BK.out 3).trans rfl
      have hf : wr.frozen? ⟨w.heap.size, 3, none⟩ = false := blk_frozen BK.out 3
      have h1 : (wr.setCell ⟨w.heap.size, 3, none⟩ (.int .i64 l0.length)).cell? ⟨w.heap.size, 3, none⟩ = some (.int .i64 l0.length) := World.cell?_setCell_same _ _ _ hm
      by_cases c3 : 12 < l0.length
      · have c12 : decide (12 < l0.length) = true := decide_eq_true c3
        have c12b : decide (12 < (l0.length : Int)) = true := decide_eq_true (by omega)
        have c12c := Aside0.mk (show 12 ≤ l0.length by omega)
        go_wp2
        go_ret
        refine ⟨w.heap.size, rfl, ⟨A0, c0, ?_, hge.out, HR.out⟩, ?_, ?_⟩
        · rw [← HJ.out, show min (l0.length : Int) 12 = 12 from by have := c12c.out; omega]
          have hs := blk_set (blk_set BK.out 3 (.int .i64 l0.length)) 3 (.int .i64 12)
          simpa using hs
        · repeat (first | (with_reducible first | exact HB0.out.trans (HB.out.mono hge.out)) | refine below_set ?_ hge.out)
        · repeat (first | (with_reducible first | exact HB.out) | refine below_set ?_ (Nat.le_refl _))
      · have c12 : decide (12 < l0.length) = false := decide_eq_false c3
        have c12b : decide (12 < (l0.length : Int)) = false := decide_eq_false (by omega)
        have c12c := Aside0.mk (show l0.length ≤ 12 by omega)
        go_wp2
        go_ret
        refine ⟨w.heap.size, rfl, ⟨A0, c0, ?_, hge.out, HR.out⟩, ?_, ?_⟩
        · rw [← HJ.out, show min (l0.length : Int) 12 = (l0.length : Int) from by have := c12c.out; omega]
          have hs := blk_set BK.out 3 (.int .i64 l0.length)
          simpa using hs
        · repeat (first | (with_reducible first | exact HB0.out.trans (HB.out.mono hge.out)) | refine below_set ?_ hge.out)
        · repeat (first | (with_reducible first | exact HB.out) | refine below_set ?_ (Nat.le_refl _))

/-! ### spec_l01Src_n: function 10 -/
def srcShift1 (m : Int) : Int := Go.bits .xor .u64 m (IntKind.u64.wrap (m * 8192))
def srcShift2 (m : Int) : Int := Go.bits .xor .u64 m (m / 128)
def srcShift3 (m : Int) : Int := Go.bits .xor .u64 m (IntKind.u64.wrap (m * 131072))
def srcMix (m : Int) : Int := srcShift3 (srcShift2 (srcShift1 m))
def srcOut (v m a1 : Int) : Int := wrap64 (Int.tmod (IntKind.u64.wrap (v + m / 1048576)) (IntKind.u64.wrap a1))
def spec_l01Src_n.f (s0_0 : List Int) (s0_1 : Int) (s0_2 : Int) (s0_3 : Int) (a1 : Int) : Option (Int × Int × Int × Int) :=
  if a1 ≤ 1 then some (0, s0_1, s0_2, s0_3) else
  if IntKind.u64.wrap a1 = 0 then none else
  if s0_1 < (s0_0.length : Int) then (if 0 ≤ s0_1 then some (srcOut (IntKind.u64.wrap (rd s0_0 s0_1)) (srcMix s0_2) a1, wrap64 (s0_1 + 1), srcMix s0_2, s0_3) else none)
  else some (srcOut 0 (srcMix s0_2) a1, s0_1, srcMix s0_2, s0_3)
set_option maxHeartbeats 4000000 in
set_option maxRecDepth 100000 in
theorem spec_l01Src_n.calls (g : Nat) (s0_0 : List Int) (s0_1 : Int) (s0_2 : Int) (s0_3 : Int) (a1 : Int) (r1 : Int) (r2 : Int) (r3 : Int) (r4 : Int) (w0 w : World) (hI : IsS42 w0 w g s0_0 s0_1 s0_2 s0_3) (hB : Below w0.heap.size w0 w) (h : spec_l01Src_n.f s0_0 s0_1 s0_2 s0_3 a1 = some (r1, r2, r3, r4)) :
    Calls Try.prog 10 #[.pointer (some ⟨g, 0, none⟩), .int .i64 a1] w fun e w' => e = .returned (.int .i64 r1) ∧ IsS42 w0 w' g s0_0 r2 r3 r4 ∧ Below w0.heap.size w0 w' ∧ KeepBut w w' g none := by
  unfold spec_l01Src_n.f at h
  by_cases c1 : a1 ≤ 1
  · rw [if_pos c1] at h
    have c1b : decide (a1 ≤ 1) = true := decide_eq_true c1
    simp only [Option.some.injEq, Prod.mk.injEq] at h
    obtain ⟨rfl, rfl, rfl, rfl⟩ := h
    clear c1
    have HI := Aside0.mk hI
    clear hI
    go_enter Try.func10, Try.ntmps10
    go_wp2
    go_ret
    exact ⟨rfl, HI.out, hB, KeepBut.refl _ _ _⟩
  · rw [if_neg c1] at h
    have c1b : decide (a1 ≤ 1) = false := decide_eq_false c1
    by_cases c9 : IntKind.u64.wrap a1 = 0
    · rw [if_pos c9] at h
      exact absurd h (by simp)
    · rw [if_neg c9] at h
      have c9b : (IntKind.u64.wrap a1 == 0) = false := beq_eq_false_iff_ne.mpr c9
      have HI := Aside0.mk hI
      have HB := Aside0.mk hB
      obtain ⟨A0, c0, hb, hg, hr0⟩ := hI
      have HR := Aside0.mk hr0
      have hlt := blk_lt hb
      have f0 := cellS42_0 hb
      have f1 := cellS42_1 hb
      have f2 := cellS42_2 hb
      have fz1 : w.frozen? ⟨g, 1, none⟩ = false := blk_frozen hb 1
      have fz2 : w.frozen? ⟨g, 2, none⟩ = false := blk_frozen hb 2
      have hS : srcMix s0_2 = srcShift3 (srcShift2 (srcShift1 s0_2)) := rfl
      obtain ⟨m1, hm1⟩ : ∃ m, srcShift1 s0_2 = m := ⟨_, rfl⟩
      rw [hm1] at hS
      obtain ⟨m2, hm2⟩ : ∃ m, srcShift2 m1 = m := ⟨_, rfl⟩
      rw [hm2] at hS
      obtain ⟨m3, hm3⟩ : ∃ m, srcShift3 m2 = m := ⟨_, rfl⟩
      rw [hm3] at hS
      rw [hS] at h
      clear hS
      unfold srcShift1 at hm1
      unfold srcShift2 at hm2
      unfold srcShift3 at hm3
      by_cases c2 : s0_1 < (s0_0.length : Int)
      · rw [if_pos c2] at h
        by_cases c3 : 0 ≤ s0_1
        · rw [if_pos c3] at h
          have c2b : decide (s0_1 < (s0_0.length : Int)) = true := decide_eq_true c2
          simp only [Option.some.injEq, Prod.mk.injEq] at h
          obtain ⟨rfl, rfl, rfl, rfl⟩ := h
          obtain ⟨ad, e_, hx⟩ := Kd.at_int HR.out s0_1 c3 c2
          cases e_
          replace hx := pw_cell_below HB.out hx
          have c3b := eq_true c3
          have c2c := eq_true c2
          obtain ⟨x, hxx⟩ : ∃ x, rd s0_0 s0_1 = x := ⟨_, rfl⟩
          rw [hxx] at hx ⊢
          clear hxx
          have HX := Aside0.mk (Eq.refl (srcOut (IntKind.u64.wrap x) m3 a1))
          have e0 : (w.setCell ⟨g, 1, none⟩ (.int .i64 (wrap64 (s0_1 + 1)))).cell? ⟨g, 2, none⟩ = some (.int .u64 s0_2) := (World.cell?_setCell_other w _ _ _ (by simp)).trans f2
          have e1 : ((w.setCell ⟨g, 1, none⟩ (.int .i64 (wrap64 (s0_1 + 1)))).setCell ⟨g, 2, none⟩ (.int .u64 m1)).cell? ⟨g, 2, none⟩ = some (.int .u64 m1) := World.cell?_setCell_same _ _ _ e0
          have e2 : (((w.setCell ⟨g, 1, none⟩ (.int .i64 (wrap64 (s0_1 + 1)))).setCell ⟨g, 2, none⟩ (.int .u64 m1)).setCell ⟨g, 2, none⟩ (.int .u64 m2)).cell? ⟨g, 2, none⟩ = some (.int .u64 m2) := World.cell?_setCell_same _ _ _ e1
          have e3 : ((((w.setCell ⟨g, 1, none⟩ (.int .i64 (wrap64 (s0_1 + 1)))).setCell ⟨g, 2, none⟩ (.int .u64 m1)).setCell ⟨g, 2, none⟩ (.int .u64 m2)).setCell ⟨g, 2, none⟩ (.int .u64 m3)).cell? ⟨g, 2, none⟩ = some (.int .u64 m3) := World.cell?_setCell_same _ _ _ e2
          clear hB hb hr0 c1 c2 c3
          go_enter Try.func10, Try.ntmps10
          go_wp2
          go_region
          go_wp2
          go_region
          go_wp2
          go_region
          go_wp2
          go_region
          go_wp2
          go_region
          go_wp2
          go_ret
          exact ⟨by first | rfl | (unfold srcOut; rfl) | (unfold srcOut; simp), by repeat (first | (with_reducible first | exact HI.out | apply IsS42.drew | apply IsS42.set_1 | apply IsS42.set_2) | exact HI.out), by repeat (first | (with_reducible first | exact HB.out | apply below_drew1 | refine below_set ?_ (IsS42.ge HI.out)) | exact HB.out), by repeat (first | (with_reducible first | exact KeepBut.refl _ _ _ | apply KeepBut.set_ | apply keep_drew) | exact KeepBut.refl _ _ _)⟩
        · rw [if_neg c3] at h
          exact absurd h (by simp)
      · rw [if_neg c2] at h
        have c2b : decide (s0_1 < (s0_0.length : Int)) = false := decide_eq_false c2
        simp only [Option.some.injEq, Prod.mk.injEq] at h
        obtain ⟨rfl, rfl, rfl, rfl⟩ := h
        have e1 : (w.setCell ⟨g, 2, none⟩ (.int .u64 m1)).cell? ⟨g, 2, none⟩ = some (.int .u64 m1) := World.cell?_setCell_same _ _ _ f2
        have e2 : ((w.setCell ⟨g, 2, none⟩ (.int .u64 m1)).setCell ⟨g, 2, none⟩ (.int .u64 m2)).cell? ⟨g, 2, none⟩ = some (.int .u64 m2) := World.cell?_setCell_same _ _ _ e1
        have e3 : (((w.setCell ⟨g, 2, none⟩ (.int .u64 m1)).setCell ⟨g, 2, none⟩ (.int .u64 m2)).setCell ⟨g, 2, none⟩ (.int .u64 m3)).cell? ⟨g, 2, none⟩ = some (.int .u64 m3) := World.cell?_setCell_same _ _ _ e2
        clear hB hb hr0 c2 c1
        go_enter Try.func10, Try.ntmps10
        go_wp2
        go_region
        go_wp2
        go_region
        go_wp2
        go_region
        go_wp2
        go_region
        go_wp2
        go_ret
        exact ⟨by first | rfl | (unfold srcOut; rfl) | (unfold srcOut; simp), by repeat (first | (with_reducible first | exact HI.out | apply IsS42.drew | apply IsS42.set_1 | apply IsS42.set_2) | exact HI.out), by repeat (first | (with_reducible first | exact HB.out | apply below_drew1 | refine below_set ?_ (IsS42.ge HI.out)) | exact HB.out), by repeat (first | (with_reducible first | exact KeepBut.refl _ _ _ | apply KeepBut.set_ | apply keep_drew) | exact KeepBut.refl _ _ _)⟩

/-! ### spec_l01Src_frames: function 8 -/
def spec_l01Src_frames.l0 : Nat → List Int → Int → List Int → Int → Int → Int → Option (ByteArray × Int × Int × Int)
 | 0, _, _, _, _, _, _ => none
 | k + 1, x5, x6, x1000, x1001, x1002, x1003 => if x6 > 0 then ((spec_l01Src_n.f x1000 x1001 x1002 x1003 (x5.length : Int)).bind fun bt108 => ((spec_l01Src_n.f x1000 bt108.2.1 bt108.2.2.1 bt108.2.2.2 256).bind fun bt112 => (if 0 ≤ bt108.1 then (if bt108.1 < (x5.length : Int) then (spec_l01Src_frames.l0 k (x5.set (bt108.1 : Int).toNat ((bt112.1) % 256)) (wrap64 (x6 - 1)) x1000 bt112.2.1 bt112.2.2.1 bt112.2.2.2) else (none)) else (none)))) else (some (strOfNums x5, x1001, x1002, x1003))
def spec_l01Src_frames.f (k : Nat) (s0_0 : List Int) (s0_1 : Int) (s0_2 : Int) (s0_3 : Int) (a1 : Int) : Option (ByteArray × Int × Int × Int) := if 0 ≤ (wrap64 (a1 * 256)) then (if (wrap64 (a1 * 256) : Int).toNat ≤ 281474976710656 then ((spec_l01Src_n.f s0_0 s0_1 s0_2 s0_3 6).bind fun bt104 => (spec_l01Src_frames.l0 k (List.replicate (wrap64 (a1 * 256) : Int).toNat 0) bt104.1 s0_0 bt104.2.1 bt104.2.2.1 bt104.2.2.2)) else (none)) else (none)
theorem spec_l01Src_frames.mono_l : ∀ k, (∀ y0 y1 y2 y3 y4 y5, LeO (spec_l01Src_frames.l0 k y0 y1 y2 y3 y4 y5) (spec_l01Src_frames.l0 (k + 1) y0 y1 y2 y3 y4 y5))
 | 0 => fun _ _ _ _ _ _ r h => by simp [spec_l01Src_frames.l0] at h
 | k + 1 => by
  have ih0 := spec_l01Src_frames.mono_l k
  ·intro y0 y1 y2 y3 y4 y5
   unfold spec_l01Src_frames.l0
   repeat' first
   | (with_reducible exact ih0 _ _ _ _ _ _)
   | (with_reducible exact LeO.refl _)
   | (with_reducible exact LeO.none _)
   | (with_reducible refine LeO.ite ?_ ?_)
   | (with_reducible refine LeO.bind ?_ (fun _ => ?_))
   | exact ih0 _ _ _ _ _ _
   | exact LeO.none _
   | refine LeO.ite ?_ ?_
   | refine LeO.bind ?_ (fun _ => ?_)
theorem spec_l01Src_frames.mono : ∀ a0 a1 a2 a3 a4 k, LeO (spec_l01Src_frames.f k a0 a1 a2 a3 a4) (spec_l01Src_frames.f (k + 1) a0 a1 a2 a3 a4) := by
 intro a0 a1 a2 a3 a4 k
 have ih0 := spec_l01Src_frames.mono_l k
 unfold spec_l01Src_frames.f
 repeat' first
   | (with_reducible exact ih0 _ _ _ _ _ _)
   | (with_reducible exact LeO.refl _)
   | (with_reducible exact LeO.none _)
   | (with_reducible refine LeO.ite ?_ ?_)
   | (with_reducible refine LeO.bind ?_ (fun _ => ?_))
   | exact ih0 _ _ _ _ _ _
   | exact LeO.none _
   | refine LeO.ite ?_ ?_
   | refine LeO.bind ?_ (fun _ => ?_)
set_option maxHeartbeats 8000000 in
set_option maxRecDepth 100000 in
theorem spec_l01Src_frames.calls (k : Nat) (g : Nat) (s0_0 : List Int) (s0_1 : Int) (s0_2 : Int) (s0_3 : Int) (a1 : Int) (r1 : ByteArray) (r2 : Int) (r3 : Int) (r4 : Int) (w0 w : World) (hI : IsS42 w0 w g s0_0 s0_1 s0_2 s0_3) (hB : Below w0.heap.size w0 w) (h : spec_l01Src_frames.f k s0_0 s0_1 s0_2 s0_3 a1 = some (r1, r2, r3, r4)) :
  Calls Try.prog 8 #[.pointer (some ⟨g, 0, none⟩), .int .i64 a1] w fun e w' => e = .returned (.string r1) ∧ IsS42 w0 w' g s0_0 r2 r3 r4 ∧ Below w0.heap.size w0 w' ∧ KeepBut w w' g none := by
 have HI0 := Sq.l hI
 have HK := Sq.l (KeepBut.refl w g none)
 have HL := Sq.l hB.size
 clear hI
 have HW0 := Sq.l hB.size
 have HB := Sq.l hB
 clear hB
 have H : (if 0 ≤ (wrap64 (a1 * 256)) then (if (wrap64 (a1 * 256) : Int).toNat ≤ 281474976710656 then ((spec_l01Src_n.f s0_0 s0_1 s0_2 s0_3 6).bind fun bt104 => (spec_l01Src_frames.l0 k (List.replicate (wrap64 (a1 * 256) : Int).toNat 0) bt104.1 s0_0 bt104.2.1 bt104.2.2.1 bt104.2.2.2)) else (none)) else (none)) = some (r1, r2, r3, r4) := h
 clear h
 obtain ⟨ji3, hji3⟩ : ∃ j_ : Int, (wrap64 (a1 * 256)) = j_ := ⟨_, rfl⟩
 replace H : (if 0 ≤ (ji3) then (if (ji3 : Int).toNat ≤ 281474976710656 then ((spec_l01Src_n.f s0_0 s0_1 s0_2 s0_3 6).bind fun bt104 => (spec_l01Src_frames.l0 k (List.replicate (ji3 : Int).toNat 0) bt104.1 s0_0 bt104.2.1 bt104.2.2.1 bt104.2.2.2)) else (none)) else (none)) = some (r1, r2, r3, r4) := by first | (rw [hji3] at H; exact H) | (simp only [hji3] at H ⊢; exact H)
 have hji3w : (IntKind.i64.wrap (a1 * 256)) = ji3 := (i64_w _).trans hji3
 by_cases c4 : 0 ≤ (ji3)
 ·rw [if_pos c4] at H
  have c4b0 := eq_true c4
  have c4b1 : decide (0 ≤ (ji3)) = true := decide_eq_true c4
  clear c4
  by_cases c5 : (ji3 : Int).toNat ≤ 281474976710656
  ·rw [if_pos c5] at H
   have c5b0 := eq_true c5
   have c5b1 : decide ((ji3 : Int).toNat ≤ 281474976710656) = true := decide_eq_true c5
   clear c5
   obtain ⟨y101, hy101⟩ : ∃ y_ : List Int, y_ = (List.replicate (ji3 : Int).toNat 0) := ⟨_, rfl⟩
   replace H : ((spec_l01Src_n.f s0_0 s0_1 s0_2 s0_3 6).bind fun bt104 => (spec_l01Src_frames.l0 k y101 bt104.1 s0_0 bt104.2.1 bt104.2.2.1 bt104.2.2.2)) = some (r1, r2, r3, r4) := by first | (rw [hy101]; with_reducible exact H) | (have H2_ := (Option.bind_some _ _).symm.trans H; rw [hy101]; with_reducible exact H2_) | (have H2_ := (Option.bind_some _ _).symm.trans H; with_reducible exact H2_) | with_reducible exact H | (rw [hy101]; exact H) | exact H
   have Ny101 := Sq.l hy101
   clear hy101
   replace H := Option.bind_eq_some_iff.mp H
   obtain ⟨⟨t104, t105, t106, t107⟩, A60, H⟩ := H
   replace H : (spec_l01Src_frames.l0 k y101 t104 s0_0 t105 t106 t107) = some (r1, r2, r3, r4) := H
   have A6 := Sq.l A60
   clear A60
   have H' := Sq.l H
   clear H
   go_enter Try.func8, Try.ntmps8
   go_wp2_with (first | ((with_reducible refine gate_dst (N := 9) rfl ?_); refine Kd.R_make (Kd.int .u8) _ 5 rfl (N := 9) rfl 22 _ _ rfl ji3 rfl rfl Try.underlying22 (.int .u8 0) 1 info5 rfl (by decide) (by omega) 0 (ok := fun _ => True) (okp := fun _ => True) rfl (fun _ hk => hk) trivial (of_decide_eq_true (by first | (with_reducible assumption) | assumption)) (Nat.le_trans (Nat.mul_le_mul_right _ (of_decide_eq_true (by first | (with_reducible assumption) | assumption) : ji3.toNat ≤ 281474976710656)) (by omega)) (Below.refl _ _) (Nat.le_refl _) ?_; intro v102 w7 ho8 hb hg_ hnew_; clear hg_ hnew_; (first | rw [← Ny101.out] at ho8 | (simp only [Int.reduceToNat] at ho8; rw [← Ny101.out] at ho8)); have n0_ := Sq.l (Sq.a2 ho8 (keep_size (w := w) (g := g) (row := none) (by repeat (first | (with_reducible first | exact HK.out | apply KeepBut.set_ | apply keep_drewN | apply keep_drew | apply keep_alloc) | exact HK.out)))); have n1_ := Sq.l (IsS42.below (by repeat (first | (with_reducible first | exact HI0.out | apply IsS42.alloc | apply IsS42.drewN | apply IsS42.drew | apply IsS42.set_1 | apply IsS42.set_2 | apply IsS42.set_3) | exact HI0.out)) hb); have n2_ := Sq.l (KeepBut.trans (by repeat (first | (with_reducible first | exact HK.out | apply KeepBut.set_ | apply keep_drewN | apply keep_drew | apply keep_alloc) | exact HK.out)) (KeepBut.of_below hb g none) (.inl rfl)); have n3_ := Sq.l (Sq.a4 (by repeat (first | (with_reducible first | exact HB.out | apply Sq.i | apply Sq.j | apply Sq.k | refine Sq.h ?_ (IsS42.ge HI0.out)) | exact HB.out)) hb); clear HI0; clear HK; clear HB; have HO103 := n0_; have HI0 := n1_; have HK := n2_; have HB := n3_; clear n0_ n1_ n2_ n3_; clear hb ho8) | ((with_reducible refine gate_callee (f := 10) rfl ?_); refine goesL_ (some 11) rfl rfl Try.func10 (by kernel_rfl) rfl #[.pointer (some ⟨g, 0, none⟩), .int .i64 6] rfl (by (try simp only [List.map_toArray, List.map_cons, List.map_nil]); first | done | rfl | (simp only [List.length_drop, List.length_take]; rfl)) ?_; (with_reducible refine (spec_l01Src_n.calls g s0_0 s0_1 s0_2 s0_3 6 t104 t105 t106 t107 w0 _ ?side1 ?side2 A6.out).mono ?_); (case side1 => repeat (first | (with_reducible first | exact HI0.out | apply IsS42.alloc | apply IsS42.drewN | apply IsS42.drew | apply IsS42.set_1 | apply IsS42.set_2 | apply IsS42.set_3) | exact HI0.out)); (case side2 => repeat (first | (with_reducible first | exact HB.out | apply Sq.i | apply Sq.j | apply Sq.k | refine Sq.h ?_ (IsS42.ge HI0.out)) | exact HB.out)); rintro e w9 ⟨rfl, hi, hb, hk⟩; refine ⟨_, rfl, ?_⟩; have n0_ := Sq.l (Sq.a3 (Kd.R_keep (IsS42.apart (show IsS42 w0 _ g s0_0 s0_1 s0_2 s0_3 from by repeat (first | (with_reducible first | exact HI0.out | apply IsS42.alloc | apply IsS42.drewN | apply IsS42.drew | apply IsS42.set_1 | apply IsS42.set_2 | apply IsS42.set_3) | exact HI0.out)) (by (with_reducible repeat (first | apply Sq.a | apply Sq.b | apply Sq.c)); exact HO103.out) (by decide)) hk (fun _ h => h.2)) (fun _ h => h.1)); have n1_ := Sq.l (KeepBut.trans (by repeat (first | (with_reducible first | exact HK.out | apply KeepBut.set_ | apply keep_drewN | apply keep_drew | apply keep_alloc) | exact HK.out)) hk (.inl rfl)); have n2_ := Sq.l (hb); have n3_ := Sq.l (hi); clear HO103; clear HK; clear HB; clear HI0; have HO103 := n0_; have HK := n1_; have HB := n2_; have HI0 := n3_; clear n0_ n1_ n2_ n3_; (try clear hb); (try clear hb2); (try clear hk); (try clear hi)))
   go_loopg [6] k (fun kq v6 w' => ∃ (x5_1 : List Int) (x6_1 : Int) (x1001_1 : Int) (x1002_1 : Int) (x1003_1 : Int), v6 = .int .i64 x6_1 ∧ Aside0 (spec_l01Src_frames.l0 kq x5_1 x6_1 s0_0 x1001_1 x1002_1 x1003_1 = some (r1, r2, r3, r4)) ∧ Aside0 (kq ≤ k) ∧ Aside0 (Kd.R (Kd.int .u8) 5 w' w.heap.size (fun _ => True) v102 x5_1) ∧ Aside0 (IsS42 w0 w' g s0_0 x1001_1 x1002_1 x1003_1) ∧ Aside0 (KeepBut w w' g none) ∧ Aside0 (Below w0.heap.size w0 w'))
   case atStart => exact ⟨(y101), (t104), (t105), (t106), (t107), (by first | rfl | (simp; done) | (simp [*]; done)), H', ⟨Nat.le_refl _⟩, ⟨by (with_reducible repeat (first | apply Sq.a | apply Sq.b | apply Sq.c)); exact HO103.out⟩, ⟨by repeat (first | (with_reducible first | exact HI0.out | apply IsS42.alloc | apply IsS42.drewN | apply IsS42.drew | apply IsS42.set_1 | apply IsS42.set_2 | apply IsS42.set_3) | exact HI0.out)⟩, ⟨by repeat (first | (with_reducible first | exact HK.out | apply KeepBut.set_ | apply keep_drewN | apply keep_drew | apply keep_alloc) | exact HK.out)⟩, ⟨by repeat (first | (with_reducible first | exact HB.out | apply Sq.i | apply Sq.j | apply Sq.k | refine Sq.h ?_ (IsS42.ge HI0.out)) | exact HB.out)⟩⟩
   case round =>
    clear H'
    try clear c1; try clear p2; try clear c4; try clear c4b0; try clear c4b1; try clear c5; try clear c5b0; try clear c5b1; try clear p6; try clear c8
    obtain ⟨x5_1, x6_1, x1001_1, x1002_1, x1003_1, rfl, HA, HK1, HO_5, HI0, HK, HB⟩ := hrel
    cases gk with
    | zero => exact absurd HA.out (by simp [spec_l01Src_frames.l0])
    | succ k1 =>
     have H := HA.out
     clear HA
     simp only [spec_l01Src_frames.l0] at H
     by_cases c10 : x6_1 > 0
     ·rw [if_pos c10] at H
      have c10b0 : decide (0 < x6_1) = true := decide_eq_true c10
      clear c10
      replace H := Option.bind_eq_some_iff.mp H
      obtain ⟨⟨t108, t109, t110, t111⟩, A110, H⟩ := H
      replace H : ((spec_l01Src_n.f s0_0 t109 t110 t111 256).bind fun bt112 => (if 0 ≤ t108 then (if t108 < (x5_1.length : Int) then (spec_l01Src_frames.l0 k1 (x5_1.set (t108 : Int).toNat ((bt112.1) % 256)) (wrap64 (x6_1 - 1)) s0_0 bt112.2.1 bt112.2.2.1 bt112.2.2.2) else (none)) else (none))) = some (r1, r2, r3, r4) := H
      have A11 := Sq.l A110
      clear A110
      replace H := Option.bind_eq_some_iff.mp H
      obtain ⟨⟨t112, t113, t114, t115⟩, A120, H⟩ := H
      replace H : (if 0 ≤ t108 then (if t108 < (x5_1.length : Int) then (spec_l01Src_frames.l0 k1 (x5_1.set (t108 : Int).toNat ((t112) % 256)) (wrap64 (x6_1 - 1)) s0_0 t113 t114 t115) else (none)) else (none)) = some (r1, r2, r3, r4) := H
      have A12 := Sq.l A120
      clear A120
      by_cases c13 : 0 ≤ t108
      ·rw [if_pos c13] at H
       have c13b0 : decide (0 ≤ t108) = true := decide_eq_true c13
       clear c13
       by_cases c14 : t108 < (x5_1.length : Int)
       ·rw [if_pos c14] at H
        have c14b0 : decide (t108 < (x5_1.length : Int)) = true := decide_eq_true c14
        clear c14
        obtain ⟨y116, hy116⟩ : ∃ y_ : List Int, y_ = (x5_1.set (t108 : Int).toNat ((t112) % 256)) := ⟨_, rfl⟩
        replace H : (spec_l01Src_frames.l0 k1 y116 (wrap64 (x6_1 - 1)) s0_0 t113 t114 t115) = some (r1, r2, r3, r4) := by first | (rw [hy116]; with_reducible exact H) | (have H2_ := (Option.bind_some _ _).symm.trans H; rw [hy116]; with_reducible exact H2_) | (have H2_ := (Option.bind_some _ _).symm.trans H; with_reducible exact H2_) | with_reducible exact H | (rw [hy116]; exact H) | exact H
        have Ny116 := Sq.l hy116
        clear hy116
        have H' := Sq.l H
        clear H
        obtain ⟨Ao16, co16, eo16⟩ := Kd.R_slice HO_5.out
        subst eo16
        go_wp2_with (first | ((with_reducible refine gate_callee (f := 10) rfl ?_); refine goesL_ (some 20) rfl rfl Try.func10 (by kernel_rfl) rfl #[.pointer (some ⟨g, 0, none⟩), .int .i64 (x5_1.length : Int)] rfl (by (try simp only [List.map_toArray, List.map_cons, List.map_nil]); first | done | rfl | (simp only [List.length_drop, List.length_take]; rfl)) ?_; (with_reducible refine (spec_l01Src_n.calls g s0_0 x1001_1 x1002_1 x1003_1 (x5_1.length : Int) t108 t109 t110 t111 w0 _ ?side1 ?side2 A11.out).mono ?_); (case side1 => repeat (first | (with_reducible first | exact HI0.out | apply IsS42.alloc | apply IsS42.drewN | apply IsS42.drew | apply IsS42.set_1 | apply IsS42.set_2 | apply IsS42.set_3) | exact HI0.out)); (case side2 => repeat (first | (with_reducible first | exact HB.out | apply Sq.i | apply Sq.j | apply Sq.k | refine Sq.h ?_ (IsS42.ge HI0.out)) | exact HB.out)); rintro e w17 ⟨rfl, hi, hb, hk⟩; refine ⟨_, rfl, ?_⟩; have n0_ := Sq.l (Sq.a3 (Kd.R_keep (IsS42.apart (show IsS42 w0 _ g s0_0 x1001_1 x1002_1 x1003_1 from by repeat (first | (with_reducible first | exact HI0.out | apply IsS42.alloc | apply IsS42.drewN | apply IsS42.drew | apply IsS42.set_1 | apply IsS42.set_2 | apply IsS42.set_3) | exact HI0.out)) (by (with_reducible repeat (first | apply Sq.a | apply Sq.b | apply Sq.c)); exact HO_5.out) (by decide)) hk (fun _ h => h.2)) (fun _ h => h.1)); have n1_ := Sq.l (KeepBut.trans (by repeat (first | (with_reducible first | exact HK.out | apply KeepBut.set_ | apply keep_drewN | apply keep_drew | apply keep_alloc) | exact HK.out)) hk (.inl rfl)); have n2_ := Sq.l (hb); have n3_ := Sq.l (hi); clear HO_5; clear HK; clear HB; clear HI0; have HO_5 := n0_; have HK := n1_; have HB := n2_; have HI0 := n3_; clear n0_ n1_ n2_ n3_; (try clear hb); (try clear hb2); (try clear hk); (try clear hi)) | ((with_reducible refine gate_callee (f := 10) rfl ?_); refine goesL_ (some 22) rfl rfl Try.func10 (by kernel_rfl) rfl #[.pointer (some ⟨g, 0, none⟩), .int .i64 256] rfl (by (try simp only [List.map_toArray, List.map_cons, List.map_nil]); first | done | rfl | (simp only [List.length_drop, List.length_take]; rfl)) ?_; (with_reducible refine (spec_l01Src_n.calls g s0_0 t109 t110 t111 256 t112 t113 t114 t115 w0 _ ?side1 ?side2 A12.out).mono ?_); (case side1 => repeat (first | (with_reducible first | exact HI0.out | apply IsS42.alloc | apply IsS42.drewN | apply IsS42.drew | apply IsS42.set_1 | apply IsS42.set_2 | apply IsS42.set_3) | exact HI0.out)); (case side2 => repeat (first | (with_reducible first | exact HB.out | apply Sq.i | apply Sq.j | apply Sq.k | refine Sq.h ?_ (IsS42.ge HI0.out)) | exact HB.out)); rintro e w18 ⟨rfl, hi, hb, hk⟩; refine ⟨_, rfl, ?_⟩; have n0_ := Sq.l (Sq.a3 (Kd.R_keep (IsS42.apart (show IsS42 w0 _ g s0_0 t109 t110 t111 from by repeat (first | (with_reducible first | exact HI0.out | apply IsS42.alloc | apply IsS42.drewN | apply IsS42.drew | apply IsS42.set_1 | apply IsS42.set_2 | apply IsS42.set_3) | exact HI0.out)) (by (with_reducible repeat (first | apply Sq.a | apply Sq.b | apply Sq.c)); exact HO_5.out) (by decide)) hk (fun _ h => h.2)) (fun _ h => h.1)); have n1_ := Sq.l (KeepBut.trans (by repeat (first | (with_reducible first | exact HK.out | apply KeepBut.set_ | apply keep_drewN | apply keep_drew | apply keep_alloc) | exact HK.out)) hk (.inl rfl)); have n2_ := Sq.l (hb); have n3_ := Sq.l (hi); clear HO_5; clear HK; clear HB; clear HI0; have HO_5 := n0_; have HK := n1_; have HB := n2_; have HI0 := n3_; clear n0_ n1_ n2_ n3_; (try clear hb); (try clear hb2); (try clear hk); (try clear hi); have p15 : 0 ≤ (t108 : Int) := of_decide_eq_true (by first | (with_reducible assumption) | assumption); have q15 : (t108 : Int) < ((x5_1.length : Int) : Int) := of_decide_eq_true (by first | (with_reducible assumption) | assumption); obtain ⟨go15, co15, eo15, gb15, gl15, cl15, HG15⟩ := Kd.R_form HO_5.out (by omega); (first | cases eo15 | (injection eo15 with ea_ en_ ec_; (first | subst ea_ | (injection ea_ with ea_; subst ea_)); subst ec_; clear en_)); have GB15 := Sq.l gb15; have GG15 := Sq.l HG15; clear gb15 gl15 HG15; obtain ⟨hx15_0, hf15_0⟩ := Kd.R_celln 0 HO_5.out (t108 : Int) p15 q15; replace p15 := eq_true p15; replace q15 := eq_true q15; obtain ⟨hy19_, hz19_⟩ := Kd.R_celln 0 HO_5.out (t108 : Int) (of_decide_eq_true (by first | (with_reducible assumption) | assumption)) (of_decide_eq_true (by first | (with_reducible assumption) | assumption)); have HP19 := Kd.R_putg HO_5.out (t108 : Int) ((t112) % 256)) | ((with_reducible refine gate_store (t := 5) (p := 24) rfl ?_); refine store_event (t := 5) (p := 24) (v := ?vo_w20) (w1 := (w18.setCell ⟨go15, (t108 : Int).toNat, none⟩ (.int .u8 ((t112) % 256)))) ?hg ?ho ?hn ?hr ?_; (case ho => rfl); (case hg => rfl); (case hn => rfl); (case hr => first | (go_simp; done) | (go_simp; rfl)); intro w20 hw; have hg : w18.grownBy w20 (some go15) := (by rw [hw]; exact HP19.2); have hp_ : Kd.R (Kd.int .u8) 5 w20 w.heap.size (fun _ => True) (.slice (some ⟨go15, 0, none⟩) x5_1.length co16) y116 := (by rw [hw, Ny116.out]; exact HP19.1); clear HP19; have n0_ := Sq.l (hp_); have n1_ := Sq.l (IsS42.grown (by repeat (first | (with_reducible first | exact HI0.out | apply IsS42.alloc | apply IsS42.drewN | apply IsS42.drew | apply IsS42.set_1 | apply IsS42.set_2 | apply IsS42.set_3) | exact HI0.out)) hg (IsS42.own_ne HI0.out HO_5.out (by decide))); have n2_ := Sq.l ((by rw [hw]; exact Sq.h (HB.out) (Nat.le_trans HL.out GB15.out) : Below w0.heap.size w0 w20)); have n3_ := Sq.l (KeepBut.trans (by repeat (first | (with_reducible first | exact HK.out | apply KeepBut.set_ | apply keep_drewN | apply keep_drew | apply keep_alloc) | exact HK.out)) (KeepBut.of_grown hg g) (Kd.R_base2 HO_5.out)); clear HO_5; clear HI0; clear HB; clear HK; have HO_5 := n0_; have HI0 := n1_; have HB := n2_; have HK := n3_; clear n0_ n1_ n2_ n3_; clear hg hw hp_))
        go_roundg k1
        case measure => have := HK1.out; omega
        case rel => exact ⟨(y116), (wrap64 (x6_1 - 1)), (t113), (t114), (t115), (by first | rfl | (simp; done) | (simp [*]; done)), H', ⟨by have := HK1.out; omega⟩, ⟨by (with_reducible repeat (first | apply Sq.a | apply Sq.b | apply Sq.c)); exact HO_5.out⟩, ⟨by repeat (first | (with_reducible first | exact HI0.out | apply IsS42.alloc | apply IsS42.drewN | apply IsS42.drew | apply IsS42.set_1 | apply IsS42.set_2 | apply IsS42.set_3) | exact HI0.out)⟩, ⟨by repeat (first | (with_reducible first | exact HK.out | apply KeepBut.set_ | apply keep_drewN | apply keep_drew | apply keep_alloc) | exact HK.out)⟩, ⟨by repeat (first | (with_reducible first | exact HB.out | apply Sq.i | apply Sq.j | apply Sq.k | refine Sq.h ?_ (IsS42.ge HI0.out)) | exact HB.out)⟩⟩
       ·rw [if_neg c14] at H
        exact absurd H (by simp)
      ·rw [if_neg c13] at H
       exact absurd H (by simp)
     ·rw [if_neg c10] at H
      have c10b0 : decide (0 < x6_1) = false := decide_eq_false c10
      clear c10
      simp only [Option.some.injEq, Prod.mk.injEq] at H
      obtain ⟨rfl, rfl, rfl, rfl⟩ := H
      have hcv21 := own_string (P := Try.prog) Try.underlying22 Try.underlying5 Try.underlying9 (Kd.own_of_R HO_5.out)
      go_wp2
      go_ret
      exact ⟨by first | rfl | (simp [errW_none, errW_some] <;> rfl) | (simp only [← hji3]; first | rfl | (simp [errW_none, errW_some] <;> rfl)) | (simp [*, errW_none, errW_some] <;> rfl), by repeat (first | (with_reducible first | exact HI0.out | apply IsS42.alloc | apply IsS42.drewN | apply IsS42.drew | apply IsS42.set_1 | apply IsS42.set_2 | apply IsS42.set_3) | exact HI0.out), by repeat (first | (with_reducible first | exact HB.out | apply Sq.i | apply Sq.j | apply Sq.k | refine Sq.h ?_ (IsS42.ge HI0.out)) | exact HB.out), by repeat (first | (with_reducible first | exact HK.out | apply KeepBut.set_ | apply keep_drewN | apply keep_drew | apply keep_alloc) | exact HK.out)⟩
  ·rw [if_neg c5] at H
   exact absurd H (by simp)
 ·rw [if_neg c4] at H
  exact absurd H (by simp)

/-! ### spec_l01Src_one: function 18 -/
def spec_l01Src_one.f (s0_0 : List Int) (s0_1 : Int) (s0_2 : Int) (s0_3 : Int) (a1 : Int) : Option (Bool × Int × Int × Int) := (spec_l01Src_n.f s0_0 s0_1 s0_2 s0_3 a1).bind fun bt117 => (some ((bt117.1 == 0), bt117.2.1, bt117.2.2.1, bt117.2.2.2))
set_option maxHeartbeats 8000000 in
set_option maxRecDepth 100000 in
theorem spec_l01Src_one.calls (g : Nat) (s0_0 : List Int) (s0_1 : Int) (s0_2 : Int) (s0_3 : Int) (a1 : Int) (r1 : Bool) (r2 : Int) (r3 : Int) (r4 : Int) (w0 w : World) (hI : IsS42 w0 w g s0_0 s0_1 s0_2 s0_3) (hB : Below w0.heap.size w0 w) (h : spec_l01Src_one.f s0_0 s0_1 s0_2 s0_3 a1 = some (r1, r2, r3, r4)) :
    Calls Try.prog 18 #[.pointer (some ⟨g, 0, none⟩), .int .i64 a1] w fun e w' => e = .returned (.bool r1) ∧ IsS42 w0 w' g s0_0 r2 r3 r4 ∧ Below w0.heap.size w0 w' ∧ KeepBut w w' g none := by
  have HI0 := Aside0.mk hI
  have HK := Aside0.mk (KeepBut.refl w g none)
  have HL := Aside0.mk hB.size
  clear hI
  have HW0 := Aside0.mk hB.size
  have HB := Aside0.mk hB
  clear hB
  have H : ((spec_l01Src_n.f s0_0 s0_1 s0_2 s0_3 a1).bind fun bt117 => (some ((bt117.1 == 0), bt117.2.1, bt117.2.2.1, bt117.2.2.2))) = some (r1, r2, r3, r4) := h
  clear h
  replace H := Option.bind_eq_some_iff.mp H
  obtain ⟨⟨t117, t118, t119, t120⟩, A30, H⟩ := H
  replace H : (some ((t117 == 0), t118, t119, t120)) = some (r1, r2, r3, r4) := H
  have A3 := Aside0.mk A30
  clear A30
  simp only [Option.some.injEq, Prod.mk.injEq] at H
  obtain ⟨rfl, rfl, rfl, rfl⟩ := H
  go_enter Try.func18, Try.ntmps18
  go_wp2_with (first | ((with_reducible refine gate_callee (f := 10) rfl ?_); refine goesL_ (some 7) rfl rfl Try.func10 (by kernel_rfl) rfl #[.pointer (some ⟨g, 0, none⟩), .int .i64 a1] rfl (by (try simp only [List.map_toArray, List.map_cons, List.map_nil]); first | done | rfl | (simp only [List.length_drop, List.length_take]; rfl)) ?_; (with_reducible refine (spec_l01Src_n.calls g s0_0 s0_1 s0_2 s0_3 a1 t117 t118 t119 t120 w0 _ ?side1 ?side2 A3.out).mono ?_); (case side1 => repeat (first | (with_reducible first | exact HI0.out | apply IsS42.alloc | apply IsS42.drewN | apply IsS42.drew | apply IsS42.set_1 | apply IsS42.set_2 | apply IsS42.set_3) | exact HI0.out)); (case side2 => repeat (first | (with_reducible first | exact HB.out | apply below_alloc | apply pw_below_drewN | apply below_drew1 | refine below_set ?_ (IsS42.ge HI0.out)) | exact HB.out)); rintro e w4 ⟨rfl, hi, hb, hk⟩; refine ⟨_, rfl, ?_⟩; have n0_ := Aside0.mk (KeepBut.trans (by repeat (first | (with_reducible first | exact HK.out | apply KeepBut.set_ | apply keep_drewN | apply keep_drew | apply keep_alloc) | exact HK.out)) hk (.inl rfl)); have n1_ := Aside0.mk (hb); have n2_ := Aside0.mk (hi); clear HK; clear HB; clear HI0; have HK := n0_; have HB := n1_; have HI0 := n2_; clear n0_ n1_ n2_; (try clear hb); (try clear hb2); (try clear hk); (try clear hi)))
  go_ret
  exact ⟨by first | rfl | (simp [errW_none, errW_some] <;> rfl) | (simp [*, errW_none, errW_some] <;> rfl), by repeat (first | (with_reducible first | exact HI0.out | apply IsS42.alloc | apply IsS42.drewN | apply IsS42.drew | apply IsS42.set_1 | apply IsS42.set_2 | apply IsS42.set_3) | exact HI0.out), by repeat (first | (with_reducible first | exact HB.out | apply below_alloc | apply pw_below_drewN | apply below_drew1 | refine below_set ?_ (IsS42.ge HI0.out)) | exact HB.out), by repeat (first | (with_reducible first | exact HK.out | apply KeepBut.set_ | apply keep_drewN | apply keep_drew | apply keep_alloc) | exact HK.out)⟩

end Go.Proofs.Ytopeblicjgbfcaa.QFnSpread
