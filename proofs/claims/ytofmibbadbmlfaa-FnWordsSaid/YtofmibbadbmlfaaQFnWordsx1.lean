-- Written for this claim by this session's own driver (wip/xprint.py).
import Derived.Test.YtofmibbadbmlfaaQFnWordsx0
namespace Go.Proofs.Ytofmibbadbmlfaa.QFnWords
open Go.RowKit Go.Proofs.YtofmibbadbmlfaaW.PrintWords Go.Proofs.YtofmibbadbmlfaaW.PrintLast Go.Proofs.YtofmibbadbmlfaaW.PrintMore
attribute [local go_sem] max2_int min2_int max_two min_two max_three min_three max_four min_four   -- for this text's walks alone
set_option linter.unusedVariables false
set_option linter.unusedSimpArgs false

/-- A state of type 87 at block g of W; what its slices lead to came in by w0. -/
def IsS87 (w0 W : World) (g : Nat) (f0 : List Int) (f1 : Int) (f2 : Int) (f3 : Int) : Prop := ∃ A0 c0, W.heap[g]? = some (.cells #[.slice A0 f0.length c0, .int .i64 f1, .int .u64 f2, .int .i64 f3] 87 (0, 0)) ∧ w0.heap.size ≤ g ∧ Kd.C (Kd.int .u8) w0 A0 f0.length f0
theorem IsS87.grown {w0 W : World} {g : Nat} {f0 : List Int} {f1 : Int} {f2 : Int} {f3 : Int} {W1 : World} {row : Option Nat} (h : IsS87 w0 W g f0 f1 f2 f3) (hw : W.grownBy W1 row) (hne : some g ≠ row) : IsS87 w0 W1 g f0 f1 f2 f3 := by
  obtain ⟨A0, c0, hb, hg, hr0⟩ := h
  exact ⟨A0, c0, blk_grown hb hw hne, hg, hr0⟩
theorem IsS87.own_neN {w0 W : World} {g : Nat} {f0 : List Int} {f1 : Int} {f2 : Int} {f3 : Int} {α : Type} {d : Kd α} {e : Nat} {base : Nat} {ok : Nat → Prop} {v : Value} {xs : List α} (h : IsS87 w0 W g f0 f1 f2 f3) (ho : Kd.N d e W base ok v xs) (ht : e ≠ 87) : some g ≠ v.ownBlock := by
  obtain ⟨A0, c0, hb, hg, hr0⟩ := h
  exact Kd.N_ne ho hb ht
theorem IsS87.fresh {w0 W : World} {g : Nat} {f0 : List Int} {f1 : Int} {f2 : Int} {f3 : Int} (h : IsS87 w0 W g f0 f1 f2 f3) : ∀ k, W.heap.size ≤ k → k ≠ g := by
  obtain ⟨A0, c0, hb, hg, hr0⟩ := h
  exact Kd.freshB hb
theorem IsS87.kept {w0 W : World} {g : Nat} {f0 : List Int} {f1 : Int} {f2 : Int} {f3 : Int} {W1 : World} {S : Nat → Prop} (h : IsS87 w0 W g f0 f1 f2 f3) (hk : Kept W W1 S) (hne : ¬ S g) : IsS87 w0 W1 g f0 f1 f2 f3 := by
  obtain ⟨A0, c0, hb, hg, hr0⟩ := h
  exact ⟨A0, c0, blk_kept hb hk hne, hg, hr0⟩
theorem IsS87.below {w0 W : World} {g : Nat} {f0 : List Int} {f1 : Int} {f2 : Int} {f3 : Int} {W1 : World} (h : IsS87 w0 W g f0 f1 f2 f3) (hw : Below W.heap.size W W1) : IsS87 w0 W1 g f0 f1 f2 f3 := h.grown (grown_of_below hw none) (by simp)
theorem IsS87.alloc {w0 W : World} {g : Nat} {f0 : List Int} {f1 : Int} {f2 : Int} {f3 : Int} (h : IsS87 w0 W g f0 f1 f2 f3) (o : Obj) : IsS87 w0 (W.alloc o) g f0 f1 f2 f3 := h.below (below_alloc (Below.refl _ _) o)
theorem IsS87.drewN {w0 W : World} {g : Nat} {f0 : List Int} {f1 : Int} {f2 : Int} {f3 : Int} (h : IsS87 w0 W g f0 f1 f2 f3) (m : Nat) : IsS87 w0 (W.drewN m) g f0 f1 f2 f3 := h
theorem IsS87.drew {w0 W : World} {g : Nat} {f0 : List Int} {f1 : Int} {f2 : Int} {f3 : Int} (h : IsS87 w0 W g f0 f1 f2 f3) : IsS87 w0 W.drew g f0 f1 f2 f3 := h
theorem IsS87.at_ {w0 W : World} {g : Nat} {f0 : List Int} {f1 : Int} {f2 : Int} {f3 : Int} {w' : World} {m : Nat} (hq : W.drewN m = w') (h : IsS87 w0 W g f0 f1 f2 f3) : IsS87 w0 w' g f0 f1 f2 f3 := by subst hq; exact IsS87.drewN h m
theorem IsS87.apart {w0 W : World} {g : Nat} {f0 : List Int} {f1 : Int} {f2 : Int} {f3 : Int} {α : Type} {d : Kd α} {e : Nat} {base : Nat} {ok : Nat → Prop} {v : Value} {xs : List α} (h : IsS87 w0 W g f0 f1 f2 f3) (ho : d.R e W base ok v xs) (ht : ∀ q, q ∈ e :: d.E → q ≠ 87) : d.R e W base (fun k => ok k ∧ k ≠ g) v xs := by
  obtain ⟨A0, c0, hb, hg, hr0⟩ := h
  exact Kd.R_types ho hb ht
theorem IsS87.own_ne {w0 W : World} {g : Nat} {f0 : List Int} {f1 : Int} {f2 : Int} {f3 : Int} {α : Type} {d : Kd α} {e : Nat} {base : Nat} {ok : Nat → Prop} {v : Value} {xs : List α} (h : IsS87 w0 W g f0 f1 f2 f3) (ho : d.R e W base ok v xs) (ht : e ≠ 87) : some g ≠ v.ownBlock := by
  obtain ⟨A0, c0, hb, hg, hr0⟩ := h
  exact Kd.R_ne ho hb ht
theorem IsS87.apartQ {w0 W : World} {g : Nat} {f0 : List Int} {f1 : Int} {f2 : Int} {f3 : Int} {α : Type} {d : Kd α} {e : Nat} {base : Nat} {ok : Nat → Prop} {v : Value} {xs : List α} (h : IsS87 w0 W g f0 f1 f2 f3) (ho : d.Q e W base ok v xs) (ht : ∀ q, q ∈ e :: d.E → q ≠ 87) : d.Q e W base (fun k => ok k ∧ k ≠ g) v xs := by
  obtain ⟨A0, c0, hb, hg, hr0⟩ := h
  exact Kd.Q_types ho hb ht
theorem IsS87.own_neQ {w0 W : World} {g : Nat} {f0 : List Int} {f1 : Int} {f2 : Int} {f3 : Int} {α : Type} {d : Kd α} {e : Nat} {base : Nat} {ok : Nat → Prop} {v : Value} {xs : List α} (h : IsS87 w0 W g f0 f1 f2 f3) (ho : d.Q e W base ok v xs) (ht : e ≠ 87) : some g ≠ v.ownBlock := by
  obtain ⟨A0, c0, hb, hg, hr0⟩ := h
  exact Kd.Q_ne ho hb ht
theorem IsS87.apartS {w0 W : World} {g : Nat} {f0 : List Int} {f1 : Int} {f2 : Int} {f3 : Int} {α : Type} {d : Kd α} {e : Nat} {base : Nat} {ok : Nat → Prop} {v : Value} {xs : List α} (h : IsS87 w0 W g f0 f1 f2 f3) (ho : d.S e W base ok v xs) (ht : ∀ q, q ∈ e :: d.E → q ≠ 87) : d.S e W base (fun k => ok k ∧ k ≠ g) v xs := by
  obtain ⟨A0, c0, hb, hg, hr0⟩ := h
  exact Kd.S_types ho hb ht
theorem IsS87.own_neS {w0 W : World} {g : Nat} {f0 : List Int} {f1 : Int} {f2 : Int} {f3 : Int} {α : Type} {d : Kd α} {e : Nat} {base : Nat} {ok : Nat → Prop} {v : Value} {xs : List α} (h : IsS87 w0 W g f0 f1 f2 f3) (ho : d.S e W base ok v xs) (ht : e ≠ 87) : some g ≠ v.ownBlock := by
  obtain ⟨A0, c0, hb, hg, hr0⟩ := h
  exact Kd.S_ne ho hb ht
theorem IsS87.lt {w0 W : World} {g : Nat} {f0 : List Int} {f1 : Int} {f2 : Int} {f3 : Int} (h : IsS87 w0 W g f0 f1 f2 f3) : g < W.heap.size := by
  obtain ⟨A0, c0, hb, hg, hr0⟩ := h
  exact blk_lt hb
theorem IsS87.ge {w0 W : World} {g : Nat} {f0 : List Int} {f1 : Int} {f2 : Int} {f3 : Int} (h : IsS87 w0 W g f0 f1 f2 f3) : w0.heap.size ≤ g := by
  obtain ⟨A0, c0, hb, hg, hr0⟩ := h
  exact hg
theorem IsS87.ne_blk {w0 W : World} {g : Nat} {f0 : List Int} {f1 : Int} {f2 : Int} {f3 : Int} {a : Nat} {cs : Array Value} {t : TypeId} {fr : Nat × Nat} (h : IsS87 w0 W g f0 f1 f2 f3) (hb2 : W.heap[a]? = some (.cells cs t fr)) (ht : t ≠ 87) : g ≠ a := by
  obtain ⟨A0, c0, hb, hg, hr0⟩ := h
  rintro rfl
  rw [hb] at hb2
  injection hb2 with hb2
  injection hb2 with _ ht2
  exact ht ht2.symm
theorem IsS87.far {w0 W : World} {g : Nat} {f0 : List Int} {f1 : Int} {f2 : Int} {f3 : Int} {p : Addr} (h : IsS87 w0 W g f0 f1 f2 f3) (hne : g ≠ p.block) (u : Value) : IsS87 w0 (W.setCell p u) g f0 f1 f2 f3 := by
  obtain ⟨A0, c0, hb, hg, hr0⟩ := h
  exact ⟨A0, c0, blk_far hb hne u, hg, hr0⟩
theorem cellS87_0 {W : World} {g : Nat} {A0 : Option Addr} {c0 : Nat} {f0 : List Int} {f1 : Int} {f2 : Int} {f3 : Int} (h : W.heap[g]? = some (.cells #[.slice A0 f0.length c0, .int .i64 f1, .int .u64 f2, .int .i64 f3] 87 (0, 0))) : W.cell? ⟨g, 0, none⟩ = some (.slice A0 f0.length c0) := (blk_cell h 0).trans rfl
theorem cellS87_1 {W : World} {g : Nat} {A0 : Option Addr} {c0 : Nat} {f0 : List Int} {f1 : Int} {f2 : Int} {f3 : Int} (h : W.heap[g]? = some (.cells #[.slice A0 f0.length c0, .int .i64 f1, .int .u64 f2, .int .i64 f3] 87 (0, 0))) : W.cell? ⟨g, 1, none⟩ = some (.int .i64 f1) := (blk_cell h 1).trans rfl
theorem IsS87.set_1 {w0 W : World} {g : Nat} {f0 : List Int} {f1 : Int} {f2 : Int} {f3 : Int} (h : IsS87 w0 W g f0 f1 f2 f3) (x : Int) : IsS87 w0 (W.setCell ⟨g, 1, none⟩ (.int .i64 x)) g f0 x f2 f3 := by
  obtain ⟨A0, c0, hb, hg, hr0⟩ := h
  exact ⟨A0, c0, by simpa using blk_set hb 1 (.int .i64 x), hg, hr0⟩
theorem cellS87_2 {W : World} {g : Nat} {A0 : Option Addr} {c0 : Nat} {f0 : List Int} {f1 : Int} {f2 : Int} {f3 : Int} (h : W.heap[g]? = some (.cells #[.slice A0 f0.length c0, .int .i64 f1, .int .u64 f2, .int .i64 f3] 87 (0, 0))) : W.cell? ⟨g, 2, none⟩ = some (.int .u64 f2) := (blk_cell h 2).trans rfl
theorem IsS87.set_2 {w0 W : World} {g : Nat} {f0 : List Int} {f1 : Int} {f2 : Int} {f3 : Int} (h : IsS87 w0 W g f0 f1 f2 f3) (x : Int) : IsS87 w0 (W.setCell ⟨g, 2, none⟩ (.int .u64 x)) g f0 f1 x f3 := by
  obtain ⟨A0, c0, hb, hg, hr0⟩ := h
  exact ⟨A0, c0, by simpa using blk_set hb 2 (.int .u64 x), hg, hr0⟩
theorem cellS87_3 {W : World} {g : Nat} {A0 : Option Addr} {c0 : Nat} {f0 : List Int} {f1 : Int} {f2 : Int} {f3 : Int} (h : W.heap[g]? = some (.cells #[.slice A0 f0.length c0, .int .i64 f1, .int .u64 f2, .int .i64 f3] 87 (0, 0))) : W.cell? ⟨g, 3, none⟩ = some (.int .i64 f3) := (blk_cell h 3).trans rfl
theorem IsS87.set_3 {w0 W : World} {g : Nat} {f0 : List Int} {f1 : Int} {f2 : Int} {f3 : Int} (h : IsS87 w0 W g f0 f1 f2 f3) (x : Int) : IsS87 w0 (W.setCell ⟨g, 3, none⟩ (.int .i64 x)) g f0 f1 f2 x := by
  obtain ⟨A0, c0, hb, hg, hr0⟩ := h
  exact ⟨A0, c0, by simpa using blk_set hb 3 (.int .i64 x), hg, hr0⟩
theorem IsS87.new (w0 W : World) (A0 : Option Addr) (c0 : Nat) (f0 : List Int) (f1 : Int) (f2 : Int) (f3 : Int) (hB : Below w0.heap.size w0 W) (hr0 : Kd.C (Kd.int .u8) w0 A0 f0.length f0) : IsS87 w0 (W.alloc (.cells #[.slice A0 f0.length c0, .int .i64 f1, .int .u64 f2, .int .i64 f3] 87)) W.heap.size f0 f1 f2 f3 := ⟨A0, c0, by simpa using heap_alloc_new W _, hB.size, hr0⟩

/-! ### spec_l01Source: function 75 -/
def srcStep (m b : Int) : Int := IntKind.u64.wrap (Go.bits .xor .u64 m (IntKind.u64.wrap b) * 1099511628211)
def srcSeed (l : List Int) : Nat → Int
  | 0 => 88172645463325252
  | n + 1 => srcStep (srcSeed l n) (rd l n)
def spec_l01Source.f (l0 : List Int) : Option (List Int × Int × Int × Int) := some (l0, 0, srcSeed l0 (min l0.length 64), min (l0.length : Int) 12)
set_option maxHeartbeats 4000000 in
set_option maxRecDepth 100000 in
theorem spec_l01Source.calls (A0 : Option Addr) (c0 : Nat) (l0 : List Int) (r1 : List Int) (r2 : Int) (r3 : Int) (r4 : Int) (w0 w : World) (hB : Below w0.heap.size w0 w) (hr0 : Kd.C (Kd.int .u8) w0 A0 l0.length l0) (hc0 : l0.length ≤ c0) (h : spec_l01Source.f l0 = some (r1, r2, r3, r4)) :
    Calls Try.prog 75 #[.slice A0 l0.length c0] w fun e w' => ∃ g_ : Nat, e = .returned (.pointer (some ⟨g_, 0, none⟩)) ∧ IsS87 w0 w' g_ r1 r2 r3 r4 ∧ Below w0.heap.size w0 w' ∧ Below w.heap.size w w' := by
  unfold spec_l01Source.f at h
  simp only [Option.some.injEq, Prod.mk.injEq] at h
  obtain ⟨rfl, rfl, rfl, rfl⟩ := h
  have HR := Aside0.mk hr0
  have HB0 := Aside0.mk hB
  have hmx := hr0.2.1
  clear hr0 hB
  have hge : Aside0 (w0.heap.size ≤ w.heap.size) := ⟨HB0.out.size⟩
  go_enter Try.func75, Try.ntmps75
  go_wp2
  go_loopg [4] l0.length (fun gq v4 wr => ∃ j : Nat, v4 = .int .i64 j ∧ Aside0 (j ≤ l0.length) ∧ Aside0 (j ≤ 64) ∧ Aside0 (l0.length - j ≤ gq) ∧ Aside0 (wr.heap[w.heap.size]? = some (.cells #[.slice A0 l0.length c0, .int .i64 0, .int .u64 (srcSeed l0 j), .int .i64 0] 87 (0, 0))) ∧ Aside0 (Below w.heap.size w wr))
  case atStart => exact ⟨0, rfl, ⟨Nat.zero_le _⟩, ⟨Nat.zero_le _⟩, ⟨by omega⟩, ⟨blk_new _ _⟩, ⟨below_alloc (Below.refl _ _) _⟩⟩
  case round =>
    obtain ⟨j, rfl, hj, hj64, hg, BK, HB⟩ := hrel
    by_cases c1 : j < l0.length
    · by_cases c2 : j < 64
      · have c1b : decide (j < l0.length) = true := decide_eq_true c1
        have c1c : ((j : Int) < (l0.length : Int)) := by omega
        have c2b : decide (j < 64) = true := decide_eq_true c2
        have c2c : decide ((j : Int) < 64) = true := decide_eq_true (by omega)
        obtain ⟨ad, e_, hx⟩ := Kd.at_int HR.out (j : Int) (by omega) (by omega)
        cases e_
        replace hx := pw_cell_below HB.out (pw_cell_below HB0.out hx)
        rw [Int.toNat_natCast] at hx
        have hm : wr.cell? ⟨w.heap.size, 2, none⟩ = some (.int .u64 (srcSeed l0 j)) := (blk_cell BK.out 2).trans rfl
        have hf : wr.frozen? ⟨w.heap.size, 2, none⟩ = false := blk_frozen BK.out 2
        obtain ⟨m, hmm⟩ : ∃ m, srcSeed l0 j = m := ⟨_, rfl⟩
        obtain ⟨x, hxx⟩ : ∃ x, rd l0 j = x := ⟨_, rfl⟩
        have HM := Aside0.mk hmm
        have HX := Aside0.mk hxx
        rw [hmm] at hm
        rw [hxx] at hx
        have hj1 : ((j : Int) + 1) = ((j + 1 : Nat) : Int) := by omega
        clear hmm hxx
        have HJ1 := Aside0.mk hj1
        clear hj1
        go_wp2
        go_region
        go_wp2
        go_roundg (l0.length - (j + 1))
        case measure => have := hg.out; omega
        case rel =>
          refine ⟨j + 1, by first | rfl | (rw [← HJ1.out]), ⟨c1⟩, ⟨by omega⟩, ⟨by omega⟩, ⟨?_⟩, ⟨?_⟩⟩
          · rw [show srcSeed l0 (j + 1) = srcStep m x from by simp only [srcSeed]; rw [HM.out, HX.out]]
            have hs := blk_set BK.out 2 (.int .u64 (srcStep m x))
            exact blk_drew (by simpa [srcStep] using hs)
          · repeat (first | (with_reducible first | exact HB.out | apply below_drew1) | refine below_set ?_ (Nat.le_refl _))
      · have c1b : decide (j < l0.length) = true := decide_eq_true c1
        have c2b : decide (j < 64) = false := decide_eq_false c2
        have c2c : decide ((j : Int) < 64) = false := decide_eq_false (by omega)
        have hjj : j = min l0.length 64 := by have := hj64.out; omega
        have HJ := Aside0.mk hjj
        clear hjj
        have c12 : decide (12 < l0.length) = true := decide_eq_true (by have := hj64.out; omega)
        have c12b : decide (12 < (l0.length : Int)) = true := decide_eq_true (by have := hj64.out; omega)
        have c12c := Aside0.mk (show 12 ≤ l0.length by have := hj64.out; omega)
        have hm : wr.cell? ⟨w.heap.size, 3, none⟩ = some (.int .i64 0) := (blk_cell BK.out 3).trans rfl
        have hf : wr.frozen? ⟨w.heap.size, 3, none⟩ = false := blk_frozen BK.out 3
        have h1 : (wr.setCell ⟨w.heap.size, 3, none⟩ (.int .i64 l0.length)).cell? ⟨w.heap.size, 3, none⟩ = some (.int .i64 l0.length) := World.cell?_setCell_same _ _ _ hm
        go_wp2
        go_ret
        refine ⟨w.heap.size, rfl, ⟨A0, c0, ?_, hge.out, HR.out⟩, ?_, ?_⟩
        · rw [← HJ.out, show min (l0.length : Int) 12 = 12 from by have := c12c.out; omega]
          have hs := blk_set (blk_set BK.out 3 (.int .i64 l0.length)) 3 (.int .i64 12)
          simpa using hs
        · repeat (first | (with_reducible first | exact HB0.out.trans (HB.out.mono hge.out)) | refine below_set ?_ hge.out)
        · repeat (first | (with_reducible first | exact HB.out) | refine below_set ?_ (Nat.le_refl _))
    · have c1b : decide (j < l0.length) = false := decide_eq_false c1
      have c1c : ¬ ((j : Int) < (l0.length : Int)) := by omega
      have hjj : j = min l0.length 64 := by have := hj.out; have := hj64.out; omega
      have HJ := Aside0.mk hjj
      clear hjj
      have hm : wr.cell? ⟨w.heap.size, 3, none⟩ = some (.int .i64 0) := (blk_cell BK.out 3).trans rfl
      have hf : wr.frozen? ⟨w.heap.size, 3, none⟩ = false := blk_frozen BK.out 3
      have h1 : (wr.setCell ⟨w.heap.size, 3, none⟩ (.int .i64 l0.length)).cell? ⟨w.heap.size, 3, none⟩ = some (.int .i64 l0.length) := World.cell?_setCell_same _ _ _ hm
      by_cases c3 : 12 < l0.length
      · have c12 : decide (12 < l0.length) = true := decide_eq_true c3
        have c12b : decide (12 < (l0.length : Int)) = true := decide_eq_true (by omega)
        have c12c := Aside0.mk (show 12 ≤ l0.length by omega)
        go_wp2
        go_ret
        refine ⟨w.heap.size, rfl, ⟨A0, c0, ?_, hge.out, HR.out⟩, ?_, ?_⟩
        · rw [← HJ.out, show min (l0.length : Int) 12 = 12 from by have := c12c.out; omega]
          have hs := blk_set (blk_set BK.out 3 (.int .i64 l0.length)) 3 (.int .i64 12)
          simpa using hs
        · repeat (first | (with_reducible first | exact HB0.out.trans (HB.out.mono hge.out)) | refine below_set ?_ hge.out)
        · repeat (first | (with_reducible first | exact HB.out) | refine below_set ?_ (Nat.le_refl _))
      · have c12 : decide (12 < l0.length) = false := decide_eq_false c3
        have c12b : decide (12 < (l0.length : Int)) = false := decide_eq_false (by omega)
        have c12c := Aside0.mk (show l0.length ≤ 12 by omega)
        go_wp2
        go_ret
        refine ⟨w.heap.size, rfl, ⟨A0, c0, ?_, hge.out, HR.out⟩, ?_, ?_⟩
        · rw [← HJ.out, show min (l0.length : Int) 12 = (l0.length : Int) from by have := c12c.out; omega]
          have hs := blk_set BK.out 3 (.int .i64 l0.length)
          simpa using hs
        · repeat (first | (with_reducible first | exact HB0.out.trans (HB.out.mono hge.out)) | refine below_set ?_ hge.out)
        · repeat (first | (with_reducible first | exact HB.out) | refine below_set ?_ (Nat.le_refl _))

/-! ### spec_l01Src_n: function 78 -/
def srcShift1 (m : Int) : Int := Go.bits .xor .u64 m (IntKind.u64.wrap (m * 8192))
def srcShift2 (m : Int) : Int := Go.bits .xor .u64 m (m / 128)
def srcShift3 (m : Int) : Int := Go.bits .xor .u64 m (IntKind.u64.wrap (m * 131072))
def srcMix (m : Int) : Int := srcShift3 (srcShift2 (srcShift1 m))
def srcOut (v m a1 : Int) : Int := wrap64 (Int.tmod (IntKind.u64.wrap (v + m / 1048576)) (IntKind.u64.wrap a1))
def spec_l01Src_n.f (s0_0 : List Int) (s0_1 : Int) (s0_2 : Int) (s0_3 : Int) (a1 : Int) : Option (Int × Int × Int × Int) :=
  if a1 ≤ 1 then some (0, s0_1, s0_2, s0_3) else
  if IntKind.u64.wrap a1 = 0 then none else
  if s0_1 < (s0_0.length : Int) then (if 0 ≤ s0_1 then some (srcOut (IntKind.u64.wrap (rd s0_0 s0_1)) (srcMix s0_2) a1, wrap64 (s0_1 + 1), srcMix s0_2, s0_3) else none)
  else some (srcOut 0 (srcMix s0_2) a1, s0_1, srcMix s0_2, s0_3)
set_option maxHeartbeats 4000000 in
set_option maxRecDepth 100000 in
theorem spec_l01Src_n.calls (g : Nat) (s0_0 : List Int) (s0_1 : Int) (s0_2 : Int) (s0_3 : Int) (a1 : Int) (r1 : Int) (r2 : Int) (r3 : Int) (r4 : Int) (w0 w : World) (hI : IsS87 w0 w g s0_0 s0_1 s0_2 s0_3) (hB : Below w0.heap.size w0 w) (h : spec_l01Src_n.f s0_0 s0_1 s0_2 s0_3 a1 = some (r1, r2, r3, r4)) :
    Calls Try.prog 78 #[.pointer (some ⟨g, 0, none⟩), .int .i64 a1] w fun e w' => e = .returned (.int .i64 r1) ∧ IsS87 w0 w' g s0_0 r2 r3 r4 ∧ Below w0.heap.size w0 w' ∧ KeepBut w w' g none := by
  unfold spec_l01Src_n.f at h
  by_cases c1 : a1 ≤ 1
  · rw [if_pos c1] at h
    have c1b : decide (a1 ≤ 1) = true := decide_eq_true c1
    simp only [Option.some.injEq, Prod.mk.injEq] at h
    obtain ⟨rfl, rfl, rfl, rfl⟩ := h
    clear c1
    have HI := Aside0.mk hI
    clear hI
    go_enter Try.func78, Try.ntmps78
    go_wp2
    go_ret
    exact ⟨rfl, HI.out, hB, KeepBut.refl _ _ _⟩
  · rw [if_neg c1] at h
    have c1b : decide (a1 ≤ 1) = false := decide_eq_false c1
    by_cases c9 : IntKind.u64.wrap a1 = 0
    · rw [if_pos c9] at h
      exact absurd h (by simp)
    · rw [if_neg c9] at h
      have c9b : (IntKind.u64.wrap a1 == 0) = false := beq_eq_false_iff_ne.mpr c9
      have HI := Aside0.mk hI
      have HB := Aside0.mk hB
      obtain ⟨A0, c0, hb, hg, hr0⟩ := hI
      have HR := Aside0.mk hr0
      have hlt := blk_lt hb
      have f0 := cellS87_0 hb
      have f1 := cellS87_1 hb
      have f2 := cellS87_2 hb
      have fz1 : w.frozen? ⟨g, 1, none⟩ = false := blk_frozen hb 1
      have fz2 : w.frozen? ⟨g, 2, none⟩ = false := blk_frozen hb 2
      have hS : srcMix s0_2 = srcShift3 (srcShift2 (srcShift1 s0_2)) := rfl
      obtain ⟨m1, hm1⟩ : ∃ m, srcShift1 s0_2 = m := ⟨_, rfl⟩
      rw [hm1] at hS
      obtain ⟨m2, hm2⟩ : ∃ m, srcShift2 m1 = m := ⟨_, rfl⟩
      rw [hm2] at hS
      obtain ⟨m3, hm3⟩ : ∃ m, srcShift3 m2 = m := ⟨_, rfl⟩
      rw [hm3] at hS
      rw [hS] at h
      clear hS
      unfold srcShift1 at hm1
      unfold srcShift2 at hm2
      unfold srcShift3 at hm3
      by_cases c2 : s0_1 < (s0_0.length : Int)
      · rw [if_pos c2] at h
        by_cases c3 : 0 ≤ s0_1
        · rw [if_pos c3] at h
          have c2b : decide (s0_1 < (s0_0.length : Int)) = true := decide_eq_true c2
          simp only [Option.some.injEq, Prod.mk.injEq] at h
          obtain ⟨rfl, rfl, rfl, rfl⟩ := h
          obtain ⟨ad, e_, hx⟩ := Kd.at_int HR.out s0_1 c3 c2
          cases e_
          replace hx := pw_cell_below HB.out hx
          have c3b := eq_true c3
          have c2c := eq_true c2
          obtain ⟨x, hxx⟩ : ∃ x, rd s0_0 s0_1 = x := ⟨_, rfl⟩
          rw [hxx] at hx ⊢
          clear hxx
          have HX := Aside0.mk (Eq.refl (srcOut (IntKind.u64.wrap x) m3 a1))
          have e0 : (w.setCell ⟨g, 1, none⟩ (.int .i64 (wrap64 (s0_1 + 1)))).cell? ⟨g, 2, none⟩ = some (.int .u64 s0_2) := (World.cell?_setCell_other w _ _ _ (by simp)).trans f2
          have e1 : ((w.setCell ⟨g, 1, none⟩ (.int .i64 (wrap64 (s0_1 + 1)))).setCell ⟨g, 2, none⟩ (.int .u64 m1)).cell? ⟨g, 2, none⟩ = some (.int .u64 m1) := World.cell?_setCell_same _ _ _ e0
          have e2 : (((w.setCell ⟨g, 1, none⟩ (.int .i64 (wrap64 (s0_1 + 1)))).setCell ⟨g, 2, none⟩ (.int .u64 m1)).setCell ⟨g, 2, none⟩ (.int .u64 m2)).cell? ⟨g, 2, none⟩ = some (.int .u64 m2) := World.cell?_setCell_same _ _ _ e1
          have e3 : ((((w.setCell ⟨g, 1, none⟩ (.int .i64 (wrap64 (s0_1 + 1)))).setCell ⟨g, 2, none⟩ (.int .u64 m1)).setCell ⟨g, 2, none⟩ (.int .u64 m2)).setCell ⟨g, 2, none⟩ (.int .u64 m3)).cell? ⟨g, 2, none⟩ = some (.int .u64 m3) := World.cell?_setCell_same _ _ _ e2
          clear hB hb hr0 c1 c2 c3
          go_enter Try.func78, Try.ntmps78
          go_wp2
          go_region
          go_wp2
          go_region
          go_wp2
          go_region
          go_wp2
          go_region
          go_wp2
          go_region
          go_wp2
          go_ret
          exact ⟨by first | rfl | (unfold srcOut; rfl) | (unfold srcOut; simp), by repeat (first | (with_reducible first | exact HI.out | apply IsS87.drew | apply IsS87.set_1 | apply IsS87.set_2) | exact HI.out), by repeat (first | (with_reducible first | exact HB.out | apply below_drew1 | refine below_set ?_ (IsS87.ge HI.out)) | exact HB.out), by repeat (first | (with_reducible first | exact KeepBut.refl _ _ _ | apply KeepBut.set_ | apply keep_drew) | exact KeepBut.refl _ _ _)⟩
        · rw [if_neg c3] at h
          exact absurd h (by simp)
      · rw [if_neg c2] at h
        have c2b : decide (s0_1 < (s0_0.length : Int)) = false := decide_eq_false c2
        simp only [Option.some.injEq, Prod.mk.injEq] at h
        obtain ⟨rfl, rfl, rfl, rfl⟩ := h
        have e1 : (w.setCell ⟨g, 2, none⟩ (.int .u64 m1)).cell? ⟨g, 2, none⟩ = some (.int .u64 m1) := World.cell?_setCell_same _ _ _ f2
        have e2 : ((w.setCell ⟨g, 2, none⟩ (.int .u64 m1)).setCell ⟨g, 2, none⟩ (.int .u64 m2)).cell? ⟨g, 2, none⟩ = some (.int .u64 m2) := World.cell?_setCell_same _ _ _ e1
        have e3 : (((w.setCell ⟨g, 2, none⟩ (.int .u64 m1)).setCell ⟨g, 2, none⟩ (.int .u64 m2)).setCell ⟨g, 2, none⟩ (.int .u64 m3)).cell? ⟨g, 2, none⟩ = some (.int .u64 m3) := World.cell?_setCell_same _ _ _ e2
        clear hB hb hr0 c2 c1
        go_enter Try.func78, Try.ntmps78
        go_wp2
        go_region
        go_wp2
        go_region
        go_wp2
        go_region
        go_wp2
        go_region
        go_wp2
        go_ret
        exact ⟨by first | rfl | (unfold srcOut; rfl) | (unfold srcOut; simp), by repeat (first | (with_reducible first | exact HI.out | apply IsS87.drew | apply IsS87.set_1 | apply IsS87.set_2) | exact HI.out), by repeat (first | (with_reducible first | exact HB.out | apply below_drew1 | refine below_set ?_ (IsS87.ge HI.out)) | exact HB.out), by repeat (first | (with_reducible first | exact KeepBut.refl _ _ _ | apply KeepBut.set_ | apply keep_drew) | exact KeepBut.refl _ _ _)⟩

/-! ### spec_l01Src_one: function 79 -/
def spec_l01Src_one.f (s0_0 : List Int) (s0_1 : Int) (s0_2 : Int) (s0_3 : Int) (a1 : Int) : Option (Bool × Int × Int × Int) := (spec_l01Src_n.f s0_0 s0_1 s0_2 s0_3 a1).bind fun bt101 => (some ((bt101.1 == 0), bt101.2.1, bt101.2.2.1, bt101.2.2.2))
set_option maxHeartbeats 8000000 in
set_option maxRecDepth 100000 in
theorem spec_l01Src_one.calls (g : Nat) (s0_0 : List Int) (s0_1 : Int) (s0_2 : Int) (s0_3 : Int) (a1 : Int) (r1 : Bool) (r2 : Int) (r3 : Int) (r4 : Int) (w0 w : World) (hI : IsS87 w0 w g s0_0 s0_1 s0_2 s0_3) (hB : Below w0.heap.size w0 w) (h : spec_l01Src_one.f s0_0 s0_1 s0_2 s0_3 a1 = some (r1, r2, r3, r4)) :
    Calls Try.prog 79 #[.pointer (some ⟨g, 0, none⟩), .int .i64 a1] w fun e w' => e = .returned (.bool r1) ∧ IsS87 w0 w' g s0_0 r2 r3 r4 ∧ Below w0.heap.size w0 w' ∧ KeepBut w w' g none := by
  have HI0 := Aside0.mk hI
  have HK := Aside0.mk (KeepBut.refl w g none)
  have HL := Aside0.mk hB.size
  clear hI
  have HW0 := Aside0.mk hB.size
  have HB := Aside0.mk hB
  clear hB
  have H : ((spec_l01Src_n.f s0_0 s0_1 s0_2 s0_3 a1).bind fun bt101 => (some ((bt101.1 == 0), bt101.2.1, bt101.2.2.1, bt101.2.2.2))) = some (r1, r2, r3, r4) := h
  clear h
  replace H := Option.bind_eq_some_iff.mp H
  obtain ⟨⟨t101, t102, t103, t104⟩, A30, H⟩ := H
  replace H : (some ((t101 == 0), t102, t103, t104)) = some (r1, r2, r3, r4) := H
  have A3 := Aside0.mk A30
  clear A30
  simp only [Option.some.injEq, Prod.mk.injEq] at H
  obtain ⟨rfl, rfl, rfl, rfl⟩ := H
  go_enter Try.func79, Try.ntmps79
  go_wp2_with (first | ((with_reducible refine gate_callee (f := 78) rfl ?_); refine goesL_ (some 7) rfl rfl Try.func78 (by kernel_rfl) rfl #[.pointer (some ⟨g, 0, none⟩), .int .i64 a1] rfl (by (try simp only [List.map_toArray, List.map_cons, List.map_nil]); first | done | rfl | (simp only [List.length_drop, List.length_take]; rfl)) ?_; (with_reducible refine (spec_l01Src_n.calls g s0_0 s0_1 s0_2 s0_3 a1 t101 t102 t103 t104 w0 _ ?side1 ?side2 A3.out).mono ?_); (case side1 => repeat (first | (with_reducible first | exact HI0.out | apply IsS87.alloc | apply IsS87.drewN | apply IsS87.drew | apply IsS87.set_1 | apply IsS87.set_2 | apply IsS87.set_3) | exact HI0.out)); (case side2 => repeat (first | (with_reducible first | exact HB.out | apply below_alloc | apply pw_below_drewN | apply below_drew1 | refine below_set ?_ (IsS87.ge HI0.out)) | exact HB.out)); rintro e w4 ⟨rfl, hi, hb, hk⟩; refine ⟨_, rfl, ?_⟩; have n0_ := Aside0.mk (KeepBut.trans (by repeat (first | (with_reducible first | exact HK.out | apply KeepBut.set_ | apply keep_drewN | apply keep_drew | apply keep_alloc) | exact HK.out)) hk (.inl rfl)); have n1_ := Aside0.mk (hb); have n2_ := Aside0.mk (hi); clear HK; clear HB; clear HI0; have HK := n0_; have HB := n1_; have HI0 := n2_; clear n0_ n1_ n2_; (try clear hb); (try clear hb2); (try clear hk); (try clear hi)))
  go_ret
  exact ⟨by first | rfl | (simp [errW_none, errW_some] <;> rfl) | (simp [*, errW_none, errW_some] <;> rfl), by repeat (first | (with_reducible first | exact HI0.out | apply IsS87.alloc | apply IsS87.drewN | apply IsS87.drew | apply IsS87.set_1 | apply IsS87.set_2 | apply IsS87.set_3) | exact HI0.out), by repeat (first | (with_reducible first | exact HB.out | apply below_alloc | apply pw_below_drewN | apply below_drew1 | refine below_set ?_ (IsS87.ge HI0.out)) | exact HB.out), by repeat (first | (with_reducible first | exact HK.out | apply KeepBut.set_ | apply keep_drewN | apply keep_drew | apply keep_alloc) | exact HK.out)⟩

/-! ### spec_l01Src_num: function 76 -/
def spec_l01Src_num.f (s0_0 : List Int) (s0_1 : Int) (s0_2 : Int) (s0_3 : Int) : Option (Int × Int × Int × Int) := (some (([0, 1, 2, 255, 256, 4095, 4096, 65535, 65536, 2147483647, 2147483648, 4294967295, 4294967296, 9223372036854775807, (-9223372036854775808)] : List Int) : List Int)).bind fun y105 => ((spec_l01Src_one.f s0_0 s0_1 s0_2 s0_3 3).bind fun bt108 => (if bt108.1 = true then ((spec_l01Src_n.f s0_0 bt108.2.1 bt108.2.2.1 bt108.2.2.2 1000).bind fun bt112 => (some (wrap64 (bt112.1 - 500), bt112.2.1, bt112.2.2.1, bt112.2.2.2))) else ((spec_l01Src_n.f s0_0 bt108.2.1 bt108.2.2.1 bt108.2.2.2 15).bind fun bt116 => (if 0 ≤ bt116.1 then (if bt116.1 < (y105.length : Int) then ((spec_l01Src_n.f s0_0 bt116.2.1 bt116.2.2.1 bt116.2.2.2 3).bind fun bt121 => (some (wrap64 ((wrap64 ((rd y105 bt116.1) + bt121.1)) - 1), bt121.2.1, bt121.2.2.1, bt121.2.2.2))) else (none)) else (none)))))
def spec_l01Src_num.T4 : Bool × List (List Nat × List Nat) := (true, [([], []), ([], []), ([1], [1]), ([0, 2], [0, 2]), ([3], [3]), ([], []), ([5, 2], [5]), ([4, 6], [4, 6]), ([7], [7]), ([8, 6, 0, 1, 2, 3, 4, 5, 6, 7, 8], [8])])
def spec_l01Src_num.B4 : List Nat := [0, 0, 2, 7, 15, 0, 38, 127, 255, 511]
theorem spec_l01Src_num.tab4 : rtab .any (opsOf Try.f76 4) = spec_l01Src_num.T4 := by kernel_rfl
theorem spec_l01Src_num.bits4 : waitsOk spec_l01Src_num.T4.2 spec_l01Src_num.B4 = true := by kernel_rfl
set_option maxHeartbeats 8000000 in
set_option maxRecDepth 100000 in
theorem spec_l01Src_num.calls (g : Nat) (s0_0 : List Int) (s0_1 : Int) (s0_2 : Int) (s0_3 : Int) (r1 : Int) (r2 : Int) (r3 : Int) (r4 : Int) (w0 w : World) (hI : IsS87 w0 w g s0_0 s0_1 s0_2 s0_3) (hB : Below w0.heap.size w0 w) (h : spec_l01Src_num.f s0_0 s0_1 s0_2 s0_3 = some (r1, r2, r3, r4)) :
    Calls Try.prog 76 #[.pointer (some ⟨g, 0, none⟩)] w fun e w' => e = .returned (.int .i64 r1) ∧ IsS87 w0 w' g s0_0 r2 r3 r4 ∧ Below w0.heap.size w0 w' ∧ KeepBut w w' g none := by
  have HI0 := Aside0.mk hI
  have HK := Aside0.mk (KeepBut.refl w g none)
  have HL := Aside0.mk hB.size
  clear hI
  have HW0 := Aside0.mk hB.size
  have HB := Aside0.mk hB
  clear hB
  have H : ((some (([0, 1, 2, 255, 256, 4095, 4096, 65535, 65536, 2147483647, 2147483648, 4294967295, 4294967296, 9223372036854775807, (-9223372036854775808)] : List Int) : List Int)).bind fun y105 => ((spec_l01Src_one.f s0_0 s0_1 s0_2 s0_3 3).bind fun bt108 => (if bt108.1 = true then ((spec_l01Src_n.f s0_0 bt108.2.1 bt108.2.2.1 bt108.2.2.2 1000).bind fun bt112 => (some (wrap64 (bt112.1 - 500), bt112.2.1, bt112.2.2.1, bt112.2.2.2))) else ((spec_l01Src_n.f s0_0 bt108.2.1 bt108.2.2.1 bt108.2.2.2 15).bind fun bt116 => (if 0 ≤ bt116.1 then (if bt116.1 < (y105.length : Int) then ((spec_l01Src_n.f s0_0 bt116.2.1 bt116.2.2.1 bt116.2.2.2 3).bind fun bt121 => (some (wrap64 ((wrap64 ((rd y105 bt116.1) + bt121.1)) - 1), bt121.2.1, bt121.2.2.1, bt121.2.2.2))) else (none)) else (none)))))) = some (r1, r2, r3, r4) := h
  clear h
  obtain ⟨y105, hy105⟩ : ∃ y_ : List Int, y_ = (([0, 1, 2, 255, 256, 4095, 4096, 65535, 65536, 2147483647, 2147483648, 4294967295, 4294967296, 9223372036854775807, (-9223372036854775808)] : List Int)) := ⟨_, rfl⟩
  replace H : ((spec_l01Src_one.f s0_0 s0_1 s0_2 s0_3 3).bind fun bt108 => (if bt108.1 = true then ((spec_l01Src_n.f s0_0 bt108.2.1 bt108.2.2.1 bt108.2.2.2 1000).bind fun bt112 => (some (wrap64 (bt112.1 - 500), bt112.2.1, bt112.2.2.1, bt112.2.2.2))) else ((spec_l01Src_n.f s0_0 bt108.2.1 bt108.2.2.1 bt108.2.2.2 15).bind fun bt116 => (if 0 ≤ bt116.1 then (if bt116.1 < (y105.length : Int) then ((spec_l01Src_n.f s0_0 bt116.2.1 bt116.2.2.1 bt116.2.2.2 3).bind fun bt121 => (some (wrap64 ((wrap64 ((rd y105 bt116.1) + bt121.1)) - 1), bt121.2.1, bt121.2.2.1, bt121.2.2.2))) else (none)) else (none))))) = some (r1, r2, r3, r4) := by first | (rw [hy105]; with_reducible exact H) | (have H2_ := (Option.bind_some _ _).symm.trans H; rw [hy105]; with_reducible exact H2_) | (have H2_ := (Option.bind_some _ _).symm.trans H; with_reducible exact H2_) | with_reducible exact H | (rw [hy105]; exact H) | exact H
  have Ny105 := Aside0.mk hy105
  clear hy105
  replace H := Option.bind_eq_some_iff.mp H
  obtain ⟨⟨t108, t109, t110, t111⟩, A20, H⟩ := H
  replace H : (if t108 = true then ((spec_l01Src_n.f s0_0 t109 t110 t111 1000).bind fun bt112 => (some (wrap64 (bt112.1 - 500), bt112.2.1, bt112.2.2.1, bt112.2.2.2))) else ((spec_l01Src_n.f s0_0 t109 t110 t111 15).bind fun bt116 => (if 0 ≤ bt116.1 then (if bt116.1 < (y105.length : Int) then ((spec_l01Src_n.f s0_0 bt116.2.1 bt116.2.2.1 bt116.2.2.2 3).bind fun bt121 => (some (wrap64 ((wrap64 ((rd y105 bt116.1) + bt121.1)) - 1), bt121.2.1, bt121.2.2.1, bt121.2.2.2))) else (none)) else (none)))) = some (r1, r2, r3, r4) := H
  have A2 := Aside0.mk A20
  clear A20
  by_cases c3 : t108 = true
  · subst c3
    have H1 : ((spec_l01Src_n.f s0_0 t109 t110 t111 1000).bind fun bt112 => (some (wrap64 (bt112.1 - 500), bt112.2.1, bt112.2.2.1, bt112.2.2.2))) = some (r1, r2, r3, r4) := by rw [if_pos rfl] at H; exact H
    clear H
    have H := H1
    clear H1
    replace H := Option.bind_eq_some_iff.mp H
    obtain ⟨⟨t112, t113, t114, t115⟩, A40, H⟩ := H
    replace H : (some (wrap64 (t112 - 500), t113, t114, t115)) = some (r1, r2, r3, r4) := H
    have A4 := Aside0.mk A40
    clear A40
    simp only [Option.some.injEq, Prod.mk.injEq] at H
    obtain ⟨rfl, rfl, rfl, rfl⟩ := H
    go_enter Try.func76, Try.ntmps76
    go_wp2_with (first | ((with_reducible refine gate_dst (N := 4) rfl ?_); refine Kd.R_lit (Kd.int .i64) _ 2 ?hg (N := 4) ?hd (xs := ([0, 1, 2, 255, 256, 4095, 4096, 65535, 65536, 2147483647, 2147483648, 4294967295, 4294967296, 9223372036854775807, (-9223372036854775808)] : List Int)) (inner := [.int .i64 0, .int .i64 1, .int .i64 2, .int .i64 255, .int .i64 256, .int .i64 4095, .int .i64 4096, .int .i64 65535, .int .i64 65536, .int .i64 2147483647, .int .i64 2147483648, .int .i64 4294967295, .int .i64 4294967296, .int .i64 9223372036854775807, .int .i64 (-9223372036854775808)]) (ok := fun _ => True) (okp := fun _ => True) ?hr ?hp (fun _ hk => hk) trivial (Below.refl _ _) (Nat.le_refl _) (by simp) ?_; (case hd => rfl); (case hg => rfl); (case hr => first | (go_simp; done) | (go_simp; rfl)); (case hp => exact (Reps.one (show Kd.M (Kd.int .i64) _ _ _ 0 [.int .i64 0] from rfl) (Reps.one (show Kd.M (Kd.int .i64) _ _ _ 1 [.int .i64 1] from rfl) (Reps.one (show Kd.M (Kd.int .i64) _ _ _ 2 [.int .i64 2] from rfl) (Reps.one (show Kd.M (Kd.int .i64) _ _ _ 255 [.int .i64 255] from rfl) (Reps.one (show Kd.M (Kd.int .i64) _ _ _ 256 [.int .i64 256] from rfl) (Reps.one (show Kd.M (Kd.int .i64) _ _ _ 4095 [.int .i64 4095] from rfl) (Reps.one (show Kd.M (Kd.int .i64) _ _ _ 4096 [.int .i64 4096] from rfl) (Reps.one (show Kd.M (Kd.int .i64) _ _ _ 65535 [.int .i64 65535] from rfl) (Reps.one (show Kd.M (Kd.int .i64) _ _ _ 65536 [.int .i64 65536] from rfl) (Reps.one (show Kd.M (Kd.int .i64) _ _ _ 2147483647 [.int .i64 2147483647] from rfl) (Reps.one (show Kd.M (Kd.int .i64) _ _ _ 2147483648 [.int .i64 2147483648] from rfl) (Reps.one (show Kd.M (Kd.int .i64) _ _ _ 4294967295 [.int .i64 4294967295] from rfl) (Reps.one (show Kd.M (Kd.int .i64) _ _ _ 4294967296 [.int .i64 4294967296] from rfl) (Reps.one (show Kd.M (Kd.int .i64) _ _ _ 9223372036854775807 [.int .i64 9223372036854775807] from rfl) (Reps.one (show Kd.M (Kd.int .i64) _ _ _ (-9223372036854775808) [.int .i64 (-9223372036854775808)] from rfl) (Reps.none _ _))))))))))))))))); intro v106 w5 ho6 hb hg_ hnew_; clear hg_ hnew_; (first | rw [← Ny105.out] at ho6 | (simp only [Int.reduceToNat] at ho6; rw [← Ny105.out] at ho6)); have n0_ := Aside0.mk (Kd.R_lower ho6 (keep_size (w := w) (g := g) (row := none) (by repeat (first | (with_reducible first | exact HK.out | apply KeepBut.set_ | apply keep_drewN | apply keep_drew | apply keep_alloc) | exact HK.out)))); have n1_ := Aside0.mk (IsS87.below (by repeat (first | (with_reducible first | exact HI0.out | apply IsS87.alloc | apply IsS87.drewN | apply IsS87.drew | apply IsS87.set_1 | apply IsS87.set_2 | apply IsS87.set_3) | exact HI0.out)) hb); have n2_ := Aside0.mk (KeepBut.trans (by repeat (first | (with_reducible first | exact HK.out | apply KeepBut.set_ | apply keep_drewN | apply keep_drew | apply keep_alloc) | exact HK.out)) (KeepBut.of_below hb g none) (.inl rfl)); have n3_ := Aside0.mk (below_step (by repeat (first | (with_reducible first | exact HB.out | apply below_alloc | apply pw_below_drewN | apply below_drew1 | refine below_set ?_ (IsS87.ge HI0.out)) | exact HB.out)) hb); clear HI0; clear HK; clear HB; have HO107 := n0_; have HI0 := n1_; have HK := n2_; have HB := n3_; clear n0_ n1_ n2_ n3_; clear hb ho6) | ((with_reducible refine gate_callee (f := 79) rfl ?_); refine goesL_ (some 6) rfl rfl Try.func79 (by kernel_rfl) rfl #[.pointer (some ⟨g, 0, none⟩), .int .i64 3] rfl (by (try simp only [List.map_toArray, List.map_cons, List.map_nil]); first | done | rfl | (simp only [List.length_drop, List.length_take]; rfl)) ?_; (with_reducible refine (spec_l01Src_one.calls g s0_0 s0_1 s0_2 s0_3 3 true t109 t110 t111 w0 _ ?side1 ?side2 A2.out).mono ?_); (case side1 => repeat (first | (with_reducible first | exact HI0.out | apply IsS87.alloc | apply IsS87.drewN | apply IsS87.drew | apply IsS87.set_1 | apply IsS87.set_2 | apply IsS87.set_3) | exact HI0.out)); (case side2 => repeat (first | (with_reducible first | exact HB.out | apply below_alloc | apply pw_below_drewN | apply below_drew1 | refine below_set ?_ (IsS87.ge HI0.out)) | exact HB.out)); rintro e w7 ⟨rfl, hi, hb, hk⟩; refine ⟨_, rfl, ?_⟩; have n0_ := Aside0.mk (Kd.R_mono (Kd.R_keep (IsS87.apart (show IsS87 w0 _ g s0_0 s0_1 s0_2 s0_3 from by repeat (first | (with_reducible first | exact HI0.out | apply IsS87.alloc | apply IsS87.drewN | apply IsS87.drew | apply IsS87.set_1 | apply IsS87.set_2 | apply IsS87.set_3) | exact HI0.out)) (by (with_reducible repeat (first | apply Kd.R_alloc | apply Kd.R_drewN | apply Kd.R_drew)); exact HO107.out) (by decide)) hk (fun _ h => h.2)) (fun _ h => h.1)); have n1_ := Aside0.mk (KeepBut.trans (by repeat (first | (with_reducible first | exact HK.out | apply KeepBut.set_ | apply keep_drewN | apply keep_drew | apply keep_alloc) | exact HK.out)) hk (.inl rfl)); have n2_ := Aside0.mk (hb); have n3_ := Aside0.mk (hi); clear HO107; clear HK; clear HB; clear HI0; have HO107 := n0_; have HK := n1_; have HB := n2_; have HI0 := n3_; clear n0_ n1_ n2_ n3_; (try clear hb); (try clear hb2); (try clear hk); (try clear hi)) | ((with_reducible refine gate_callee (f := 78) rfl ?_); refine goesL_ (some 8) rfl rfl Try.func78 (by kernel_rfl) rfl #[.pointer (some ⟨g, 0, none⟩), .int .i64 1000] rfl (by (try simp only [List.map_toArray, List.map_cons, List.map_nil]); first | done | rfl | (simp only [List.length_drop, List.length_take]; rfl)) ?_; (with_reducible refine (spec_l01Src_n.calls g s0_0 t109 t110 t111 1000 t112 t113 t114 t115 w0 _ ?side1 ?side2 A4.out).mono ?_); (case side1 => repeat (first | (with_reducible first | exact HI0.out | apply IsS87.alloc | apply IsS87.drewN | apply IsS87.drew | apply IsS87.set_1 | apply IsS87.set_2 | apply IsS87.set_3) | exact HI0.out)); (case side2 => repeat (first | (with_reducible first | exact HB.out | apply below_alloc | apply pw_below_drewN | apply below_drew1 | refine below_set ?_ (IsS87.ge HI0.out)) | exact HB.out)); rintro e w8 ⟨rfl, hi, hb, hk⟩; refine ⟨_, rfl, ?_⟩; have n0_ := Aside0.mk (Kd.R_mono (Kd.R_keep (IsS87.apart (show IsS87 w0 _ g s0_0 t109 t110 t111 from by repeat (first | (with_reducible first | exact HI0.out | apply IsS87.alloc | apply IsS87.drewN | apply IsS87.drew | apply IsS87.set_1 | apply IsS87.set_2 | apply IsS87.set_3) | exact HI0.out)) (by (with_reducible repeat (first | apply Kd.R_alloc | apply Kd.R_drewN | apply Kd.R_drew)); exact HO107.out) (by decide)) hk (fun _ h => h.2)) (fun _ h => h.1)); have n1_ := Aside0.mk (KeepBut.trans (by repeat (first | (with_reducible first | exact HK.out | apply KeepBut.set_ | apply keep_drewN | apply keep_drew | apply keep_alloc) | exact HK.out)) hk (.inl rfl)); have n2_ := Aside0.mk (hb); have n3_ := Aside0.mk (hi); clear HO107; clear HK; clear HB; clear HI0; have HO107 := n0_; have HK := n1_; have HB := n2_; have HI0 := n3_; clear n0_ n1_ n2_ n3_; (try clear hb); (try clear hb2); (try clear hk); (try clear hi)))
    go_ret
    exact ⟨by first | rfl | (simp [errW_none, errW_some] <;> rfl) | (simp [*, errW_none, errW_some] <;> rfl), by repeat (first | (with_reducible first | exact HI0.out | apply IsS87.alloc | apply IsS87.drewN | apply IsS87.drew | apply IsS87.set_1 | apply IsS87.set_2 | apply IsS87.set_3) | exact HI0.out), by repeat (first | (with_reducible first | exact HB.out | apply below_alloc | apply pw_below_drewN | apply below_drew1 | refine below_set ?_ (IsS87.ge HI0.out)) | exact HB.out), by repeat (first | (with_reducible first | exact HK.out | apply KeepBut.set_ | apply keep_drewN | apply keep_drew | apply keep_alloc) | exact HK.out)⟩
  · replace c3 := Bool.eq_false_iff.mpr c3
    subst c3
    have H1 : ((spec_l01Src_n.f s0_0 t109 t110 t111 15).bind fun bt116 => (if 0 ≤ bt116.1 then (if bt116.1 < (y105.length : Int) then ((spec_l01Src_n.f s0_0 bt116.2.1 bt116.2.2.1 bt116.2.2.2 3).bind fun bt121 => (some (wrap64 ((wrap64 ((rd y105 bt116.1) + bt121.1)) - 1), bt121.2.1, bt121.2.2.1, bt121.2.2.2))) else (none)) else (none))) = some (r1, r2, r3, r4) := by rw [if_neg (show ¬ (false = true) by decide)] at H; exact H
    clear H
    have H := H1
    clear H1
    replace H := Option.bind_eq_some_iff.mp H
    obtain ⟨⟨t116, t117, t118, t119⟩, A90, H⟩ := H
    replace H : (if 0 ≤ t116 then (if t116 < (y105.length : Int) then ((spec_l01Src_n.f s0_0 t117 t118 t119 3).bind fun bt121 => (some (wrap64 ((wrap64 ((rd y105 t116) + bt121.1)) - 1), bt121.2.1, bt121.2.2.1, bt121.2.2.2))) else (none)) else (none)) = some (r1, r2, r3, r4) := H
    have A9 := Aside0.mk A90
    clear A90
    by_cases c10 : 0 ≤ t116
    · rw [if_pos c10] at H
      have c10b0 : decide (0 ≤ t116) = true := decide_eq_true c10
      clear c10
      by_cases c11 : t116 < (y105.length : Int)
      · rw [if_pos c11] at H
        have c11b0 : decide (t116 < (y105.length : Int)) = true := decide_eq_true c11
        clear c11
        replace H := Option.bind_eq_some_iff.mp H
        obtain ⟨⟨t121, t122, t123, t124⟩, A120, H⟩ := H
        replace H : (some (wrap64 ((wrap64 ((rd y105 t116) + t121)) - 1), t122, t123, t124)) = some (r1, r2, r3, r4) := H
        have A12 := Aside0.mk A120
        clear A120
        simp only [Option.some.injEq, Prod.mk.injEq] at H
        obtain ⟨rfl, rfl, rfl, rfl⟩ := H
        go_enter Try.func76, Try.ntmps76
        try go_wp2_with (first | ((with_reducible refine gate_dst (N := 4) rfl ?_); refine Kd.R_lit (Kd.int .i64) _ 2 ?hg (N := 4) ?hd (xs := ([0, 1, 2, 255, 256, 4095, 4096, 65535, 65536, 2147483647, 2147483648, 4294967295, 4294967296, 9223372036854775807, (-9223372036854775808)] : List Int)) (inner := [.int .i64 0, .int .i64 1, .int .i64 2, .int .i64 255, .int .i64 256, .int .i64 4095, .int .i64 4096, .int .i64 65535, .int .i64 65536, .int .i64 2147483647, .int .i64 2147483648, .int .i64 4294967295, .int .i64 4294967296, .int .i64 9223372036854775807, .int .i64 (-9223372036854775808)]) (ok := fun _ => True) (okp := fun _ => True) ?hr ?hp (fun _ hk => hk) trivial (Below.refl _ _) (Nat.le_refl _) (by simp) ?_; (case hd => rfl); (case hg => rfl); (case hr => first | (go_simp; done) | (go_simp; rfl)); (case hp => exact (Reps.one (show Kd.M (Kd.int .i64) _ _ _ 0 [.int .i64 0] from rfl) (Reps.one (show Kd.M (Kd.int .i64) _ _ _ 1 [.int .i64 1] from rfl) (Reps.one (show Kd.M (Kd.int .i64) _ _ _ 2 [.int .i64 2] from rfl) (Reps.one (show Kd.M (Kd.int .i64) _ _ _ 255 [.int .i64 255] from rfl) (Reps.one (show Kd.M (Kd.int .i64) _ _ _ 256 [.int .i64 256] from rfl) (Reps.one (show Kd.M (Kd.int .i64) _ _ _ 4095 [.int .i64 4095] from rfl) (Reps.one (show Kd.M (Kd.int .i64) _ _ _ 4096 [.int .i64 4096] from rfl) (Reps.one (show Kd.M (Kd.int .i64) _ _ _ 65535 [.int .i64 65535] from rfl) (Reps.one (show Kd.M (Kd.int .i64) _ _ _ 65536 [.int .i64 65536] from rfl) (Reps.one (show Kd.M (Kd.int .i64) _ _ _ 2147483647 [.int .i64 2147483647] from rfl) (Reps.one (show Kd.M (Kd.int .i64) _ _ _ 2147483648 [.int .i64 2147483648] from rfl) (Reps.one (show Kd.M (Kd.int .i64) _ _ _ 4294967295 [.int .i64 4294967295] from rfl) (Reps.one (show Kd.M (Kd.int .i64) _ _ _ 4294967296 [.int .i64 4294967296] from rfl) (Reps.one (show Kd.M (Kd.int .i64) _ _ _ 9223372036854775807 [.int .i64 9223372036854775807] from rfl) (Reps.one (show Kd.M (Kd.int .i64) _ _ _ (-9223372036854775808) [.int .i64 (-9223372036854775808)] from rfl) (Reps.none _ _))))))))))))))))); intro v106 w13 ho14 hb hg_ hnew_; clear hg_ hnew_; (first | rw [← Ny105.out] at ho14 | (simp only [Int.reduceToNat] at ho14; rw [← Ny105.out] at ho14)); have n0_ := Aside0.mk (Kd.R_lower ho14 (keep_size (w := w) (g := g) (row := none) (by repeat (first | (with_reducible first | exact HK.out | apply KeepBut.set_ | apply keep_drewN | apply keep_drew | apply keep_alloc) | exact HK.out)))); have n1_ := Aside0.mk (IsS87.below (by repeat (first | (with_reducible first | exact HI0.out | apply IsS87.alloc | apply IsS87.drewN | apply IsS87.drew | apply IsS87.set_1 | apply IsS87.set_2 | apply IsS87.set_3) | exact HI0.out)) hb); have n2_ := Aside0.mk (KeepBut.trans (by repeat (first | (with_reducible first | exact HK.out | apply KeepBut.set_ | apply keep_drewN | apply keep_drew | apply keep_alloc) | exact HK.out)) (KeepBut.of_below hb g none) (.inl rfl)); have n3_ := Aside0.mk (below_step (by repeat (first | (with_reducible first | exact HB.out | apply below_alloc | apply pw_below_drewN | apply below_drew1 | refine below_set ?_ (IsS87.ge HI0.out)) | exact HB.out)) hb); clear HI0; clear HK; clear HB; have HO107 := n0_; have HI0 := n1_; have HK := n2_; have HB := n3_; clear n0_ n1_ n2_ n3_; clear hb ho14) | ((with_reducible refine gate_callee (f := 79) rfl ?_); refine goesL_ (some 6) rfl rfl Try.func79 (by kernel_rfl) rfl #[.pointer (some ⟨g, 0, none⟩), .int .i64 3] rfl (by (try simp only [List.map_toArray, List.map_cons, List.map_nil]); first | done | rfl | (simp only [List.length_drop, List.length_take]; rfl)) ?_; (with_reducible refine (spec_l01Src_one.calls g s0_0 s0_1 s0_2 s0_3 3 false t109 t110 t111 w0 _ ?side1 ?side2 A2.out).mono ?_); (case side1 => repeat (first | (with_reducible first | exact HI0.out | apply IsS87.alloc | apply IsS87.drewN | apply IsS87.drew | apply IsS87.set_1 | apply IsS87.set_2 | apply IsS87.set_3) | exact HI0.out)); (case side2 => repeat (first | (with_reducible first | exact HB.out | apply below_alloc | apply pw_below_drewN | apply below_drew1 | refine below_set ?_ (IsS87.ge HI0.out)) | exact HB.out)); rintro e w15 ⟨rfl, hi, hb, hk⟩; refine ⟨_, rfl, ?_⟩; have n0_ := Aside0.mk (Kd.R_mono (Kd.R_keep (IsS87.apart (show IsS87 w0 _ g s0_0 s0_1 s0_2 s0_3 from by repeat (first | (with_reducible first | exact HI0.out | apply IsS87.alloc | apply IsS87.drewN | apply IsS87.drew | apply IsS87.set_1 | apply IsS87.set_2 | apply IsS87.set_3) | exact HI0.out)) (by (with_reducible repeat (first | apply Kd.R_alloc | apply Kd.R_drewN | apply Kd.R_drew)); exact HO107.out) (by decide)) hk (fun _ h => h.2)) (fun _ h => h.1)); have n1_ := Aside0.mk (KeepBut.trans (by repeat (first | (with_reducible first | exact HK.out | apply KeepBut.set_ | apply keep_drewN | apply keep_drew | apply keep_alloc) | exact HK.out)) hk (.inl rfl)); have n2_ := Aside0.mk (hb); have n3_ := Aside0.mk (hi); clear HO107; clear HK; clear HB; clear HI0; have HO107 := n0_; have HK := n1_; have HB := n2_; have HI0 := n3_; clear n0_ n1_ n2_ n3_; (try clear hb); (try clear hb2); (try clear hk); (try clear hi)))
        have n0_ := Aside0.mk (Kd.R_drew HO107.out)
        have n1_ := Aside0.mk (IsS87.drew HI0.out)
        have n2_ := Aside0.mk (keep_drew HK.out)
        have n3_ := Aside0.mk (below_drew1 HB.out)
        clear HO107
        clear HI0
        clear HK
        clear HB
        have HO107 := n0_
        have HI0 := n1_
        have HK := n2_
        have HB := n3_
        clear n0_ n1_ n2_ n3_
        have p120 : 0 ≤ (t116 : Int) := of_decide_eq_true (by first | (with_reducible assumption) | assumption)
        have q120 : t116 < (y105.length : Int) := of_decide_eq_true (by first | (with_reducible assumption) | assumption)
        obtain ⟨Az_, cz_, hz_, _⟩ := Kd.R_reads HO107.out
        subst hz_
        obtain ⟨ad120, e120, hx120_0⟩ := Kd.at_int (Kd.R_reads' HO107.out).2.2 t116 p120 q120
        cases e120
        replace p120 := eq_true p120
        replace q120 := eq_true q120
        refine start_ (n := 10) (S := fun w' => w'.cell? (ad120.add (t116).toNat) = some (.int .i64 (rd y105 t116))) (ds := []) #[false, false, false, false, false, false, false, false, false, false] (by kernel_rfl) rfl rfl (hx120_0) (fun hHeld => ?_); refine with_tabW spec_l01Src_num.tab4 spec_l01Src_num.bits4 (fun HT_ HW_ => ?_)
        generalize w15.drew = w16 at HO107 HI0 HK HB hx120_0 hHeld ⊢
        refine pure_ (i := 0) (N := some 10) (v := ?_) (a' := ?_) #[true, false, false, false, false, false, false, false, false, false] rfl rfl (any_of HT_.out (by kernel_rfl)) (fun _ _ _ h => h) (Or.inl ⟨by rfl, ?_⟩) ?_ ?_
        rotate_left
        · intro w'
          go_simp
          with_reducible rfl
        rotate_left
        · simp only [Act.put, List.setIfInBounds_toArray, List.set_cons_zero, List.set_cons_succ, i64_w, i32_w]
          rfl
        refine pure_ (i := 1) (N := some 11) (v := ?_) (a' := ?_) #[true, true, false, false, false, false, false, false, false, false] rfl rfl (any_of HT_.out (by kernel_rfl)) (fun _ _ _ h => h) (Or.inl ⟨by rfl, ?_⟩) ?_ ?_
        rotate_left
        · intro w'
          go_simp
          with_reducible rfl
        rotate_left
        · simp only [Act.put, List.setIfInBounds_toArray, List.set_cons_zero, List.set_cons_succ, i64_w, i32_w]
          rfl
        refine pure_ (i := 5) (N := some 15) (v := ?_) (a' := ?_) #[true, true, false, false, false, true, false, false, false, false] rfl rfl (any_of HT_.out (by kernel_rfl)) (fun _ _ _ h => h) (Or.inl ⟨by rfl, ?_⟩) ?_ ?_
        rotate_left
        · intro w'
          go_simp
          with_reducible rfl
        rotate_left
        · simp only [Act.put, List.setIfInBounds_toArray, List.set_cons_zero, List.set_cons_succ, i64_w, i32_w]
          rfl
        refine one_ (i := 2) (N := some 12) #[true, true, true, false, false, true, false, false, false, false] rfl rfl (one_of HT_.out (by kernel_rfl)) (by decide) (fun K hK => ?_)
        refine goes_ Try.func78 (by kernel_rfl) rfl #[.pointer (some ⟨g, 0, none⟩), .int .i64 15] (by rfl) rfl rfl (by (try simp only [List.map_toArray, List.map_cons, List.map_nil]); first | done | rfl | (simp only [List.length_drop, List.length_take]; rfl)) ?_
        with_reducible refine (spec_l01Src_n.calls g s0_0 t109 t110 t111 15 t116 t117 t118 t119 w0 _ ?side1 ?side2 A9.out).mono ?_
        (case side1 => repeat (first | (with_reducible first | exact HI0.out | apply IsS87.alloc | apply IsS87.drewN | apply IsS87.drew | apply IsS87.set_1 | apply IsS87.set_2 | apply IsS87.set_3) | exact HI0.out))
        (case side2 => repeat (first | (with_reducible first | exact HB.out | apply below_alloc | apply pw_below_drewN | apply below_drew1 | refine below_set ?_ (IsS87.ge HI0.out)) | exact HB.out))
        rintro e w17 ⟨rfl, hi, hb, hk⟩
        have HS0_ := keep_cell hk (hHeld) (by first | (rw [add_block]; exact Kd.own_blk (IsS87.own_ne HI0.out HO107.out (by decide))) | (show (Addr.add _ _).block ≠ _; rw [add_block]; exact Kd.own_blk (IsS87.own_ne HI0.out HO107.out (by decide))) | exact Kd.own_blk (IsS87.own_ne HI0.out HO107.out (by decide)))
        refine ⟨_, rfl, ?_⟩
        have n0_ := Aside0.mk (Kd.R_mono (Kd.R_keep (IsS87.apart (show IsS87 w0 _ g s0_0 t109 t110 t111 from by repeat (first | (with_reducible first | exact HI0.out | apply IsS87.alloc | apply IsS87.drewN | apply IsS87.drew | apply IsS87.set_1 | apply IsS87.set_2 | apply IsS87.set_3) | exact HI0.out)) (by (with_reducible repeat (first | apply Kd.R_alloc | apply Kd.R_drewN | apply Kd.R_drew)); exact HO107.out) (by decide)) hk (fun _ h => h.2)) (fun _ h => h.1))
        have n1_ := Aside0.mk (KeepBut.trans (by repeat (first | (with_reducible first | exact HK.out | apply KeepBut.set_ | apply keep_drewN | apply keep_drew | apply keep_alloc) | exact HK.out)) hk (.inl rfl))
        have n2_ := Aside0.mk (hb)
        have n3_ := Aside0.mk (hi)
        clear HO107
        clear HK
        clear HB
        clear HI0
        have HO107 := n0_
        have HK := n1_
        have HB := n2_
        have HI0 := n3_
        clear n0_ n1_ n2_ n3_
        (try clear hb)
        (try clear hb2)
        (try clear hk)
        (try clear hi)
        obtain ⟨Ao18, co18, eo18⟩ := Kd.R_slice HO107.out
        (first | subst eo18 | (injection eo18 with f1_ f2_ f3_; have f4_ := f1_.symm; have f5_ := f3_.symm; clear f1_ f2_ f3_; subst f4_; subst f5_))
        refine hK.out _ _ (HS0_) (fun hHeld => ?_)
        clear hK K
        refine norm_ (a' := ?_) ?_ ?_
        rotate_left
        · show Act.put _ (some 12) _ = _
          simp only [Act.put, List.setIfInBounds_toArray, List.set_cons_zero, List.set_cons_succ, i64_w, i32_w]
          rfl
        refine pure_ (i := 3) (N := some 13) (v := ?_) (a' := ?_) #[true, true, true, true, false, true, false, false, false, false] rfl rfl (any_of HT_.out (by kernel_rfl)) (fun _ _ _ h => h) (Or.inl ⟨by rfl, ?_⟩) ?_ ?_
        rotate_left
        · intro w'
          go_simp
          with_reducible rfl
        rotate_left
        · simp only [Act.put, List.setIfInBounds_toArray, List.set_cons_zero, List.set_cons_succ, i64_w, i32_w]
          rfl
        refine take_ (i := 4) (N := some 14) (v := ?_) (a' := ?_) #[true, true, true, true, true, true, false, false, false, false] rfl rfl (take_ofW HT_.out HW_.out (by kernel_rfl)) (fun _ _ _ h => h) (Or.inl ⟨by rfl, ?_⟩) hHeld ?_ ?_
        rotate_left
        · intro w' s0
          go_simp
          with_reducible rfl
        rotate_left
        · simp only [Act.put, List.setIfInBounds_toArray, List.set_cons_zero, List.set_cons_succ, i64_w, i32_w]
          rfl
        refine one_ (i := 6) (N := some 16) #[true, true, true, true, true, true, true, false, false, false] rfl rfl (one_of HT_.out (by kernel_rfl)) (by decide) (fun K hK => ?_)
        refine goes_ Try.func78 (by kernel_rfl) rfl #[.pointer (some ⟨g, 0, none⟩), .int .i64 3] (by rfl) rfl rfl (by (try simp only [List.map_toArray, List.map_cons, List.map_nil]); first | done | rfl | (simp only [List.length_drop, List.length_take]; rfl)) ?_
        with_reducible refine (spec_l01Src_n.calls g s0_0 t117 t118 t119 3 t121 t122 t123 t124 w0 _ ?side1 ?side2 A12.out).mono ?_
        (case side1 => repeat (first | (with_reducible first | exact HI0.out | apply IsS87.alloc | apply IsS87.drewN | apply IsS87.drew | apply IsS87.set_1 | apply IsS87.set_2 | apply IsS87.set_3) | exact HI0.out))
        (case side2 => repeat (first | (with_reducible first | exact HB.out | apply below_alloc | apply pw_below_drewN | apply below_drew1 | refine below_set ?_ (IsS87.ge HI0.out)) | exact HB.out))
        rintro e w19 ⟨rfl, hi, hb, hk⟩
        have HS0_ := keep_cell hk (hHeld) (by first | (rw [add_block]; exact Kd.own_blk (IsS87.own_ne HI0.out HO107.out (by decide))) | (show (Addr.add _ _).block ≠ _; rw [add_block]; exact Kd.own_blk (IsS87.own_ne HI0.out HO107.out (by decide))) | exact Kd.own_blk (IsS87.own_ne HI0.out HO107.out (by decide)))
        refine ⟨_, rfl, ?_⟩
        have n0_ := Aside0.mk (Kd.R_mono (Kd.R_keep (IsS87.apart (show IsS87 w0 _ g s0_0 t117 t118 t119 from by repeat (first | (with_reducible first | exact HI0.out | apply IsS87.alloc | apply IsS87.drewN | apply IsS87.drew | apply IsS87.set_1 | apply IsS87.set_2 | apply IsS87.set_3) | exact HI0.out)) (by (with_reducible repeat (first | apply Kd.R_alloc | apply Kd.R_drewN | apply Kd.R_drew)); exact HO107.out) (by decide)) hk (fun _ h => h.2)) (fun _ h => h.1))
        have n1_ := Aside0.mk (KeepBut.trans (by repeat (first | (with_reducible first | exact HK.out | apply KeepBut.set_ | apply keep_drewN | apply keep_drew | apply keep_alloc) | exact HK.out)) hk (.inl rfl))
        have n2_ := Aside0.mk (hb)
        have n3_ := Aside0.mk (hi)
        clear HO107
        clear HK
        clear HB
        clear HI0
        have HO107 := n0_
        have HK := n1_
        have HB := n2_
        have HI0 := n3_
        clear n0_ n1_ n2_ n3_
        (try clear hb)
        (try clear hb2)
        (try clear hk)
        (try clear hi)
        refine hK.out _ _ (HS0_) (fun hHeld => ?_)
        clear hK K
        refine norm_ (a' := ?_) ?_ ?_
        rotate_left
        · show Act.put _ (some 16) _ = _
          simp only [Act.put, List.setIfInBounds_toArray, List.set_cons_zero, List.set_cons_succ, i64_w, i32_w]
          rfl
        refine pure_ (i := 7) (N := some 17) (v := ?_) (a' := ?_) #[true, true, true, true, true, true, true, true, false, false] rfl rfl (any_of HT_.out (by kernel_rfl)) (fun _ _ _ h => h) (Or.inl ⟨by rfl, ?_⟩) ?_ ?_
        rotate_left
        · intro w'
          go_simp
          with_reducible rfl
        rotate_left
        · simp only [Act.put, List.setIfInBounds_toArray, List.set_cons_zero, List.set_cons_succ, i64_w, i32_w]
          rfl
        refine pure_ (i := 8) (N := some 18) (v := ?_) (a' := ?_) #[true, true, true, true, true, true, true, true, true, false] rfl rfl (any_of HT_.out (by kernel_rfl)) (fun _ _ _ h => h) (Or.inl ⟨by rfl, ?_⟩) ?_ ?_
        rotate_left
        · intro w'
          go_simp
          with_reducible rfl
        rotate_left
        · simp only [Act.put, List.setIfInBounds_toArray, List.set_cons_zero, List.set_cons_succ, i64_w, i32_w]
          rfl
        refine pure_ (i := 9) (N := some 2) (v := ?_) (a' := ?_) #[true, true, true, true, true, true, true, true, true, true] rfl rfl (any_of HT_.out (by kernel_rfl)) (fun _ _ _ h => h) (Or.inl ⟨by rfl, ?_⟩) ?_ ?_
        rotate_left
        · intro w'
          go_simp
          with_reducible rfl
        rotate_left
        · simp only [Act.put, List.setIfInBounds_toArray, List.set_cons_zero, List.set_cons_succ, i64_w, i32_w]
          rfl
        refine done_ (done_of HT_.out (by kernel_rfl)) ?_
        try go_wp2
        go_ret
        exact ⟨by first | rfl | (simp [errW_none, errW_some] <;> rfl) | (simp [*, errW_none, errW_some] <;> rfl), by repeat (first | (with_reducible first | exact HI0.out | apply IsS87.alloc | apply IsS87.drewN | apply IsS87.drew | apply IsS87.set_1 | apply IsS87.set_2 | apply IsS87.set_3) | exact HI0.out), by repeat (first | (with_reducible first | exact HB.out | apply below_alloc | apply pw_below_drewN | apply below_drew1 | refine below_set ?_ (IsS87.ge HI0.out)) | exact HB.out), by repeat (first | (with_reducible first | exact HK.out | apply KeepBut.set_ | apply keep_drewN | apply keep_drew | apply keep_alloc) | exact HK.out)⟩
      · rw [if_neg c11] at H
        exact absurd H (by simp)
    · rw [if_neg c10] at H
      exact absurd H (by simp)

/-! ### spec_DrawWord: function 37 -/
def spec_DrawWord.f (l0 : List Int) : Option (Int) := (spec_l01Source.f l0).bind fun bt125 => ((spec_l01Src_num.f bt125.1 bt125.2.1 bt125.2.2.1 bt125.2.2.2).bind fun bt130 => (some bt130.1))
set_option maxHeartbeats 8000000 in
set_option maxRecDepth 100000 in
theorem spec_DrawWord.calls (A0 : Option Addr) (c0 : Nat) (l0 : List Int) (r : Int) (w : World) (hr0 : Kd.C (Kd.int .u8) w A0 l0.length l0) (hc0 : l0.length ≤ c0) (h : spec_DrawWord.f l0 = some r) :
    Calls Try.prog 37 #[.slice A0 l0.length c0] w fun e w' => e = .returned (.int .i64 r) ∧ Below w.heap.size w w' := by
  have HR0 := Aside0.mk hr0
  have HC0 := Aside0.mk hc0
  clear hr0 hc0
  have HB := Aside0.mk (Below.refl w.heap.size w)
  have H : ((spec_l01Source.f l0).bind fun bt125 => ((spec_l01Src_num.f bt125.1 bt125.2.1 bt125.2.2.1 bt125.2.2.2).bind fun bt130 => (some bt130.1))) = some r := h
  clear h
  replace H := Option.bind_eq_some_iff.mp H
  obtain ⟨⟨t125, t126, t127, t128⟩, A20, H⟩ := H
  replace H : ((spec_l01Src_num.f t125 t126 t127 t128).bind fun bt130 => (some bt130.1)) = some r := H
  have A2 := Aside0.mk A20
  clear A20
  replace H := Option.bind_eq_some_iff.mp H
  obtain ⟨⟨t130, t131, t132, t133⟩, A30, H⟩ := H
  replace H : (some t130) = some r := H
  have A3 := Aside0.mk A30
  clear A30
  obtain rfl := Option.some.inj H
  go_enter Try.func37, Try.ntmps37
  go_wp2_with (first | ((with_reducible refine gate_callee (f := 75) rfl ?_); refine goesL_ (some 4) rfl rfl Try.func75 (by kernel_rfl) rfl #[.slice A0 l0.length c0] rfl (by (try simp only [List.map_toArray, List.map_cons, List.map_nil]); first | done | rfl | (simp only [List.length_drop, List.length_take]; rfl)) ?_; (with_reducible refine (spec_l01Source.calls _ _ l0 t125 t126 t127 t128 w _ ?side1 ?side2 ?side3 A2.out).mono ?_); (case side1 => repeat (first | (with_reducible first | exact HB.out | apply below_alloc | apply pw_below_drewN | apply below_drew1) | exact HB.out)); (case side2 => exact HR0.out); (case side3 => exact HC0.out); rintro e w4 ⟨g129, rfl, hi, hb, hb2⟩; refine ⟨_, rfl, ?_⟩; have n0_ := Aside0.mk (hb); have n1_ := Aside0.mk (hi); clear HB; have HB := n0_; have HI129 := n1_; clear n0_ n1_; (try clear hb); (try clear hb2); (try clear hk); (try clear hi)) | ((with_reducible refine gate_callee (f := 76) rfl ?_); refine goesL_ (some 5) rfl rfl Try.func76 (by kernel_rfl) rfl #[.pointer (some ⟨g129, 0, none⟩)] rfl (by (try simp only [List.map_toArray, List.map_cons, List.map_nil]); first | done | rfl | (simp only [List.length_drop, List.length_take]; rfl)) ?_; (with_reducible refine (spec_l01Src_num.calls g129 t125 t126 t127 t128 t130 t131 t132 t133 w _ ?side1 ?side2 A3.out).mono ?_); (case side1 => repeat (first | (with_reducible first | exact HI129.out | apply IsS87.alloc | apply IsS87.drewN | apply IsS87.drew | apply IsS87.set_1 | apply IsS87.set_2 | apply IsS87.set_3) | exact HI129.out)); (case side2 => repeat (first | (with_reducible first | exact HB.out | apply below_alloc | apply pw_below_drewN | apply below_drew1 | refine below_set ?_ (IsS87.ge HI129.out)) | exact HB.out)); rintro e w5 ⟨rfl, hi, hb, hk⟩; refine ⟨_, rfl, ?_⟩; have n0_ := Aside0.mk (hb); have n1_ := Aside0.mk (hi); clear HB; clear HI129; have HB := n0_; have HI129 := n1_; clear n0_ n1_; (try clear hb); (try clear hb2); (try clear hk); (try clear hi)))
  go_ret
  exact ⟨by first | rfl | (simp [errW_none, errW_some] <;> rfl) | (simp [*, errW_none, errW_some] <;> rfl), by repeat (first | (with_reducible first | exact HB.out | apply below_alloc | apply pw_below_drewN | apply below_drew1 | refine below_set ?_ (IsS87.ge HI129.out)) | exact HB.out)⟩

/-! ### impl_Word: function 38 -/
def impl_Word.f (a0 : Int) : Option (Int) := some ((a0) % 4294967296)
set_option maxHeartbeats 8000000 in
set_option maxRecDepth 100000 in
theorem impl_Word.calls (a0 : Int) (r : Int) (w : World) (h : impl_Word.f a0 = some r) :
    Calls Try.prog 38 #[.int .i64 a0] w fun e w' => e = .returned (.int .i64 r) ∧ Drawn0 w w' := by
  have H : (some ((a0) % 4294967296)) = some r := h
  clear h
  obtain rfl := Option.some.inj H
  go_enter Try.func38, Try.ntmps38
  go_wp2
  go_ret
  exact ⟨by first | rfl | (simp; done) | (simp [*]; done), by repeat (first | exact Drawn0.refl _ | apply Drawn0.step)⟩

/-! ### impl_Signed: function 39 -/
def impl_Signed.f (a0 : Int) : Option (Int) := some (wrap64 (wrap32 ((a0) % 4294967296)))
set_option maxHeartbeats 8000000 in
set_option maxRecDepth 100000 in
theorem impl_Signed.calls (a0 : Int) (r : Int) (w : World) (h : impl_Signed.f a0 = some r) :
    Calls Try.prog 39 #[.int .i64 a0] w fun e w' => e = .returned (.int .i64 r) ∧ Drawn0 w w' := by
  have H : (some (wrap64 (wrap32 ((a0) % 4294967296)))) = some r := h
  clear h
  obtain rfl := Option.some.inj H
  go_enter Try.func39, Try.ntmps39
  go_wp2
  go_ret
  exact ⟨by first | rfl | (simp; done) | (simp [*]; done), by repeat (first | exact Drawn0.refl _ | apply Drawn0.step)⟩

/-! ### impl_ybig: function 52 -/
def impl_ybig.l0 : Nat → List ByteArray → Int → Int → Option (Bool)
  | 0, _, _, _ => none
  | k + 1, x5, x6, x7 => if x7 < x6 then (if 0 ≤ x7 then (if x7 < (x5.length : Int) then (if ((rdOf ByteArray.empty x5 x7).size : Int) > 65536 then (some true) else (impl_ybig.l0 k x5 x6 (wrap64 (x7 + 1)))) else (none)) else (none)) else (some false)
def impl_ybig.f (k : Nat) (l0 : List ByteArray) : Option (Bool) := impl_ybig.l0 k l0 (l0.length : Int) 0
theorem impl_ybig.mono_l : ∀ k, (∀ y0 y1 y2, LeO (impl_ybig.l0 k y0 y1 y2) (impl_ybig.l0 (k + 1) y0 y1 y2))
  | 0 => fun _ _ _ r h => by simp [impl_ybig.l0] at h
  | k + 1 => by
    have ih0 := impl_ybig.mono_l k
    · intro y0 y1 y2
      unfold impl_ybig.l0
      repeat' first
      | (with_reducible exact ih0 _ _ _)
      | (with_reducible exact LeO.refl _)
      | (with_reducible exact LeO.none _)
      | (with_reducible refine LeO.ite ?_ ?_)
      | (with_reducible refine LeO.bind ?_ (fun _ => ?_))
      | exact ih0 _ _ _
      | exact LeO.none _
      | refine LeO.ite ?_ ?_
      | refine LeO.bind ?_ (fun _ => ?_)
theorem impl_ybig.mono : ∀ a0 k, LeO (impl_ybig.f k a0) (impl_ybig.f (k + 1) a0) := by
  intro a0 k
  have ih0 := impl_ybig.mono_l k
  unfold impl_ybig.f
  repeat' first
      | (with_reducible exact ih0 _ _ _)
      | (with_reducible exact LeO.refl _)
      | (with_reducible exact LeO.none _)
      | (with_reducible refine LeO.ite ?_ ?_)
      | (with_reducible refine LeO.bind ?_ (fun _ => ?_))
      | exact ih0 _ _ _
      | exact LeO.none _
      | refine LeO.ite ?_ ?_
      | refine LeO.bind ?_ (fun _ => ?_)
set_option maxHeartbeats 8000000 in
set_option maxRecDepth 100000 in
theorem impl_ybig.calls (k : Nat) (A0 : Option Addr) (c0 : Nat) (l0 : List ByteArray) (r : Bool) (w : World) (hr0 : Kd.C Kd.string w A0 l0.length l0) (hc0 : l0.length ≤ c0) (h : impl_ybig.f k l0 = some r) :
    Calls Try.prog 52 #[.slice A0 l0.length c0] w fun e w' => e = .returned (.bool r) ∧ Drawn0 w w' := by
  have HR0 := Aside0.mk hr0
  have HC0 := Aside0.mk hc0
  clear hr0 hc0
  have H : (impl_ybig.l0 k l0 (l0.length : Int) 0) = some r := h
  clear h
  have H' := Aside0.mk H
  clear H
  go_enter Try.func52, Try.ntmps52
  go_wp2
  go_loopg [7] k (fun kq v7 w' => ∃ (x7_1 : Int), v7 = .int .i64 x7_1 ∧ Aside0 (impl_ybig.l0 kq l0 (l0.length : Int) x7_1 = some r) ∧ Aside0 (kq ≤ k) ∧ Drawn0 w w')
  case atStart => exact ⟨(0), (by first | rfl | (simp; done) | (simp [*]; done)), H', ⟨Nat.le_refl _⟩, by repeat (first | exact Drawn0.refl _ | apply Drawn0.step)⟩
  case round =>
    clear H'
    obtain ⟨x7_1, rfl, HA, HK1, ⟨m1, rfl⟩⟩ := hrel
    cases gk with
    | zero => exact absurd HA.out (by simp [impl_ybig.l0])
    | succ k1 =>
      have H := HA.out
      clear HA
      simp only [impl_ybig.l0] at H
      by_cases c2 : x7_1 < (l0.length : Int)
      · rw [if_pos c2] at H
        have c2b0 : decide (x7_1 < (l0.length : Int)) = true := decide_eq_true c2
        clear c2
        by_cases c3 : 0 ≤ x7_1
        · rw [if_pos c3] at H
          have c3b0 : decide (0 ≤ x7_1) = true := decide_eq_true c3
          clear c3
          by_cases c4 : x7_1 < (l0.length : Int)
          · rw [if_pos c4] at H
            have c4b0 : decide (x7_1 < (l0.length : Int)) = true := decide_eq_true c4
            clear c4
            by_cases c5 : ((rdOf ByteArray.empty l0 x7_1).size : Int) > 65536
            · rw [if_pos c5] at H
              have c5b0 : decide (65536 < ((rdOf ByteArray.empty l0 x7_1).size : Int)) = true := decide_eq_true c5
              have c5b1 : decide (65536 < (rdOf ByteArray.empty l0 x7_1).size) = true := decide_eq_true (by omega)
              clear c5
              obtain rfl := Option.some.inj H
              have p134 : 0 ≤ (x7_1 : Int) := of_decide_eq_true (by first | (with_reducible assumption) | assumption)
              have q134 : x7_1 < (l0.length : Int) := of_decide_eq_true (by first | (with_reducible assumption) | assumption)
              obtain ⟨ad134, e134, hx134_0⟩ := Kd.at_string HR0.out x7_1 p134 q134
              cases e134
              replace p134 := eq_true p134
              replace q134 := eq_true q134
              go_wp2
              go_ret
              exact ⟨by first | rfl | (simp; done) | (simp [*]; done), by repeat (first | exact Drawn0.refl _ | apply Drawn0.step)⟩
            · rw [if_neg c5] at H
              have c5b0 : decide (65536 < ((rdOf ByteArray.empty l0 x7_1).size : Int)) = false := decide_eq_false c5
              have c5b1 : decide (65536 < (rdOf ByteArray.empty l0 x7_1).size) = false := decide_eq_false (by omega)
              clear c5
              have H' := Aside0.mk H
              clear H
              have p134 : 0 ≤ (x7_1 : Int) := of_decide_eq_true (by first | (with_reducible assumption) | assumption)
              have q134 : x7_1 < (l0.length : Int) := of_decide_eq_true (by first | (with_reducible assumption) | assumption)
              obtain ⟨ad134, e134, hx134_0⟩ := Kd.at_string HR0.out x7_1 p134 q134
              cases e134
              replace p134 := eq_true p134
              replace q134 := eq_true q134
              go_wp2
              go_roundg k1
              case measure => have := HK1.out; omega
              case rel => exact ⟨(wrap64 (x7_1 + 1)), (by first | rfl | (simp; done) | (simp [*]; done)), H', ⟨by have := HK1.out; omega⟩, by repeat (first | exact Drawn0.refl _ | apply Drawn0.step)⟩
          · rw [if_neg c4] at H
            exact absurd H (by simp)
        · rw [if_neg c3] at H
          exact absurd H (by simp)
      · rw [if_neg c2] at H
        have c2b0 : decide (x7_1 < (l0.length : Int)) = false := decide_eq_false c2
        clear c2
        obtain rfl := Option.some.inj H
        go_wp2
        go_ret
        exact ⟨by first | rfl | (simp; done) | (simp [*]; done), by repeat (first | exact Drawn0.refl _ | apply Drawn0.step)⟩

/-! ### impl_yfits: function 60 -/
def impl_yfits.f (a0 : Int) (a1 : Int) (a2 : Int) : Option (Bool) := if a1 ≥ 0 then (if a2 ≥ 0 then (if a1 ≤ a0 then (some (decide (a2 ≤ (wrap64 (a0 - a1))))) else (some false)) else (some false)) else (some false)
set_option maxHeartbeats 8000000 in
set_option maxRecDepth 100000 in
theorem impl_yfits.calls (a0 : Int) (a1 : Int) (a2 : Int) (r : Bool) (w : World) (h : impl_yfits.f a0 a1 a2 = some r) :
    Calls Try.prog 60 #[.int .i64 a0, .int .i64 a1, .int .i64 a2] w fun e w' => e = .returned (.bool r) ∧ Drawn0 w w' := by
  have H : (if a1 ≥ 0 then (if a2 ≥ 0 then (if a1 ≤ a0 then (some (decide (a2 ≤ (wrap64 (a0 - a1))))) else (some false)) else (some false)) else (some false)) = some r := h
  clear h
  by_cases c4 : a1 ≥ 0
  · rw [if_pos c4] at H
    have c4b0 : decide (0 ≤ a1) = true := decide_eq_true c4
    clear c4
    by_cases c5 : a2 ≥ 0
    · rw [if_pos c5] at H
      have c5b0 : decide (0 ≤ a2) = true := decide_eq_true c5
      clear c5
      by_cases c6 : a1 ≤ a0
      · rw [if_pos c6] at H
        have c6b0 : decide (a1 ≤ a0) = true := decide_eq_true c6
        clear c6
        obtain rfl := Option.some.inj H
        go_enter Try.func60, Try.ntmps60
        go_wp2
        go_ret
        exact ⟨by first | rfl | (simp; done) | (simp [*]; done), by repeat (first | exact Drawn0.refl _ | apply Drawn0.step)⟩
      · rw [if_neg c6] at H
        have c6b0 : decide (a1 ≤ a0) = false := decide_eq_false c6
        clear c6
        obtain rfl := Option.some.inj H
        go_enter Try.func60, Try.ntmps60
        go_wp2
        go_ret
        exact ⟨by first | rfl | (simp; done) | (simp [*]; done), by repeat (first | exact Drawn0.refl _ | apply Drawn0.step)⟩
    · rw [if_neg c5] at H
      have c5b0 : decide (0 ≤ a2) = false := decide_eq_false c5
      clear c5
      obtain rfl := Option.some.inj H
      go_enter Try.func60, Try.ntmps60
      go_wp2
      go_ret
      exact ⟨by first | rfl | (simp; done) | (simp [*]; done), by repeat (first | exact Drawn0.refl _ | apply Drawn0.step)⟩
  · rw [if_neg c4] at H
    have c4b0 : decide (0 ≤ a1) = false := decide_eq_false c4
    clear c4
    obtain rfl := Option.some.inj H
    go_enter Try.func60, Try.ntmps60
    go_wp2
    go_ret
    exact ⟨by first | rfl | (simp; done) | (simp [*]; done), by repeat (first | exact Drawn0.refl _ | apply Drawn0.step)⟩

/-! ### impl_ywordAt: function 77 -/
def impl_ywordAt.f (a0 : ByteArray) (a1 : Int) : Option (Int) := if 0 ≤ a1 then (if a1 < (a0.size : Int) then (if 0 ≤ (wrap64 (a1 + 1)) then (if (wrap64 (a1 + 1)) < (a0.size : Int) then (if 0 ≤ (wrap64 (a1 + 2)) then (if (wrap64 (a1 + 2)) < (a0.size : Int) then (if 0 ≤ (wrap64 (a1 + 3)) then (if (wrap64 (a1 + 3)) < (a0.size : Int) then (some (Go.bits .or .i64 (Go.bits .or .i64 (Go.bits .or .i64 (wrap64 (bt a0 a1)) (wrap64 ((wrap64 (bt a0 (wrap64 (a1 + 1)))) * 256))) (wrap64 ((wrap64 (bt a0 (wrap64 (a1 + 2)))) * 65536))) (wrap64 ((wrap64 (bt a0 (wrap64 (a1 + 3)))) * 16777216)))) else (none)) else (none)) else (none)) else (none)) else (none)) else (none)) else (none)) else (none)
set_option maxHeartbeats 8000000 in
set_option maxRecDepth 100000 in
theorem impl_ywordAt.calls (a0 : ByteArray) (a1 : Int) (r : Int) (w : World) (h : impl_ywordAt.f a0 a1 = some r) :
    Calls Try.prog 77 #[.string a0, .int .i64 a1] w fun e w' => e = .returned (.int .i64 r) ∧ Drawn0 w w' := by
  have H : (if 0 ≤ a1 then (if a1 < (a0.size : Int) then (if 0 ≤ (wrap64 (a1 + 1)) then (if (wrap64 (a1 + 1)) < (a0.size : Int) then (if 0 ≤ (wrap64 (a1 + 2)) then (if (wrap64 (a1 + 2)) < (a0.size : Int) then (if 0 ≤ (wrap64 (a1 + 3)) then (if (wrap64 (a1 + 3)) < (a0.size : Int) then (some (Go.bits .or .i64 (Go.bits .or .i64 (Go.bits .or .i64 (wrap64 (bt a0 a1)) (wrap64 ((wrap64 (bt a0 (wrap64 (a1 + 1)))) * 256))) (wrap64 ((wrap64 (bt a0 (wrap64 (a1 + 2)))) * 65536))) (wrap64 ((wrap64 (bt a0 (wrap64 (a1 + 3)))) * 16777216)))) else (none)) else (none)) else (none)) else (none)) else (none)) else (none)) else (none)) else (none)) = some r := h
  clear h
  by_cases c3 : 0 ≤ a1
  · rw [if_pos c3] at H
    have c3b0 : decide (0 ≤ a1) = true := decide_eq_true c3
    clear c3
    by_cases c4 : a1 < (a0.size : Int)
    · rw [if_pos c4] at H
      have c4b0 : decide (a1 < (a0.size : Int)) = true := decide_eq_true c4
      clear c4
      obtain ⟨ji6, hji6⟩ : ∃ j_ : Int, (wrap64 (a1 + 1)) = j_ := ⟨_, rfl⟩
      replace H : (if 0 ≤ (ji6) then (if (ji6) < (a0.size : Int) then (if 0 ≤ (wrap64 (a1 + 2)) then (if (wrap64 (a1 + 2)) < (a0.size : Int) then (if 0 ≤ (wrap64 (a1 + 3)) then (if (wrap64 (a1 + 3)) < (a0.size : Int) then (some (Go.bits .or .i64 (Go.bits .or .i64 (Go.bits .or .i64 (wrap64 (bt a0 a1)) (wrap64 ((wrap64 (bt a0 (ji6))) * 256))) (wrap64 ((wrap64 (bt a0 (wrap64 (a1 + 2)))) * 65536))) (wrap64 ((wrap64 (bt a0 (wrap64 (a1 + 3)))) * 16777216)))) else (none)) else (none)) else (none)) else (none)) else (none)) else (none)) = some r := by first | (rw [hji6] at H; exact H) | (simp only [hji6] at H ⊢; exact H)
      have hji6w : (IntKind.i64.wrap (a1 + 1)) = ji6 := (i64_w _).trans hji6
      by_cases c7 : 0 ≤ (ji6)
      · rw [if_pos c7] at H
        have c7b0 : decide (0 ≤ (ji6)) = true := decide_eq_true c7
        clear c7
        by_cases c8 : (ji6) < (a0.size : Int)
        · rw [if_pos c8] at H
          have c8b0 : decide ((ji6) < (a0.size : Int)) = true := decide_eq_true c8
          clear c8
          obtain ⟨ji10, hji10⟩ : ∃ j_ : Int, (wrap64 (a1 + 2)) = j_ := ⟨_, rfl⟩
          replace H : (if 0 ≤ (ji10) then (if (ji10) < (a0.size : Int) then (if 0 ≤ (wrap64 (a1 + 3)) then (if (wrap64 (a1 + 3)) < (a0.size : Int) then (some (Go.bits .or .i64 (Go.bits .or .i64 (Go.bits .or .i64 (wrap64 (bt a0 a1)) (wrap64 ((wrap64 (bt a0 (ji6))) * 256))) (wrap64 ((wrap64 (bt a0 (ji10))) * 65536))) (wrap64 ((wrap64 (bt a0 (wrap64 (a1 + 3)))) * 16777216)))) else (none)) else (none)) else (none)) else (none)) = some r := by first | (rw [hji10] at H; exact H) | (simp only [hji10] at H ⊢; exact H)
          have hji10w : (IntKind.i64.wrap (a1 + 2)) = ji10 := (i64_w _).trans hji10
          by_cases c11 : 0 ≤ (ji10)
          · rw [if_pos c11] at H
            have c11b0 : decide (0 ≤ (ji10)) = true := decide_eq_true c11
            clear c11
            by_cases c12 : (ji10) < (a0.size : Int)
            · rw [if_pos c12] at H
              have c12b0 : decide ((ji10) < (a0.size : Int)) = true := decide_eq_true c12
              clear c12
              obtain ⟨ji14, hji14⟩ : ∃ j_ : Int, (wrap64 (a1 + 3)) = j_ := ⟨_, rfl⟩
              replace H : (if 0 ≤ (ji14) then (if (ji14) < (a0.size : Int) then (some (Go.bits .or .i64 (Go.bits .or .i64 (Go.bits .or .i64 (wrap64 (bt a0 a1)) (wrap64 ((wrap64 (bt a0 (ji6))) * 256))) (wrap64 ((wrap64 (bt a0 (ji10))) * 65536))) (wrap64 ((wrap64 (bt a0 (ji14))) * 16777216)))) else (none)) else (none)) = some r := by first | (rw [hji14] at H; exact H) | (simp only [hji14] at H ⊢; exact H)
              have hji14w : (IntKind.i64.wrap (a1 + 3)) = ji14 := (i64_w _).trans hji14
              by_cases c15 : 0 ≤ (ji14)
              · rw [if_pos c15] at H
                have c15b0 : decide (0 ≤ (ji14)) = true := decide_eq_true c15
                clear c15
                by_cases c16 : (ji14) < (a0.size : Int)
                · rw [if_pos c16] at H
                  have c16b0 : decide ((ji14) < (a0.size : Int)) = true := decide_eq_true c16
                  clear c16
                  obtain rfl := Option.some.inj H
                  have p5 : 0 ≤ (a1 : Int) := of_decide_eq_true (by first | (with_reducible assumption) | assumption)
                  have q5 : a1 < (a0.size : Int) := of_decide_eq_true (by first | (with_reducible assumption) | assumption)
                  have hx5 := bt_at a0 a1
                  replace p5 := eq_true p5
                  replace q5 := eq_true q5
                  have p9 : 0 ≤ ((ji6) : Int) := of_decide_eq_true (by first | (with_reducible assumption) | assumption)
                  have q9 : (ji6) < (a0.size : Int) := of_decide_eq_true (by first | (with_reducible assumption) | assumption)
                  have hx9 := bt_at a0 (ji6)
                  replace p9 := eq_true p9
                  replace q9 := eq_true q9
                  have p13 : 0 ≤ ((ji10) : Int) := of_decide_eq_true (by first | (with_reducible assumption) | assumption)
                  have q13 : (ji10) < (a0.size : Int) := of_decide_eq_true (by first | (with_reducible assumption) | assumption)
                  have hx13 := bt_at a0 (ji10)
                  replace p13 := eq_true p13
                  replace q13 := eq_true q13
                  have p17 : 0 ≤ ((ji14) : Int) := of_decide_eq_true (by first | (with_reducible assumption) | assumption)
                  have q17 : (ji14) < (a0.size : Int) := of_decide_eq_true (by first | (with_reducible assumption) | assumption)
                  have hx17 := bt_at a0 (ji14)
                  replace p17 := eq_true p17
                  replace q17 := eq_true q17
                  go_enter Try.func77, Try.ntmps77
                  go_wp2
                  repeat (go_quiet (fail); try go_wp2)
                  go_ret
                  exact ⟨by first | rfl | (simp; done) | (simp only [← hji6, ← hji10, ← hji14] <;> (first | rfl | simp)) | (simp [*]; done), by repeat (first | exact Drawn0.refl _ | apply Drawn0.step)⟩
                · rw [if_neg c16] at H
                  exact absurd H (by simp)
              · rw [if_neg c15] at H
                exact absurd H (by simp)
            · rw [if_neg c12] at H
              exact absurd H (by simp)
          · rw [if_neg c11] at H
            exact absurd H (by simp)
        · rw [if_neg c8] at H
          exact absurd H (by simp)
      · rw [if_neg c7] at H
        exact absurd H (by simp)
    · rw [if_neg c4] at H
      exact absurd H (by simp)
  · rw [if_neg c3] at H
    exact absurd H (by simp)

end Go.Proofs.Ytofmibbadbmlfaa.QFnWords
