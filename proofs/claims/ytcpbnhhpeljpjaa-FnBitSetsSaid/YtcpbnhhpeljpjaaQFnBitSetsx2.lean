-- Written for this claim by this session's own driver (wip/xprint.py).
import Derived.Test.YtcpbnhhpeljpjaaQFnBitSetsx0
import Derived.Test.YtcpbnhhpeljpjaaQFnBitSetsx1
namespace Go.Proofs.Ytcpbnhhpeljpjaa.QFnBitSets
open Go.RowKit Go.Proofs.YtcpbnhhpeljpjaaW.PrintWords Go.Proofs.YtcpbnhhpeljpjaaW.PrintLast Go.Proofs.YtcpbnhhpeljpjaaW.PrintMore
attribute [local go_sem] max2_int min2_int max_two min_two max_three min_three max_four min_four   -- for this text's walks alone
set_option linter.unusedVariables false
set_option linter.unusedSimpArgs false

/-! ### spec_l01Src_n: function 39 -/
def srcShift1 (m : Int) : Int := Go.bits .xor .u64 m (IntKind.u64.wrap (m * 8192))
def srcShift2 (m : Int) : Int := Go.bits .xor .u64 m (m / 128)
def srcShift3 (m : Int) : Int := Go.bits .xor .u64 m (IntKind.u64.wrap (m * 131072))
def srcMix (m : Int) : Int := srcShift3 (srcShift2 (srcShift1 m))
def srcOut (v m a1 : Int) : Int := wrap64 (Int.tmod (IntKind.u64.wrap (v + m / 1048576)) (IntKind.u64.wrap a1))
def spec_l01Src_n.f (s0_0 : List Int) (s0_1 : Int) (s0_2 : Int) (s0_3 : Int) (a1 : Int) : Option (Int × Int × Int × Int) :=
  if a1 ≤ 1 then some (0, s0_1, s0_2, s0_3) else
  if IntKind.u64.wrap a1 = 0 then none else
  if s0_1 < (s0_0.length : Int) then (if 0 ≤ s0_1 then some (srcOut (IntKind.u64.wrap (rd s0_0 s0_1)) (srcMix s0_2) a1, wrap64 (s0_1 + 1), srcMix s0_2, s0_3) else none)
  else some (srcOut 0 (srcMix s0_2) a1, s0_1, srcMix s0_2, s0_3)
set_option maxHeartbeats 4000000 in
set_option maxRecDepth 100000 in
theorem spec_l01Src_n.calls (g : Nat) (s0_0 : List Int) (s0_1 : Int) (s0_2 : Int) (s0_3 : Int) (a1 : Int) (r1 : Int) (r2 : Int) (r3 : Int) (r4 : Int) (w0 w : World) (hI : IsS90 w0 w g s0_0 s0_1 s0_2 s0_3) (hB : Below w0.heap.size w0 w) (h : spec_l01Src_n.f s0_0 s0_1 s0_2 s0_3 a1 = some (r1, r2, r3, r4)) :
    Calls Try.prog 39 #[.pointer (some ⟨g, 0, none⟩), .int .i64 a1] w fun e w' => e = .returned (.int .i64 r1) ∧ IsS90 w0 w' g s0_0 r2 r3 r4 ∧ Below w0.heap.size w0 w' ∧ KeepBut w w' g none := by
  unfold spec_l01Src_n.f at h
  by_cases c1 : a1 ≤ 1
  · rw [if_pos c1] at h
    have c1b : decide (a1 ≤ 1) = true := decide_eq_true c1
    simp only [Option.some.injEq, Prod.mk.injEq] at h
    obtain ⟨rfl, rfl, rfl, rfl⟩ := h
    clear c1
    have HI := Aside0.mk hI
    clear hI
    go_enter Try.func39, Try.ntmps39
    go_wp2
    go_ret
    exact ⟨rfl, HI.out, hB, KeepBut.refl _ _ _⟩
  · rw [if_neg c1] at h
    have c1b : decide (a1 ≤ 1) = false := decide_eq_false c1
    by_cases c9 : IntKind.u64.wrap a1 = 0
    · rw [if_pos c9] at h
      exact absurd h (by simp)
    · rw [if_neg c9] at h
      have c9b : (IntKind.u64.wrap a1 == 0) = false := beq_eq_false_iff_ne.mpr c9
      have HI := Aside0.mk hI
      have HB := Aside0.mk hB
      obtain ⟨A0, c0, hb, hg, hr0⟩ := hI
      have HR := Aside0.mk hr0
      have hlt := blk_lt hb
      have f0 := cellS90_0 hb
      have f1 := cellS90_1 hb
      have f2 := cellS90_2 hb
      have fz1 : w.frozen? ⟨g, 1, none⟩ = false := blk_frozen hb 1
      have fz2 : w.frozen? ⟨g, 2, none⟩ = false := blk_frozen hb 2
      have hS : srcMix s0_2 = srcShift3 (srcShift2 (srcShift1 s0_2)) := rfl
      obtain ⟨m1, hm1⟩ : ∃ m, srcShift1 s0_2 = m := ⟨_, rfl⟩
      rw [hm1] at hS
      obtain ⟨m2, hm2⟩ : ∃ m, srcShift2 m1 = m := ⟨_, rfl⟩
      rw [hm2] at hS
      obtain ⟨m3, hm3⟩ : ∃ m, srcShift3 m2 = m := ⟨_, rfl⟩
      rw [hm3] at hS
      rw [hS] at h
      clear hS
      unfold srcShift1 at hm1
      unfold srcShift2 at hm2
      unfold srcShift3 at hm3
      by_cases c2 : s0_1 < (s0_0.length : Int)
      · rw [if_pos c2] at h
        by_cases c3 : 0 ≤ s0_1
        · rw [if_pos c3] at h
          have c2b : decide (s0_1 < (s0_0.length : Int)) = true := decide_eq_true c2
          simp only [Option.some.injEq, Prod.mk.injEq] at h
          obtain ⟨rfl, rfl, rfl, rfl⟩ := h
          obtain ⟨ad, e_, hx⟩ := Kd.at_int HR.out s0_1 c3 c2
          cases e_
          replace hx := pw_cell_below HB.out hx
          have c3b := eq_true c3
          have c2c := eq_true c2
          obtain ⟨x, hxx⟩ : ∃ x, rd s0_0 s0_1 = x := ⟨_, rfl⟩
          rw [hxx] at hx ⊢
          clear hxx
          have HX := Aside0.mk (Eq.refl (srcOut (IntKind.u64.wrap x) m3 a1))
          have e0 : (w.setCell ⟨g, 1, none⟩ (.int .i64 (wrap64 (s0_1 + 1)))).cell? ⟨g, 2, none⟩ = some (.int .u64 s0_2) := (World.cell?_setCell_other w _ _ _ (by simp)).trans f2
          have e1 : ((w.setCell ⟨g, 1, none⟩ (.int .i64 (wrap64 (s0_1 + 1)))).setCell ⟨g, 2, none⟩ (.int .u64 m1)).cell? ⟨g, 2, none⟩ = some (.int .u64 m1) := World.cell?_setCell_same _ _ _ e0
          have e2 : (((w.setCell ⟨g, 1, none⟩ (.int .i64 (wrap64 (s0_1 + 1)))).setCell ⟨g, 2, none⟩ (.int .u64 m1)).setCell ⟨g, 2, none⟩ (.int .u64 m2)).cell? ⟨g, 2, none⟩ = some (.int .u64 m2) := World.cell?_setCell_same _ _ _ e1
          have e3 : ((((w.setCell ⟨g, 1, none⟩ (.int .i64 (wrap64 (s0_1 + 1)))).setCell ⟨g, 2, none⟩ (.int .u64 m1)).setCell ⟨g, 2, none⟩ (.int .u64 m2)).setCell ⟨g, 2, none⟩ (.int .u64 m3)).cell? ⟨g, 2, none⟩ = some (.int .u64 m3) := World.cell?_setCell_same _ _ _ e2
          clear hB hb hr0 c1 c2 c3
          go_enter Try.func39, Try.ntmps39
          go_wp2
          go_region
          go_wp2
          go_region
          go_wp2
          go_region
          go_wp2
          go_region
          go_wp2
          go_region
          go_wp2
          go_ret
          exact ⟨by first | rfl | (unfold srcOut; rfl) | (unfold srcOut; simp), by repeat (first | (with_reducible first | exact HI.out | apply IsS90.drew | apply IsS90.set_1 | apply IsS90.set_2) | exact HI.out), by repeat (first | (with_reducible first | exact HB.out | apply below_drew1 | refine below_set ?_ (IsS90.ge HI.out)) | exact HB.out), by repeat (first | (with_reducible first | exact KeepBut.refl _ _ _ | apply KeepBut.set_ | apply keep_drew) | exact KeepBut.refl _ _ _)⟩
        · rw [if_neg c3] at h
          exact absurd h (by simp)
      · rw [if_neg c2] at h
        have c2b : decide (s0_1 < (s0_0.length : Int)) = false := decide_eq_false c2
        simp only [Option.some.injEq, Prod.mk.injEq] at h
        obtain ⟨rfl, rfl, rfl, rfl⟩ := h
        have e1 : (w.setCell ⟨g, 2, none⟩ (.int .u64 m1)).cell? ⟨g, 2, none⟩ = some (.int .u64 m1) := World.cell?_setCell_same _ _ _ f2
        have e2 : ((w.setCell ⟨g, 2, none⟩ (.int .u64 m1)).setCell ⟨g, 2, none⟩ (.int .u64 m2)).cell? ⟨g, 2, none⟩ = some (.int .u64 m2) := World.cell?_setCell_same _ _ _ e1
        have e3 : (((w.setCell ⟨g, 2, none⟩ (.int .u64 m1)).setCell ⟨g, 2, none⟩ (.int .u64 m2)).setCell ⟨g, 2, none⟩ (.int .u64 m3)).cell? ⟨g, 2, none⟩ = some (.int .u64 m3) := World.cell?_setCell_same _ _ _ e2
        clear hB hb hr0 c2 c1
        go_enter Try.func39, Try.ntmps39
        go_wp2
        go_region
        go_wp2
        go_region
        go_wp2
        go_region
        go_wp2
        go_region
        go_wp2
        go_ret
        exact ⟨by first | rfl | (unfold srcOut; rfl) | (unfold srcOut; simp), by repeat (first | (with_reducible first | exact HI.out | apply IsS90.drew | apply IsS90.set_1 | apply IsS90.set_2) | exact HI.out), by repeat (first | (with_reducible first | exact HB.out | apply below_drew1 | refine below_set ?_ (IsS90.ge HI.out)) | exact HB.out), by repeat (first | (with_reducible first | exact KeepBut.refl _ _ _ | apply KeepBut.set_ | apply keep_drew) | exact KeepBut.refl _ _ _)⟩

/-! ### spec_l01Src_one: function 40 -/
def spec_l01Src_one.f (s0_0 : List Int) (s0_1 : Int) (s0_2 : Int) (s0_3 : Int) (a1 : Int) : Option (Bool × Int × Int × Int) := (spec_l01Src_n.f s0_0 s0_1 s0_2 s0_3 a1).bind fun bt107 => (some ((bt107.1 == 0), bt107.2.1, bt107.2.2.1, bt107.2.2.2))
set_option maxHeartbeats 8000000 in
set_option maxRecDepth 100000 in
theorem spec_l01Src_one.calls (g : Nat) (s0_0 : List Int) (s0_1 : Int) (s0_2 : Int) (s0_3 : Int) (a1 : Int) (r1 : Bool) (r2 : Int) (r3 : Int) (r4 : Int) (w0 w : World) (hI : IsS90 w0 w g s0_0 s0_1 s0_2 s0_3) (hB : Below w0.heap.size w0 w) (h : spec_l01Src_one.f s0_0 s0_1 s0_2 s0_3 a1 = some (r1, r2, r3, r4)) :
    Calls Try.prog 40 #[.pointer (some ⟨g, 0, none⟩), .int .i64 a1] w fun e w' => e = .returned (.bool r1) ∧ IsS90 w0 w' g s0_0 r2 r3 r4 ∧ Below w0.heap.size w0 w' ∧ KeepBut w w' g none := by
  have HI0 := Aside0.mk hI
  have HK := Aside0.mk (KeepBut.refl w g none)
  have HL := Aside0.mk hB.size
  clear hI
  have HW0 := Aside0.mk hB.size
  have HB := Aside0.mk hB
  clear hB
  have H : ((spec_l01Src_n.f s0_0 s0_1 s0_2 s0_3 a1).bind fun bt107 => (some ((bt107.1 == 0), bt107.2.1, bt107.2.2.1, bt107.2.2.2))) = some (r1, r2, r3, r4) := h
  clear h
  replace H := Option.bind_eq_some_iff.mp H
  obtain ⟨⟨t107, t108, t109, t110⟩, A30, H⟩ := H
  replace H : (some ((t107 == 0), t108, t109, t110)) = some (r1, r2, r3, r4) := H
  have A3 := Aside0.mk A30
  clear A30
  simp only [Option.some.injEq, Prod.mk.injEq] at H
  obtain ⟨rfl, rfl, rfl, rfl⟩ := H
  go_enter Try.func40, Try.ntmps40
  go_wp2_with (first | ((with_reducible refine gate_callee (f := 39) rfl ?_); refine goesL_ (some 7) rfl rfl Try.func39 (by kernel_rfl) rfl #[.pointer (some ⟨g, 0, none⟩), .int .i64 a1] rfl (by (try simp only [List.map_toArray, List.map_cons, List.map_nil]); first | done | rfl | (simp only [List.length_drop, List.length_take]; rfl)) ?_; (with_reducible refine (spec_l01Src_n.calls g s0_0 s0_1 s0_2 s0_3 a1 t107 t108 t109 t110 w0 _ ?side1 ?side2 A3.out).mono ?_); (case side1 => repeat (first | (with_reducible first | exact HI0.out | apply IsS90.alloc | apply IsS90.drewN | apply IsS90.drew | apply IsS90.set_1 | apply IsS90.set_2 | apply IsS90.set_3) | exact HI0.out)); (case side2 => repeat (first | (with_reducible first | exact HB.out | apply below_alloc | apply pw_below_drewN | apply below_drew1 | refine below_set ?_ (IsS90.ge HI0.out)) | exact HB.out)); rintro e w4 ⟨rfl, hi, hb, hk⟩; refine ⟨_, rfl, ?_⟩; have n0_ := Aside0.mk (KeepBut.trans (by repeat (first | (with_reducible first | exact HK.out | apply KeepBut.set_ | apply keep_drewN | apply keep_drew | apply keep_alloc) | exact HK.out)) hk (.inl rfl)); have n1_ := Aside0.mk (hb); have n2_ := Aside0.mk (hi); clear HK; clear HB; clear HI0; have HK := n0_; have HB := n1_; have HI0 := n2_; clear n0_ n1_ n2_; (try clear hb); (try clear hb2); (try clear hk); (try clear hi)))
  go_ret
  exact ⟨by first | rfl | (simp [errW_none, errW_some] <;> rfl) | (simp [*, errW_none, errW_some] <;> rfl), by repeat (first | (with_reducible first | exact HI0.out | apply IsS90.alloc | apply IsS90.drewN | apply IsS90.drew | apply IsS90.set_1 | apply IsS90.set_2 | apply IsS90.set_3) | exact HI0.out), by repeat (first | (with_reducible first | exact HB.out | apply below_alloc | apply pw_below_drewN | apply below_drew1 | refine below_set ?_ (IsS90.ge HI0.out)) | exact HB.out), by repeat (first | (with_reducible first | exact HK.out | apply KeepBut.set_ | apply keep_drewN | apply keep_drew | apply keep_alloc) | exact HK.out)⟩

/-! ### spec_l01Src_bytes: function 52 -/
def spec_l01Src_bytes.l0 : Nat → Int → List Int → Int → List Int → Int → Int → Int → Option (ByteArray × Int × Int × Int)
  | 0, _, _, _, _, _, _, _ => none
  | k + 1, x1, x5, x6, x1000, x1001, x1002, x1003 => if x6 < x1 then ((spec_l01Src_n.f x1000 x1001 x1002 x1003 256).bind fun bt114 => (if x5.length < 140737488355328 then (spec_l01Src_bytes.l0 k x1 (x5 ++ [(bt114.1) % 256]) (wrap64 (x6 + 1)) x1000 bt114.2.1 bt114.2.2.1 bt114.2.2.2) else (none))) else (some (strOfNums x5, x1001, x1002, x1003))
def spec_l01Src_bytes.f (k : Nat) (s0_0 : List Int) (s0_1 : Int) (s0_2 : Int) (s0_3 : Int) (a1 : Int) : Option (ByteArray × Int × Int × Int) := spec_l01Src_bytes.l0 k a1 (([] : List Int)) 0 s0_0 s0_1 s0_2 s0_3
theorem spec_l01Src_bytes.mono_l : ∀ k, (∀ y0 y1 y2 y3 y4 y5 y6, LeO (spec_l01Src_bytes.l0 k y0 y1 y2 y3 y4 y5 y6) (spec_l01Src_bytes.l0 (k + 1) y0 y1 y2 y3 y4 y5 y6))
  | 0 => fun _ _ _ _ _ _ _ r h => by simp [spec_l01Src_bytes.l0] at h
  | k + 1 => by
    have ih0 := spec_l01Src_bytes.mono_l k
    · intro y0 y1 y2 y3 y4 y5 y6
      unfold spec_l01Src_bytes.l0
      repeat' first
      | (with_reducible exact ih0 _ _ _ _ _ _ _)
      | (with_reducible exact LeO.refl _)
      | (with_reducible exact LeO.none _)
      | (with_reducible refine LeO.ite ?_ ?_)
      | (with_reducible refine LeO.bind ?_ (fun _ => ?_))
      | exact ih0 _ _ _ _ _ _ _
      | exact LeO.none _
      | refine LeO.ite ?_ ?_
      | refine LeO.bind ?_ (fun _ => ?_)
theorem spec_l01Src_bytes.mono : ∀ a0 a1 a2 a3 a4 k, LeO (spec_l01Src_bytes.f k a0 a1 a2 a3 a4) (spec_l01Src_bytes.f (k + 1) a0 a1 a2 a3 a4) := by
  intro a0 a1 a2 a3 a4 k
  have ih0 := spec_l01Src_bytes.mono_l k
  unfold spec_l01Src_bytes.f
  repeat' first
      | (with_reducible exact ih0 _ _ _ _ _ _ _)
      | (with_reducible exact LeO.refl _)
      | (with_reducible exact LeO.none _)
      | (with_reducible refine LeO.ite ?_ ?_)
      | (with_reducible refine LeO.bind ?_ (fun _ => ?_))
      | exact ih0 _ _ _ _ _ _ _
      | exact LeO.none _
      | refine LeO.ite ?_ ?_
      | refine LeO.bind ?_ (fun _ => ?_)
set_option maxHeartbeats 8000000 in
set_option maxRecDepth 100000 in
theorem spec_l01Src_bytes.calls (k : Nat) (g : Nat) (s0_0 : List Int) (s0_1 : Int) (s0_2 : Int) (s0_3 : Int) (a1 : Int) (r1 : ByteArray) (r2 : Int) (r3 : Int) (r4 : Int) (w0 w : World) (hI : IsS90 w0 w g s0_0 s0_1 s0_2 s0_3) (hB : Below w0.heap.size w0 w) (h : spec_l01Src_bytes.f k s0_0 s0_1 s0_2 s0_3 a1 = some (r1, r2, r3, r4)) :
    Calls Try.prog 52 #[.pointer (some ⟨g, 0, none⟩), .int .i64 a1] w fun e w' => e = .returned (.string r1) ∧ IsS90 w0 w' g s0_0 r2 r3 r4 ∧ Below w0.heap.size w0 w' ∧ KeepBut w w' g none := by
  have HI0 := Aside0.mk hI
  have HK := Aside0.mk (KeepBut.refl w g none)
  have HL := Aside0.mk hB.size
  clear hI
  have HW0 := Aside0.mk hB.size
  have HB := Aside0.mk hB
  clear hB
  have H : (spec_l01Src_bytes.l0 k a1 (([] : List Int)) 0 s0_0 s0_1 s0_2 s0_3) = some (r1, r2, r3, r4) := h
  clear h
  obtain ⟨y111, hy111⟩ : ∃ y_ : List Int, y_ = (([] : List Int)) := ⟨_, rfl⟩
  replace H : (spec_l01Src_bytes.l0 k a1 y111 0 s0_0 s0_1 s0_2 s0_3) = some (r1, r2, r3, r4) := by first | (rw [hy111]; with_reducible exact H) | (have H2_ := (Option.bind_some _ _).symm.trans H; rw [hy111]; with_reducible exact H2_) | (have H2_ := (Option.bind_some _ _).symm.trans H; with_reducible exact H2_) | with_reducible exact H | (rw [hy111]; exact H) | exact H
  have Ny111 := Aside0.mk hy111
  clear hy111
  have H' := Aside0.mk H
  clear H
  go_enter Try.func52, Try.ntmps52
  go_wp2_with (first | ((with_reducible refine gate_dst (N := 7) rfl ?_); refine Kd.R_lit (Kd.int .u8) _ 5 ?hg (N := 7) ?hd (xs := ([] : List Int)) (inner := []) (ok := fun _ => True) (okp := fun _ => True) ?hr ?hp (fun _ hk => hk) trivial (Below.refl _ _) (Nat.le_refl _) (by simp) ?_; (case hd => rfl); (case hg => rfl); (case hr => first | (go_simp; done) | (go_simp; rfl)); (case hp => exact (Reps.none _ _)); intro v112 w3 ho4 hb hg_ hnew_; clear hg_ hnew_; (first | rw [← Ny111.out] at ho4 | (simp only [Int.reduceToNat] at ho4; rw [← Ny111.out] at ho4)); have n0_ := Aside0.mk (Kd.R_lower ho4 (keep_size (w := w) (g := g) (row := none) (by repeat (first | (with_reducible first | exact HK.out | apply KeepBut.set_ | apply keep_drewN | apply keep_drew | apply keep_alloc) | exact HK.out)))); have n1_ := Aside0.mk (IsS90.below (by repeat (first | (with_reducible first | exact HI0.out | apply IsS90.alloc | apply IsS90.drewN | apply IsS90.drew | apply IsS90.set_1 | apply IsS90.set_2 | apply IsS90.set_3) | exact HI0.out)) hb); have n2_ := Aside0.mk (KeepBut.trans (by repeat (first | (with_reducible first | exact HK.out | apply KeepBut.set_ | apply keep_drewN | apply keep_drew | apply keep_alloc) | exact HK.out)) (KeepBut.of_below hb g none) (.inl rfl)); have n3_ := Aside0.mk (below_step (by repeat (first | (with_reducible first | exact HB.out | apply below_alloc | apply pw_below_drewN | apply below_drew1 | refine below_set ?_ (IsS90.ge HI0.out)) | exact HB.out)) hb); clear HI0; clear HK; clear HB; have HO113 := n0_; have HI0 := n1_; have HK := n2_; have HB := n3_; clear n0_ n1_ n2_ n3_; clear hb ho4))
  go_loopg [5, 6] k (fun kq v5 v6 w' => ∃ (x5_1 : List Int) (x6_1 : Int) (x1001_1 : Int) (x1002_1 : Int) (x1003_1 : Int), v6 = .int .i64 x6_1 ∧ Aside0 (spec_l01Src_bytes.l0 kq a1 x5_1 x6_1 s0_0 x1001_1 x1002_1 x1003_1 = some (r1, r2, r3, r4)) ∧ Aside0 (kq ≤ k) ∧ Aside0 (Kd.R (Kd.int .u8) 5 w' w.heap.size (fun _ => True) v5 x5_1) ∧ Aside0 (IsS90 w0 w' g s0_0 x1001_1 x1002_1 x1003_1) ∧ Aside0 (KeepBut w w' g none) ∧ Aside0 (Below w0.heap.size w0 w'))
  case atStart => exact ⟨(y111), (0), (s0_1), (s0_2), (s0_3), (by first | rfl | (simp; done) | (simp [*]; done)), H', ⟨Nat.le_refl _⟩, ⟨by (with_reducible repeat (first | apply Kd.R_alloc | apply Kd.R_drewN | apply Kd.R_drew)); exact HO113.out⟩, ⟨by repeat (first | (with_reducible first | exact HI0.out | apply IsS90.alloc | apply IsS90.drewN | apply IsS90.drew | apply IsS90.set_1 | apply IsS90.set_2 | apply IsS90.set_3) | exact HI0.out)⟩, ⟨by repeat (first | (with_reducible first | exact HK.out | apply KeepBut.set_ | apply keep_drewN | apply keep_drew | apply keep_alloc) | exact HK.out)⟩, ⟨by repeat (first | (with_reducible first | exact HB.out | apply below_alloc | apply pw_below_drewN | apply below_drew1 | refine below_set ?_ (IsS90.ge HI0.out)) | exact HB.out)⟩⟩
  case round =>
    clear H'
    try clear p2
    obtain ⟨x5_1, x6_1, x1001_1, x1002_1, x1003_1, rfl, HA, HK1, HO_5, HI0, HK, HB⟩ := hrel
    cases gk with
    | zero => exact absurd HA.out (by simp [spec_l01Src_bytes.l0])
    | succ k1 =>
      have H := HA.out
      clear HA
      simp only [spec_l01Src_bytes.l0] at H
      by_cases c5 : x6_1 < a1
      · rw [if_pos c5] at H
        have c5b0 : decide (x6_1 < a1) = true := decide_eq_true c5
        clear c5
        replace H := Option.bind_eq_some_iff.mp H
        obtain ⟨⟨t114, t115, t116, t117⟩, A60, H⟩ := H
        replace H : (if x5_1.length < 140737488355328 then (spec_l01Src_bytes.l0 k1 a1 (x5_1 ++ [(t114) % 256]) (wrap64 (x6_1 + 1)) s0_0 t115 t116 t117) else (none)) = some (r1, r2, r3, r4) := H
        have A6 := Aside0.mk A60
        clear A60
        by_cases c7 : x5_1.length < 140737488355328
        · rw [if_pos c7] at H
          have LMc7 := Aside0.mk c7
          clear c7
          obtain ⟨y118, hy118⟩ : ∃ y_ : List Int, y_ = (x5_1 ++ [(t114) % 256]) := ⟨_, rfl⟩
          replace H : (spec_l01Src_bytes.l0 k1 a1 y118 (wrap64 (x6_1 + 1)) s0_0 t115 t116 t117) = some (r1, r2, r3, r4) := by first | (rw [hy118]; with_reducible exact H) | (have H2_ := (Option.bind_some _ _).symm.trans H; rw [hy118]; with_reducible exact H2_) | (have H2_ := (Option.bind_some _ _).symm.trans H; with_reducible exact H2_) | with_reducible exact H | (rw [hy118]; exact H) | exact H
          have Ny118 := Aside0.mk hy118
          clear hy118
          have H' := Aside0.mk H
          clear H
          go_wp2_with (first | ((with_reducible refine gate_callee (f := 39) rfl ?_); refine goesL_ (some 15) rfl rfl Try.func39 (by kernel_rfl) rfl #[.pointer (some ⟨g, 0, none⟩), .int .i64 256] rfl (by (try simp only [List.map_toArray, List.map_cons, List.map_nil]); first | done | rfl | (simp only [List.length_drop, List.length_take]; rfl)) ?_; (with_reducible refine (spec_l01Src_n.calls g s0_0 x1001_1 x1002_1 x1003_1 256 t114 t115 t116 t117 w0 _ ?side1 ?side2 A6.out).mono ?_); (case side1 => repeat (first | (with_reducible first | exact HI0.out | apply IsS90.alloc | apply IsS90.drewN | apply IsS90.drew | apply IsS90.set_1 | apply IsS90.set_2 | apply IsS90.set_3) | exact HI0.out)); (case side2 => repeat (first | (with_reducible first | exact HB.out | apply below_alloc | apply pw_below_drewN | apply below_drew1 | refine below_set ?_ (IsS90.ge HI0.out)) | exact HB.out)); rintro e w8 ⟨rfl, hi, hb, hk⟩; refine ⟨_, rfl, ?_⟩; have n0_ := Aside0.mk (Kd.R_mono (Kd.R_keep (IsS90.apart (show IsS90 w0 _ g s0_0 x1001_1 x1002_1 x1003_1 from by repeat (first | (with_reducible first | exact HI0.out | apply IsS90.alloc | apply IsS90.drewN | apply IsS90.drew | apply IsS90.set_1 | apply IsS90.set_2 | apply IsS90.set_3) | exact HI0.out)) (by (with_reducible repeat (first | apply Kd.R_alloc | apply Kd.R_drewN | apply Kd.R_drew)); exact HO_5.out) (by decide)) hk (fun _ h => h.2)) (fun _ h => h.1)); have n1_ := Aside0.mk (KeepBut.trans (by repeat (first | (with_reducible first | exact HK.out | apply KeepBut.set_ | apply keep_drewN | apply keep_drew | apply keep_alloc) | exact HK.out)) hk (.inl rfl)); have n2_ := Aside0.mk (hb); have n3_ := Aside0.mk (hi); clear HO_5; clear HK; clear HB; clear HI0; have HO_5 := n0_; have HK := n1_; have HB := n2_; have HI0 := n3_; clear n0_ n1_ n2_ n3_; (try clear hb); (try clear hb2); (try clear hk); (try clear hi)) | ((with_reducible refine gate_builtin (b := .append) (xs := #[.tmp 13, .tmp 17]) rfl ?_); at_builtin; refine Kd.R_append (Kd.int .u8) w.heap.size rfl (.tmp 13) (.tmp 17) 38 5 (.int .u8 0) 1 rfl Try.underlying38 info5 rfl (by decide) (by omega) u5 x5_1 ((t114) % 256) [.int .u8 ((t114) % 256)] (fun _ => True) (fun _ => False) rfl rfl ?aP (fun _ hk => hk.elim) ?aF ?aO (Below.refl _ _) ?aS ?aL ?_; (case aP => exact rfl); (case aF => exact (fun _ _ => trivial)); (case aO => exact (by (with_reducible repeat (first | apply Kd.R_alloc | apply Kd.R_drewN | apply Kd.R_drew)); exact HO_5.out)); (case aS => exact (keep_size (w := w) (g := g) (row := none) (by repeat (first | (with_reducible first | exact HK.out | apply KeepBut.set_ | apply keep_drewN | apply keep_drew | apply keep_alloc) | exact HK.out)))); (case aL => have := LMc7.out; omega); intro v119 w9 ho hb hg hat; rw [← Ny118.out] at ho; have n0_ := Aside0.mk (IsS90.grown (by repeat (first | (with_reducible first | exact HI0.out | apply IsS90.alloc | apply IsS90.drewN | apply IsS90.drew | apply IsS90.set_1 | apply IsS90.set_2 | apply IsS90.set_3) | exact HI0.out)) hg (IsS90.own_ne HI0.out HO_5.out (by decide))); have n1_ := Aside0.mk (below_weaken (by repeat (first | (with_reducible first | exact HB.out | apply below_alloc | apply pw_below_drewN | apply below_drew1 | refine below_set ?_ (IsS90.ge HI0.out)) | exact HB.out)) HL.out hb); have n2_ := Aside0.mk (KeepBut.trans (by repeat (first | (with_reducible first | exact HK.out | apply KeepBut.set_ | apply keep_drewN | apply keep_drew | apply keep_alloc) | exact HK.out)) (KeepBut.of_grown hg g) (Kd.R_base2 HO_5.out)); have n3_ := Aside0.mk (ho); clear HI0; clear HB; clear HK; clear HO_5; have HI0 := n0_; have HB := n1_; have HK := n2_; have HO120 := n3_; clear n0_ n1_ n2_ n3_; clear ho hb hg hat))
          go_roundg k1
          case measure => have := HK1.out; omega
          case rel => exact ⟨(y118), (wrap64 (x6_1 + 1)), (t115), (t116), (t117), (by first | rfl | (simp; done) | (simp [*]; done)), H', ⟨by have := HK1.out; omega⟩, ⟨by (with_reducible repeat (first | apply Kd.R_alloc | apply Kd.R_drewN | apply Kd.R_drew)); exact HO120.out⟩, ⟨by repeat (first | (with_reducible first | exact HI0.out | apply IsS90.alloc | apply IsS90.drewN | apply IsS90.drew | apply IsS90.set_1 | apply IsS90.set_2 | apply IsS90.set_3) | exact HI0.out)⟩, ⟨by repeat (first | (with_reducible first | exact HK.out | apply KeepBut.set_ | apply keep_drewN | apply keep_drew | apply keep_alloc) | exact HK.out)⟩, ⟨by repeat (first | (with_reducible first | exact HB.out | apply below_alloc | apply pw_below_drewN | apply below_drew1 | refine below_set ?_ (IsS90.ge HI0.out)) | exact HB.out)⟩⟩
        · rw [if_neg c7] at H
          exact absurd H (by simp)
      · rw [if_neg c5] at H
        have c5b0 : decide (x6_1 < a1) = false := decide_eq_false c5
        clear c5
        simp only [Option.some.injEq, Prod.mk.injEq] at H
        obtain ⟨rfl, rfl, rfl, rfl⟩ := H
        have hcv10 := own_string (P := Try.prog) Try.underlying38 Try.underlying5 Try.underlying9 (Kd.own_of_R HO_5.out)
        go_wp2
        go_ret
        exact ⟨by first | rfl | (simp [errW_none, errW_some] <;> rfl) | (simp [*, errW_none, errW_some] <;> rfl), by repeat (first | (with_reducible first | exact HI0.out | apply IsS90.alloc | apply IsS90.drewN | apply IsS90.drew | apply IsS90.set_1 | apply IsS90.set_2 | apply IsS90.set_3) | exact HI0.out), by repeat (first | (with_reducible first | exact HB.out | apply below_alloc | apply pw_below_drewN | apply below_drew1 | refine below_set ?_ (IsS90.ge HI0.out)) | exact HB.out), by repeat (first | (with_reducible first | exact HK.out | apply KeepBut.set_ | apply keep_drewN | apply keep_drew | apply keep_alloc) | exact HK.out)⟩

/-! ### spec_l01Src_zeros: function 53 -/
def spec_l01Src_zeros.f (s0_0 : List Int) (s0_1 : Int) (s0_2 : Int) (s0_3 : Int) (a1 : Int) : Option (ByteArray × Int × Int × Int) := if 0 ≤ a1 then (if (a1 : Int).toNat ≤ 281474976710656 then (some (strOfNums (List.replicate (a1 : Int).toNat 0), s0_1, s0_2, s0_3)) else (none)) else (none)
set_option maxHeartbeats 8000000 in
set_option maxRecDepth 100000 in
theorem spec_l01Src_zeros.calls (g : Nat) (s0_0 : List Int) (s0_1 : Int) (s0_2 : Int) (s0_3 : Int) (a1 : Int) (r1 : ByteArray) (r2 : Int) (r3 : Int) (r4 : Int) (w0 w : World) (hI : IsS90 w0 w g s0_0 s0_1 s0_2 s0_3) (hB : Below w0.heap.size w0 w) (h : spec_l01Src_zeros.f s0_0 s0_1 s0_2 s0_3 a1 = some (r1, r2, r3, r4)) :
    Calls Try.prog 53 #[.pointer (some ⟨g, 0, none⟩), .int .i64 a1] w fun e w' => e = .returned (.string r1) ∧ IsS90 w0 w' g s0_0 r2 r3 r4 ∧ Below w0.heap.size w0 w' ∧ KeepBut w w' g none := by
  have HI0 := Aside0.mk hI
  have HK := Aside0.mk (KeepBut.refl w g none)
  have HL := Aside0.mk hB.size
  clear hI
  have HW0 := Aside0.mk hB.size
  have HB := Aside0.mk hB
  clear hB
  have H : (if 0 ≤ a1 then (if (a1 : Int).toNat ≤ 281474976710656 then (some (strOfNums (List.replicate (a1 : Int).toNat 0), s0_1, s0_2, s0_3)) else (none)) else (none)) = some (r1, r2, r3, r4) := h
  clear h
  by_cases c3 : 0 ≤ a1
  · rw [if_pos c3] at H
    have c3b0 := eq_true c3
    have c3b1 : decide (0 ≤ a1) = true := decide_eq_true c3
    clear c3
    by_cases c4 : (a1 : Int).toNat ≤ 281474976710656
    · rw [if_pos c4] at H
      have c4b0 := eq_true c4
      have c4b1 : decide ((a1 : Int).toNat ≤ 281474976710656) = true := decide_eq_true c4
      clear c4
      obtain ⟨y121, hy121⟩ : ∃ y_ : List Int, y_ = (List.replicate (a1 : Int).toNat 0) := ⟨_, rfl⟩
      replace H : (some (strOfNums y121, s0_1, s0_2, s0_3)) = some (r1, r2, r3, r4) := by first | (rw [hy121]; with_reducible exact H) | (have H2_ := (Option.bind_some _ _).symm.trans H; rw [hy121]; with_reducible exact H2_) | (have H2_ := (Option.bind_some _ _).symm.trans H; with_reducible exact H2_) | with_reducible exact H | (rw [hy121]; exact H) | exact H
      have Ny121 := Aside0.mk hy121
      clear hy121
      simp only [Option.some.injEq, Prod.mk.injEq] at H
      obtain ⟨rfl, rfl, rfl, rfl⟩ := H
      go_enter Try.func53, Try.ntmps53
      go_wp2_with (first | ((with_reducible refine gate_dst (N := 6) rfl ?_); refine Kd.R_make (Kd.int .u8) _ 5 rfl (N := 6) rfl 38 _ _ rfl a1 rfl rfl Try.underlying38 (.int .u8 0) 1 info5 rfl (by decide) (by omega) 0 (ok := fun _ => True) (okp := fun _ => True) rfl (fun _ hk => hk) trivial (of_decide_eq_true (by first | (with_reducible assumption) | assumption)) (Nat.le_trans (Nat.mul_le_mul_right _ (of_decide_eq_true (by first | (with_reducible assumption) | assumption) : a1.toNat ≤ 281474976710656)) (by omega)) (Below.refl _ _) (Nat.le_refl _) ?_; intro v122 w5 ho6 hb hg_ hnew_; clear hg_ hnew_; (first | rw [← Ny121.out] at ho6 | (simp only [Int.reduceToNat] at ho6; rw [← Ny121.out] at ho6)); have n0_ := Aside0.mk (Kd.R_lower ho6 (keep_size (w := w) (g := g) (row := none) (by repeat (first | (with_reducible first | exact HK.out | apply KeepBut.set_ | apply keep_drewN | apply keep_drew | apply keep_alloc) | exact HK.out)))); have n1_ := Aside0.mk (IsS90.below (by repeat (first | (with_reducible first | exact HI0.out | apply IsS90.alloc | apply IsS90.drewN | apply IsS90.drew | apply IsS90.set_1 | apply IsS90.set_2 | apply IsS90.set_3) | exact HI0.out)) hb); have n2_ := Aside0.mk (KeepBut.trans (by repeat (first | (with_reducible first | exact HK.out | apply KeepBut.set_ | apply keep_drewN | apply keep_drew | apply keep_alloc) | exact HK.out)) (KeepBut.of_below hb g none) (.inl rfl)); have n3_ := Aside0.mk (below_step (by repeat (first | (with_reducible first | exact HB.out | apply below_alloc | apply pw_below_drewN | apply below_drew1 | refine below_set ?_ (IsS90.ge HI0.out)) | exact HB.out)) hb); clear HI0; clear HK; clear HB; have HO123 := n0_; have HI0 := n1_; have HK := n2_; have HB := n3_; clear n0_ n1_ n2_ n3_; clear hb ho6; have hcv7 := own_string (P := Try.prog) Try.underlying38 Try.underlying5 Try.underlying9 (Kd.own_of_R HO123.out)))
      go_ret
      exact ⟨by first | rfl | (simp [errW_none, errW_some] <;> rfl) | (simp [*, errW_none, errW_some] <;> rfl), by repeat (first | (with_reducible first | exact HI0.out | apply IsS90.alloc | apply IsS90.drewN | apply IsS90.drew | apply IsS90.set_1 | apply IsS90.set_2 | apply IsS90.set_3) | exact HI0.out), by repeat (first | (with_reducible first | exact HB.out | apply below_alloc | apply pw_below_drewN | apply below_drew1 | refine below_set ?_ (IsS90.ge HI0.out)) | exact HB.out), by repeat (first | (with_reducible first | exact HK.out | apply KeepBut.set_ | apply keep_drewN | apply keep_drew | apply keep_alloc) | exact HK.out)⟩
    · rw [if_neg c4] at H
      exact absurd H (by simp)
  · rw [if_neg c3] at H
    exact absurd H (by simp)

/-! ### spec_l01Src_set: function 41 -/
def spec_l01Src_set.j0 : Nat → ByteArray → List Int → Int → Int → Int → Option (ByteArray × Int × Int × Int)
  | 0, _, _, _, _, _ => none
  | k + 1, x3, x1000, x1001, x1002, x1003 => (spec_l01Src_one.f x1000 x1001 x1002 x1003 60).bind fun bt144 => (if bt144.1 = true then ((spec_l01Src_n.f x1000 bt144.2.1 bt144.2.2.1 bt144.2.2.2 3).bind fun bt148 => ((spec_l01Src_zeros.f x1000 bt148.2.1 bt148.2.2.1 bt148.2.2.2 (wrap64 (65535 + bt148.1))).bind fun bt152 => (some (bt152.1, bt152.2.1, bt152.2.2.1, bt152.2.2.2)))) else (some (x3, bt144.2.1, bt144.2.2.1, bt144.2.2.2)))
def spec_l01Src_set.f (k : Nat) (s0_0 : List Int) (s0_1 : Int) (s0_2 : Int) (s0_3 : Int) : Option (ByteArray × Int × Int × Int) := (spec_l01Src_n.f s0_0 s0_1 s0_2 s0_3 6).bind fun bt124 => ((spec_l01Src_bytes.f k s0_0 bt124.2.1 bt124.2.2.1 bt124.2.2.2 bt124.1).bind fun bt128 => ((spec_l01Src_one.f s0_0 bt128.2.1 bt128.2.2.1 bt128.2.2.2 3).bind fun bt132 => (if bt132.1 = true then ((spec_l01Src_n.f s0_0 bt132.2.1 bt132.2.2.1 bt132.2.2.2 4).bind fun bt136 => ((spec_l01Src_zeros.f s0_0 bt136.2.1 bt136.2.2.1 bt136.2.2.2 bt136.1).bind fun bt140 => (if bt128.1.size + bt140.1.size ≤ 9223372036854775807 then (spec_l01Src_set.j0 k (bt128.1 ++ bt140.1) s0_0 bt140.2.1 bt140.2.2.1 bt140.2.2.2) else (none)))) else (spec_l01Src_set.j0 k bt128.1 s0_0 bt132.2.1 bt132.2.2.1 bt132.2.2.2))))
theorem spec_l01Src_set.mono_l : ∀ k, (∀ y0 y1 y2 y3 y4, LeO (spec_l01Src_set.j0 k y0 y1 y2 y3 y4) (spec_l01Src_set.j0 (k + 1) y0 y1 y2 y3 y4))
  | 0 => fun _ _ _ _ _ r h => by simp [spec_l01Src_set.j0] at h
  | k + 1 => by
    have ih0 := spec_l01Src_set.mono_l k
    · intro y0 y1 y2 y3 y4
      unfold spec_l01Src_set.j0
      repeat' first
      | (with_reducible exact ih0 _ _ _ _ _)
      | (with_reducible exact spec_l01Src_bytes.mono _ _ _ _ _ _)
      | (with_reducible exact LeO.refl _)
      | (with_reducible exact LeO.none _)
      | (with_reducible refine LeO.ite ?_ ?_)
      | (with_reducible refine LeO.bind ?_ (fun _ => ?_))
      | exact ih0 _ _ _ _ _
      | exact spec_l01Src_bytes.mono _ _ _ _ _ _
      | exact LeO.none _
      | refine LeO.ite ?_ ?_
      | refine LeO.bind ?_ (fun _ => ?_)
theorem spec_l01Src_set.mono : ∀ a0 a1 a2 a3 k, LeO (spec_l01Src_set.f k a0 a1 a2 a3) (spec_l01Src_set.f (k + 1) a0 a1 a2 a3) := by
  intro a0 a1 a2 a3 k
  have ih0 := spec_l01Src_set.mono_l k
  unfold spec_l01Src_set.f
  repeat' first
      | (with_reducible exact ih0 _ _ _ _ _)
      | (with_reducible exact spec_l01Src_bytes.mono _ _ _ _ _ _)
      | (with_reducible exact LeO.refl _)
      | (with_reducible exact LeO.none _)
      | (with_reducible refine LeO.ite ?_ ?_)
      | (with_reducible refine LeO.bind ?_ (fun _ => ?_))
      | exact ih0 _ _ _ _ _
      | exact spec_l01Src_bytes.mono _ _ _ _ _ _
      | exact LeO.none _
      | refine LeO.ite ?_ ?_
      | refine LeO.bind ?_ (fun _ => ?_)
set_option maxHeartbeats 8000000 in
set_option maxRecDepth 100000 in
theorem spec_l01Src_set.calls (k : Nat) (g : Nat) (s0_0 : List Int) (s0_1 : Int) (s0_2 : Int) (s0_3 : Int) (r1 : ByteArray) (r2 : Int) (r3 : Int) (r4 : Int) (w0 w : World) (hI : IsS90 w0 w g s0_0 s0_1 s0_2 s0_3) (hB : Below w0.heap.size w0 w) (h : spec_l01Src_set.f k s0_0 s0_1 s0_2 s0_3 = some (r1, r2, r3, r4)) :
    Calls Try.prog 41 #[.pointer (some ⟨g, 0, none⟩)] w fun e w' => e = .returned (.string r1) ∧ IsS90 w0 w' g s0_0 r2 r3 r4 ∧ Below w0.heap.size w0 w' ∧ KeepBut w w' g none := by
  have HI0 := Aside0.mk hI
  have HK := Aside0.mk (KeepBut.refl w g none)
  have HL := Aside0.mk hB.size
  clear hI
  have HW0 := Aside0.mk hB.size
  have HB := Aside0.mk hB
  clear hB
  have H : ((spec_l01Src_n.f s0_0 s0_1 s0_2 s0_3 6).bind fun bt124 => ((spec_l01Src_bytes.f k s0_0 bt124.2.1 bt124.2.2.1 bt124.2.2.2 bt124.1).bind fun bt128 => ((spec_l01Src_one.f s0_0 bt128.2.1 bt128.2.2.1 bt128.2.2.2 3).bind fun bt132 => (if bt132.1 = true then ((spec_l01Src_n.f s0_0 bt132.2.1 bt132.2.2.1 bt132.2.2.2 4).bind fun bt136 => ((spec_l01Src_zeros.f s0_0 bt136.2.1 bt136.2.2.1 bt136.2.2.2 bt136.1).bind fun bt140 => (if bt128.1.size + bt140.1.size ≤ 9223372036854775807 then (spec_l01Src_set.j0 k (bt128.1 ++ bt140.1) s0_0 bt140.2.1 bt140.2.2.1 bt140.2.2.2) else (none)))) else (spec_l01Src_set.j0 k bt128.1 s0_0 bt132.2.1 bt132.2.2.1 bt132.2.2.2))))) = some (r1, r2, r3, r4) := h
  clear h
  replace H := Option.bind_eq_some_iff.mp H
  obtain ⟨⟨t124, t125, t126, t127⟩, A20, H⟩ := H
  replace H : ((spec_l01Src_bytes.f k s0_0 t125 t126 t127 t124).bind fun bt128 => ((spec_l01Src_one.f s0_0 bt128.2.1 bt128.2.2.1 bt128.2.2.2 3).bind fun bt132 => (if bt132.1 = true then ((spec_l01Src_n.f s0_0 bt132.2.1 bt132.2.2.1 bt132.2.2.2 4).bind fun bt136 => ((spec_l01Src_zeros.f s0_0 bt136.2.1 bt136.2.2.1 bt136.2.2.2 bt136.1).bind fun bt140 => (if bt128.1.size + bt140.1.size ≤ 9223372036854775807 then (spec_l01Src_set.j0 k (bt128.1 ++ bt140.1) s0_0 bt140.2.1 bt140.2.2.1 bt140.2.2.2) else (none)))) else (spec_l01Src_set.j0 k bt128.1 s0_0 bt132.2.1 bt132.2.2.1 bt132.2.2.2)))) = some (r1, r2, r3, r4) := H
  have A2 := Aside0.mk A20
  clear A20
  replace H := Option.bind_eq_some_iff.mp H
  obtain ⟨⟨t128, t129, t130, t131⟩, A30, H⟩ := H
  replace H : ((spec_l01Src_one.f s0_0 t129 t130 t131 3).bind fun bt132 => (if bt132.1 = true then ((spec_l01Src_n.f s0_0 bt132.2.1 bt132.2.2.1 bt132.2.2.2 4).bind fun bt136 => ((spec_l01Src_zeros.f s0_0 bt136.2.1 bt136.2.2.1 bt136.2.2.2 bt136.1).bind fun bt140 => (if t128.size + bt140.1.size ≤ 9223372036854775807 then (spec_l01Src_set.j0 k (t128 ++ bt140.1) s0_0 bt140.2.1 bt140.2.2.1 bt140.2.2.2) else (none)))) else (spec_l01Src_set.j0 k t128 s0_0 bt132.2.1 bt132.2.2.1 bt132.2.2.2))) = some (r1, r2, r3, r4) := H
  have A3 := Aside0.mk A30
  clear A30
  replace H := Option.bind_eq_some_iff.mp H
  obtain ⟨⟨t132, t133, t134, t135⟩, A40, H⟩ := H
  replace H : (if t132 = true then ((spec_l01Src_n.f s0_0 t133 t134 t135 4).bind fun bt136 => ((spec_l01Src_zeros.f s0_0 bt136.2.1 bt136.2.2.1 bt136.2.2.2 bt136.1).bind fun bt140 => (if t128.size + bt140.1.size ≤ 9223372036854775807 then (spec_l01Src_set.j0 k (t128 ++ bt140.1) s0_0 bt140.2.1 bt140.2.2.1 bt140.2.2.2) else (none)))) else (spec_l01Src_set.j0 k t128 s0_0 t133 t134 t135)) = some (r1, r2, r3, r4) := H
  have A4 := Aside0.mk A40
  clear A40
  have HC5 := Aside0.mk H
  clear H
  go_enter Try.func41, Try.ntmps41
  go_upto_if 9 with (first | ((with_reducible refine gate_callee (f := 39) rfl ?_); refine goesL_ (some 6) rfl rfl Try.func39 (by kernel_rfl) rfl #[.pointer (some ⟨g, 0, none⟩), .int .i64 6] rfl (by (try simp only [List.map_toArray, List.map_cons, List.map_nil]); first | done | rfl | (simp only [List.length_drop, List.length_take]; rfl)) ?_; (with_reducible refine (spec_l01Src_n.calls g s0_0 s0_1 s0_2 s0_3 6 t124 t125 t126 t127 w0 _ ?side1 ?side2 A2.out).mono ?_); (case side1 => repeat (first | (with_reducible first | exact HI0.out | apply IsS90.alloc | apply IsS90.drewN | apply IsS90.drew | apply IsS90.set_1 | apply IsS90.set_2 | apply IsS90.set_3) | exact HI0.out)); (case side2 => repeat (first | (with_reducible first | exact HB.out | apply below_alloc | apply pw_below_drewN | apply below_drew1 | refine below_set ?_ (IsS90.ge HI0.out)) | exact HB.out)); rintro e w6 ⟨rfl, hi, hb, hk⟩; refine ⟨_, rfl, ?_⟩; have n0_ := Aside0.mk (KeepBut.trans (by repeat (first | (with_reducible first | exact HK.out | apply KeepBut.set_ | apply keep_drewN | apply keep_drew | apply keep_alloc) | exact HK.out)) hk (.inl rfl)); have n1_ := Aside0.mk (hb); have n2_ := Aside0.mk (hi); clear HK; clear HB; clear HI0; have HK := n0_; have HB := n1_; have HI0 := n2_; clear n0_ n1_ n2_; (try clear hb); (try clear hb2); (try clear hk); (try clear hi)) | ((with_reducible refine gate_callee (f := 52) rfl ?_); refine goesL_ (some 7) rfl rfl Try.func52 (by kernel_rfl) rfl #[.pointer (some ⟨g, 0, none⟩), .int .i64 t124] rfl (by (try simp only [List.map_toArray, List.map_cons, List.map_nil]); first | done | rfl | (simp only [List.length_drop, List.length_take]; rfl)) ?_; (with_reducible refine (spec_l01Src_bytes.calls k g s0_0 t125 t126 t127 t124 t128 t129 t130 t131 w0 _ ?side1 ?side2 A3.out).mono ?_); (case side1 => repeat (first | (with_reducible first | exact HI0.out | apply IsS90.alloc | apply IsS90.drewN | apply IsS90.drew | apply IsS90.set_1 | apply IsS90.set_2 | apply IsS90.set_3) | exact HI0.out)); (case side2 => repeat (first | (with_reducible first | exact HB.out | apply below_alloc | apply pw_below_drewN | apply below_drew1 | refine below_set ?_ (IsS90.ge HI0.out)) | exact HB.out)); rintro e w7 ⟨rfl, hi, hb, hk⟩; refine ⟨_, rfl, ?_⟩; have n0_ := Aside0.mk (KeepBut.trans (by repeat (first | (with_reducible first | exact HK.out | apply KeepBut.set_ | apply keep_drewN | apply keep_drew | apply keep_alloc) | exact HK.out)) hk (.inl rfl)); have n1_ := Aside0.mk (hb); have n2_ := Aside0.mk (hi); clear HK; clear HB; clear HI0; have HK := n0_; have HB := n1_; have HI0 := n2_; clear n0_ n1_ n2_; (try clear hb); (try clear hb2); (try clear hk); (try clear hi)) | ((with_reducible refine gate_callee (f := 40) rfl ?_); refine goesL_ (some 9) rfl rfl Try.func40 (by kernel_rfl) rfl #[.pointer (some ⟨g, 0, none⟩), .int .i64 3] rfl (by (try simp only [List.map_toArray, List.map_cons, List.map_nil]); first | done | rfl | (simp only [List.length_drop, List.length_take]; rfl)) ?_; (with_reducible refine (spec_l01Src_one.calls g s0_0 t129 t130 t131 3 t132 t133 t134 t135 w0 _ ?side1 ?side2 A4.out).mono ?_); (case side1 => repeat (first | (with_reducible first | exact HI0.out | apply IsS90.alloc | apply IsS90.drewN | apply IsS90.drew | apply IsS90.set_1 | apply IsS90.set_2 | apply IsS90.set_3) | exact HI0.out)); (case side2 => repeat (first | (with_reducible first | exact HB.out | apply below_alloc | apply pw_below_drewN | apply below_drew1 | refine below_set ?_ (IsS90.ge HI0.out)) | exact HB.out)); rintro e w8 ⟨rfl, hi, hb, hk⟩; refine ⟨_, rfl, ?_⟩; have n0_ := Aside0.mk (KeepBut.trans (by repeat (first | (with_reducible first | exact HK.out | apply KeepBut.set_ | apply keep_drewN | apply keep_drew | apply keep_alloc) | exact HK.out)) hk (.inl rfl)); have n1_ := Aside0.mk (hb); have n2_ := Aside0.mk (hi); clear HK; clear HB; clear HI0; have HK := n0_; have HB := n1_; have HI0 := n2_; clear n0_ n1_ n2_; (try clear hb); (try clear hb2); (try clear hk); (try clear hi)))
  (try simp only [Act.put, List.setIfInBounds_toArray, List.set_cons_zero, List.set_cons_succ])
  go_cut [3] (fun v3 wc => ∃ (kq : Nat) (x3_4 : ByteArray) (x1001_4 : Int) (x1002_4 : Int) (x1003_4 : Int), v3 = .string x3_4 ∧ Aside0 (spec_l01Src_set.j0 kq x3_4 s0_0 x1001_4 x1002_4 x1003_4 = some (r1, r2, r3, r4)) ∧ Aside0 (kq ≤ k) ∧ Aside0 (IsS90 w0 wc g s0_0 x1001_4 x1002_4 x1003_4) ∧ Aside0 (KeepBut w wc g none) ∧ Aside0 (Below w0.heap.size w0 wc))
  case first =>
    have H := HC5.out
    clear HC5
    by_cases c9 : t132 = true
    · subst c9
      have H1 : ((spec_l01Src_n.f s0_0 t133 t134 t135 4).bind fun bt136 => ((spec_l01Src_zeros.f s0_0 bt136.2.1 bt136.2.2.1 bt136.2.2.2 bt136.1).bind fun bt140 => (if t128.size + bt140.1.size ≤ 9223372036854775807 then (spec_l01Src_set.j0 k (t128 ++ bt140.1) s0_0 bt140.2.1 bt140.2.2.1 bt140.2.2.2) else (none)))) = some (r1, r2, r3, r4) := by rw [if_pos rfl] at H; exact H
      clear H
      have H := H1
      clear H1
      replace H := Option.bind_eq_some_iff.mp H
      obtain ⟨⟨t136, t137, t138, t139⟩, A100, H⟩ := H
      replace H : ((spec_l01Src_zeros.f s0_0 t137 t138 t139 t136).bind fun bt140 => (if t128.size + bt140.1.size ≤ 9223372036854775807 then (spec_l01Src_set.j0 k (t128 ++ bt140.1) s0_0 bt140.2.1 bt140.2.2.1 bt140.2.2.2) else (none))) = some (r1, r2, r3, r4) := H
      have A10 := Aside0.mk A100
      clear A100
      replace H := Option.bind_eq_some_iff.mp H
      obtain ⟨⟨t140, t141, t142, t143⟩, A110, H⟩ := H
      replace H : (if t128.size + t140.size ≤ 9223372036854775807 then (spec_l01Src_set.j0 k (t128 ++ t140) s0_0 t141 t142 t143) else (none)) = some (r1, r2, r3, r4) := H
      have A11 := Aside0.mk A110
      clear A110
      by_cases c12 : t128.size + t140.size ≤ 9223372036854775807
      · rw [if_pos c12] at H
        have c12b0 := eq_true c12
        have c12b1 : decide (t128.size + t140.size ≤ 9223372036854775807) = true := decide_eq_true c12
        try have c12b2 : (9223372036854775807 < t128.size + t140.size) = False := eq_false (Nat.not_lt.2 c12)
        have H' := Aside0.mk H
        clear H
        go_wp2_with (first | ((with_reducible refine gate_callee (f := 39) rfl ?_); refine goesL_ (some 13) rfl rfl Try.func39 (by kernel_rfl) rfl #[.pointer (some ⟨g, 0, none⟩), .int .i64 4] rfl (by (try simp only [List.map_toArray, List.map_cons, List.map_nil]); first | done | rfl | (simp only [List.length_drop, List.length_take]; rfl)) ?_; (with_reducible refine (spec_l01Src_n.calls g s0_0 t133 t134 t135 4 t136 t137 t138 t139 w0 _ ?side1 ?side2 A10.out).mono ?_); (case side1 => repeat (first | (with_reducible first | exact HI0.out | apply IsS90.alloc | apply IsS90.drewN | apply IsS90.drew | apply IsS90.set_1 | apply IsS90.set_2 | apply IsS90.set_3) | exact HI0.out)); (case side2 => repeat (first | (with_reducible first | exact HB.out | apply below_alloc | apply pw_below_drewN | apply below_drew1 | refine below_set ?_ (IsS90.ge HI0.out)) | exact HB.out)); rintro e w13 ⟨rfl, hi, hb, hk⟩; refine ⟨_, rfl, ?_⟩; have n0_ := Aside0.mk (KeepBut.trans (by repeat (first | (with_reducible first | exact HK.out | apply KeepBut.set_ | apply keep_drewN | apply keep_drew | apply keep_alloc) | exact HK.out)) hk (.inl rfl)); have n1_ := Aside0.mk (hb); have n2_ := Aside0.mk (hi); clear HK; clear HB; clear HI0; have HK := n0_; have HB := n1_; have HI0 := n2_; clear n0_ n1_ n2_; (try clear hb); (try clear hb2); (try clear hk); (try clear hi)) | ((with_reducible refine gate_callee (f := 53) rfl ?_); refine goesL_ (some 14) rfl rfl Try.func53 (by kernel_rfl) rfl #[.pointer (some ⟨g, 0, none⟩), .int .i64 t136] rfl (by (try simp only [List.map_toArray, List.map_cons, List.map_nil]); first | done | rfl | (simp only [List.length_drop, List.length_take]; rfl)) ?_; (with_reducible refine (spec_l01Src_zeros.calls g s0_0 t137 t138 t139 t136 t140 t141 t142 t143 w0 _ ?side1 ?side2 A11.out).mono ?_); (case side1 => repeat (first | (with_reducible first | exact HI0.out | apply IsS90.alloc | apply IsS90.drewN | apply IsS90.drew | apply IsS90.set_1 | apply IsS90.set_2 | apply IsS90.set_3) | exact HI0.out)); (case side2 => repeat (first | (with_reducible first | exact HB.out | apply below_alloc | apply pw_below_drewN | apply below_drew1 | refine below_set ?_ (IsS90.ge HI0.out)) | exact HB.out)); rintro e w14 ⟨rfl, hi, hb, hk⟩; refine ⟨_, rfl, ?_⟩; have n0_ := Aside0.mk (KeepBut.trans (by repeat (first | (with_reducible first | exact HK.out | apply KeepBut.set_ | apply keep_drewN | apply keep_drew | apply keep_alloc) | exact HK.out)) hk (.inl rfl)); have n1_ := Aside0.mk (hb); have n2_ := Aside0.mk (hi); clear HK; clear HB; clear HI0; have HK := n0_; have HB := n1_; have HI0 := n2_; clear n0_ n1_ n2_; (try clear hb); (try clear hb2); (try clear hk); (try clear hi)))
        go_meet
        case rel => exact ⟨_, (t128 ++ t140), (t141), (t142), (t143), (by first | rfl | (simp; done) | (simp [*]; done)), H', ⟨by first | omega | exact Nat.le_refl _⟩, ⟨by repeat (first | (with_reducible first | exact HI0.out | apply IsS90.alloc | apply IsS90.drewN | apply IsS90.drew | apply IsS90.set_1 | apply IsS90.set_2 | apply IsS90.set_3) | exact HI0.out)⟩, ⟨by repeat (first | (with_reducible first | exact HK.out | apply KeepBut.set_ | apply keep_drewN | apply keep_drew | apply keep_alloc) | exact HK.out)⟩, ⟨by repeat (first | (with_reducible first | exact HB.out | apply below_alloc | apply pw_below_drewN | apply below_drew1 | refine below_set ?_ (IsS90.ge HI0.out)) | exact HB.out)⟩⟩
      · rw [if_neg c12] at H
        exact absurd H (by simp)
    · replace c9 := Bool.eq_false_iff.mpr c9
      subst c9
      have H1 : (spec_l01Src_set.j0 k t128 s0_0 t133 t134 t135) = some (r1, r2, r3, r4) := by rw [if_neg (show ¬ (false = true) by decide)] at H; exact H
      clear H
      have H := H1
      clear H1
      have H' := Aside0.mk H
      clear H
      go_wp2
      go_meet
      case rel => exact ⟨_, (t128), (t133), (t134), (t135), (by first | rfl | (simp; done) | (simp [*]; done)), H', ⟨by first | omega | exact Nat.le_refl _⟩, ⟨by repeat (first | (with_reducible first | exact HI0.out | apply IsS90.alloc | apply IsS90.drewN | apply IsS90.drew | apply IsS90.set_1 | apply IsS90.set_2 | apply IsS90.set_3) | exact HI0.out)⟩, ⟨by repeat (first | (with_reducible first | exact HK.out | apply KeepBut.set_ | apply keep_drewN | apply keep_drew | apply keep_alloc) | exact HK.out)⟩, ⟨by repeat (first | (with_reducible first | exact HB.out | apply below_alloc | apply pw_below_drewN | apply below_drew1 | refine below_set ?_ (IsS90.ge HI0.out)) | exact HB.out)⟩⟩
  case rest =>
    clear HC5
    try clear c1
    try clear p2
    try clear c3
    try clear c4
    try clear c5
    try clear c9
    try clear c12
    try clear c12b0
    try clear c12b1
    try clear c12b2
    obtain ⟨kq, x3_4, x1001_4, x1002_4, x1003_4, rfl, HA, HJ4, HI0, HK, HB⟩ := hcut
    cases kq with
    | zero => exact absurd HA.out (by simp [spec_l01Src_set.j0])
    | succ kj4 =>
      have H := HA.out
      clear HA
      simp only [spec_l01Src_set.j0] at H
      replace H := Option.bind_eq_some_iff.mp H
      obtain ⟨⟨t144, t145, t146, t147⟩, A150, H⟩ := H
      replace H : (if t144 = true then ((spec_l01Src_n.f s0_0 t145 t146 t147 3).bind fun bt148 => ((spec_l01Src_zeros.f s0_0 bt148.2.1 bt148.2.2.1 bt148.2.2.2 (wrap64 (65535 + bt148.1))).bind fun bt152 => (some (bt152.1, bt152.2.1, bt152.2.2.1, bt152.2.2.2)))) else (some (x3_4, t145, t146, t147))) = some (r1, r2, r3, r4) := H
      have A15 := Aside0.mk A150
      clear A150
      by_cases c16 : t144 = true
      · subst c16
        have H1 : ((spec_l01Src_n.f s0_0 t145 t146 t147 3).bind fun bt148 => ((spec_l01Src_zeros.f s0_0 bt148.2.1 bt148.2.2.1 bt148.2.2.2 (wrap64 (65535 + bt148.1))).bind fun bt152 => (some (bt152.1, bt152.2.1, bt152.2.2.1, bt152.2.2.2)))) = some (r1, r2, r3, r4) := by rw [if_pos rfl] at H; exact H
        clear H
        have H := H1
        clear H1
        replace H := Option.bind_eq_some_iff.mp H
        obtain ⟨⟨t148, t149, t150, t151⟩, A170, H⟩ := H
        replace H : ((spec_l01Src_zeros.f s0_0 t149 t150 t151 (wrap64 (65535 + t148))).bind fun bt152 => (some (bt152.1, bt152.2.1, bt152.2.2.1, bt152.2.2.2))) = some (r1, r2, r3, r4) := H
        have A17 := Aside0.mk A170
        clear A170
        replace H := Option.bind_eq_some_iff.mp H
        obtain ⟨⟨t152, t153, t154, t155⟩, A180, H⟩ := H
        replace H : (some (t152, t153, t154, t155)) = some (r1, r2, r3, r4) := H
        have A18 := Aside0.mk A180
        clear A180
        simp only [Option.some.injEq, Prod.mk.injEq] at H
        obtain ⟨rfl, rfl, rfl, rfl⟩ := H
        go_wp2_with (first | ((with_reducible refine gate_callee (f := 40) rfl ?_); refine goesL_ (some 17) rfl rfl Try.func40 (by kernel_rfl) rfl #[.pointer (some ⟨g, 0, none⟩), .int .i64 60] rfl (by (try simp only [List.map_toArray, List.map_cons, List.map_nil]); first | done | rfl | (simp only [List.length_drop, List.length_take]; rfl)) ?_; (with_reducible refine (spec_l01Src_one.calls g s0_0 x1001_4 x1002_4 x1003_4 60 true t145 t146 t147 w0 _ ?side1 ?side2 A15.out).mono ?_); (case side1 => repeat (first | (with_reducible first | exact HI0.out | apply IsS90.alloc | apply IsS90.drewN | apply IsS90.drew | apply IsS90.set_1 | apply IsS90.set_2 | apply IsS90.set_3) | exact HI0.out)); (case side2 => repeat (first | (with_reducible first | exact HB.out | apply below_alloc | apply pw_below_drewN | apply below_drew1 | refine below_set ?_ (IsS90.ge HI0.out)) | exact HB.out)); rintro e w19 ⟨rfl, hi, hb, hk⟩; refine ⟨_, rfl, ?_⟩; have n0_ := Aside0.mk (KeepBut.trans (by repeat (first | (with_reducible first | exact HK.out | apply KeepBut.set_ | apply keep_drewN | apply keep_drew | apply keep_alloc) | exact HK.out)) hk (.inl rfl)); have n1_ := Aside0.mk (hb); have n2_ := Aside0.mk (hi); clear HK; clear HB; clear HI0; have HK := n0_; have HB := n1_; have HI0 := n2_; clear n0_ n1_ n2_; (try clear hb); (try clear hb2); (try clear hk); (try clear hi)) | ((with_reducible refine gate_callee (f := 39) rfl ?_); refine goesL_ (some 20) rfl rfl Try.func39 (by kernel_rfl) rfl #[.pointer (some ⟨g, 0, none⟩), .int .i64 3] rfl (by (try simp only [List.map_toArray, List.map_cons, List.map_nil]); first | done | rfl | (simp only [List.length_drop, List.length_take]; rfl)) ?_; (with_reducible refine (spec_l01Src_n.calls g s0_0 t145 t146 t147 3 t148 t149 t150 t151 w0 _ ?side1 ?side2 A17.out).mono ?_); (case side1 => repeat (first | (with_reducible first | exact HI0.out | apply IsS90.alloc | apply IsS90.drewN | apply IsS90.drew | apply IsS90.set_1 | apply IsS90.set_2 | apply IsS90.set_3) | exact HI0.out)); (case side2 => repeat (first | (with_reducible first | exact HB.out | apply below_alloc | apply pw_below_drewN | apply below_drew1 | refine below_set ?_ (IsS90.ge HI0.out)) | exact HB.out)); rintro e w20 ⟨rfl, hi, hb, hk⟩; refine ⟨_, rfl, ?_⟩; have n0_ := Aside0.mk (KeepBut.trans (by repeat (first | (with_reducible first | exact HK.out | apply KeepBut.set_ | apply keep_drewN | apply keep_drew | apply keep_alloc) | exact HK.out)) hk (.inl rfl)); have n1_ := Aside0.mk (hb); have n2_ := Aside0.mk (hi); clear HK; clear HB; clear HI0; have HK := n0_; have HB := n1_; have HI0 := n2_; clear n0_ n1_ n2_; (try clear hb); (try clear hb2); (try clear hk); (try clear hi)) | ((with_reducible refine gate_callee (f := 53) rfl ?_); refine goesL_ (some 22) rfl rfl Try.func53 (by kernel_rfl) rfl #[.pointer (some ⟨g, 0, none⟩), .int .i64 (wrap64 (65535 + t148))] rfl (by (try simp only [List.map_toArray, List.map_cons, List.map_nil]); first | done | rfl | (simp only [List.length_drop, List.length_take]; rfl)) ?_; (with_reducible refine (spec_l01Src_zeros.calls g s0_0 t149 t150 t151 (wrap64 (65535 + t148)) t152 t153 t154 t155 w0 _ ?side1 ?side2 A18.out).mono ?_); (case side1 => repeat (first | (with_reducible first | exact HI0.out | apply IsS90.alloc | apply IsS90.drewN | apply IsS90.drew | apply IsS90.set_1 | apply IsS90.set_2 | apply IsS90.set_3) | exact HI0.out)); (case side2 => repeat (first | (with_reducible first | exact HB.out | apply below_alloc | apply pw_below_drewN | apply below_drew1 | refine below_set ?_ (IsS90.ge HI0.out)) | exact HB.out)); rintro e w21 ⟨rfl, hi, hb, hk⟩; refine ⟨_, rfl, ?_⟩; have n0_ := Aside0.mk (KeepBut.trans (by repeat (first | (with_reducible first | exact HK.out | apply KeepBut.set_ | apply keep_drewN | apply keep_drew | apply keep_alloc) | exact HK.out)) hk (.inl rfl)); have n1_ := Aside0.mk (hb); have n2_ := Aside0.mk (hi); clear HK; clear HB; clear HI0; have HK := n0_; have HB := n1_; have HI0 := n2_; clear n0_ n1_ n2_; (try clear hb); (try clear hb2); (try clear hk); (try clear hi)))
        go_ret
        exact ⟨by first | rfl | (simp [errW_none, errW_some] <;> rfl) | (simp [*, errW_none, errW_some] <;> rfl), by repeat (first | (with_reducible first | exact HI0.out | apply IsS90.alloc | apply IsS90.drewN | apply IsS90.drew | apply IsS90.set_1 | apply IsS90.set_2 | apply IsS90.set_3) | exact HI0.out), by repeat (first | (with_reducible first | exact HB.out | apply below_alloc | apply pw_below_drewN | apply below_drew1 | refine below_set ?_ (IsS90.ge HI0.out)) | exact HB.out), by repeat (first | (with_reducible first | exact HK.out | apply KeepBut.set_ | apply keep_drewN | apply keep_drew | apply keep_alloc) | exact HK.out)⟩
      · replace c16 := Bool.eq_false_iff.mpr c16
        subst c16
        have H1 : (some (x3_4, t145, t146, t147)) = some (r1, r2, r3, r4) := by rw [if_neg (show ¬ (false = true) by decide)] at H; exact H
        clear H
        have H := H1
        clear H1
        simp only [Option.some.injEq, Prod.mk.injEq] at H
        obtain ⟨rfl, rfl, rfl, rfl⟩ := H
        go_wp2_with (first | ((with_reducible refine gate_callee (f := 40) rfl ?_); refine goesL_ (some 17) rfl rfl Try.func40 (by kernel_rfl) rfl #[.pointer (some ⟨g, 0, none⟩), .int .i64 60] rfl (by (try simp only [List.map_toArray, List.map_cons, List.map_nil]); first | done | rfl | (simp only [List.length_drop, List.length_take]; rfl)) ?_; (with_reducible refine (spec_l01Src_one.calls g s0_0 x1001_4 x1002_4 x1003_4 60 false t145 t146 t147 w0 _ ?side1 ?side2 A15.out).mono ?_); (case side1 => repeat (first | (with_reducible first | exact HI0.out | apply IsS90.alloc | apply IsS90.drewN | apply IsS90.drew | apply IsS90.set_1 | apply IsS90.set_2 | apply IsS90.set_3) | exact HI0.out)); (case side2 => repeat (first | (with_reducible first | exact HB.out | apply below_alloc | apply pw_below_drewN | apply below_drew1 | refine below_set ?_ (IsS90.ge HI0.out)) | exact HB.out)); rintro e w22 ⟨rfl, hi, hb, hk⟩; refine ⟨_, rfl, ?_⟩; have n0_ := Aside0.mk (KeepBut.trans (by repeat (first | (with_reducible first | exact HK.out | apply KeepBut.set_ | apply keep_drewN | apply keep_drew | apply keep_alloc) | exact HK.out)) hk (.inl rfl)); have n1_ := Aside0.mk (hb); have n2_ := Aside0.mk (hi); clear HK; clear HB; clear HI0; have HK := n0_; have HB := n1_; have HI0 := n2_; clear n0_ n1_ n2_; (try clear hb); (try clear hb2); (try clear hk); (try clear hi)))
        go_ret
        exact ⟨by first | rfl | (simp [errW_none, errW_some] <;> rfl) | (simp [*, errW_none, errW_some] <;> rfl), by repeat (first | (with_reducible first | exact HI0.out | apply IsS90.alloc | apply IsS90.drewN | apply IsS90.drew | apply IsS90.set_1 | apply IsS90.set_2 | apply IsS90.set_3) | exact HI0.out), by repeat (first | (with_reducible first | exact HB.out | apply below_alloc | apply pw_below_drewN | apply below_drew1 | refine below_set ?_ (IsS90.ge HI0.out)) | exact HB.out), by repeat (first | (with_reducible first | exact HK.out | apply KeepBut.set_ | apply keep_drewN | apply keep_drew | apply keep_alloc) | exact HK.out)⟩

/-! ### spec_DrawPutBit: function 16 -/
def spec_DrawPutBit.f (k : Nat) (l0 : List Int) : Option (ByteArray × Int × Bool) := (spec_l01Source.f l0).bind fun bt156 => ((spec_l01Src_n.f bt156.1 bt156.2.1 bt156.2.2.1 bt156.2.2.2 70).bind fun bt161 => ((spec_l01Src_one.f bt156.1 bt161.2.1 bt161.2.2.1 bt161.2.2.2 30).bind fun bt165 => (if bt165.1 = true then ((spec_l01Src_n.f bt156.1 bt165.2.1 bt165.2.2.1 bt165.2.2.2 3).bind fun bt169 => ((spec_l01Src_set.f k bt156.1 bt169.2.1 bt169.2.2.1 bt169.2.2.2).bind fun bt173 => ((spec_l01Src_one.f bt156.1 bt173.2.1 bt173.2.2.1 bt173.2.2.2 2).bind fun bt177 => (some (bt173.1, wrap64 (524288 - bt169.1), bt177.1))))) else ((spec_l01Src_set.f k bt156.1 bt165.2.1 bt165.2.2.1 bt165.2.2.2).bind fun bt181 => ((spec_l01Src_one.f bt156.1 bt181.2.1 bt181.2.2.1 bt181.2.2.2 2).bind fun bt185 => (some (bt181.1, wrap64 (bt161.1 - 2), bt185.1)))))))
theorem spec_DrawPutBit.mono : ∀ a0 k, LeO (spec_DrawPutBit.f k a0) (spec_DrawPutBit.f (k + 1) a0) := by
  intro a0 k
  unfold spec_DrawPutBit.f
  repeat' first
      | (with_reducible exact spec_l01Src_set.mono _ _ _ _ _)
      | (with_reducible exact LeO.refl _)
      | (with_reducible exact LeO.none _)
      | (with_reducible refine LeO.ite ?_ ?_)
      | (with_reducible refine LeO.bind ?_ (fun _ => ?_))
      | exact spec_l01Src_set.mono _ _ _ _ _
      | exact LeO.none _
      | refine LeO.ite ?_ ?_
      | refine LeO.bind ?_ (fun _ => ?_)
set_option maxHeartbeats 8000000 in
set_option maxRecDepth 100000 in
theorem spec_DrawPutBit.calls (k : Nat) (A0 : Option Addr) (c0 : Nat) (l0 : List Int) (r1 : ByteArray) (r2 : Int) (r3 : Bool) (w : World) (hr0 : Kd.C (Kd.int .u8) w A0 l0.length l0) (hc0 : l0.length ≤ c0) (h : spec_DrawPutBit.f k l0 = some (r1, r2, r3)) :
    Calls Try.prog 16 #[.slice A0 l0.length c0] w fun e w' => e = .returned (.tuple #[.string r1, .int .i64 r2, .bool r3]) ∧ Below w.heap.size w w' := by
  have HR0 := Aside0.mk hr0
  have HC0 := Aside0.mk hc0
  clear hr0 hc0
  have HB := Aside0.mk (Below.refl w.heap.size w)
  have H : ((spec_l01Source.f l0).bind fun bt156 => ((spec_l01Src_n.f bt156.1 bt156.2.1 bt156.2.2.1 bt156.2.2.2 70).bind fun bt161 => ((spec_l01Src_one.f bt156.1 bt161.2.1 bt161.2.2.1 bt161.2.2.2 30).bind fun bt165 => (if bt165.1 = true then ((spec_l01Src_n.f bt156.1 bt165.2.1 bt165.2.2.1 bt165.2.2.2 3).bind fun bt169 => ((spec_l01Src_set.f k bt156.1 bt169.2.1 bt169.2.2.1 bt169.2.2.2).bind fun bt173 => ((spec_l01Src_one.f bt156.1 bt173.2.1 bt173.2.2.1 bt173.2.2.2 2).bind fun bt177 => (some (bt173.1, wrap64 (524288 - bt169.1), bt177.1))))) else ((spec_l01Src_set.f k bt156.1 bt165.2.1 bt165.2.2.1 bt165.2.2.2).bind fun bt181 => ((spec_l01Src_one.f bt156.1 bt181.2.1 bt181.2.2.1 bt181.2.2.2 2).bind fun bt185 => (some (bt181.1, wrap64 (bt161.1 - 2), bt185.1)))))))) = some (r1, r2, r3) := h
  clear h
  replace H := Option.bind_eq_some_iff.mp H
  obtain ⟨⟨t156, t157, t158, t159⟩, A20, H⟩ := H
  replace H : ((spec_l01Src_n.f t156 t157 t158 t159 70).bind fun bt161 => ((spec_l01Src_one.f t156 bt161.2.1 bt161.2.2.1 bt161.2.2.2 30).bind fun bt165 => (if bt165.1 = true then ((spec_l01Src_n.f t156 bt165.2.1 bt165.2.2.1 bt165.2.2.2 3).bind fun bt169 => ((spec_l01Src_set.f k t156 bt169.2.1 bt169.2.2.1 bt169.2.2.2).bind fun bt173 => ((spec_l01Src_one.f t156 bt173.2.1 bt173.2.2.1 bt173.2.2.2 2).bind fun bt177 => (some (bt173.1, wrap64 (524288 - bt169.1), bt177.1))))) else ((spec_l01Src_set.f k t156 bt165.2.1 bt165.2.2.1 bt165.2.2.2).bind fun bt181 => ((spec_l01Src_one.f t156 bt181.2.1 bt181.2.2.1 bt181.2.2.2 2).bind fun bt185 => (some (bt181.1, wrap64 (bt161.1 - 2), bt185.1))))))) = some (r1, r2, r3) := H
  have A2 := Aside0.mk A20
  clear A20
  replace H := Option.bind_eq_some_iff.mp H
  obtain ⟨⟨t161, t162, t163, t164⟩, A30, H⟩ := H
  replace H : ((spec_l01Src_one.f t156 t162 t163 t164 30).bind fun bt165 => (if bt165.1 = true then ((spec_l01Src_n.f t156 bt165.2.1 bt165.2.2.1 bt165.2.2.2 3).bind fun bt169 => ((spec_l01Src_set.f k t156 bt169.2.1 bt169.2.2.1 bt169.2.2.2).bind fun bt173 => ((spec_l01Src_one.f t156 bt173.2.1 bt173.2.2.1 bt173.2.2.2 2).bind fun bt177 => (some (bt173.1, wrap64 (524288 - bt169.1), bt177.1))))) else ((spec_l01Src_set.f k t156 bt165.2.1 bt165.2.2.1 bt165.2.2.2).bind fun bt181 => ((spec_l01Src_one.f t156 bt181.2.1 bt181.2.2.1 bt181.2.2.2 2).bind fun bt185 => (some (bt181.1, wrap64 (t161 - 2), bt185.1)))))) = some (r1, r2, r3) := H
  have A3 := Aside0.mk A30
  clear A30
  replace H := Option.bind_eq_some_iff.mp H
  obtain ⟨⟨t165, t166, t167, t168⟩, A40, H⟩ := H
  replace H : (if t165 = true then ((spec_l01Src_n.f t156 t166 t167 t168 3).bind fun bt169 => ((spec_l01Src_set.f k t156 bt169.2.1 bt169.2.2.1 bt169.2.2.2).bind fun bt173 => ((spec_l01Src_one.f t156 bt173.2.1 bt173.2.2.1 bt173.2.2.2 2).bind fun bt177 => (some (bt173.1, wrap64 (524288 - bt169.1), bt177.1))))) else ((spec_l01Src_set.f k t156 t166 t167 t168).bind fun bt181 => ((spec_l01Src_one.f t156 bt181.2.1 bt181.2.2.1 bt181.2.2.2 2).bind fun bt185 => (some (bt181.1, wrap64 (t161 - 2), bt185.1))))) = some (r1, r2, r3) := H
  have A4 := Aside0.mk A40
  clear A40
  by_cases c5 : t165 = true
  · subst c5
    have H1 : ((spec_l01Src_n.f t156 t166 t167 t168 3).bind fun bt169 => ((spec_l01Src_set.f k t156 bt169.2.1 bt169.2.2.1 bt169.2.2.2).bind fun bt173 => ((spec_l01Src_one.f t156 bt173.2.1 bt173.2.2.1 bt173.2.2.2 2).bind fun bt177 => (some (bt173.1, wrap64 (524288 - bt169.1), bt177.1))))) = some (r1, r2, r3) := by rw [if_pos rfl] at H; exact H
    clear H
    have H := H1
    clear H1
    replace H := Option.bind_eq_some_iff.mp H
    obtain ⟨⟨t169, t170, t171, t172⟩, A60, H⟩ := H
    replace H : ((spec_l01Src_set.f k t156 t170 t171 t172).bind fun bt173 => ((spec_l01Src_one.f t156 bt173.2.1 bt173.2.2.1 bt173.2.2.2 2).bind fun bt177 => (some (bt173.1, wrap64 (524288 - t169), bt177.1)))) = some (r1, r2, r3) := H
    have A6 := Aside0.mk A60
    clear A60
    replace H := Option.bind_eq_some_iff.mp H
    obtain ⟨⟨t173, t174, t175, t176⟩, A70, H⟩ := H
    replace H : ((spec_l01Src_one.f t156 t174 t175 t176 2).bind fun bt177 => (some (t173, wrap64 (524288 - t169), bt177.1))) = some (r1, r2, r3) := H
    have A7 := Aside0.mk A70
    clear A70
    replace H := Option.bind_eq_some_iff.mp H
    obtain ⟨⟨t177, t178, t179, t180⟩, A80, H⟩ := H
    replace H : (some (t173, wrap64 (524288 - t169), t177)) = some (r1, r2, r3) := H
    have A8 := Aside0.mk A80
    clear A80
    simp only [Option.some.injEq, Prod.mk.injEq] at H
    obtain ⟨rfl, rfl, rfl⟩ := H
    go_enter Try.func16, Try.ntmps16
    go_wp2_with (first | ((with_reducible refine gate_callee (f := 38) rfl ?_); refine goesL_ (some 8) rfl rfl Try.func38 (by kernel_rfl) rfl #[.slice A0 l0.length c0] rfl (by (try simp only [List.map_toArray, List.map_cons, List.map_nil]); first | done | rfl | (simp only [List.length_drop, List.length_take]; rfl)) ?_; (with_reducible refine (spec_l01Source.calls _ _ l0 t156 t157 t158 t159 w _ ?side1 ?side2 ?side3 A2.out).mono ?_); (case side1 => repeat (first | (with_reducible first | exact HB.out | apply below_alloc | apply pw_below_drewN | apply below_drew1) | exact HB.out)); (case side2 => exact HR0.out); (case side3 => exact HC0.out); rintro e w9 ⟨g160, rfl, hi, hb, hb2⟩; refine ⟨_, rfl, ?_⟩; have n0_ := Aside0.mk (hb); have n1_ := Aside0.mk (hi); clear HB; have HB := n0_; have HI160 := n1_; clear n0_ n1_; (try clear hb); (try clear hb2); (try clear hk); (try clear hi)) | ((with_reducible refine gate_callee (f := 39) rfl ?_); refine goesL_ (some 10) rfl rfl Try.func39 (by kernel_rfl) rfl #[.pointer (some ⟨g160, 0, none⟩), .int .i64 70] rfl (by (try simp only [List.map_toArray, List.map_cons, List.map_nil]); first | done | rfl | (simp only [List.length_drop, List.length_take]; rfl)) ?_; (with_reducible refine (spec_l01Src_n.calls g160 t156 t157 t158 t159 70 t161 t162 t163 t164 w _ ?side1 ?side2 A3.out).mono ?_); (case side1 => repeat (first | (with_reducible first | exact HI160.out | apply IsS90.alloc | apply IsS90.drewN | apply IsS90.drew | apply IsS90.set_1 | apply IsS90.set_2 | apply IsS90.set_3) | exact HI160.out)); (case side2 => repeat (first | (with_reducible first | exact HB.out | apply below_alloc | apply pw_below_drewN | apply below_drew1 | refine below_set ?_ (IsS90.ge HI160.out)) | exact HB.out)); rintro e w10 ⟨rfl, hi, hb, hk⟩; refine ⟨_, rfl, ?_⟩; have n0_ := Aside0.mk (hb); have n1_ := Aside0.mk (hi); clear HB; clear HI160; have HB := n0_; have HI160 := n1_; clear n0_ n1_; (try clear hb); (try clear hb2); (try clear hk); (try clear hi)) | ((with_reducible refine gate_callee (f := 40) rfl ?_); refine goesL_ (some 13) rfl rfl Try.func40 (by kernel_rfl) rfl #[.pointer (some ⟨g160, 0, none⟩), .int .i64 30] rfl (by (try simp only [List.map_toArray, List.map_cons, List.map_nil]); first | done | rfl | (simp only [List.length_drop, List.length_take]; rfl)) ?_; (with_reducible refine (spec_l01Src_one.calls g160 t156 t162 t163 t164 30 true t166 t167 t168 w _ ?side1 ?side2 A4.out).mono ?_); (case side1 => repeat (first | (with_reducible first | exact HI160.out | apply IsS90.alloc | apply IsS90.drewN | apply IsS90.drew | apply IsS90.set_1 | apply IsS90.set_2 | apply IsS90.set_3) | exact HI160.out)); (case side2 => repeat (first | (with_reducible first | exact HB.out | apply below_alloc | apply pw_below_drewN | apply below_drew1 | refine below_set ?_ (IsS90.ge HI160.out)) | exact HB.out)); rintro e w11 ⟨rfl, hi, hb, hk⟩; refine ⟨_, rfl, ?_⟩; have n0_ := Aside0.mk (hb); have n1_ := Aside0.mk (hi); clear HB; clear HI160; have HB := n0_; have HI160 := n1_; clear n0_ n1_; (try clear hb); (try clear hb2); (try clear hk); (try clear hi)) | ((with_reducible refine gate_callee (f := 39) rfl ?_); refine goesL_ (some 15) rfl rfl Try.func39 (by kernel_rfl) rfl #[.pointer (some ⟨g160, 0, none⟩), .int .i64 3] rfl (by (try simp only [List.map_toArray, List.map_cons, List.map_nil]); first | done | rfl | (simp only [List.length_drop, List.length_take]; rfl)) ?_; (with_reducible refine (spec_l01Src_n.calls g160 t156 t166 t167 t168 3 t169 t170 t171 t172 w _ ?side1 ?side2 A6.out).mono ?_); (case side1 => repeat (first | (with_reducible first | exact HI160.out | apply IsS90.alloc | apply IsS90.drewN | apply IsS90.drew | apply IsS90.set_1 | apply IsS90.set_2 | apply IsS90.set_3) | exact HI160.out)); (case side2 => repeat (first | (with_reducible first | exact HB.out | apply below_alloc | apply pw_below_drewN | apply below_drew1 | refine below_set ?_ (IsS90.ge HI160.out)) | exact HB.out)); rintro e w12 ⟨rfl, hi, hb, hk⟩; refine ⟨_, rfl, ?_⟩; have n0_ := Aside0.mk (hb); have n1_ := Aside0.mk (hi); clear HB; clear HI160; have HB := n0_; have HI160 := n1_; clear n0_ n1_; (try clear hb); (try clear hb2); (try clear hk); (try clear hi)) | ((with_reducible refine gate_callee (f := 41) rfl ?_); refine goesL_ (some 18) rfl rfl Try.func41 (by kernel_rfl) rfl #[.pointer (some ⟨g160, 0, none⟩)] rfl (by (try simp only [List.map_toArray, List.map_cons, List.map_nil]); first | done | rfl | (simp only [List.length_drop, List.length_take]; rfl)) ?_; (with_reducible refine (spec_l01Src_set.calls k g160 t156 t170 t171 t172 t173 t174 t175 t176 w _ ?side1 ?side2 A7.out).mono ?_); (case side1 => repeat (first | (with_reducible first | exact HI160.out | apply IsS90.alloc | apply IsS90.drewN | apply IsS90.drew | apply IsS90.set_1 | apply IsS90.set_2 | apply IsS90.set_3) | exact HI160.out)); (case side2 => repeat (first | (with_reducible first | exact HB.out | apply below_alloc | apply pw_below_drewN | apply below_drew1 | refine below_set ?_ (IsS90.ge HI160.out)) | exact HB.out)); rintro e w13 ⟨rfl, hi, hb, hk⟩; refine ⟨_, rfl, ?_⟩; have n0_ := Aside0.mk (hb); have n1_ := Aside0.mk (hi); clear HB; clear HI160; have HB := n0_; have HI160 := n1_; clear n0_ n1_; (try clear hb); (try clear hb2); (try clear hk); (try clear hi)) | ((with_reducible refine gate_callee (f := 40) rfl ?_); refine goesL_ (some 21) rfl rfl Try.func40 (by kernel_rfl) rfl #[.pointer (some ⟨g160, 0, none⟩), .int .i64 2] rfl (by (try simp only [List.map_toArray, List.map_cons, List.map_nil]); first | done | rfl | (simp only [List.length_drop, List.length_take]; rfl)) ?_; (with_reducible refine (spec_l01Src_one.calls g160 t156 t174 t175 t176 2 t177 t178 t179 t180 w _ ?side1 ?side2 A8.out).mono ?_); (case side1 => repeat (first | (with_reducible first | exact HI160.out | apply IsS90.alloc | apply IsS90.drewN | apply IsS90.drew | apply IsS90.set_1 | apply IsS90.set_2 | apply IsS90.set_3) | exact HI160.out)); (case side2 => repeat (first | (with_reducible first | exact HB.out | apply below_alloc | apply pw_below_drewN | apply below_drew1 | refine below_set ?_ (IsS90.ge HI160.out)) | exact HB.out)); rintro e w14 ⟨rfl, hi, hb, hk⟩; refine ⟨_, rfl, ?_⟩; have n0_ := Aside0.mk (hb); have n1_ := Aside0.mk (hi); clear HB; clear HI160; have HB := n0_; have HI160 := n1_; clear n0_ n1_; (try clear hb); (try clear hb2); (try clear hk); (try clear hi)))
    go_ret3
    exact ⟨by first | rfl | (simp [errW_none, errW_some] <;> rfl) | (simp [*, errW_none, errW_some] <;> rfl), by repeat (first | (with_reducible first | exact HB.out | apply below_alloc | apply pw_below_drewN | apply below_drew1 | refine below_set ?_ (IsS90.ge HI160.out)) | exact HB.out)⟩
  · replace c5 := Bool.eq_false_iff.mpr c5
    subst c5
    have H1 : ((spec_l01Src_set.f k t156 t166 t167 t168).bind fun bt181 => ((spec_l01Src_one.f t156 bt181.2.1 bt181.2.2.1 bt181.2.2.2 2).bind fun bt185 => (some (bt181.1, wrap64 (t161 - 2), bt185.1)))) = some (r1, r2, r3) := by rw [if_neg (show ¬ (false = true) by decide)] at H; exact H
    clear H
    have H := H1
    clear H1
    replace H := Option.bind_eq_some_iff.mp H
    obtain ⟨⟨t181, t182, t183, t184⟩, A150, H⟩ := H
    replace H : ((spec_l01Src_one.f t156 t182 t183 t184 2).bind fun bt185 => (some (t181, wrap64 (t161 - 2), bt185.1))) = some (r1, r2, r3) := H
    have A15 := Aside0.mk A150
    clear A150
    replace H := Option.bind_eq_some_iff.mp H
    obtain ⟨⟨t185, t186, t187, t188⟩, A160, H⟩ := H
    replace H : (some (t181, wrap64 (t161 - 2), t185)) = some (r1, r2, r3) := H
    have A16 := Aside0.mk A160
    clear A160
    simp only [Option.some.injEq, Prod.mk.injEq] at H
    obtain ⟨rfl, rfl, rfl⟩ := H
    go_enter Try.func16, Try.ntmps16
    go_wp2_with (first | ((with_reducible refine gate_callee (f := 38) rfl ?_); refine goesL_ (some 8) rfl rfl Try.func38 (by kernel_rfl) rfl #[.slice A0 l0.length c0] rfl (by (try simp only [List.map_toArray, List.map_cons, List.map_nil]); first | done | rfl | (simp only [List.length_drop, List.length_take]; rfl)) ?_; (with_reducible refine (spec_l01Source.calls _ _ l0 t156 t157 t158 t159 w _ ?side1 ?side2 ?side3 A2.out).mono ?_); (case side1 => repeat (first | (with_reducible first | exact HB.out | apply below_alloc | apply pw_below_drewN | apply below_drew1) | exact HB.out)); (case side2 => exact HR0.out); (case side3 => exact HC0.out); rintro e w17 ⟨g160, rfl, hi, hb, hb2⟩; refine ⟨_, rfl, ?_⟩; have n0_ := Aside0.mk (hb); have n1_ := Aside0.mk (hi); clear HB; have HB := n0_; have HI160 := n1_; clear n0_ n1_; (try clear hb); (try clear hb2); (try clear hk); (try clear hi)) | ((with_reducible refine gate_callee (f := 39) rfl ?_); refine goesL_ (some 10) rfl rfl Try.func39 (by kernel_rfl) rfl #[.pointer (some ⟨g160, 0, none⟩), .int .i64 70] rfl (by (try simp only [List.map_toArray, List.map_cons, List.map_nil]); first | done | rfl | (simp only [List.length_drop, List.length_take]; rfl)) ?_; (with_reducible refine (spec_l01Src_n.calls g160 t156 t157 t158 t159 70 t161 t162 t163 t164 w _ ?side1 ?side2 A3.out).mono ?_); (case side1 => repeat (first | (with_reducible first | exact HI160.out | apply IsS90.alloc | apply IsS90.drewN | apply IsS90.drew | apply IsS90.set_1 | apply IsS90.set_2 | apply IsS90.set_3) | exact HI160.out)); (case side2 => repeat (first | (with_reducible first | exact HB.out | apply below_alloc | apply pw_below_drewN | apply below_drew1 | refine below_set ?_ (IsS90.ge HI160.out)) | exact HB.out)); rintro e w18 ⟨rfl, hi, hb, hk⟩; refine ⟨_, rfl, ?_⟩; have n0_ := Aside0.mk (hb); have n1_ := Aside0.mk (hi); clear HB; clear HI160; have HB := n0_; have HI160 := n1_; clear n0_ n1_; (try clear hb); (try clear hb2); (try clear hk); (try clear hi)) | ((with_reducible refine gate_callee (f := 40) rfl ?_); refine goesL_ (some 13) rfl rfl Try.func40 (by kernel_rfl) rfl #[.pointer (some ⟨g160, 0, none⟩), .int .i64 30] rfl (by (try simp only [List.map_toArray, List.map_cons, List.map_nil]); first | done | rfl | (simp only [List.length_drop, List.length_take]; rfl)) ?_; (with_reducible refine (spec_l01Src_one.calls g160 t156 t162 t163 t164 30 false t166 t167 t168 w _ ?side1 ?side2 A4.out).mono ?_); (case side1 => repeat (first | (with_reducible first | exact HI160.out | apply IsS90.alloc | apply IsS90.drewN | apply IsS90.drew | apply IsS90.set_1 | apply IsS90.set_2 | apply IsS90.set_3) | exact HI160.out)); (case side2 => repeat (first | (with_reducible first | exact HB.out | apply below_alloc | apply pw_below_drewN | apply below_drew1 | refine below_set ?_ (IsS90.ge HI160.out)) | exact HB.out)); rintro e w19 ⟨rfl, hi, hb, hk⟩; refine ⟨_, rfl, ?_⟩; have n0_ := Aside0.mk (hb); have n1_ := Aside0.mk (hi); clear HB; clear HI160; have HB := n0_; have HI160 := n1_; clear n0_ n1_; (try clear hb); (try clear hb2); (try clear hk); (try clear hi)) | ((with_reducible refine gate_callee (f := 41) rfl ?_); refine goesL_ (some 18) rfl rfl Try.func41 (by kernel_rfl) rfl #[.pointer (some ⟨g160, 0, none⟩)] rfl (by (try simp only [List.map_toArray, List.map_cons, List.map_nil]); first | done | rfl | (simp only [List.length_drop, List.length_take]; rfl)) ?_; (with_reducible refine (spec_l01Src_set.calls k g160 t156 t166 t167 t168 t181 t182 t183 t184 w _ ?side1 ?side2 A15.out).mono ?_); (case side1 => repeat (first | (with_reducible first | exact HI160.out | apply IsS90.alloc | apply IsS90.drewN | apply IsS90.drew | apply IsS90.set_1 | apply IsS90.set_2 | apply IsS90.set_3) | exact HI160.out)); (case side2 => repeat (first | (with_reducible first | exact HB.out | apply below_alloc | apply pw_below_drewN | apply below_drew1 | refine below_set ?_ (IsS90.ge HI160.out)) | exact HB.out)); rintro e w20 ⟨rfl, hi, hb, hk⟩; refine ⟨_, rfl, ?_⟩; have n0_ := Aside0.mk (hb); have n1_ := Aside0.mk (hi); clear HB; clear HI160; have HB := n0_; have HI160 := n1_; clear n0_ n1_; (try clear hb); (try clear hb2); (try clear hk); (try clear hi)) | ((with_reducible refine gate_callee (f := 40) rfl ?_); refine goesL_ (some 21) rfl rfl Try.func40 (by kernel_rfl) rfl #[.pointer (some ⟨g160, 0, none⟩), .int .i64 2] rfl (by (try simp only [List.map_toArray, List.map_cons, List.map_nil]); first | done | rfl | (simp only [List.length_drop, List.length_take]; rfl)) ?_; (with_reducible refine (spec_l01Src_one.calls g160 t156 t182 t183 t184 2 t185 t186 t187 t188 w _ ?side1 ?side2 A16.out).mono ?_); (case side1 => repeat (first | (with_reducible first | exact HI160.out | apply IsS90.alloc | apply IsS90.drewN | apply IsS90.drew | apply IsS90.set_1 | apply IsS90.set_2 | apply IsS90.set_3) | exact HI160.out)); (case side2 => repeat (first | (with_reducible first | exact HB.out | apply below_alloc | apply pw_below_drewN | apply below_drew1 | refine below_set ?_ (IsS90.ge HI160.out)) | exact HB.out)); rintro e w21 ⟨rfl, hi, hb, hk⟩; refine ⟨_, rfl, ?_⟩; have n0_ := Aside0.mk (hb); have n1_ := Aside0.mk (hi); clear HB; clear HI160; have HB := n0_; have HI160 := n1_; clear n0_ n1_; (try clear hb); (try clear hb2); (try clear hk); (try clear hi)))
    go_ret3
    exact ⟨by first | rfl | (simp [errW_none, errW_some] <;> rfl) | (simp [*, errW_none, errW_some] <;> rfl), by repeat (first | (with_reducible first | exact HB.out | apply below_alloc | apply pw_below_drewN | apply below_drew1 | refine below_set ?_ (IsS90.ge HI160.out)) | exact HB.out)⟩

/-! ### impl_yhasBit: function 29 -/
def impl_yhasBit.f (a0 : ByteArray) (a1 : Int) : Option (Bool) := if a1 ≥ 0 then (if (wrap64 (Int.tdiv a1 8)) < (a0.size : Int) then (if 0 ≤ (wrap64 (Int.tdiv a1 8)) then (if 0 ≤ (Int.tmod a1 8) then (some ((Go.bits .and .u8 (shr .u8 (bt a0 (wrap64 (Int.tdiv a1 8))) (Int.tmod a1 8)) 1) == 1)) else (none)) else (none)) else (some false)) else (some false)
set_option maxHeartbeats 8000000 in
set_option maxRecDepth 100000 in
theorem impl_yhasBit.calls (a0 : ByteArray) (a1 : Int) (r : Bool) (w : World) (h : impl_yhasBit.f a0 a1 = some r) :
    Calls Try.prog 29 #[.string a0, .int .i64 a1] w fun e w' => e = .returned (.bool r) ∧ Drawn0 w w' := by
  have H : (if a1 ≥ 0 then (if (wrap64 (Int.tdiv a1 8)) < (a0.size : Int) then (if 0 ≤ (wrap64 (Int.tdiv a1 8)) then (if 0 ≤ (Int.tmod a1 8) then (some ((Go.bits .and .u8 (shr .u8 (bt a0 (wrap64 (Int.tdiv a1 8))) (Int.tmod a1 8)) 1) == 1)) else (none)) else (none)) else (some false)) else (some false)) = some r := h
  clear h
  by_cases c3 : a1 ≥ 0
  · rw [if_pos c3] at H
    have c3b0 : decide (0 ≤ a1) = true := decide_eq_true c3
    clear c3
    by_cases c4 : (wrap64 (Int.tdiv a1 8)) < (a0.size : Int)
    · rw [if_pos c4] at H
      have c4b0 : decide ((wrap64 (Int.tdiv a1 8)) < (a0.size : Int)) = true := decide_eq_true c4
      clear c4
      obtain ⟨ji5, hji5⟩ : ∃ j_ : Int, (wrap64 (Int.tdiv a1 8)) = j_ := ⟨_, rfl⟩
      replace H : (if 0 ≤ (ji5) then (if 0 ≤ (Int.tmod a1 8) then (some ((Go.bits .and .u8 (shr .u8 (bt a0 (ji5)) (Int.tmod a1 8)) 1) == 1)) else (none)) else (none)) = some r := by first | (rw [hji5] at H; exact H) | (simp only [hji5] at H ⊢; exact H)
      (try rw [hji5] at c4b0)
      have hji5w : (IntKind.i64.wrap (Int.tdiv a1 8)) = ji5 := (i64_w _).trans hji5
      by_cases c6 : 0 ≤ (ji5)
      · rw [if_pos c6] at H
        have c6b0 : decide (0 ≤ (ji5)) = true := decide_eq_true c6
        clear c6
        obtain ⟨ji8, hji8⟩ : ∃ j_ : Int, (Int.tmod a1 8) = j_ := ⟨_, rfl⟩
        replace H : (if 0 ≤ (ji8) then (some ((Go.bits .and .u8 (shr .u8 (bt a0 (ji5)) (ji8)) 1) == 1)) else (none)) = some r := by first | (rw [hji8] at H; exact H) | (simp only [hji8] at H ⊢; exact H)
        by_cases c9 : 0 ≤ (ji8)
        · rw [if_pos c9] at H
          have c9b0 := eq_true c9
          have c9b1 : decide (0 ≤ (ji8)) = true := decide_eq_true c9
          clear c9
          obtain ⟨ji10, hji10⟩ : ∃ j_ : Int, (shr .u8 (bt a0 (ji5)) (ji8)) = j_ := ⟨_, rfl⟩
          replace H : (some ((Go.bits .and .u8 (ji10) 1) == 1)) = some r := by first | (rw [hji10] at H; exact H) | (simp only [hji10] at H ⊢; exact H)
          have hji10_ : ((bt a0 (ji5)) / 2 ^ min (ji8).toNat 8) = ji10 := hji10
          have hji10z : (ji8) ≤ 8 → ((bt a0 (ji5)) / 2 ^ (ji8).toNat) = ji10 := shr_small hji10
          obtain rfl := Option.some.inj H
          have p7 : 0 ≤ ((ji5) : Int) := of_decide_eq_true (by first | (with_reducible assumption) | assumption)
          have q7 : (ji5) < (a0.size : Int) := of_decide_eq_true (by first | (with_reducible assumption) | assumption)
          have hx7 := bt_at a0 (ji5)
          replace p7 := eq_true p7
          replace q7 := eq_true q7
          go_enter Try.func29, Try.ntmps29
          go_wp2
          go_ret
          exact ⟨by first | rfl | (simp; done) | (simp only [← hji5, ← hji8, ← hji10] <;> (first | rfl | simp)) | (simp [*]; done), by repeat (first | exact Drawn0.refl _ | apply Drawn0.step)⟩
        · rw [if_neg c9] at H
          exact absurd H (by simp)
      · rw [if_neg c6] at H
        exact absurd H (by simp)
    · rw [if_neg c4] at H
      have c4b0 : decide ((wrap64 (Int.tdiv a1 8)) < (a0.size : Int)) = false := decide_eq_false c4
      clear c4
      obtain rfl := Option.some.inj H
      go_enter Try.func29, Try.ntmps29
      go_wp2
      go_ret
      exact ⟨by first | rfl | (simp; done) | (simp [*]; done), by repeat (first | exact Drawn0.refl _ | apply Drawn0.step)⟩
  · rw [if_neg c3] at H
    have c3b0 : decide (0 ≤ a1) = false := decide_eq_false c3
    clear c3
    obtain rfl := Option.some.inj H
    go_enter Try.func29, Try.ntmps29
    go_wp2
    go_ret
    exact ⟨by first | rfl | (simp; done) | (simp [*]; done), by repeat (first | exact Drawn0.refl _ | apply Drawn0.step)⟩

/-! ### impl_HasBit: function 17 -/
def impl_HasBit.f (k : Nat) (a0 : ByteArray) (a1 : Int) : Option (Bool) := (impl_ybig.f k (([a0] : List ByteArray))).bind fun t192 => (if t192 = true then (some false) else ((impl_yhasBit.f a0 a1).bind fun t193 => (some t193)))
theorem impl_HasBit.mono : ∀ a0 a1 k, LeO (impl_HasBit.f k a0 a1) (impl_HasBit.f (k + 1) a0 a1) := by
  intro a0 a1 k
  unfold impl_HasBit.f
  repeat' first
      | (with_reducible exact impl_ybig.mono _ _)
      | (with_reducible exact LeO.refl _)
      | (with_reducible exact LeO.none _)
      | (with_reducible refine LeO.ite ?_ ?_)
      | (with_reducible refine LeO.bind ?_ (fun _ => ?_))
      | exact impl_ybig.mono _ _
      | exact LeO.none _
      | refine LeO.ite ?_ ?_
      | refine LeO.bind ?_ (fun _ => ?_)
set_option maxHeartbeats 8000000 in
set_option maxRecDepth 100000 in
theorem impl_HasBit.calls (k : Nat) (a0 : ByteArray) (a1 : Int) (r : Bool) (w : World) (h : impl_HasBit.f k a0 a1 = some r) :
    Calls Try.prog 17 #[.string a0, .int .i64 a1] w fun e w' => e = .returned (.bool r) ∧ Below w.heap.size w w' := by
  have HB := Aside0.mk (Below.refl w.heap.size w)
  have H : ((impl_ybig.f k (([a0] : List ByteArray))).bind fun t192 => (if t192 = true then (some false) else ((impl_yhasBit.f a0 a1).bind fun t193 => (some t193)))) = some r := h
  clear h
  obtain ⟨y189, hy189⟩ : ∃ y_ : List ByteArray, y_ = (([a0] : List ByteArray)) := ⟨_, rfl⟩
  replace H : ((impl_ybig.f k y189).bind fun t192 => (if t192 = true then (some false) else ((impl_yhasBit.f a0 a1).bind fun t193 => (some t193)))) = some r := by first | (rw [hy189]; with_reducible exact H) | (have H2_ := (Option.bind_some _ _).symm.trans H; rw [hy189]; with_reducible exact H2_) | (have H2_ := (Option.bind_some _ _).symm.trans H; with_reducible exact H2_) | with_reducible exact H | (rw [hy189]; exact H) | exact H
  have Ny189 := Aside0.mk hy189
  clear hy189
  replace H := Option.bind_eq_some_iff.mp H
  obtain ⟨t192, A30, H⟩ := H
  replace H : (if t192 = true then (some false) else ((impl_yhasBit.f a0 a1).bind fun t193 => (some t193))) = some r := H
  have A3 := Aside0.mk A30
  clear A30
  by_cases c4 : t192 = true
  · subst c4
    have H1 : (some false) = some r := by rw [if_pos rfl] at H; exact H
    clear H
    have H := H1
    clear H1
    obtain rfl := Option.some.inj H
    go_enter Try.func17, Try.ntmps17
    go_wp2_with (first | ((with_reducible refine gate_dst (N := 6) rfl ?_); refine Kd.R_lit Kd.string _ 9 ?hg (N := 6) ?hd (xs := ([a0] : List ByteArray)) (inner := [.string a0]) (ok := fun _ => True) (okp := fun _ => True) ?hr ?hp (fun _ hk => hk) trivial (Below.refl _ _) (Nat.le_refl _) (by simp) ?_; (case hd => rfl); (case hg => rfl); (case hr => first | (go_simp; done) | (go_simp; rfl)); (case hp => exact (Reps.one (show Kd.M Kd.string _ _ _ a0 [.string a0] from rfl) (Reps.none _ _))); intro v190 w5 ho6 hb hg_ hnew_; clear hg_ hnew_; (first | rw [← Ny189.out] at ho6 | (simp only [Int.reduceToNat] at ho6; rw [← Ny189.out] at ho6)); have n0_ := Aside0.mk (Kd.R_lower ho6 (below_size (by repeat (first | (with_reducible first | exact HB.out | apply below_alloc | apply pw_below_drewN | apply below_drew1) | exact HB.out)))); have n1_ := Aside0.mk (below_step (by repeat (first | (with_reducible first | exact HB.out | apply below_alloc | apply pw_below_drewN | apply below_drew1) | exact HB.out)) hb); clear HB; have HO191 := n0_; have HB := n1_; clear n0_ n1_; clear hb ho6; obtain ⟨Ao7, co7, eo7⟩ := Kd.R_slice HO191.out; subst eo7) | ((with_reducible refine gate_callee (f := 34) rfl ?_); refine goesL_ (some 7) rfl rfl Try.func34 (by kernel_rfl) rfl #[.slice Ao7 y189.length co7] rfl (by (try simp only [List.map_toArray, List.map_cons, List.map_nil]); first | done | rfl | (simp only [List.length_drop, List.length_take]; rfl)) ?_; (with_reducible refine (impl_ybig.calls k _ _ y189 true _ ?side1 ?side2 A3.out).mono ?_); (case side1 => repeat (first | exact (Kd.R_reads' HO191.out).2.2 | (with_reducible refine Kd.C_alloc ?_ _) | (with_reducible refine Kd.C_drewN ?_ _) | (with_reducible refine Kd.C_drew ?_))); (case side2 => exact (Kd.R_reads' HO191.out).2.1); rintro e w' ⟨rfl, ⟨nd, rfl⟩⟩; refine ⟨_, rfl, ?_⟩))
    go_ret
    exact ⟨by first | rfl | (simp [errW_none, errW_some] <;> rfl) | (simp [*, errW_none, errW_some] <;> rfl), by repeat (first | (with_reducible first | exact HB.out | apply below_alloc | apply pw_below_drewN | apply below_drew1) | exact HB.out)⟩
  · replace c4 := Bool.eq_false_iff.mpr c4
    subst c4
    have H1 : ((impl_yhasBit.f a0 a1).bind fun t193 => (some t193)) = some r := by rw [if_neg (show ¬ (false = true) by decide)] at H; exact H
    clear H
    have H := H1
    clear H1
    replace H := Option.bind_eq_some_iff.mp H
    obtain ⟨t193, A80, H⟩ := H
    replace H : (some t193) = some r := H
    have A8 := Aside0.mk A80
    clear A80
    obtain rfl := Option.some.inj H
    go_enter Try.func17, Try.ntmps17
    go_wp2_with (first | ((with_reducible refine gate_dst (N := 6) rfl ?_); refine Kd.R_lit Kd.string _ 9 ?hg (N := 6) ?hd (xs := ([a0] : List ByteArray)) (inner := [.string a0]) (ok := fun _ => True) (okp := fun _ => True) ?hr ?hp (fun _ hk => hk) trivial (Below.refl _ _) (Nat.le_refl _) (by simp) ?_; (case hd => rfl); (case hg => rfl); (case hr => first | (go_simp; done) | (go_simp; rfl)); (case hp => exact (Reps.one (show Kd.M Kd.string _ _ _ a0 [.string a0] from rfl) (Reps.none _ _))); intro v190 w9 ho10 hb hg_ hnew_; clear hg_ hnew_; (first | rw [← Ny189.out] at ho10 | (simp only [Int.reduceToNat] at ho10; rw [← Ny189.out] at ho10)); have n0_ := Aside0.mk (Kd.R_lower ho10 (below_size (by repeat (first | (with_reducible first | exact HB.out | apply below_alloc | apply pw_below_drewN | apply below_drew1) | exact HB.out)))); have n1_ := Aside0.mk (below_step (by repeat (first | (with_reducible first | exact HB.out | apply below_alloc | apply pw_below_drewN | apply below_drew1) | exact HB.out)) hb); clear HB; have HO191 := n0_; have HB := n1_; clear n0_ n1_; clear hb ho10; obtain ⟨Ao11, co11, eo11⟩ := Kd.R_slice HO191.out; subst eo11) | ((with_reducible refine gate_callee (f := 34) rfl ?_); refine goesL_ (some 7) rfl rfl Try.func34 (by kernel_rfl) rfl #[.slice Ao11 y189.length co11] rfl (by (try simp only [List.map_toArray, List.map_cons, List.map_nil]); first | done | rfl | (simp only [List.length_drop, List.length_take]; rfl)) ?_; (with_reducible refine (impl_ybig.calls k _ _ y189 false _ ?side1 ?side2 A3.out).mono ?_); (case side1 => repeat (first | exact (Kd.R_reads' HO191.out).2.2 | (with_reducible refine Kd.C_alloc ?_ _) | (with_reducible refine Kd.C_drewN ?_ _) | (with_reducible refine Kd.C_drew ?_))); (case side2 => exact (Kd.R_reads' HO191.out).2.1); rintro e w' ⟨rfl, ⟨nd, rfl⟩⟩; refine ⟨_, rfl, ?_⟩) | (go_at_call 29; (with_reducible refine (impl_yhasBit.calls a0 a1 t193 _ A8.out).mono ?_); rintro e w' ⟨rfl, ⟨nd, rfl⟩⟩))
    go_ret
    exact ⟨by first | rfl | (simp [errW_none, errW_some] <;> rfl) | (simp [*, errW_none, errW_some] <;> rfl), by repeat (first | (with_reducible first | exact HB.out | apply below_alloc | apply pw_below_drewN | apply below_drew1) | exact HB.out)⟩

/-! ### impl_NextBit: function 19 -/
def impl_NextBit.l0 : Nat → ByteArray → Bool → Int → Option (Int)
  | 0, _, _, _ => none
  | k + 1, x0, x2, x7 => if x7 < (wrap64 ((x0.size : Int) * 8)) then ((impl_yhasBit.f x0 x7).bind fun t198 => (if (t198 == x2) = true then (some x7) else (impl_NextBit.l0 k x0 x2 (wrap64 (x7 + 1))))) else (if x2 = true then (some (-1)) else (some x7))
def impl_NextBit.f (k : Nat) (a0 : ByteArray) (a1 : Int) (a2 : Bool) : Option (Int) := (impl_ybig.f k (([a0] : List ByteArray))).bind fun t197 => (if t197 = true then (some 0) else (impl_NextBit.l0 k a0 a2 (mx a1 0)))
theorem impl_NextBit.mono_l : ∀ k, (∀ y0 y1 y2, LeO (impl_NextBit.l0 k y0 y1 y2) (impl_NextBit.l0 (k + 1) y0 y1 y2))
  | 0 => fun _ _ _ r h => by simp [impl_NextBit.l0] at h
  | k + 1 => by
    have ih0 := impl_NextBit.mono_l k
    · intro y0 y1 y2
      unfold impl_NextBit.l0
      repeat' first
      | (with_reducible exact ih0 _ _ _)
      | (with_reducible exact impl_ybig.mono _ _)
      | (with_reducible exact LeO.refl _)
      | (with_reducible exact LeO.none _)
      | (with_reducible refine LeO.ite ?_ ?_)
      | (with_reducible refine LeO.bind ?_ (fun _ => ?_))
      | exact ih0 _ _ _
      | exact impl_ybig.mono _ _
      | exact LeO.none _
      | refine LeO.ite ?_ ?_
      | refine LeO.bind ?_ (fun _ => ?_)
theorem impl_NextBit.mono : ∀ a0 a1 a2 k, LeO (impl_NextBit.f k a0 a1 a2) (impl_NextBit.f (k + 1) a0 a1 a2) := by
  intro a0 a1 a2 k
  have ih0 := impl_NextBit.mono_l k
  unfold impl_NextBit.f
  repeat' first
      | (with_reducible exact ih0 _ _ _)
      | (with_reducible exact impl_ybig.mono _ _)
      | (with_reducible exact LeO.refl _)
      | (with_reducible exact LeO.none _)
      | (with_reducible refine LeO.ite ?_ ?_)
      | (with_reducible refine LeO.bind ?_ (fun _ => ?_))
      | exact ih0 _ _ _
      | exact impl_ybig.mono _ _
      | exact LeO.none _
      | refine LeO.ite ?_ ?_
      | refine LeO.bind ?_ (fun _ => ?_)
set_option maxHeartbeats 8000000 in
set_option maxRecDepth 100000 in
theorem impl_NextBit.calls (k : Nat) (a0 : ByteArray) (a1 : Int) (a2 : Bool) (r : Int) (w : World) (h : impl_NextBit.f k a0 a1 a2 = some r) :
    Calls Try.prog 19 #[.string a0, .int .i64 a1, .bool a2] w fun e w' => e = .returned (.int .i64 r) ∧ Below w.heap.size w w' := by
  have HB := Aside0.mk (Below.refl w.heap.size w)
  have H : ((impl_ybig.f k (([a0] : List ByteArray))).bind fun t197 => (if t197 = true then (some 0) else (impl_NextBit.l0 k a0 a2 (mx a1 0)))) = some r := h
  clear h
  obtain ⟨y194, hy194⟩ : ∃ y_ : List ByteArray, y_ = (([a0] : List ByteArray)) := ⟨_, rfl⟩
  replace H : ((impl_ybig.f k y194).bind fun t197 => (if t197 = true then (some 0) else (impl_NextBit.l0 k a0 a2 (mx a1 0)))) = some r := by first | (rw [hy194]; with_reducible exact H) | (have H2_ := (Option.bind_some _ _).symm.trans H; rw [hy194]; with_reducible exact H2_) | (have H2_ := (Option.bind_some _ _).symm.trans H; with_reducible exact H2_) | with_reducible exact H | (rw [hy194]; exact H) | exact H
  have Ny194 := Aside0.mk hy194
  clear hy194
  replace H := Option.bind_eq_some_iff.mp H
  obtain ⟨t197, A40, H⟩ := H
  replace H : (if t197 = true then (some 0) else (impl_NextBit.l0 k a0 a2 (mx a1 0))) = some r := H
  have A4 := Aside0.mk A40
  clear A40
  by_cases c5 : t197 = true
  · subst c5
    have H1 : (some 0) = some r := by rw [if_pos rfl] at H; exact H
    clear H
    have H := H1
    clear H1
    obtain rfl := Option.some.inj H
    go_enter Try.func19, Try.ntmps19
    go_wp2_with (first | ((with_reducible refine gate_dst (N := 9) rfl ?_); refine Kd.R_lit Kd.string _ 9 ?hg (N := 9) ?hd (xs := ([a0] : List ByteArray)) (inner := [.string a0]) (ok := fun _ => True) (okp := fun _ => True) ?hr ?hp (fun _ hk => hk) trivial (Below.refl _ _) (Nat.le_refl _) (by simp) ?_; (case hd => rfl); (case hg => rfl); (case hr => first | (go_simp; done) | (go_simp; rfl)); (case hp => exact (Reps.one (show Kd.M Kd.string _ _ _ a0 [.string a0] from rfl) (Reps.none _ _))); intro v195 w6 ho7 hb hg_ hnew_; clear hg_ hnew_; (first | rw [← Ny194.out] at ho7 | (simp only [Int.reduceToNat] at ho7; rw [← Ny194.out] at ho7)); have n0_ := Aside0.mk (Kd.R_lower ho7 (below_size (by repeat (first | (with_reducible first | exact HB.out | apply below_alloc | apply pw_below_drewN | apply below_drew1) | exact HB.out)))); have n1_ := Aside0.mk (below_step (by repeat (first | (with_reducible first | exact HB.out | apply below_alloc | apply pw_below_drewN | apply below_drew1) | exact HB.out)) hb); clear HB; have HO196 := n0_; have HB := n1_; clear n0_ n1_; clear hb ho7; obtain ⟨Ao8, co8, eo8⟩ := Kd.R_slice HO196.out; subst eo8) | ((with_reducible refine gate_callee (f := 34) rfl ?_); refine goesL_ (some 10) rfl rfl Try.func34 (by kernel_rfl) rfl #[.slice Ao8 y194.length co8] rfl (by (try simp only [List.map_toArray, List.map_cons, List.map_nil]); first | done | rfl | (simp only [List.length_drop, List.length_take]; rfl)) ?_; (with_reducible refine (impl_ybig.calls k _ _ y194 true _ ?side1 ?side2 A4.out).mono ?_); (case side1 => repeat (first | exact (Kd.R_reads' HO196.out).2.2 | (with_reducible refine Kd.C_alloc ?_ _) | (with_reducible refine Kd.C_drewN ?_ _) | (with_reducible refine Kd.C_drew ?_))); (case side2 => exact (Kd.R_reads' HO196.out).2.1); rintro e w' ⟨rfl, ⟨nd, rfl⟩⟩; refine ⟨_, rfl, ?_⟩))
    go_ret
    exact ⟨by first | rfl | (simp [errW_none, errW_some] <;> rfl) | (simp [*, errW_none, errW_some] <;> rfl), by repeat (first | (with_reducible first | exact HB.out | apply below_alloc | apply pw_below_drewN | apply below_drew1) | exact HB.out)⟩
  · replace c5 := Bool.eq_false_iff.mpr c5
    subst c5
    have H1 : (impl_NextBit.l0 k a0 a2 (mx a1 0)) = some r := by rw [if_neg (show ¬ (false = true) by decide)] at H; exact H
    clear H
    have H := H1
    clear H1
    obtain ⟨ji9, hji9⟩ : ∃ j_ : Int, (mx a1 0) = j_ := ⟨_, rfl⟩
    replace H : (impl_NextBit.l0 k a0 a2 ji9) = some r := by first | (rw [hji9] at H; exact H) | (simp only [hji9] at H ⊢; exact H)
    (try rw [hji9] at A4)
    (try (have hji9l : 0 ≤ ji9 := by (rw [← hji9]; unfold mx; (repeat' split) <;> omega)))
    (try (have hji9m : 0 ≤ ji9 := by omega))
    have hji9_ : (if a1 < 0 then 0 else a1) = ji9 := hji9
    have H' := Aside0.mk H
    clear H
    go_enter Try.func19, Try.ntmps19
    go_wp2_with (first | ((with_reducible refine gate_dst (N := 9) rfl ?_); refine Kd.R_lit Kd.string _ 9 ?hg (N := 9) ?hd (xs := ([a0] : List ByteArray)) (inner := [.string a0]) (ok := fun _ => True) (okp := fun _ => True) ?hr ?hp (fun _ hk => hk) trivial (Below.refl _ _) (Nat.le_refl _) (by simp) ?_; (case hd => rfl); (case hg => rfl); (case hr => first | (go_simp; done) | (go_simp; rfl)); (case hp => exact (Reps.one (show Kd.M Kd.string _ _ _ a0 [.string a0] from rfl) (Reps.none _ _))); intro v195 w10 ho11 hb hg_ hnew_; clear hg_ hnew_; (first | rw [← Ny194.out] at ho11 | (simp only [Int.reduceToNat] at ho11; rw [← Ny194.out] at ho11)); have n0_ := Aside0.mk (Kd.R_lower ho11 (below_size (by repeat (first | (with_reducible first | exact HB.out | apply below_alloc | apply pw_below_drewN | apply below_drew1) | exact HB.out)))); have n1_ := Aside0.mk (below_step (by repeat (first | (with_reducible first | exact HB.out | apply below_alloc | apply pw_below_drewN | apply below_drew1) | exact HB.out)) hb); clear HB; have HO196 := n0_; have HB := n1_; clear n0_ n1_; clear hb ho11; obtain ⟨Ao12, co12, eo12⟩ := Kd.R_slice HO196.out; subst eo12) | ((with_reducible refine gate_callee (f := 34) rfl ?_); refine goesL_ (some 10) rfl rfl Try.func34 (by kernel_rfl) rfl #[.slice Ao12 y194.length co12] rfl (by (try simp only [List.map_toArray, List.map_cons, List.map_nil]); first | done | rfl | (simp only [List.length_drop, List.length_take]; rfl)) ?_; (with_reducible refine (impl_ybig.calls k _ _ y194 false _ ?side1 ?side2 A4.out).mono ?_); (case side1 => repeat (first | exact (Kd.R_reads' HO196.out).2.2 | (with_reducible refine Kd.C_alloc ?_ _) | (with_reducible refine Kd.C_drewN ?_ _) | (with_reducible refine Kd.C_drew ?_))); (case side2 => exact (Kd.R_reads' HO196.out).2.1); rintro e w' ⟨rfl, ⟨nd, rfl⟩⟩; refine ⟨_, rfl, ?_⟩))
    go_loopg [7] k (fun kq v7 w' => ∃ (x7_1 : Int), v7 = .int .i64 x7_1 ∧ Aside0 (impl_NextBit.l0 kq a0 a2 x7_1 = some r) ∧ Aside0 (kq ≤ k) ∧ Aside0 (Below w.heap.size w w'))
    case atStart => exact ⟨(ji9), (by first | rfl | (simp; done) | (simp only [← hji9] <;> (first | rfl | simp)) | (simp [*]; done)), H', ⟨Nat.le_refl _⟩, ⟨by repeat (first | (with_reducible first | exact HB.out | apply below_alloc | apply pw_below_drewN | apply below_drew1) | exact HB.out)⟩⟩
    case round =>
      clear H'
      try clear c1
      try clear p2
      try clear c3
      try clear c5
      obtain ⟨x7_1, rfl, HA, HK1, HB⟩ := hrel
      cases gk with
      | zero => exact absurd HA.out (by simp [impl_NextBit.l0])
      | succ k1 =>
        have H := HA.out
        clear HA
        simp only [impl_NextBit.l0] at H
        by_cases c13 : x7_1 < (wrap64 ((a0.size : Int) * 8))
        · rw [if_pos c13] at H
          have c13b0 : decide (x7_1 < (wrap64 ((a0.size : Int) * 8))) = true := decide_eq_true c13
          clear c13
          replace H := Option.bind_eq_some_iff.mp H
          obtain ⟨t198, A140, H⟩ := H
          replace H : (if (t198 == a2) = true then (some x7_1) else (impl_NextBit.l0 k1 a0 a2 (wrap64 (x7_1 + 1)))) = some r := H
          have A14 := Aside0.mk A140
          clear A140
          by_cases c15 : (t198 == a2) = true
          · rw [if_pos c15] at H
            have c15b0 : (t198 == a2) = true := c15
            (try (have c15b1 : decide (t198 = a2) = true := by simpa using c15))
            (try (have c15b2 : (t198 == a2) = true := by simpa using c15))
            clear c15
            obtain rfl := Option.some.inj H
            go_wp2_with (first | ((with_reducible refine gate_callee (f := 29) rfl ?_); refine goesL_ (some 22) rfl rfl Try.func29 (by kernel_rfl) rfl #[.string a0, .int .i64 x7_1] rfl (by (try simp only [List.map_toArray, List.map_cons, List.map_nil]); first | done | rfl | (simp only [List.length_drop, List.length_take]; rfl)) ?_; (with_reducible refine (impl_yhasBit.calls a0 x7_1 t198 _ A14.out).mono ?_); rintro e w' ⟨rfl, ⟨nd, rfl⟩⟩; refine ⟨_, rfl, ?_⟩))
            go_ret
            exact ⟨by first | rfl | (simp [errW_none, errW_some] <;> rfl) | (simp only [← hji9]; first | rfl | (simp [errW_none, errW_some] <;> rfl)) | (simp [*, errW_none, errW_some] <;> rfl), by repeat (first | (with_reducible first | exact HB.out | apply below_alloc | apply pw_below_drewN | apply below_drew1) | exact HB.out)⟩
          · rw [if_neg c15] at H
            have c15b0 : (t198 == a2) = false := by simpa using c15
            (try (have c15b1 : decide (t198 = a2) = false := by simpa using c15))
            (try (have c15b2 : (t198 == a2) = false := by simpa using c15))
            (try (have c15b3 : ¬ (t198 = a2) := by simpa using c15))
            clear c15
            have H' := Aside0.mk H
            clear H
            go_wp2_with (first | ((with_reducible refine gate_callee (f := 29) rfl ?_); refine goesL_ (some 22) rfl rfl Try.func29 (by kernel_rfl) rfl #[.string a0, .int .i64 x7_1] rfl (by (try simp only [List.map_toArray, List.map_cons, List.map_nil]); first | done | rfl | (simp only [List.length_drop, List.length_take]; rfl)) ?_; (with_reducible refine (impl_yhasBit.calls a0 x7_1 t198 _ A14.out).mono ?_); rintro e w' ⟨rfl, ⟨nd, rfl⟩⟩; refine ⟨_, rfl, ?_⟩))
            go_roundg k1
            case measure => have := HK1.out; omega
            case rel => exact ⟨(wrap64 (x7_1 + 1)), (by first | rfl | (simp; done) | (simp [*]; done)), H', ⟨by have := HK1.out; omega⟩, ⟨by repeat (first | (with_reducible first | exact HB.out | apply below_alloc | apply pw_below_drewN | apply below_drew1) | exact HB.out)⟩⟩
        · rw [if_neg c13] at H
          have c13b0 : decide (x7_1 < (wrap64 ((a0.size : Int) * 8))) = false := decide_eq_false c13
          clear c13
          by_cases c16 : a2 = true
          · subst c16
            have H1 : (some (-1)) = some r := by rw [if_pos rfl] at H; exact H
            clear H
            have H := H1
            clear H1
            obtain rfl := Option.some.inj H
            go_wp2
            go_ret
            exact ⟨by first | rfl | (simp [errW_none, errW_some] <;> rfl) | (simp only [← hji9]; first | rfl | (simp [errW_none, errW_some] <;> rfl)) | (simp [*, errW_none, errW_some] <;> rfl), by repeat (first | (with_reducible first | exact HB.out | apply below_alloc | apply pw_below_drewN | apply below_drew1) | exact HB.out)⟩
          · replace c16 := Bool.eq_false_iff.mpr c16
            subst c16
            have H1 : (some x7_1) = some r := by rw [if_neg (show ¬ (false = true) by decide)] at H; exact H
            clear H
            have H := H1
            clear H1
            obtain rfl := Option.some.inj H
            go_wp2
            go_ret
            exact ⟨by first | rfl | (simp [errW_none, errW_some] <;> rfl) | (simp only [← hji9]; first | rfl | (simp [errW_none, errW_some] <;> rfl)) | (simp [*, errW_none, errW_some] <;> rfl), by repeat (first | (with_reducible first | exact HB.out | apply below_alloc | apply pw_below_drewN | apply below_drew1) | exact HB.out)⟩

end Go.Proofs.Ytcpbnhhpeljpjaa.QFnBitSets
