-- Written for this claim by this session's own driver (wip/xprint.py).
import Derived.Test.YtmajbehafgajmaaQFnExactMemHostFaultx0
import Derived.Test.YtmajbehafgajmaaQFnExactMemHostFaultx1
import Derived.Test.YtmajbehafgajmaaQFnExactMemHostFaultx5
import Derived.Test.YtmajbehafgajmaaQFnExactMemHostFaultx6
import Derived.Test.YtmajbehafgajmaaQFnExactMemHostFaultx8
import Derived.Test.YtmajbehafgajmaaQFnExactMemHostFaultx9
namespace Go.Proofs.Ytmajbehafgajmaa.QFnExactMemHostFault
open Go.RowKit Go.Proofs.YtmajbehafgajmaaW.PrintWords Go.Proofs.YtmajbehafgajmaaW.PrintLast Go.Proofs.YtmajbehafgajmaaW.PrintMore
attribute [local go_sem] max2_int min2_int max_two min_two max_three min_three max_four min_four   -- for this text's walks alone
set_option linter.unusedVariables false
set_option linter.unusedSimpArgs false

/-! ### laws_eqMemGuestS: function 54 -/
def laws_eqMemGuestS.l0 : Nat → List (S90) → List (S90) → Int → Option (Bool)
 | 0, _, _, _ => none
 | k + 1, x0, x1, x5 => if x5 < (x0.length : Int) then (if 0 ≤ x5 then (if x5 < (x1.length : Int) then ((laws_eqMemGuest.f k ((rd_T90 x0 x5).f0) ((rd_T90 x0 x5).f1) ((rd_T90 x0 x5).f2) ((rd_T90 x1 x5).f0) ((rd_T90 x1 x5).f1) ((rd_T90 x1 x5).f2)).bind fun t265 => (if t265 = true then (laws_eqMemGuestS.l0 k x0 x1 (wrap64 (x5 + 1))) else (some false))) else (none)) else (none)) else (some true)
def laws_eqMemGuestS.f (k : Nat) (l0 : List (S90)) (l1 : List (S90)) : Option (Bool) := if (l0.length : Int) = (l1.length : Int) then (laws_eqMemGuestS.l0 k l0 l1 0) else (some false)
theorem laws_eqMemGuestS.mono_l : ∀ k, (∀ y0 y1 y2, LeO (laws_eqMemGuestS.l0 k y0 y1 y2) (laws_eqMemGuestS.l0 (k + 1) y0 y1 y2))
 | 0 => fun _ _ _ r h => by simp [laws_eqMemGuestS.l0] at h
 | k + 1 => by
  have ih0 := laws_eqMemGuestS.mono_l k
  ·intro y0 y1 y2
   unfold laws_eqMemGuestS.l0
   repeat' first
   | (with_reducible exact ih0 _ _ _)
   | (with_reducible exact laws_eqMemGuest.mono _ _ _ _ _ _ _)
   | (with_reducible exact LeO.refl _)
   | (with_reducible exact LeO.none _)
   | (with_reducible refine LeO.ite ?_ ?_)
   | (with_reducible refine LeO.bind ?_ (fun _ => ?_))
   | exact ih0 _ _ _
   | exact laws_eqMemGuest.mono _ _ _ _ _ _ _
   | exact LeO.none _
   | refine LeO.ite ?_ ?_
   | refine LeO.bind ?_ (fun _ => ?_)
theorem laws_eqMemGuestS.mono : ∀ a0 a1 k, LeO (laws_eqMemGuestS.f k a0 a1) (laws_eqMemGuestS.f (k + 1) a0 a1) := by
 intro a0 a1 k
 have ih0 := laws_eqMemGuestS.mono_l k
 unfold laws_eqMemGuestS.f
 repeat' first
   | (with_reducible exact ih0 _ _ _)
   | (with_reducible exact laws_eqMemGuest.mono _ _ _ _ _ _ _)
   | (with_reducible exact LeO.refl _)
   | (with_reducible exact LeO.none _)
   | (with_reducible refine LeO.ite ?_ ?_)
   | (with_reducible refine LeO.bind ?_ (fun _ => ?_))
   | exact ih0 _ _ _
   | exact laws_eqMemGuest.mono _ _ _ _ _ _ _
   | exact LeO.none _
   | refine LeO.ite ?_ ?_
   | refine LeO.bind ?_ (fun _ => ?_)
def laws_eqMemGuestS.T6 : Bool × List (List Nat × List Nat) := (true, [([], []), ([], []), ([0, 1], [0, 1]), ([2], [2]), ([], []), ([], []), ([4, 5], [4, 5]), ([6], [6]), ([3, 7], [3, 7]), ([8], [8])])
def laws_eqMemGuestS.B6 : List Nat := [0, 0, 3, 7, 0, 0, 48, 112, 255, 511]
theorem laws_eqMemGuestS.tab6 : rtab .any (opsOf Try.f54 6) = laws_eqMemGuestS.T6 := by kernel_rfl
theorem laws_eqMemGuestS.bits6 : waitsOk laws_eqMemGuestS.T6.2 laws_eqMemGuestS.B6 = true := by kernel_rfl
set_option maxHeartbeats 8000000 in
set_option maxRecDepth 100000 in
theorem laws_eqMemGuestS.calls (k : Nat) (A0 : Option Addr) (c0 : Nat) (l0 : List (S90)) (A1 : Option Addr) (c1 : Nat) (l1 : List (S90)) (r : Bool) (w : World) (hr0 : Kd.C k90 w A0 l0.length l0) (hc0 : l0.length ≤ c0) (hr1 : Kd.C k90 w A1 l1.length l1) (hc1 : l1.length ≤ c1) (h : laws_eqMemGuestS.f k l0 l1 = some r) :
  Calls Try.prog 54 #[.slice A0 l0.length c0, .slice A1 l1.length c1] w fun e w' => e = .returned (.bool r) ∧ Below w.heap.size w w' := by
 have hu90 := Try.underlying90
 have HR0 := Sq.l hr0
 have HC0 := Sq.l hc0
 clear hr0 hc0
 have HR1 := Sq.l hr1
 have HC1 := Sq.l hc1
 clear hr1 hc1
 have HB := Sq.l (Below.refl w.heap.size w)
 have H : (if (l0.length : Int) = (l1.length : Int) then (laws_eqMemGuestS.l0 k l0 l1 0) else (some false)) = some r := h
 clear h
 by_cases c3 : (l0.length : Int) = (l1.length : Int)
 ·rw [if_pos c3] at H
  have c3b0 : ((l0.length : Int) == (l1.length : Int)) = true := beq_iff_eq.mpr c3
  have c3b1 : ((l0.length : Int) != (l1.length : Int)) = false := bne_eq_false_iff_eq.mpr c3
  have c3b2 : (l0.length == l1.length) = true := by first | simpa using c3 | (simp at c3 ⊢; omega)
  clear c3
  have H' := Sq.l H
  clear H
  go_enter Try.func54, Try.ntmps54
  go_wp2
  go_loopg [5] k (fun kq v5 w' => ∃ (x5_1 : Int), v5 = .int .i64 x5_1 ∧ Aside0 (laws_eqMemGuestS.l0 kq l0 l1 x5_1 = some r) ∧ Aside0 (kq ≤ k) ∧ Aside0 (Below w.heap.size w w'))
  case atStart => exact ⟨(0), (by first | rfl | (simp; done) | (simp [*]; done)), H', ⟨Nat.le_refl _⟩, ⟨by repeat (first | (with_reducible first | exact HB.out | apply Sq.i | apply Sq.j | apply Sq.k) | exact HB.out)⟩⟩
  case round =>
   clear H'
   try clear c1; try clear p2; try clear c3; try clear c3b0; try clear c3b1; try clear c3b2
   obtain ⟨x5_1, rfl, HA, HK1, HB⟩ := hrel
   cases gk with
   | zero => exact absurd HA.out (by simp [laws_eqMemGuestS.l0])
   | succ k1 =>
    have H := HA.out
    clear HA
    simp only [laws_eqMemGuestS.l0] at H
    by_cases c4 : x5_1 < (l0.length : Int)
    ·rw [if_pos c4] at H
     have c4b0 : decide (x5_1 < (l0.length : Int)) = true := decide_eq_true c4
     clear c4
     by_cases c5 : 0 ≤ x5_1
     ·rw [if_pos c5] at H
      have c5b0 : decide (0 ≤ x5_1) = true := decide_eq_true c5
      clear c5
      by_cases c6 : x5_1 < (l1.length : Int)
      ·rw [if_pos c6] at H
       have c6b0 : decide (x5_1 < (l1.length : Int)) = true := decide_eq_true c6
       clear c6
       replace H := Option.bind_eq_some_iff.mp H
       obtain ⟨t265, A70, H⟩ := H
       (try dsimp only at H)
       have A7 := Sq.l A70
       clear A70
       by_cases c8 : t265 = true
       ·subst c8
        rw [if_pos rfl] at H
        have H' := Sq.l H
        clear H
        try go_wp2
        have n0_ := Sq.l (Sq.k HB.out)
        clear HB; have HB := n0_; clear n0_
        have p263 : 0 ≤ (x5_1 : Int) := of_decide_eq_true (by first | (with_reducible assumption) | assumption)
        have q263 : x5_1 < (l0.length : Int) := of_decide_eq_true (by first | (with_reducible assumption) | assumption)
        obtain ⟨ad263, A263_0, c263_0, A263_2, c263_2, e263, hx263_0, hx263_1, hx263_2, hl263_0, hi263_0, hl263_2, hi263_2⟩ := at_T90 HR0.out x5_1 p263 q263
        have hw263_2 := hx263_2
        have hw263_1 := hx263_1
        have hw263_0 := hx263_0
        cases e263
        replace hx263_0 := (HB.out.cell (World.block_lt_of_cell? w _ hx263_0)).trans hx263_0
        replace hx263_1 := (HB.out.cell (World.block_lt_of_cell? w _ hx263_1)).trans hx263_1
        replace hx263_2 := (HB.out.cell (World.block_lt_of_cell? w _ hx263_2)).trans hx263_2
        have HR263_0 := Sq.l hi263_0
        have HC263_0 := Sq.l hl263_0
        clear hi263_0 hl263_0
        have HR263_2 := Sq.l hi263_2
        have HC263_2 := Sq.l hl263_2
        clear hi263_2 hl263_2; replace p263 := eq_true p263; replace q263 := eq_true q263
        have p264 : 0 ≤ (x5_1 : Int) := of_decide_eq_true (by first | (with_reducible assumption) | assumption)
        have q264 : x5_1 < (l1.length : Int) := of_decide_eq_true (by first | (with_reducible assumption) | assumption)
        obtain ⟨ad264, A264_0, c264_0, A264_2, c264_2, e264, hx264_0, hx264_1, hx264_2, hl264_0, hi264_0, hl264_2, hi264_2⟩ := at_T90 HR1.out x5_1 p264 q264
        have hw264_2 := hx264_2
        have hw264_1 := hx264_1
        have hw264_0 := hx264_0
        cases e264
        replace hx264_0 := (HB.out.cell (World.block_lt_of_cell? w _ hx264_0)).trans hx264_0
        replace hx264_1 := (HB.out.cell (World.block_lt_of_cell? w _ hx264_1)).trans hx264_1
        replace hx264_2 := (HB.out.cell (World.block_lt_of_cell? w _ hx264_2)).trans hx264_2
        have HR264_0 := Sq.l hi264_0
        have HC264_0 := Sq.l hl264_0
        clear hi264_0 hl264_0
        have HR264_2 := Sq.l hi264_2
        have HC264_2 := Sq.l hl264_2
        clear hi264_2 hl264_2; replace p264 := eq_true p264; replace q264 := eq_true q264
        refine start_ (n := 10) (S := fun w' => w'.cell? (ad263.add ((x5_1).toNat * 3)) = some (.slice A263_0 ((rd_T90 l0 x5_1).f0).length c263_0) ∧ w'.cell? ⟨(ad263.add ((x5_1).toNat * 3)).block, (ad263.add ((x5_1).toNat * 3)).off + 1, none⟩ = some (.string ((rd_T90 l0 x5_1).f1)) ∧ w'.cell? ⟨(ad263.add ((x5_1).toNat * 3)).block, (ad263.add ((x5_1).toNat * 3)).off + 2, none⟩ = some (.slice A263_2 ((rd_T90 l0 x5_1).f2).length c263_2) ∧ w'.cell? (ad264.add ((x5_1).toNat * 3)) = some (.slice A264_0 ((rd_T90 l1 x5_1).f0).length c264_0) ∧ w'.cell? ⟨(ad264.add ((x5_1).toNat * 3)).block, (ad264.add ((x5_1).toNat * 3)).off + 1, none⟩ = some (.string ((rd_T90 l1 x5_1).f1)) ∧ w'.cell? ⟨(ad264.add ((x5_1).toNat * 3)).block, (ad264.add ((x5_1).toNat * 3)).off + 2, none⟩ = some (.slice A264_2 ((rd_T90 l1 x5_1).f2).length c264_2)) (ds := []) #[false, false, false, false, false, false, false, false, false, false] (by kernel_rfl) rfl rfl ⟨((HB.out.cell (World.block_lt_of_cell? w _ hw263_0)).trans hw263_0), ((HB.out.cell (World.block_lt_of_cell? w _ hw263_1)).trans hw263_1), ((HB.out.cell (World.block_lt_of_cell? w _ hw263_2)).trans hw263_2), ((HB.out.cell (World.block_lt_of_cell? w _ hw264_0)).trans hw264_0), ((HB.out.cell (World.block_lt_of_cell? w _ hw264_1)).trans hw264_1), ((HB.out.cell (World.block_lt_of_cell? w _ hw264_2)).trans hw264_2)⟩ (fun hHeld => ?_); refine with_tabW laws_eqMemGuestS.tab6 laws_eqMemGuestS.bits6 (fun HT_ HW_ => ?_)
        generalize wr.drew = w9 at HB HR263_0 HR263_2 HR264_0 HR264_2 hx263_0 hx263_1 hx263_2 hx264_0 hx264_1 hx264_2 hHeld ⊢
        refine pure_ (i := 0) (N := some 17) (v := ?_) (a' := ?_) #[true, false, false, false, false, false, false, false, false, false] rfl rfl (any_of HT_.out (by kernel_rfl)) (fun _ _ _ h => h) (Or.inl ⟨by rfl, ?_⟩) ?_ ?_
        rotate_left
        ·intro w'
         go_simp
         with_reducible rfl
        rotate_left
        ·simp only [Act.put, List.setIfInBounds_toArray, List.set_cons_zero, List.set_cons_succ, i64_w, i32_w]
         rfl
        refine pure_ (i := 1) (N := some 18) (v := ?_) (a' := ?_) #[true, true, false, false, false, false, false, false, false, false] rfl rfl (any_of HT_.out (by kernel_rfl)) (fun _ _ _ h => h) (Or.inl ⟨by rfl, ?_⟩) ?_ ?_
        rotate_left
        ·intro w'
         go_simp
         with_reducible rfl
        rotate_left
        ·simp only [Act.put, List.setIfInBounds_toArray, List.set_cons_zero, List.set_cons_succ, i64_w, i32_w]
         rfl
        refine pure_ (i := 2) (N := some 19) (v := ?_) (a' := ?_) #[true, true, true, false, false, false, false, false, false, false] rfl rfl (any_of HT_.out (by kernel_rfl)) (fun _ _ _ h => h) (Or.inl ⟨by rfl, ?_⟩) ?_ ?_
        rotate_left
        ·intro w'
         go_simp
         with_reducible rfl
        rotate_left
        ·simp only [Act.put, List.setIfInBounds_toArray, List.set_cons_zero, List.set_cons_succ, i64_w, i32_w]
         rfl
        refine pure_ (i := 4) (N := some 21) (v := ?_) (a' := ?_) #[true, true, true, false, true, false, false, false, false, false] rfl rfl (any_of HT_.out (by kernel_rfl)) (fun _ _ _ h => h) (Or.inl ⟨by rfl, ?_⟩) ?_ ?_
        rotate_left
        ·intro w'
         go_simp
         with_reducible rfl
        rotate_left
        ·simp only [Act.put, List.setIfInBounds_toArray, List.set_cons_zero, List.set_cons_succ, i64_w, i32_w]
         rfl
        refine pure_ (i := 5) (N := some 22) (v := ?_) (a' := ?_) #[true, true, true, false, true, true, false, false, false, false] rfl rfl (any_of HT_.out (by kernel_rfl)) (fun _ _ _ h => h) (Or.inl ⟨by rfl, ?_⟩) ?_ ?_
        rotate_left
        ·intro w'
         go_simp
         with_reducible rfl
        rotate_left
        ·simp only [Act.put, List.setIfInBounds_toArray, List.set_cons_zero, List.set_cons_succ, i64_w, i32_w]
         rfl
        refine pure_ (i := 6) (N := some 23) (v := ?_) (a' := ?_) #[true, true, true, false, true, true, true, false, false, false] rfl rfl (any_of HT_.out (by kernel_rfl)) (fun _ _ _ h => h) (Or.inl ⟨by rfl, ?_⟩) ?_ ?_
        rotate_left
        ·intro w'
         go_simp
         with_reducible rfl
        rotate_left
        ·simp only [Act.put, List.setIfInBounds_toArray, List.set_cons_zero, List.set_cons_succ, i64_w, i32_w]
         rfl
        refine take_ (i := 3) (N := some 20) (v := ?_) (a' := ?_) #[true, true, true, true, true, true, true, false, false, false] rfl rfl (take_ofW HT_.out HW_.out (by kernel_rfl)) (fun _ _ _ h => h) (Or.inl ⟨by rfl, ?_⟩) hHeld ?_ ?_
        rotate_left
        ·rintro w' ⟨s0, s1, s2, s3, s4, s5⟩
         go_simp
         with_reducible rfl
        rotate_left
        ·simp only [Act.put, List.setIfInBounds_toArray, List.set_cons_zero, List.set_cons_succ, i64_w, i32_w]
         rfl
        refine take_ (i := 7) (N := some 24) (v := ?_) (a' := ?_) #[true, true, true, true, true, true, true, true, false, false] rfl rfl (take_ofW HT_.out HW_.out (by kernel_rfl)) (fun _ _ _ h => h) (Or.inl ⟨by rfl, ?_⟩) hHeld ?_ ?_
        rotate_left
        ·rintro w' ⟨s0, s1, s2, s3, s4, s5⟩
         go_simp
         with_reducible rfl
        rotate_left
        ·simp only [Act.put, List.setIfInBounds_toArray, List.set_cons_zero, List.set_cons_succ, i64_w, i32_w]
         rfl
        refine one_ (i := 8) (N := some 25) #[true, true, true, true, true, true, true, true, true, false] rfl rfl (one_of HT_.out (by kernel_rfl)) (by decide) (fun K hK => ?_)
        refine goes_ Try.func105 (by kernel_rfl) rfl #[.agg #[.slice A263_0 ((rd_T90 l0 x5_1).f0).length c263_0, .string ((rd_T90 l0 x5_1).f1), .slice A263_2 ((rd_T90 l0 x5_1).f2).length c263_2], .agg #[.slice A264_0 ((rd_T90 l1 x5_1).f0).length c264_0, .string ((rd_T90 l1 x5_1).f1), .slice A264_2 ((rd_T90 l1 x5_1).f2).length c264_2]] (by rfl) rfl rfl (by (try simp only [List.map_toArray, List.map_cons, List.map_nil]); first | done | rfl | (simp only [List.length_drop, List.length_take]; rfl)) ?_
        with_reducible refine (laws_eqMemGuest.calls k1 _ _ ((rd_T90 l0 x5_1).f0) ((rd_T90 l0 x5_1).f1) _ _ ((rd_T90 l0 x5_1).f2) _ _ ((rd_T90 l1 x5_1).f0) ((rd_T90 l1 x5_1).f1) _ _ ((rd_T90 l1 x5_1).f2) true _ ?side1 ?side2 ?side3 ?side4 ?side5 ?side6 ?side7 ?side8 A7.out).mono ?_
        (case side1 => repeat (first | exact (Sq.a1 HR263_0.out HB.out) | (with_reducible refine Sq.s ?_ _) | (with_reducible refine Sq.t ?_ _) | (with_reducible refine Sq.u ?_)))
        (case side2 => exact HC263_0.out)
        (case side3 => repeat (first | exact (Sq.a1 HR263_2.out HB.out) | (with_reducible refine Sq.s ?_ _) | (with_reducible refine Sq.t ?_ _) | (with_reducible refine Sq.u ?_)))
        (case side4 => exact HC263_2.out)
        (case side5 => repeat (first | exact (Sq.a1 HR264_0.out HB.out) | (with_reducible refine Sq.s ?_ _) | (with_reducible refine Sq.t ?_ _) | (with_reducible refine Sq.u ?_)))
        (case side6 => exact HC264_0.out)
        (case side7 => repeat (first | exact (Sq.a1 HR264_2.out HB.out) | (with_reducible refine Sq.s ?_ _) | (with_reducible refine Sq.t ?_ _) | (with_reducible refine Sq.u ?_)))
        (case side8 => exact HC264_2.out)
        rintro e w10 ⟨rfl, hb⟩
        refine ⟨_, rfl, ?_⟩
        have n0_ := Sq.l (Sq.a4 (by repeat (first | (with_reducible first | exact HB.out | apply Sq.i | apply Sq.j | apply Sq.k) | exact HB.out)) hb)
        clear HB; have HB := n0_; clear n0_; (try clear hb); (try clear hb2); (try clear hk); (try clear hi)
        refine hK.out _ _ ⟨((HB.out.cell (World.block_lt_of_cell? w _ hw263_0)).trans hw263_0), ((HB.out.cell (World.block_lt_of_cell? w _ hw263_1)).trans hw263_1), ((HB.out.cell (World.block_lt_of_cell? w _ hw263_2)).trans hw263_2), ((HB.out.cell (World.block_lt_of_cell? w _ hw264_0)).trans hw264_0), ((HB.out.cell (World.block_lt_of_cell? w _ hw264_1)).trans hw264_1), ((HB.out.cell (World.block_lt_of_cell? w _ hw264_2)).trans hw264_2)⟩ (fun hHeld => ?_)
        clear hK K
        refine norm_ (a' := ?_) ?_ ?_
        rotate_left
        ·show Act.put _ (some 25) _ = _
         simp only [Act.put, List.setIfInBounds_toArray, List.set_cons_zero, List.set_cons_succ, i64_w, i32_w]
         rfl
        refine pure_ (i := 9) (N := some 26) (v := ?_) (a' := ?_) #[true, true, true, true, true, true, true, true, true, true] rfl rfl (any_of HT_.out (by kernel_rfl)) (fun _ _ _ h => h) (Or.inl ⟨by rfl, ?_⟩) ?_ ?_
        rotate_left
        ·intro w'
         go_simp
         with_reducible rfl
        rotate_left
        ·simp only [Act.put, List.setIfInBounds_toArray, List.set_cons_zero, List.set_cons_succ, i64_w, i32_w]
         rfl
        refine done_ (done_of HT_.out (by kernel_rfl)) ?_
        try go_wp2
        go_roundg k1
        case measure => have := HK1.out; omega
        case rel => exact ⟨(wrap64 (x5_1 + 1)), (by first | rfl | (simp; done) | (simp [*]; done)), H', ⟨by have := HK1.out; omega⟩, ⟨by repeat (first | (with_reducible first | exact HB.out | apply Sq.i | apply Sq.j | apply Sq.k) | exact HB.out)⟩⟩
       ·replace c8 := Bool.eq_false_iff.mpr c8
        subst c8
        rw [if_neg (show ¬ (false = true) by decide)] at H
        obtain rfl := Option.some.inj H
        try go_wp2
        have n0_ := Sq.l (Sq.k HB.out)
        clear HB; have HB := n0_; clear n0_
        have p263 : 0 ≤ (x5_1 : Int) := of_decide_eq_true (by first | (with_reducible assumption) | assumption)
        have q263 : x5_1 < (l0.length : Int) := of_decide_eq_true (by first | (with_reducible assumption) | assumption)
        obtain ⟨ad263, A263_0, c263_0, A263_2, c263_2, e263, hx263_0, hx263_1, hx263_2, hl263_0, hi263_0, hl263_2, hi263_2⟩ := at_T90 HR0.out x5_1 p263 q263
        have hw263_2 := hx263_2
        have hw263_1 := hx263_1
        have hw263_0 := hx263_0
        cases e263
        replace hx263_0 := (HB.out.cell (World.block_lt_of_cell? w _ hx263_0)).trans hx263_0
        replace hx263_1 := (HB.out.cell (World.block_lt_of_cell? w _ hx263_1)).trans hx263_1
        replace hx263_2 := (HB.out.cell (World.block_lt_of_cell? w _ hx263_2)).trans hx263_2
        have HR263_0 := Sq.l hi263_0
        have HC263_0 := Sq.l hl263_0
        clear hi263_0 hl263_0
        have HR263_2 := Sq.l hi263_2
        have HC263_2 := Sq.l hl263_2
        clear hi263_2 hl263_2; replace p263 := eq_true p263; replace q263 := eq_true q263
        have p264 : 0 ≤ (x5_1 : Int) := of_decide_eq_true (by first | (with_reducible assumption) | assumption)
        have q264 : x5_1 < (l1.length : Int) := of_decide_eq_true (by first | (with_reducible assumption) | assumption)
        obtain ⟨ad264, A264_0, c264_0, A264_2, c264_2, e264, hx264_0, hx264_1, hx264_2, hl264_0, hi264_0, hl264_2, hi264_2⟩ := at_T90 HR1.out x5_1 p264 q264
        have hw264_2 := hx264_2
        have hw264_1 := hx264_1
        have hw264_0 := hx264_0
        cases e264
        replace hx264_0 := (HB.out.cell (World.block_lt_of_cell? w _ hx264_0)).trans hx264_0
        replace hx264_1 := (HB.out.cell (World.block_lt_of_cell? w _ hx264_1)).trans hx264_1
        replace hx264_2 := (HB.out.cell (World.block_lt_of_cell? w _ hx264_2)).trans hx264_2
        have HR264_0 := Sq.l hi264_0
        have HC264_0 := Sq.l hl264_0
        clear hi264_0 hl264_0
        have HR264_2 := Sq.l hi264_2
        have HC264_2 := Sq.l hl264_2
        clear hi264_2 hl264_2; replace p264 := eq_true p264; replace q264 := eq_true q264
        refine start_ (n := 10) (S := fun w' => w'.cell? (ad263.add ((x5_1).toNat * 3)) = some (.slice A263_0 ((rd_T90 l0 x5_1).f0).length c263_0) ∧ w'.cell? ⟨(ad263.add ((x5_1).toNat * 3)).block, (ad263.add ((x5_1).toNat * 3)).off + 1, none⟩ = some (.string ((rd_T90 l0 x5_1).f1)) ∧ w'.cell? ⟨(ad263.add ((x5_1).toNat * 3)).block, (ad263.add ((x5_1).toNat * 3)).off + 2, none⟩ = some (.slice A263_2 ((rd_T90 l0 x5_1).f2).length c263_2) ∧ w'.cell? (ad264.add ((x5_1).toNat * 3)) = some (.slice A264_0 ((rd_T90 l1 x5_1).f0).length c264_0) ∧ w'.cell? ⟨(ad264.add ((x5_1).toNat * 3)).block, (ad264.add ((x5_1).toNat * 3)).off + 1, none⟩ = some (.string ((rd_T90 l1 x5_1).f1)) ∧ w'.cell? ⟨(ad264.add ((x5_1).toNat * 3)).block, (ad264.add ((x5_1).toNat * 3)).off + 2, none⟩ = some (.slice A264_2 ((rd_T90 l1 x5_1).f2).length c264_2)) (ds := []) #[false, false, false, false, false, false, false, false, false, false] (by kernel_rfl) rfl rfl ⟨((HB.out.cell (World.block_lt_of_cell? w _ hw263_0)).trans hw263_0), ((HB.out.cell (World.block_lt_of_cell? w _ hw263_1)).trans hw263_1), ((HB.out.cell (World.block_lt_of_cell? w _ hw263_2)).trans hw263_2), ((HB.out.cell (World.block_lt_of_cell? w _ hw264_0)).trans hw264_0), ((HB.out.cell (World.block_lt_of_cell? w _ hw264_1)).trans hw264_1), ((HB.out.cell (World.block_lt_of_cell? w _ hw264_2)).trans hw264_2)⟩ (fun hHeld => ?_); refine with_tabW laws_eqMemGuestS.tab6 laws_eqMemGuestS.bits6 (fun HT_ HW_ => ?_)
        generalize wr.drew = w11 at HB HR263_0 HR263_2 HR264_0 HR264_2 hx263_0 hx263_1 hx263_2 hx264_0 hx264_1 hx264_2 hHeld ⊢
        refine pure_ (i := 0) (N := some 17) (v := ?_) (a' := ?_) #[true, false, false, false, false, false, false, false, false, false] rfl rfl (any_of HT_.out (by kernel_rfl)) (fun _ _ _ h => h) (Or.inl ⟨by rfl, ?_⟩) ?_ ?_
        rotate_left
        ·intro w'
         go_simp
         with_reducible rfl
        rotate_left
        ·simp only [Act.put, List.setIfInBounds_toArray, List.set_cons_zero, List.set_cons_succ, i64_w, i32_w]
         rfl
        refine pure_ (i := 1) (N := some 18) (v := ?_) (a' := ?_) #[true, true, false, false, false, false, false, false, false, false] rfl rfl (any_of HT_.out (by kernel_rfl)) (fun _ _ _ h => h) (Or.inl ⟨by rfl, ?_⟩) ?_ ?_
        rotate_left
        ·intro w'
         go_simp
         with_reducible rfl
        rotate_left
        ·simp only [Act.put, List.setIfInBounds_toArray, List.set_cons_zero, List.set_cons_succ, i64_w, i32_w]
         rfl
        refine pure_ (i := 2) (N := some 19) (v := ?_) (a' := ?_) #[true, true, true, false, false, false, false, false, false, false] rfl rfl (any_of HT_.out (by kernel_rfl)) (fun _ _ _ h => h) (Or.inl ⟨by rfl, ?_⟩) ?_ ?_
        rotate_left
        ·intro w'
         go_simp
         with_reducible rfl
        rotate_left
        ·simp only [Act.put, List.setIfInBounds_toArray, List.set_cons_zero, List.set_cons_succ, i64_w, i32_w]
         rfl
        refine pure_ (i := 4) (N := some 21) (v := ?_) (a' := ?_) #[true, true, true, false, true, false, false, false, false, false] rfl rfl (any_of HT_.out (by kernel_rfl)) (fun _ _ _ h => h) (Or.inl ⟨by rfl, ?_⟩) ?_ ?_
        rotate_left
        ·intro w'
         go_simp
         with_reducible rfl
        rotate_left
        ·simp only [Act.put, List.setIfInBounds_toArray, List.set_cons_zero, List.set_cons_succ, i64_w, i32_w]
         rfl
        refine pure_ (i := 5) (N := some 22) (v := ?_) (a' := ?_) #[true, true, true, false, true, true, false, false, false, false] rfl rfl (any_of HT_.out (by kernel_rfl)) (fun _ _ _ h => h) (Or.inl ⟨by rfl, ?_⟩) ?_ ?_
        rotate_left
        ·intro w'
         go_simp
         with_reducible rfl
        rotate_left
        ·simp only [Act.put, List.setIfInBounds_toArray, List.set_cons_zero, List.set_cons_succ, i64_w, i32_w]
         rfl
        refine pure_ (i := 6) (N := some 23) (v := ?_) (a' := ?_) #[true, true, true, false, true, true, true, false, false, false] rfl rfl (any_of HT_.out (by kernel_rfl)) (fun _ _ _ h => h) (Or.inl ⟨by rfl, ?_⟩) ?_ ?_
        rotate_left
        ·intro w'
         go_simp
         with_reducible rfl
        rotate_left
        ·simp only [Act.put, List.setIfInBounds_toArray, List.set_cons_zero, List.set_cons_succ, i64_w, i32_w]
         rfl
        refine take_ (i := 3) (N := some 20) (v := ?_) (a' := ?_) #[true, true, true, true, true, true, true, false, false, false] rfl rfl (take_ofW HT_.out HW_.out (by kernel_rfl)) (fun _ _ _ h => h) (Or.inl ⟨by rfl, ?_⟩) hHeld ?_ ?_
        rotate_left
        ·rintro w' ⟨s0, s1, s2, s3, s4, s5⟩
         go_simp
         with_reducible rfl
        rotate_left
        ·simp only [Act.put, List.setIfInBounds_toArray, List.set_cons_zero, List.set_cons_succ, i64_w, i32_w]
         rfl
        refine take_ (i := 7) (N := some 24) (v := ?_) (a' := ?_) #[true, true, true, true, true, true, true, true, false, false] rfl rfl (take_ofW HT_.out HW_.out (by kernel_rfl)) (fun _ _ _ h => h) (Or.inl ⟨by rfl, ?_⟩) hHeld ?_ ?_
        rotate_left
        ·rintro w' ⟨s0, s1, s2, s3, s4, s5⟩
         go_simp
         with_reducible rfl
        rotate_left
        ·simp only [Act.put, List.setIfInBounds_toArray, List.set_cons_zero, List.set_cons_succ, i64_w, i32_w]
         rfl
        refine one_ (i := 8) (N := some 25) #[true, true, true, true, true, true, true, true, true, false] rfl rfl (one_of HT_.out (by kernel_rfl)) (by decide) (fun K hK => ?_)
        refine goes_ Try.func105 (by kernel_rfl) rfl #[.agg #[.slice A263_0 ((rd_T90 l0 x5_1).f0).length c263_0, .string ((rd_T90 l0 x5_1).f1), .slice A263_2 ((rd_T90 l0 x5_1).f2).length c263_2], .agg #[.slice A264_0 ((rd_T90 l1 x5_1).f0).length c264_0, .string ((rd_T90 l1 x5_1).f1), .slice A264_2 ((rd_T90 l1 x5_1).f2).length c264_2]] (by rfl) rfl rfl (by (try simp only [List.map_toArray, List.map_cons, List.map_nil]); first | done | rfl | (simp only [List.length_drop, List.length_take]; rfl)) ?_
        with_reducible refine (laws_eqMemGuest.calls k1 _ _ ((rd_T90 l0 x5_1).f0) ((rd_T90 l0 x5_1).f1) _ _ ((rd_T90 l0 x5_1).f2) _ _ ((rd_T90 l1 x5_1).f0) ((rd_T90 l1 x5_1).f1) _ _ ((rd_T90 l1 x5_1).f2) false _ ?side1 ?side2 ?side3 ?side4 ?side5 ?side6 ?side7 ?side8 A7.out).mono ?_
        (case side1 => repeat (first | exact (Sq.a1 HR263_0.out HB.out) | (with_reducible refine Sq.s ?_ _) | (with_reducible refine Sq.t ?_ _) | (with_reducible refine Sq.u ?_)))
        (case side2 => exact HC263_0.out)
        (case side3 => repeat (first | exact (Sq.a1 HR263_2.out HB.out) | (with_reducible refine Sq.s ?_ _) | (with_reducible refine Sq.t ?_ _) | (with_reducible refine Sq.u ?_)))
        (case side4 => exact HC263_2.out)
        (case side5 => repeat (first | exact (Sq.a1 HR264_0.out HB.out) | (with_reducible refine Sq.s ?_ _) | (with_reducible refine Sq.t ?_ _) | (with_reducible refine Sq.u ?_)))
        (case side6 => exact HC264_0.out)
        (case side7 => repeat (first | exact (Sq.a1 HR264_2.out HB.out) | (with_reducible refine Sq.s ?_ _) | (with_reducible refine Sq.t ?_ _) | (with_reducible refine Sq.u ?_)))
        (case side8 => exact HC264_2.out)
        rintro e w12 ⟨rfl, hb⟩
        refine ⟨_, rfl, ?_⟩
        have n0_ := Sq.l (Sq.a4 (by repeat (first | (with_reducible first | exact HB.out | apply Sq.i | apply Sq.j | apply Sq.k) | exact HB.out)) hb)
        clear HB; have HB := n0_; clear n0_; (try clear hb); (try clear hb2); (try clear hk); (try clear hi)
        refine hK.out _ _ ⟨((HB.out.cell (World.block_lt_of_cell? w _ hw263_0)).trans hw263_0), ((HB.out.cell (World.block_lt_of_cell? w _ hw263_1)).trans hw263_1), ((HB.out.cell (World.block_lt_of_cell? w _ hw263_2)).trans hw263_2), ((HB.out.cell (World.block_lt_of_cell? w _ hw264_0)).trans hw264_0), ((HB.out.cell (World.block_lt_of_cell? w _ hw264_1)).trans hw264_1), ((HB.out.cell (World.block_lt_of_cell? w _ hw264_2)).trans hw264_2)⟩ (fun hHeld => ?_)
        clear hK K
        refine norm_ (a' := ?_) ?_ ?_
        rotate_left
        ·show Act.put _ (some 25) _ = _
         simp only [Act.put, List.setIfInBounds_toArray, List.set_cons_zero, List.set_cons_succ, i64_w, i32_w]
         rfl
        refine pure_ (i := 9) (N := some 26) (v := ?_) (a' := ?_) #[true, true, true, true, true, true, true, true, true, true] rfl rfl (any_of HT_.out (by kernel_rfl)) (fun _ _ _ h => h) (Or.inl ⟨by rfl, ?_⟩) ?_ ?_
        rotate_left
        ·intro w'
         go_simp
         with_reducible rfl
        rotate_left
        ·simp only [Act.put, List.setIfInBounds_toArray, List.set_cons_zero, List.set_cons_succ, i64_w, i32_w]
         rfl
        refine done_ (done_of HT_.out (by kernel_rfl)) ?_
        try go_wp2
        go_ret
        exact ⟨by first | rfl | (simp [errW_none, errW_some] <;> rfl) | (simp [*, errW_none, errW_some] <;> rfl), by repeat (first | (with_reducible first | exact HB.out | apply Sq.i | apply Sq.j | apply Sq.k) | exact HB.out)⟩
      ·rw [if_neg c6] at H
       exact absurd H (by simp)
     ·rw [if_neg c5] at H
      exact absurd H (by simp)
    ·rw [if_neg c4] at H
     have c4b0 : decide (x5_1 < (l0.length : Int)) = false := decide_eq_false c4
     clear c4
     obtain rfl := Option.some.inj H
     go_wp2
     go_ret
     exact ⟨by first | rfl | (simp [errW_none, errW_some] <;> rfl) | (simp [*, errW_none, errW_some] <;> rfl), by repeat (first | (with_reducible first | exact HB.out | apply Sq.i | apply Sq.j | apply Sq.k) | exact HB.out)⟩
 ·rw [if_neg c3] at H
  have c3b0 : ((l0.length : Int) == (l1.length : Int)) = false := beq_eq_false_iff_ne.mpr c3
  have c3b1 : ((l0.length : Int) != (l1.length : Int)) = true := bne_iff_ne.mpr c3
  have c3b2 : (l0.length == l1.length) = false := by first | simpa using c3 | (simp at c3 ⊢; omega)
  obtain rfl := Option.some.inj H
  go_enter Try.func54, Try.ntmps54
  go_wp2
  go_ret
  exact ⟨by first | rfl | (simp [errW_none, errW_some] <;> rfl) | (simp [*, errW_none, errW_some] <;> rfl), by repeat (first | (with_reducible first | exact HB.out | apply Sq.i | apply Sq.j | apply Sq.k) | exact HB.out)⟩

/-! ### laws_eqMemHost: function 12 -/
def laws_eqMemHost.f (k : Nat) (l0_0 : List ByteArray) (l0_1 : List ByteArray) (l0_2 : List (S90)) (a0_3 : Int) (l1_0 : List ByteArray) (l1_1 : List ByteArray) (l1_2 : List (S90)) (a1_3 : Int) : Option (Bool) := (laws_eqStringS.f k l0_0 l1_0).bind fun t268 => (if t268 = true then ((laws_eqStringS.f k l0_1 l1_1).bind fun t269 => (if t269 = true then ((laws_eqMemGuestS.f k l0_2 l1_2).bind fun t270 => (if t270 = true then (if a0_3 = a1_3 then (some true) else (some false)) else (some false))) else (some false))) else (some false))
theorem laws_eqMemHost.mono : ∀ a0 a1 a2 a3 a4 a5 a6 a7 k, LeO (laws_eqMemHost.f k a0 a1 a2 a3 a4 a5 a6 a7) (laws_eqMemHost.f (k + 1) a0 a1 a2 a3 a4 a5 a6 a7) := by
 intro a0 a1 a2 a3 a4 a5 a6 a7 k
 unfold laws_eqMemHost.f
 repeat' first
   | (with_reducible exact laws_eqMemGuestS.mono _ _ _)
   | (with_reducible exact laws_eqStringS.mono _ _ _)
   | (with_reducible exact LeO.refl _)
   | (with_reducible exact LeO.none _)
   | (with_reducible refine LeO.ite ?_ ?_)
   | (with_reducible refine LeO.bind ?_ (fun _ => ?_))
   | exact laws_eqMemGuestS.mono _ _ _
   | exact laws_eqStringS.mono _ _ _
   | exact LeO.none _
   | refine LeO.ite ?_ ?_
   | refine LeO.bind ?_ (fun _ => ?_)
set_option maxHeartbeats 8000000 in
set_option maxRecDepth 100000 in
theorem laws_eqMemHost.calls (k : Nat) (A0_0 : Option Addr) (c0_0 : Nat) (l0_0 : List ByteArray) (A0_1 : Option Addr) (c0_1 : Nat) (l0_1 : List ByteArray) (A0_2 : Option Addr) (c0_2 : Nat) (l0_2 : List (S90)) (a0_3 : Int) (A1_0 : Option Addr) (c1_0 : Nat) (l1_0 : List ByteArray) (A1_1 : Option Addr) (c1_1 : Nat) (l1_1 : List ByteArray) (A1_2 : Option Addr) (c1_2 : Nat) (l1_2 : List (S90)) (a1_3 : Int) (r : Bool) (w : World) (hr0_0 : Kd.C Kd.string w A0_0 l0_0.length l0_0) (hc0_0 : l0_0.length ≤ c0_0) (hr0_1 : Kd.C Kd.string w A0_1 l0_1.length l0_1) (hc0_1 : l0_1.length ≤ c0_1) (hr0_2 : Kd.C k90 w A0_2 l0_2.length l0_2) (hc0_2 : l0_2.length ≤ c0_2) (hr1_0 : Kd.C Kd.string w A1_0 l1_0.length l1_0) (hc1_0 : l1_0.length ≤ c1_0) (hr1_1 : Kd.C Kd.string w A1_1 l1_1.length l1_1) (hc1_1 : l1_1.length ≤ c1_1) (hr1_2 : Kd.C k90 w A1_2 l1_2.length l1_2) (hc1_2 : l1_2.length ≤ c1_2) (h : laws_eqMemHost.f k l0_0 l0_1 l0_2 a0_3 l1_0 l1_1 l1_2 a1_3 = some r) :
  Calls Try.prog 12 #[.agg #[.slice A0_0 l0_0.length c0_0, .slice A0_1 l0_1.length c0_1, .slice A0_2 l0_2.length c0_2, .int .i64 a0_3], .agg #[.slice A1_0 l1_0.length c1_0, .slice A1_1 l1_1.length c1_1, .slice A1_2 l1_2.length c1_2, .int .i64 a1_3]] w fun e w' => e = .returned (.bool r) ∧ Below w.heap.size w w' := by
 have hu30 := Try.underlying30
 have HR0_0 := Sq.l hr0_0
 have HC0_0 := Sq.l hc0_0
 clear hr0_0 hc0_0
 have HR0_1 := Sq.l hr0_1
 have HC0_1 := Sq.l hc0_1
 clear hr0_1 hc0_1
 have HR0_2 := Sq.l hr0_2
 have HC0_2 := Sq.l hc0_2
 clear hr0_2 hc0_2
 have HR1_0 := Sq.l hr1_0
 have HC1_0 := Sq.l hc1_0
 clear hr1_0 hc1_0
 have HR1_1 := Sq.l hr1_1
 have HC1_1 := Sq.l hc1_1
 clear hr1_1 hc1_1
 have HR1_2 := Sq.l hr1_2
 have HC1_2 := Sq.l hc1_2
 clear hr1_2 hc1_2
 have HB := Sq.l (Below.refl w.heap.size w)
 have H : ((laws_eqStringS.f k l0_0 l1_0).bind fun t268 => (if t268 = true then ((laws_eqStringS.f k l0_1 l1_1).bind fun t269 => (if t269 = true then ((laws_eqMemGuestS.f k l0_2 l1_2).bind fun t270 => (if t270 = true then (if a0_3 = a1_3 then (some true) else (some false)) else (some false))) else (some false))) else (some false))) = some r := h
 clear h
 replace H := Option.bind_eq_some_iff.mp H
 obtain ⟨t268, A30, H⟩ := H
 (try dsimp only at H)
 have A3 := Sq.l A30
 clear A30
 by_cases c4 : t268 = true
 ·subst c4
  rw [if_pos rfl] at H
  replace H := Option.bind_eq_some_iff.mp H
  obtain ⟨t269, A50, H⟩ := H
  (try dsimp only at H)
  have A5 := Sq.l A50
  clear A50
  by_cases c6 : t269 = true
  ·subst c6
   rw [if_pos rfl] at H
   replace H := Option.bind_eq_some_iff.mp H
   obtain ⟨t270, A70, H⟩ := H
   (try dsimp only at H)
   have A7 := Sq.l A70
   clear A70
   by_cases c8 : t270 = true
   ·subst c8
    rw [if_pos rfl] at H
    by_cases c9 : a0_3 = a1_3
    ·rw [if_pos c9] at H
     have c9b0 : (a0_3 == a1_3) = true := beq_iff_eq.mpr c9
     have c9b1 : (a0_3 != a1_3) = false := bne_eq_false_iff_eq.mpr c9
     clear c9
     obtain rfl := Option.some.inj H
     go_enter Try.func12, Try.ntmps12
     go_wp2_with (first | ((with_reducible refine gate_dst (N := 2) rfl ?_); refine box_event ?hg (N := 2) ?hd (cs := #[.slice A0_0 l0_0.length c0_0, .slice A0_1 l0_1.length c0_1, .slice A0_2 l0_2.length c0_2, .int .i64 a0_3]) (t := 30) ?hr ?_; (case hd => rfl); (case hg => rfl); (case hr => first | (go_simp; done) | (go_simp; rfl)); intro gb266 hg w10 hbox hb; have n0_ := Sq.l (Sq.a4 (by repeat (first | (with_reducible first | exact HB.out | apply Sq.i | apply Sq.j | apply Sq.k) | exact HB.out)) hb); have n1_ := Sq.l (hbox); have n2_ := Sq.l ((by rw [hg]; exact (Sq.a5 (by repeat (first | (with_reducible first | exact HB.out | apply Sq.i | apply Sq.j | apply Sq.k) | exact HB.out))) : w.heap.size ≤ gb266)); have n3_ := Sq.l ((by rw [hg]; exact (Sq.a5 (by repeat (first | (with_reducible first | exact HB.out | apply Sq.i | apply Sq.j | apply Sq.k) | exact HB.out))) : w.heap.size ≤ gb266)); clear HB; have HB := n0_; have BK266 := n1_; have GW266 := n2_; have GE266 := n3_; clear n0_ n1_ n2_ n3_; clear hb hbox hg) | ((with_reducible refine gate_dst (N := 3) rfl ?_); refine box_event ?hg (N := 3) ?hd (cs := #[.slice A1_0 l1_0.length c1_0, .slice A1_1 l1_1.length c1_1, .slice A1_2 l1_2.length c1_2, .int .i64 a1_3]) (t := 30) ?hr ?_; (case hd => rfl); (case hg => rfl); (case hr => first | (go_simp; done) | (go_simp; rfl)); intro gb267 hg w11 hbox hb; have n0_ := Sq.l (Sq.m (g := gb266) (o := .cells #[.slice A0_0 l0_0.length c0_0, .slice A0_1 l0_1.length c0_1, .slice A0_2 l0_2.length c0_2, .int .i64 a0_3] 30 (0, 0)) (by (with_reducible repeat (first | refine Sq.d ?_ _ | refine Sq.e ?_ | refine Sq.f ?_ _)); exact BK266.out) hb); have n1_ := Sq.l (Sq.a4 (by repeat (first | (with_reducible first | exact HB.out | apply Sq.i | apply Sq.j | apply Sq.k | refine Sq.h ?_ GE266.out) | exact HB.out)) hb); have n2_ := Sq.l (hbox); have n3_ := Sq.l ((by rw [hg]; exact (Sq.a5 (by repeat (first | (with_reducible first | exact HB.out | apply Sq.i | apply Sq.j | apply Sq.k | refine Sq.h ?_ GE266.out) | exact HB.out))) : w.heap.size ≤ gb267)); have n4_ := Sq.l ((by rw [hg]; exact (Sq.a5 (by repeat (first | (with_reducible first | exact HB.out | apply Sq.i | apply Sq.j | apply Sq.k | refine Sq.h ?_ GE266.out) | exact HB.out))) : w.heap.size ≤ gb267)); have n5_ := Sq.l ((by rw [hg]; exact Nat.ne_of_lt (blk_lt (g := gb266) (o := .cells #[.slice A0_0 l0_0.length c0_0, .slice A0_1 l0_1.length c0_1, .slice A0_2 l0_2.length c0_2, .int .i64 a0_3] 30 (0, 0)) (by (with_reducible repeat (first | refine Sq.d ?_ _ | refine Sq.e ?_ | refine Sq.f ?_ _)); exact BK266.out)) : gb266 ≠ gb267)); have n6_ := Sq.l ((by rw [hg]; exact Nat.ne_of_gt (blk_lt (g := gb266) (o := .cells #[.slice A0_0 l0_0.length c0_0, .slice A0_1 l0_1.length c0_1, .slice A0_2 l0_2.length c0_2, .int .i64 a0_3] 30 (0, 0)) (by (with_reducible repeat (first | refine Sq.d ?_ _ | refine Sq.e ?_ | refine Sq.f ?_ _)); exact BK266.out)) : gb267 ≠ gb266)); clear BK266; clear HB; have BK266 := n0_; have HB := n1_; have BK267 := n2_; have GW267 := n3_; have GE267 := n4_; have NB266_267 := n5_; have NB267_266 := n6_; clear n0_ n1_ n2_ n3_ n4_ n5_ n6_; clear hb hbox hg; have hnb12 := NB266_267.out; have hnc12 := NB267_266.out; have hcz13_0 : w11.cell? ⟨gb266, 0, none⟩ = some (.slice A0_0 l0_0.length c0_0) := (Sq.o BK266.out 0).trans rfl; have hcz13_1 : w11.cell? ⟨gb266, 1, none⟩ = some (.slice A0_1 l0_1.length c0_1) := (Sq.o BK266.out 1).trans rfl; have hcz13_2 : w11.cell? ⟨gb266, 2, none⟩ = some (.slice A0_2 l0_2.length c0_2) := (Sq.o BK266.out 2).trans rfl; have hcz13_3 : w11.cell? ⟨gb266, 3, none⟩ = some (.int .i64 a0_3) := (Sq.o BK266.out 3).trans rfl; have hfz13_0 := Sq.r BK266.out 0; have hfz13_1 := Sq.r BK266.out 1; have hfz13_2 := Sq.r BK266.out 2; have hfz13_3 := Sq.r BK266.out 3; have hcz14_0 : w11.cell? ⟨gb267, 0, none⟩ = some (.slice A1_0 l1_0.length c1_0) := (Sq.o BK267.out 0).trans rfl; have hcz14_1 : w11.cell? ⟨gb267, 1, none⟩ = some (.slice A1_1 l1_1.length c1_1) := (Sq.o BK267.out 1).trans rfl; have hcz14_2 : w11.cell? ⟨gb267, 2, none⟩ = some (.slice A1_2 l1_2.length c1_2) := (Sq.o BK267.out 2).trans rfl; have hcz14_3 : w11.cell? ⟨gb267, 3, none⟩ = some (.int .i64 a1_3) := (Sq.o BK267.out 3).trans rfl; have hfz14_0 := Sq.r BK267.out 0; have hfz14_1 := Sq.r BK267.out 1; have hfz14_2 := Sq.r BK267.out 2; have hfz14_3 := Sq.r BK267.out 3) | ((with_reducible refine gate_callee (f := 53) rfl ?_); refine goesL_ (some 9) rfl rfl Try.func53 (by kernel_rfl) rfl #[.slice A0_0 l0_0.length c0_0, .slice A1_0 l1_0.length c1_0] rfl (by (try simp only [List.map_toArray, List.map_cons, List.map_nil]); first | done | rfl | (simp only [List.length_drop, List.length_take]; rfl)) ?_; (with_reducible refine (laws_eqStringS.calls k _ _ l0_0 _ _ l1_0 true _ ?side1 ?side2 ?side3 ?side4 A3.out).mono ?_); (case side1 => repeat (first | exact (Sq.a1 HR0_0.out HB.out) | (with_reducible refine Sq.s ?_ _) | (with_reducible refine Sq.t ?_ _) | (with_reducible refine Sq.u ?_))); (case side2 => exact HC0_0.out); (case side3 => repeat (first | exact (Sq.a1 HR1_0.out HB.out) | (with_reducible refine Sq.s ?_ _) | (with_reducible refine Sq.t ?_ _) | (with_reducible refine Sq.u ?_))); (case side4 => exact HC1_0.out); rintro e w' ⟨rfl, ⟨nd, rfl⟩⟩; refine ⟨_, rfl, ?_⟩) | ((with_reducible refine gate_callee (f := 53) rfl ?_); refine goesL_ (some 15) rfl rfl Try.func53 (by kernel_rfl) rfl #[.slice A0_1 l0_1.length c0_1, .slice A1_1 l1_1.length c1_1] rfl (by (try simp only [List.map_toArray, List.map_cons, List.map_nil]); first | done | rfl | (simp only [List.length_drop, List.length_take]; rfl)) ?_; (with_reducible refine (laws_eqStringS.calls k _ _ l0_1 _ _ l1_1 true _ ?side1 ?side2 ?side3 ?side4 A5.out).mono ?_); (case side1 => repeat (first | exact (Sq.a1 HR0_1.out (by repeat (first | (with_reducible first | exact HB.out | apply Sq.i | apply Sq.j | apply Sq.k | refine Sq.h ?_ GE266.out | refine Sq.h ?_ GE267.out) | exact HB.out))) | (with_reducible refine Sq.s ?_ _) | (with_reducible refine Sq.t ?_ _) | (with_reducible refine Sq.u ?_))); (case side2 => exact HC0_1.out); (case side3 => repeat (first | exact (Sq.a1 HR1_1.out (by repeat (first | (with_reducible first | exact HB.out | apply Sq.i | apply Sq.j | apply Sq.k | refine Sq.h ?_ GE266.out | refine Sq.h ?_ GE267.out) | exact HB.out))) | (with_reducible refine Sq.s ?_ _) | (with_reducible refine Sq.t ?_ _) | (with_reducible refine Sq.u ?_))); (case side4 => exact HC1_1.out); rintro e w' ⟨rfl, ⟨nd, rfl⟩⟩; refine ⟨_, rfl, ?_⟩) | ((with_reducible refine gate_callee (f := 54) rfl ?_); refine goesL_ (some 21) rfl rfl Try.func54 (by kernel_rfl) rfl #[.slice A0_2 l0_2.length c0_2, .slice A1_2 l1_2.length c1_2] rfl (by (try simp only [List.map_toArray, List.map_cons, List.map_nil]); first | done | rfl | (simp only [List.length_drop, List.length_take]; rfl)) ?_; (with_reducible refine (laws_eqMemGuestS.calls k _ _ l0_2 _ _ l1_2 true _ ?side1 ?side2 ?side3 ?side4 A7.out).mono ?_); (case side1 => repeat (first | exact (Sq.a1 HR0_2.out (by repeat (first | (with_reducible first | exact HB.out | apply Sq.i | apply Sq.j | apply Sq.k | refine Sq.h ?_ GE266.out | refine Sq.h ?_ GE267.out) | exact HB.out))) | (with_reducible refine Sq.s ?_ _) | (with_reducible refine Sq.t ?_ _) | (with_reducible refine Sq.u ?_))); (case side2 => exact HC0_2.out); (case side3 => repeat (first | exact (Sq.a1 HR1_2.out (by repeat (first | (with_reducible first | exact HB.out | apply Sq.i | apply Sq.j | apply Sq.k | refine Sq.h ?_ GE266.out | refine Sq.h ?_ GE267.out) | exact HB.out))) | (with_reducible refine Sq.s ?_ _) | (with_reducible refine Sq.t ?_ _) | (with_reducible refine Sq.u ?_))); (case side4 => exact HC1_2.out); rintro e w15 ⟨rfl, hb⟩; refine ⟨_, rfl, ?_⟩; have n0_ := Sq.l (Sq.m (g := gb266) (o := .cells #[.slice A0_0 l0_0.length c0_0, .slice A0_1 l0_1.length c0_1, .slice A0_2 l0_2.length c0_2, .int .i64 a0_3] 30 (0, 0)) (by (with_reducible repeat (first | refine Sq.d ?_ _ | refine Sq.e ?_ | refine Sq.f ?_ _)); exact BK266.out) hb); have n1_ := Sq.l (Sq.m (g := gb267) (o := .cells #[.slice A1_0 l1_0.length c1_0, .slice A1_1 l1_1.length c1_1, .slice A1_2 l1_2.length c1_2, .int .i64 a1_3] 30 (0, 0)) (by (with_reducible repeat (first | refine Sq.d ?_ _ | refine Sq.e ?_ | refine Sq.f ?_ _)); exact BK267.out) hb); have n2_ := Sq.l (Sq.a4 (by repeat (first | (with_reducible first | exact HB.out | apply Sq.i | apply Sq.j | apply Sq.k | refine Sq.h ?_ GE266.out | refine Sq.h ?_ GE267.out) | exact HB.out)) hb); clear BK266; clear BK267; clear HB; have BK266 := n0_; have BK267 := n1_; have HB := n2_; clear n0_ n1_ n2_; (try clear hb); (try clear hb2); (try clear hk); (try clear hi); have hcz16_0 : w15.cell? ⟨gb266, 0, none⟩ = some (.slice A0_0 l0_0.length c0_0) := (Sq.o BK266.out 0).trans rfl; have hcz16_1 : w15.cell? ⟨gb266, 1, none⟩ = some (.slice A0_1 l0_1.length c0_1) := (Sq.o BK266.out 1).trans rfl; have hcz16_2 : w15.cell? ⟨gb266, 2, none⟩ = some (.slice A0_2 l0_2.length c0_2) := (Sq.o BK266.out 2).trans rfl; have hcz16_3 : w15.cell? ⟨gb266, 3, none⟩ = some (.int .i64 a0_3) := (Sq.o BK266.out 3).trans rfl; have hfz16_0 := Sq.r BK266.out 0; have hfz16_1 := Sq.r BK266.out 1; have hfz16_2 := Sq.r BK266.out 2; have hfz16_3 := Sq.r BK266.out 3; have hcz17_0 : w15.cell? ⟨gb267, 0, none⟩ = some (.slice A1_0 l1_0.length c1_0) := (Sq.o BK267.out 0).trans rfl; have hcz17_1 : w15.cell? ⟨gb267, 1, none⟩ = some (.slice A1_1 l1_1.length c1_1) := (Sq.o BK267.out 1).trans rfl; have hcz17_2 : w15.cell? ⟨gb267, 2, none⟩ = some (.slice A1_2 l1_2.length c1_2) := (Sq.o BK267.out 2).trans rfl; have hcz17_3 : w15.cell? ⟨gb267, 3, none⟩ = some (.int .i64 a1_3) := (Sq.o BK267.out 3).trans rfl; have hfz17_0 := Sq.r BK267.out 0; have hfz17_1 := Sq.r BK267.out 1; have hfz17_2 := Sq.r BK267.out 2; have hfz17_3 := Sq.r BK267.out 3))
     go_ret
     exact ⟨by first | rfl | (simp [errW_none, errW_some] <;> rfl) | (simp [*, errW_none, errW_some] <;> rfl), by repeat (first | (with_reducible first | exact HB.out | apply Sq.i | apply Sq.j | apply Sq.k | refine Sq.h ?_ GE266.out | refine Sq.h ?_ GE267.out) | exact HB.out)⟩
    ·rw [if_neg c9] at H
     have c9b0 : (a0_3 == a1_3) = false := beq_eq_false_iff_ne.mpr c9
     have c9b1 : (a0_3 != a1_3) = true := bne_iff_ne.mpr c9
     obtain rfl := Option.some.inj H
     go_enter Try.func12, Try.ntmps12
     go_wp2_with (first | ((with_reducible refine gate_dst (N := 2) rfl ?_); refine box_event ?hg (N := 2) ?hd (cs := #[.slice A0_0 l0_0.length c0_0, .slice A0_1 l0_1.length c0_1, .slice A0_2 l0_2.length c0_2, .int .i64 a0_3]) (t := 30) ?hr ?_; (case hd => rfl); (case hg => rfl); (case hr => first | (go_simp; done) | (go_simp; rfl)); intro gb266 hg w18 hbox hb; have n0_ := Sq.l (Sq.a4 (by repeat (first | (with_reducible first | exact HB.out | apply Sq.i | apply Sq.j | apply Sq.k) | exact HB.out)) hb); have n1_ := Sq.l (hbox); have n2_ := Sq.l ((by rw [hg]; exact (Sq.a5 (by repeat (first | (with_reducible first | exact HB.out | apply Sq.i | apply Sq.j | apply Sq.k) | exact HB.out))) : w.heap.size ≤ gb266)); have n3_ := Sq.l ((by rw [hg]; exact (Sq.a5 (by repeat (first | (with_reducible first | exact HB.out | apply Sq.i | apply Sq.j | apply Sq.k) | exact HB.out))) : w.heap.size ≤ gb266)); clear HB; have HB := n0_; have BK266 := n1_; have GW266 := n2_; have GE266 := n3_; clear n0_ n1_ n2_ n3_; clear hb hbox hg) | ((with_reducible refine gate_dst (N := 3) rfl ?_); refine box_event ?hg (N := 3) ?hd (cs := #[.slice A1_0 l1_0.length c1_0, .slice A1_1 l1_1.length c1_1, .slice A1_2 l1_2.length c1_2, .int .i64 a1_3]) (t := 30) ?hr ?_; (case hd => rfl); (case hg => rfl); (case hr => first | (go_simp; done) | (go_simp; rfl)); intro gb267 hg w19 hbox hb; have n0_ := Sq.l (Sq.m (g := gb266) (o := .cells #[.slice A0_0 l0_0.length c0_0, .slice A0_1 l0_1.length c0_1, .slice A0_2 l0_2.length c0_2, .int .i64 a0_3] 30 (0, 0)) (by (with_reducible repeat (first | refine Sq.d ?_ _ | refine Sq.e ?_ | refine Sq.f ?_ _)); exact BK266.out) hb); have n1_ := Sq.l (Sq.a4 (by repeat (first | (with_reducible first | exact HB.out | apply Sq.i | apply Sq.j | apply Sq.k | refine Sq.h ?_ GE266.out) | exact HB.out)) hb); have n2_ := Sq.l (hbox); have n3_ := Sq.l ((by rw [hg]; exact (Sq.a5 (by repeat (first | (with_reducible first | exact HB.out | apply Sq.i | apply Sq.j | apply Sq.k | refine Sq.h ?_ GE266.out) | exact HB.out))) : w.heap.size ≤ gb267)); have n4_ := Sq.l ((by rw [hg]; exact (Sq.a5 (by repeat (first | (with_reducible first | exact HB.out | apply Sq.i | apply Sq.j | apply Sq.k | refine Sq.h ?_ GE266.out) | exact HB.out))) : w.heap.size ≤ gb267)); have n5_ := Sq.l ((by rw [hg]; exact Nat.ne_of_lt (blk_lt (g := gb266) (o := .cells #[.slice A0_0 l0_0.length c0_0, .slice A0_1 l0_1.length c0_1, .slice A0_2 l0_2.length c0_2, .int .i64 a0_3] 30 (0, 0)) (by (with_reducible repeat (first | refine Sq.d ?_ _ | refine Sq.e ?_ | refine Sq.f ?_ _)); exact BK266.out)) : gb266 ≠ gb267)); have n6_ := Sq.l ((by rw [hg]; exact Nat.ne_of_gt (blk_lt (g := gb266) (o := .cells #[.slice A0_0 l0_0.length c0_0, .slice A0_1 l0_1.length c0_1, .slice A0_2 l0_2.length c0_2, .int .i64 a0_3] 30 (0, 0)) (by (with_reducible repeat (first | refine Sq.d ?_ _ | refine Sq.e ?_ | refine Sq.f ?_ _)); exact BK266.out)) : gb267 ≠ gb266)); clear BK266; clear HB; have BK266 := n0_; have HB := n1_; have BK267 := n2_; have GW267 := n3_; have GE267 := n4_; have NB266_267 := n5_; have NB267_266 := n6_; clear n0_ n1_ n2_ n3_ n4_ n5_ n6_; clear hb hbox hg; have hnb20 := NB266_267.out; have hnc20 := NB267_266.out; have hcz21_0 : w19.cell? ⟨gb266, 0, none⟩ = some (.slice A0_0 l0_0.length c0_0) := (Sq.o BK266.out 0).trans rfl; have hcz21_1 : w19.cell? ⟨gb266, 1, none⟩ = some (.slice A0_1 l0_1.length c0_1) := (Sq.o BK266.out 1).trans rfl; have hcz21_2 : w19.cell? ⟨gb266, 2, none⟩ = some (.slice A0_2 l0_2.length c0_2) := (Sq.o BK266.out 2).trans rfl; have hcz21_3 : w19.cell? ⟨gb266, 3, none⟩ = some (.int .i64 a0_3) := (Sq.o BK266.out 3).trans rfl; have hfz21_0 := Sq.r BK266.out 0; have hfz21_1 := Sq.r BK266.out 1; have hfz21_2 := Sq.r BK266.out 2; have hfz21_3 := Sq.r BK266.out 3; have hcz22_0 : w19.cell? ⟨gb267, 0, none⟩ = some (.slice A1_0 l1_0.length c1_0) := (Sq.o BK267.out 0).trans rfl; have hcz22_1 : w19.cell? ⟨gb267, 1, none⟩ = some (.slice A1_1 l1_1.length c1_1) := (Sq.o BK267.out 1).trans rfl; have hcz22_2 : w19.cell? ⟨gb267, 2, none⟩ = some (.slice A1_2 l1_2.length c1_2) := (Sq.o BK267.out 2).trans rfl; have hcz22_3 : w19.cell? ⟨gb267, 3, none⟩ = some (.int .i64 a1_3) := (Sq.o BK267.out 3).trans rfl; have hfz22_0 := Sq.r BK267.out 0; have hfz22_1 := Sq.r BK267.out 1; have hfz22_2 := Sq.r BK267.out 2; have hfz22_3 := Sq.r BK267.out 3) | ((with_reducible refine gate_callee (f := 53) rfl ?_); refine goesL_ (some 9) rfl rfl Try.func53 (by kernel_rfl) rfl #[.slice A0_0 l0_0.length c0_0, .slice A1_0 l1_0.length c1_0] rfl (by (try simp only [List.map_toArray, List.map_cons, List.map_nil]); first | done | rfl | (simp only [List.length_drop, List.length_take]; rfl)) ?_; (with_reducible refine (laws_eqStringS.calls k _ _ l0_0 _ _ l1_0 true _ ?side1 ?side2 ?side3 ?side4 A3.out).mono ?_); (case side1 => repeat (first | exact (Sq.a1 HR0_0.out HB.out) | (with_reducible refine Sq.s ?_ _) | (with_reducible refine Sq.t ?_ _) | (with_reducible refine Sq.u ?_))); (case side2 => exact HC0_0.out); (case side3 => repeat (first | exact (Sq.a1 HR1_0.out HB.out) | (with_reducible refine Sq.s ?_ _) | (with_reducible refine Sq.t ?_ _) | (with_reducible refine Sq.u ?_))); (case side4 => exact HC1_0.out); rintro e w' ⟨rfl, ⟨nd, rfl⟩⟩; refine ⟨_, rfl, ?_⟩) | ((with_reducible refine gate_callee (f := 53) rfl ?_); refine goesL_ (some 15) rfl rfl Try.func53 (by kernel_rfl) rfl #[.slice A0_1 l0_1.length c0_1, .slice A1_1 l1_1.length c1_1] rfl (by (try simp only [List.map_toArray, List.map_cons, List.map_nil]); first | done | rfl | (simp only [List.length_drop, List.length_take]; rfl)) ?_; (with_reducible refine (laws_eqStringS.calls k _ _ l0_1 _ _ l1_1 true _ ?side1 ?side2 ?side3 ?side4 A5.out).mono ?_); (case side1 => repeat (first | exact (Sq.a1 HR0_1.out (by repeat (first | (with_reducible first | exact HB.out | apply Sq.i | apply Sq.j | apply Sq.k | refine Sq.h ?_ GE266.out | refine Sq.h ?_ GE267.out) | exact HB.out))) | (with_reducible refine Sq.s ?_ _) | (with_reducible refine Sq.t ?_ _) | (with_reducible refine Sq.u ?_))); (case side2 => exact HC0_1.out); (case side3 => repeat (first | exact (Sq.a1 HR1_1.out (by repeat (first | (with_reducible first | exact HB.out | apply Sq.i | apply Sq.j | apply Sq.k | refine Sq.h ?_ GE266.out | refine Sq.h ?_ GE267.out) | exact HB.out))) | (with_reducible refine Sq.s ?_ _) | (with_reducible refine Sq.t ?_ _) | (with_reducible refine Sq.u ?_))); (case side4 => exact HC1_1.out); rintro e w' ⟨rfl, ⟨nd, rfl⟩⟩; refine ⟨_, rfl, ?_⟩) | ((with_reducible refine gate_callee (f := 54) rfl ?_); refine goesL_ (some 21) rfl rfl Try.func54 (by kernel_rfl) rfl #[.slice A0_2 l0_2.length c0_2, .slice A1_2 l1_2.length c1_2] rfl (by (try simp only [List.map_toArray, List.map_cons, List.map_nil]); first | done | rfl | (simp only [List.length_drop, List.length_take]; rfl)) ?_; (with_reducible refine (laws_eqMemGuestS.calls k _ _ l0_2 _ _ l1_2 true _ ?side1 ?side2 ?side3 ?side4 A7.out).mono ?_); (case side1 => repeat (first | exact (Sq.a1 HR0_2.out (by repeat (first | (with_reducible first | exact HB.out | apply Sq.i | apply Sq.j | apply Sq.k | refine Sq.h ?_ GE266.out | refine Sq.h ?_ GE267.out) | exact HB.out))) | (with_reducible refine Sq.s ?_ _) | (with_reducible refine Sq.t ?_ _) | (with_reducible refine Sq.u ?_))); (case side2 => exact HC0_2.out); (case side3 => repeat (first | exact (Sq.a1 HR1_2.out (by repeat (first | (with_reducible first | exact HB.out | apply Sq.i | apply Sq.j | apply Sq.k | refine Sq.h ?_ GE266.out | refine Sq.h ?_ GE267.out) | exact HB.out))) | (with_reducible refine Sq.s ?_ _) | (with_reducible refine Sq.t ?_ _) | (with_reducible refine Sq.u ?_))); (case side4 => exact HC1_2.out); rintro e w23 ⟨rfl, hb⟩; refine ⟨_, rfl, ?_⟩; have n0_ := Sq.l (Sq.m (g := gb266) (o := .cells #[.slice A0_0 l0_0.length c0_0, .slice A0_1 l0_1.length c0_1, .slice A0_2 l0_2.length c0_2, .int .i64 a0_3] 30 (0, 0)) (by (with_reducible repeat (first | refine Sq.d ?_ _ | refine Sq.e ?_ | refine Sq.f ?_ _)); exact BK266.out) hb); have n1_ := Sq.l (Sq.m (g := gb267) (o := .cells #[.slice A1_0 l1_0.length c1_0, .slice A1_1 l1_1.length c1_1, .slice A1_2 l1_2.length c1_2, .int .i64 a1_3] 30 (0, 0)) (by (with_reducible repeat (first | refine Sq.d ?_ _ | refine Sq.e ?_ | refine Sq.f ?_ _)); exact BK267.out) hb); have n2_ := Sq.l (Sq.a4 (by repeat (first | (with_reducible first | exact HB.out | apply Sq.i | apply Sq.j | apply Sq.k | refine Sq.h ?_ GE266.out | refine Sq.h ?_ GE267.out) | exact HB.out)) hb); clear BK266; clear BK267; clear HB; have BK266 := n0_; have BK267 := n1_; have HB := n2_; clear n0_ n1_ n2_; (try clear hb); (try clear hb2); (try clear hk); (try clear hi); have hcz24_0 : w23.cell? ⟨gb266, 0, none⟩ = some (.slice A0_0 l0_0.length c0_0) := (Sq.o BK266.out 0).trans rfl; have hcz24_1 : w23.cell? ⟨gb266, 1, none⟩ = some (.slice A0_1 l0_1.length c0_1) := (Sq.o BK266.out 1).trans rfl; have hcz24_2 : w23.cell? ⟨gb266, 2, none⟩ = some (.slice A0_2 l0_2.length c0_2) := (Sq.o BK266.out 2).trans rfl; have hcz24_3 : w23.cell? ⟨gb266, 3, none⟩ = some (.int .i64 a0_3) := (Sq.o BK266.out 3).trans rfl; have hfz24_0 := Sq.r BK266.out 0; have hfz24_1 := Sq.r BK266.out 1; have hfz24_2 := Sq.r BK266.out 2; have hfz24_3 := Sq.r BK266.out 3; have hcz25_0 : w23.cell? ⟨gb267, 0, none⟩ = some (.slice A1_0 l1_0.length c1_0) := (Sq.o BK267.out 0).trans rfl; have hcz25_1 : w23.cell? ⟨gb267, 1, none⟩ = some (.slice A1_1 l1_1.length c1_1) := (Sq.o BK267.out 1).trans rfl; have hcz25_2 : w23.cell? ⟨gb267, 2, none⟩ = some (.slice A1_2 l1_2.length c1_2) := (Sq.o BK267.out 2).trans rfl; have hcz25_3 : w23.cell? ⟨gb267, 3, none⟩ = some (.int .i64 a1_3) := (Sq.o BK267.out 3).trans rfl; have hfz25_0 := Sq.r BK267.out 0; have hfz25_1 := Sq.r BK267.out 1; have hfz25_2 := Sq.r BK267.out 2; have hfz25_3 := Sq.r BK267.out 3))
     go_ret
     exact ⟨by first | rfl | (simp [errW_none, errW_some] <;> rfl) | (simp [*, errW_none, errW_some] <;> rfl), by repeat (first | (with_reducible first | exact HB.out | apply Sq.i | apply Sq.j | apply Sq.k | refine Sq.h ?_ GE266.out | refine Sq.h ?_ GE267.out) | exact HB.out)⟩
   ·replace c8 := Bool.eq_false_iff.mpr c8
    subst c8
    rw [if_neg (show ¬ (false = true) by decide)] at H
    obtain rfl := Option.some.inj H
    go_enter Try.func12, Try.ntmps12
    go_wp2_with (first | ((with_reducible refine gate_dst (N := 2) rfl ?_); refine box_event ?hg (N := 2) ?hd (cs := #[.slice A0_0 l0_0.length c0_0, .slice A0_1 l0_1.length c0_1, .slice A0_2 l0_2.length c0_2, .int .i64 a0_3]) (t := 30) ?hr ?_; (case hd => rfl); (case hg => rfl); (case hr => first | (go_simp; done) | (go_simp; rfl)); intro gb266 hg w26 hbox hb; have n0_ := Sq.l (Sq.a4 (by repeat (first | (with_reducible first | exact HB.out | apply Sq.i | apply Sq.j | apply Sq.k) | exact HB.out)) hb); have n1_ := Sq.l (hbox); have n2_ := Sq.l ((by rw [hg]; exact (Sq.a5 (by repeat (first | (with_reducible first | exact HB.out | apply Sq.i | apply Sq.j | apply Sq.k) | exact HB.out))) : w.heap.size ≤ gb266)); have n3_ := Sq.l ((by rw [hg]; exact (Sq.a5 (by repeat (first | (with_reducible first | exact HB.out | apply Sq.i | apply Sq.j | apply Sq.k) | exact HB.out))) : w.heap.size ≤ gb266)); clear HB; have HB := n0_; have BK266 := n1_; have GW266 := n2_; have GE266 := n3_; clear n0_ n1_ n2_ n3_; clear hb hbox hg) | ((with_reducible refine gate_dst (N := 3) rfl ?_); refine box_event ?hg (N := 3) ?hd (cs := #[.slice A1_0 l1_0.length c1_0, .slice A1_1 l1_1.length c1_1, .slice A1_2 l1_2.length c1_2, .int .i64 a1_3]) (t := 30) ?hr ?_; (case hd => rfl); (case hg => rfl); (case hr => first | (go_simp; done) | (go_simp; rfl)); intro gb267 hg w27 hbox hb; have n0_ := Sq.l (Sq.m (g := gb266) (o := .cells #[.slice A0_0 l0_0.length c0_0, .slice A0_1 l0_1.length c0_1, .slice A0_2 l0_2.length c0_2, .int .i64 a0_3] 30 (0, 0)) (by (with_reducible repeat (first | refine Sq.d ?_ _ | refine Sq.e ?_ | refine Sq.f ?_ _)); exact BK266.out) hb); have n1_ := Sq.l (Sq.a4 (by repeat (first | (with_reducible first | exact HB.out | apply Sq.i | apply Sq.j | apply Sq.k | refine Sq.h ?_ GE266.out) | exact HB.out)) hb); have n2_ := Sq.l (hbox); have n3_ := Sq.l ((by rw [hg]; exact (Sq.a5 (by repeat (first | (with_reducible first | exact HB.out | apply Sq.i | apply Sq.j | apply Sq.k | refine Sq.h ?_ GE266.out) | exact HB.out))) : w.heap.size ≤ gb267)); have n4_ := Sq.l ((by rw [hg]; exact (Sq.a5 (by repeat (first | (with_reducible first | exact HB.out | apply Sq.i | apply Sq.j | apply Sq.k | refine Sq.h ?_ GE266.out) | exact HB.out))) : w.heap.size ≤ gb267)); have n5_ := Sq.l ((by rw [hg]; exact Nat.ne_of_lt (blk_lt (g := gb266) (o := .cells #[.slice A0_0 l0_0.length c0_0, .slice A0_1 l0_1.length c0_1, .slice A0_2 l0_2.length c0_2, .int .i64 a0_3] 30 (0, 0)) (by (with_reducible repeat (first | refine Sq.d ?_ _ | refine Sq.e ?_ | refine Sq.f ?_ _)); exact BK266.out)) : gb266 ≠ gb267)); have n6_ := Sq.l ((by rw [hg]; exact Nat.ne_of_gt (blk_lt (g := gb266) (o := .cells #[.slice A0_0 l0_0.length c0_0, .slice A0_1 l0_1.length c0_1, .slice A0_2 l0_2.length c0_2, .int .i64 a0_3] 30 (0, 0)) (by (with_reducible repeat (first | refine Sq.d ?_ _ | refine Sq.e ?_ | refine Sq.f ?_ _)); exact BK266.out)) : gb267 ≠ gb266)); clear BK266; clear HB; have BK266 := n0_; have HB := n1_; have BK267 := n2_; have GW267 := n3_; have GE267 := n4_; have NB266_267 := n5_; have NB267_266 := n6_; clear n0_ n1_ n2_ n3_ n4_ n5_ n6_; clear hb hbox hg; have hnb28 := NB266_267.out; have hnc28 := NB267_266.out; have hcz29_0 : w27.cell? ⟨gb266, 0, none⟩ = some (.slice A0_0 l0_0.length c0_0) := (Sq.o BK266.out 0).trans rfl; have hcz29_1 : w27.cell? ⟨gb266, 1, none⟩ = some (.slice A0_1 l0_1.length c0_1) := (Sq.o BK266.out 1).trans rfl; have hcz29_2 : w27.cell? ⟨gb266, 2, none⟩ = some (.slice A0_2 l0_2.length c0_2) := (Sq.o BK266.out 2).trans rfl; have hcz29_3 : w27.cell? ⟨gb266, 3, none⟩ = some (.int .i64 a0_3) := (Sq.o BK266.out 3).trans rfl; have hfz29_0 := Sq.r BK266.out 0; have hfz29_1 := Sq.r BK266.out 1; have hfz29_2 := Sq.r BK266.out 2; have hfz29_3 := Sq.r BK266.out 3; have hcz30_0 : w27.cell? ⟨gb267, 0, none⟩ = some (.slice A1_0 l1_0.length c1_0) := (Sq.o BK267.out 0).trans rfl; have hcz30_1 : w27.cell? ⟨gb267, 1, none⟩ = some (.slice A1_1 l1_1.length c1_1) := (Sq.o BK267.out 1).trans rfl; have hcz30_2 : w27.cell? ⟨gb267, 2, none⟩ = some (.slice A1_2 l1_2.length c1_2) := (Sq.o BK267.out 2).trans rfl; have hcz30_3 : w27.cell? ⟨gb267, 3, none⟩ = some (.int .i64 a1_3) := (Sq.o BK267.out 3).trans rfl; have hfz30_0 := Sq.r BK267.out 0; have hfz30_1 := Sq.r BK267.out 1; have hfz30_2 := Sq.r BK267.out 2; have hfz30_3 := Sq.r BK267.out 3) | ((with_reducible refine gate_callee (f := 53) rfl ?_); refine goesL_ (some 9) rfl rfl Try.func53 (by kernel_rfl) rfl #[.slice A0_0 l0_0.length c0_0, .slice A1_0 l1_0.length c1_0] rfl (by (try simp only [List.map_toArray, List.map_cons, List.map_nil]); first | done | rfl | (simp only [List.length_drop, List.length_take]; rfl)) ?_; (with_reducible refine (laws_eqStringS.calls k _ _ l0_0 _ _ l1_0 true _ ?side1 ?side2 ?side3 ?side4 A3.out).mono ?_); (case side1 => repeat (first | exact (Sq.a1 HR0_0.out HB.out) | (with_reducible refine Sq.s ?_ _) | (with_reducible refine Sq.t ?_ _) | (with_reducible refine Sq.u ?_))); (case side2 => exact HC0_0.out); (case side3 => repeat (first | exact (Sq.a1 HR1_0.out HB.out) | (with_reducible refine Sq.s ?_ _) | (with_reducible refine Sq.t ?_ _) | (with_reducible refine Sq.u ?_))); (case side4 => exact HC1_0.out); rintro e w' ⟨rfl, ⟨nd, rfl⟩⟩; refine ⟨_, rfl, ?_⟩) | ((with_reducible refine gate_callee (f := 53) rfl ?_); refine goesL_ (some 15) rfl rfl Try.func53 (by kernel_rfl) rfl #[.slice A0_1 l0_1.length c0_1, .slice A1_1 l1_1.length c1_1] rfl (by (try simp only [List.map_toArray, List.map_cons, List.map_nil]); first | done | rfl | (simp only [List.length_drop, List.length_take]; rfl)) ?_; (with_reducible refine (laws_eqStringS.calls k _ _ l0_1 _ _ l1_1 true _ ?side1 ?side2 ?side3 ?side4 A5.out).mono ?_); (case side1 => repeat (first | exact (Sq.a1 HR0_1.out (by repeat (first | (with_reducible first | exact HB.out | apply Sq.i | apply Sq.j | apply Sq.k | refine Sq.h ?_ GE266.out | refine Sq.h ?_ GE267.out) | exact HB.out))) | (with_reducible refine Sq.s ?_ _) | (with_reducible refine Sq.t ?_ _) | (with_reducible refine Sq.u ?_))); (case side2 => exact HC0_1.out); (case side3 => repeat (first | exact (Sq.a1 HR1_1.out (by repeat (first | (with_reducible first | exact HB.out | apply Sq.i | apply Sq.j | apply Sq.k | refine Sq.h ?_ GE266.out | refine Sq.h ?_ GE267.out) | exact HB.out))) | (with_reducible refine Sq.s ?_ _) | (with_reducible refine Sq.t ?_ _) | (with_reducible refine Sq.u ?_))); (case side4 => exact HC1_1.out); rintro e w' ⟨rfl, ⟨nd, rfl⟩⟩; refine ⟨_, rfl, ?_⟩) | ((with_reducible refine gate_callee (f := 54) rfl ?_); refine goesL_ (some 21) rfl rfl Try.func54 (by kernel_rfl) rfl #[.slice A0_2 l0_2.length c0_2, .slice A1_2 l1_2.length c1_2] rfl (by (try simp only [List.map_toArray, List.map_cons, List.map_nil]); first | done | rfl | (simp only [List.length_drop, List.length_take]; rfl)) ?_; (with_reducible refine (laws_eqMemGuestS.calls k _ _ l0_2 _ _ l1_2 false _ ?side1 ?side2 ?side3 ?side4 A7.out).mono ?_); (case side1 => repeat (first | exact (Sq.a1 HR0_2.out (by repeat (first | (with_reducible first | exact HB.out | apply Sq.i | apply Sq.j | apply Sq.k | refine Sq.h ?_ GE266.out | refine Sq.h ?_ GE267.out) | exact HB.out))) | (with_reducible refine Sq.s ?_ _) | (with_reducible refine Sq.t ?_ _) | (with_reducible refine Sq.u ?_))); (case side2 => exact HC0_2.out); (case side3 => repeat (first | exact (Sq.a1 HR1_2.out (by repeat (first | (with_reducible first | exact HB.out | apply Sq.i | apply Sq.j | apply Sq.k | refine Sq.h ?_ GE266.out | refine Sq.h ?_ GE267.out) | exact HB.out))) | (with_reducible refine Sq.s ?_ _) | (with_reducible refine Sq.t ?_ _) | (with_reducible refine Sq.u ?_))); (case side4 => exact HC1_2.out); rintro e w31 ⟨rfl, hb⟩; refine ⟨_, rfl, ?_⟩; have n0_ := Sq.l (Sq.m (g := gb266) (o := .cells #[.slice A0_0 l0_0.length c0_0, .slice A0_1 l0_1.length c0_1, .slice A0_2 l0_2.length c0_2, .int .i64 a0_3] 30 (0, 0)) (by (with_reducible repeat (first | refine Sq.d ?_ _ | refine Sq.e ?_ | refine Sq.f ?_ _)); exact BK266.out) hb); have n1_ := Sq.l (Sq.m (g := gb267) (o := .cells #[.slice A1_0 l1_0.length c1_0, .slice A1_1 l1_1.length c1_1, .slice A1_2 l1_2.length c1_2, .int .i64 a1_3] 30 (0, 0)) (by (with_reducible repeat (first | refine Sq.d ?_ _ | refine Sq.e ?_ | refine Sq.f ?_ _)); exact BK267.out) hb); have n2_ := Sq.l (Sq.a4 (by repeat (first | (with_reducible first | exact HB.out | apply Sq.i | apply Sq.j | apply Sq.k | refine Sq.h ?_ GE266.out | refine Sq.h ?_ GE267.out) | exact HB.out)) hb); clear BK266; clear BK267; clear HB; have BK266 := n0_; have BK267 := n1_; have HB := n2_; clear n0_ n1_ n2_; (try clear hb); (try clear hb2); (try clear hk); (try clear hi)))
    go_ret
    exact ⟨by first | rfl | (simp [errW_none, errW_some] <;> rfl) | (simp [*, errW_none, errW_some] <;> rfl), by repeat (first | (with_reducible first | exact HB.out | apply Sq.i | apply Sq.j | apply Sq.k | refine Sq.h ?_ GE266.out | refine Sq.h ?_ GE267.out) | exact HB.out)⟩
  ·replace c6 := Bool.eq_false_iff.mpr c6
   subst c6
   rw [if_neg (show ¬ (false = true) by decide)] at H
   obtain rfl := Option.some.inj H
   go_enter Try.func12, Try.ntmps12
   go_wp2_with (first | ((with_reducible refine gate_dst (N := 2) rfl ?_); refine box_event ?hg (N := 2) ?hd (cs := #[.slice A0_0 l0_0.length c0_0, .slice A0_1 l0_1.length c0_1, .slice A0_2 l0_2.length c0_2, .int .i64 a0_3]) (t := 30) ?hr ?_; (case hd => rfl); (case hg => rfl); (case hr => first | (go_simp; done) | (go_simp; rfl)); intro gb266 hg w32 hbox hb; have n0_ := Sq.l (Sq.a4 (by repeat (first | (with_reducible first | exact HB.out | apply Sq.i | apply Sq.j | apply Sq.k) | exact HB.out)) hb); have n1_ := Sq.l (hbox); have n2_ := Sq.l ((by rw [hg]; exact (Sq.a5 (by repeat (first | (with_reducible first | exact HB.out | apply Sq.i | apply Sq.j | apply Sq.k) | exact HB.out))) : w.heap.size ≤ gb266)); have n3_ := Sq.l ((by rw [hg]; exact (Sq.a5 (by repeat (first | (with_reducible first | exact HB.out | apply Sq.i | apply Sq.j | apply Sq.k) | exact HB.out))) : w.heap.size ≤ gb266)); clear HB; have HB := n0_; have BK266 := n1_; have GW266 := n2_; have GE266 := n3_; clear n0_ n1_ n2_ n3_; clear hb hbox hg) | ((with_reducible refine gate_dst (N := 3) rfl ?_); refine box_event ?hg (N := 3) ?hd (cs := #[.slice A1_0 l1_0.length c1_0, .slice A1_1 l1_1.length c1_1, .slice A1_2 l1_2.length c1_2, .int .i64 a1_3]) (t := 30) ?hr ?_; (case hd => rfl); (case hg => rfl); (case hr => first | (go_simp; done) | (go_simp; rfl)); intro gb267 hg w33 hbox hb; have n0_ := Sq.l (Sq.m (g := gb266) (o := .cells #[.slice A0_0 l0_0.length c0_0, .slice A0_1 l0_1.length c0_1, .slice A0_2 l0_2.length c0_2, .int .i64 a0_3] 30 (0, 0)) (by (with_reducible repeat (first | refine Sq.d ?_ _ | refine Sq.e ?_ | refine Sq.f ?_ _)); exact BK266.out) hb); have n1_ := Sq.l (Sq.a4 (by repeat (first | (with_reducible first | exact HB.out | apply Sq.i | apply Sq.j | apply Sq.k | refine Sq.h ?_ GE266.out) | exact HB.out)) hb); have n2_ := Sq.l (hbox); have n3_ := Sq.l ((by rw [hg]; exact (Sq.a5 (by repeat (first | (with_reducible first | exact HB.out | apply Sq.i | apply Sq.j | apply Sq.k | refine Sq.h ?_ GE266.out) | exact HB.out))) : w.heap.size ≤ gb267)); have n4_ := Sq.l ((by rw [hg]; exact (Sq.a5 (by repeat (first | (with_reducible first | exact HB.out | apply Sq.i | apply Sq.j | apply Sq.k | refine Sq.h ?_ GE266.out) | exact HB.out))) : w.heap.size ≤ gb267)); have n5_ := Sq.l ((by rw [hg]; exact Nat.ne_of_lt (blk_lt (g := gb266) (o := .cells #[.slice A0_0 l0_0.length c0_0, .slice A0_1 l0_1.length c0_1, .slice A0_2 l0_2.length c0_2, .int .i64 a0_3] 30 (0, 0)) (by (with_reducible repeat (first | refine Sq.d ?_ _ | refine Sq.e ?_ | refine Sq.f ?_ _)); exact BK266.out)) : gb266 ≠ gb267)); have n6_ := Sq.l ((by rw [hg]; exact Nat.ne_of_gt (blk_lt (g := gb266) (o := .cells #[.slice A0_0 l0_0.length c0_0, .slice A0_1 l0_1.length c0_1, .slice A0_2 l0_2.length c0_2, .int .i64 a0_3] 30 (0, 0)) (by (with_reducible repeat (first | refine Sq.d ?_ _ | refine Sq.e ?_ | refine Sq.f ?_ _)); exact BK266.out)) : gb267 ≠ gb266)); clear BK266; clear HB; have BK266 := n0_; have HB := n1_; have BK267 := n2_; have GW267 := n3_; have GE267 := n4_; have NB266_267 := n5_; have NB267_266 := n6_; clear n0_ n1_ n2_ n3_ n4_ n5_ n6_; clear hb hbox hg; have hnb34 := NB266_267.out; have hnc34 := NB267_266.out; have hcz35_0 : w33.cell? ⟨gb266, 0, none⟩ = some (.slice A0_0 l0_0.length c0_0) := (Sq.o BK266.out 0).trans rfl; have hcz35_1 : w33.cell? ⟨gb266, 1, none⟩ = some (.slice A0_1 l0_1.length c0_1) := (Sq.o BK266.out 1).trans rfl; have hcz35_2 : w33.cell? ⟨gb266, 2, none⟩ = some (.slice A0_2 l0_2.length c0_2) := (Sq.o BK266.out 2).trans rfl; have hcz35_3 : w33.cell? ⟨gb266, 3, none⟩ = some (.int .i64 a0_3) := (Sq.o BK266.out 3).trans rfl; have hfz35_0 := Sq.r BK266.out 0; have hfz35_1 := Sq.r BK266.out 1; have hfz35_2 := Sq.r BK266.out 2; have hfz35_3 := Sq.r BK266.out 3; have hcz36_0 : w33.cell? ⟨gb267, 0, none⟩ = some (.slice A1_0 l1_0.length c1_0) := (Sq.o BK267.out 0).trans rfl; have hcz36_1 : w33.cell? ⟨gb267, 1, none⟩ = some (.slice A1_1 l1_1.length c1_1) := (Sq.o BK267.out 1).trans rfl; have hcz36_2 : w33.cell? ⟨gb267, 2, none⟩ = some (.slice A1_2 l1_2.length c1_2) := (Sq.o BK267.out 2).trans rfl; have hcz36_3 : w33.cell? ⟨gb267, 3, none⟩ = some (.int .i64 a1_3) := (Sq.o BK267.out 3).trans rfl; have hfz36_0 := Sq.r BK267.out 0; have hfz36_1 := Sq.r BK267.out 1; have hfz36_2 := Sq.r BK267.out 2; have hfz36_3 := Sq.r BK267.out 3) | ((with_reducible refine gate_callee (f := 53) rfl ?_); refine goesL_ (some 9) rfl rfl Try.func53 (by kernel_rfl) rfl #[.slice A0_0 l0_0.length c0_0, .slice A1_0 l1_0.length c1_0] rfl (by (try simp only [List.map_toArray, List.map_cons, List.map_nil]); first | done | rfl | (simp only [List.length_drop, List.length_take]; rfl)) ?_; (with_reducible refine (laws_eqStringS.calls k _ _ l0_0 _ _ l1_0 true _ ?side1 ?side2 ?side3 ?side4 A3.out).mono ?_); (case side1 => repeat (first | exact (Sq.a1 HR0_0.out HB.out) | (with_reducible refine Sq.s ?_ _) | (with_reducible refine Sq.t ?_ _) | (with_reducible refine Sq.u ?_))); (case side2 => exact HC0_0.out); (case side3 => repeat (first | exact (Sq.a1 HR1_0.out HB.out) | (with_reducible refine Sq.s ?_ _) | (with_reducible refine Sq.t ?_ _) | (with_reducible refine Sq.u ?_))); (case side4 => exact HC1_0.out); rintro e w' ⟨rfl, ⟨nd, rfl⟩⟩; refine ⟨_, rfl, ?_⟩) | ((with_reducible refine gate_callee (f := 53) rfl ?_); refine goesL_ (some 15) rfl rfl Try.func53 (by kernel_rfl) rfl #[.slice A0_1 l0_1.length c0_1, .slice A1_1 l1_1.length c1_1] rfl (by (try simp only [List.map_toArray, List.map_cons, List.map_nil]); first | done | rfl | (simp only [List.length_drop, List.length_take]; rfl)) ?_; (with_reducible refine (laws_eqStringS.calls k _ _ l0_1 _ _ l1_1 false _ ?side1 ?side2 ?side3 ?side4 A5.out).mono ?_); (case side1 => repeat (first | exact (Sq.a1 HR0_1.out (by repeat (first | (with_reducible first | exact HB.out | apply Sq.i | apply Sq.j | apply Sq.k | refine Sq.h ?_ GE266.out | refine Sq.h ?_ GE267.out) | exact HB.out))) | (with_reducible refine Sq.s ?_ _) | (with_reducible refine Sq.t ?_ _) | (with_reducible refine Sq.u ?_))); (case side2 => exact HC0_1.out); (case side3 => repeat (first | exact (Sq.a1 HR1_1.out (by repeat (first | (with_reducible first | exact HB.out | apply Sq.i | apply Sq.j | apply Sq.k | refine Sq.h ?_ GE266.out | refine Sq.h ?_ GE267.out) | exact HB.out))) | (with_reducible refine Sq.s ?_ _) | (with_reducible refine Sq.t ?_ _) | (with_reducible refine Sq.u ?_))); (case side4 => exact HC1_1.out); rintro e w' ⟨rfl, ⟨nd, rfl⟩⟩; refine ⟨_, rfl, ?_⟩))
   go_ret
   exact ⟨by first | rfl | (simp [errW_none, errW_some] <;> rfl) | (simp [*, errW_none, errW_some] <;> rfl), by repeat (first | (with_reducible first | exact HB.out | apply Sq.i | apply Sq.j | apply Sq.k | refine Sq.h ?_ GE266.out | refine Sq.h ?_ GE267.out) | exact HB.out)⟩
 ·replace c4 := Bool.eq_false_iff.mpr c4
  subst c4
  rw [if_neg (show ¬ (false = true) by decide)] at H
  obtain rfl := Option.some.inj H
  go_enter Try.func12, Try.ntmps12
  go_wp2_with (first | ((with_reducible refine gate_dst (N := 2) rfl ?_); refine box_event ?hg (N := 2) ?hd (cs := #[.slice A0_0 l0_0.length c0_0, .slice A0_1 l0_1.length c0_1, .slice A0_2 l0_2.length c0_2, .int .i64 a0_3]) (t := 30) ?hr ?_; (case hd => rfl); (case hg => rfl); (case hr => first | (go_simp; done) | (go_simp; rfl)); intro gb266 hg w37 hbox hb; have n0_ := Sq.l (Sq.a4 (by repeat (first | (with_reducible first | exact HB.out | apply Sq.i | apply Sq.j | apply Sq.k) | exact HB.out)) hb); have n1_ := Sq.l (hbox); have n2_ := Sq.l ((by rw [hg]; exact (Sq.a5 (by repeat (first | (with_reducible first | exact HB.out | apply Sq.i | apply Sq.j | apply Sq.k) | exact HB.out))) : w.heap.size ≤ gb266)); have n3_ := Sq.l ((by rw [hg]; exact (Sq.a5 (by repeat (first | (with_reducible first | exact HB.out | apply Sq.i | apply Sq.j | apply Sq.k) | exact HB.out))) : w.heap.size ≤ gb266)); clear HB; have HB := n0_; have BK266 := n1_; have GW266 := n2_; have GE266 := n3_; clear n0_ n1_ n2_ n3_; clear hb hbox hg) | ((with_reducible refine gate_dst (N := 3) rfl ?_); refine box_event ?hg (N := 3) ?hd (cs := #[.slice A1_0 l1_0.length c1_0, .slice A1_1 l1_1.length c1_1, .slice A1_2 l1_2.length c1_2, .int .i64 a1_3]) (t := 30) ?hr ?_; (case hd => rfl); (case hg => rfl); (case hr => first | (go_simp; done) | (go_simp; rfl)); intro gb267 hg w38 hbox hb; have n0_ := Sq.l (Sq.m (g := gb266) (o := .cells #[.slice A0_0 l0_0.length c0_0, .slice A0_1 l0_1.length c0_1, .slice A0_2 l0_2.length c0_2, .int .i64 a0_3] 30 (0, 0)) (by (with_reducible repeat (first | refine Sq.d ?_ _ | refine Sq.e ?_ | refine Sq.f ?_ _)); exact BK266.out) hb); have n1_ := Sq.l (Sq.a4 (by repeat (first | (with_reducible first | exact HB.out | apply Sq.i | apply Sq.j | apply Sq.k | refine Sq.h ?_ GE266.out) | exact HB.out)) hb); have n2_ := Sq.l (hbox); have n3_ := Sq.l ((by rw [hg]; exact (Sq.a5 (by repeat (first | (with_reducible first | exact HB.out | apply Sq.i | apply Sq.j | apply Sq.k | refine Sq.h ?_ GE266.out) | exact HB.out))) : w.heap.size ≤ gb267)); have n4_ := Sq.l ((by rw [hg]; exact (Sq.a5 (by repeat (first | (with_reducible first | exact HB.out | apply Sq.i | apply Sq.j | apply Sq.k | refine Sq.h ?_ GE266.out) | exact HB.out))) : w.heap.size ≤ gb267)); have n5_ := Sq.l ((by rw [hg]; exact Nat.ne_of_lt (blk_lt (g := gb266) (o := .cells #[.slice A0_0 l0_0.length c0_0, .slice A0_1 l0_1.length c0_1, .slice A0_2 l0_2.length c0_2, .int .i64 a0_3] 30 (0, 0)) (by (with_reducible repeat (first | refine Sq.d ?_ _ | refine Sq.e ?_ | refine Sq.f ?_ _)); exact BK266.out)) : gb266 ≠ gb267)); have n6_ := Sq.l ((by rw [hg]; exact Nat.ne_of_gt (blk_lt (g := gb266) (o := .cells #[.slice A0_0 l0_0.length c0_0, .slice A0_1 l0_1.length c0_1, .slice A0_2 l0_2.length c0_2, .int .i64 a0_3] 30 (0, 0)) (by (with_reducible repeat (first | refine Sq.d ?_ _ | refine Sq.e ?_ | refine Sq.f ?_ _)); exact BK266.out)) : gb267 ≠ gb266)); clear BK266; clear HB; have BK266 := n0_; have HB := n1_; have BK267 := n2_; have GW267 := n3_; have GE267 := n4_; have NB266_267 := n5_; have NB267_266 := n6_; clear n0_ n1_ n2_ n3_ n4_ n5_ n6_; clear hb hbox hg; have hnb39 := NB266_267.out; have hnc39 := NB267_266.out; have hcz40_0 : w38.cell? ⟨gb266, 0, none⟩ = some (.slice A0_0 l0_0.length c0_0) := (Sq.o BK266.out 0).trans rfl; have hcz40_1 : w38.cell? ⟨gb266, 1, none⟩ = some (.slice A0_1 l0_1.length c0_1) := (Sq.o BK266.out 1).trans rfl; have hcz40_2 : w38.cell? ⟨gb266, 2, none⟩ = some (.slice A0_2 l0_2.length c0_2) := (Sq.o BK266.out 2).trans rfl; have hcz40_3 : w38.cell? ⟨gb266, 3, none⟩ = some (.int .i64 a0_3) := (Sq.o BK266.out 3).trans rfl; have hfz40_0 := Sq.r BK266.out 0; have hfz40_1 := Sq.r BK266.out 1; have hfz40_2 := Sq.r BK266.out 2; have hfz40_3 := Sq.r BK266.out 3; have hcz41_0 : w38.cell? ⟨gb267, 0, none⟩ = some (.slice A1_0 l1_0.length c1_0) := (Sq.o BK267.out 0).trans rfl; have hcz41_1 : w38.cell? ⟨gb267, 1, none⟩ = some (.slice A1_1 l1_1.length c1_1) := (Sq.o BK267.out 1).trans rfl; have hcz41_2 : w38.cell? ⟨gb267, 2, none⟩ = some (.slice A1_2 l1_2.length c1_2) := (Sq.o BK267.out 2).trans rfl; have hcz41_3 : w38.cell? ⟨gb267, 3, none⟩ = some (.int .i64 a1_3) := (Sq.o BK267.out 3).trans rfl; have hfz41_0 := Sq.r BK267.out 0; have hfz41_1 := Sq.r BK267.out 1; have hfz41_2 := Sq.r BK267.out 2; have hfz41_3 := Sq.r BK267.out 3) | ((with_reducible refine gate_callee (f := 53) rfl ?_); refine goesL_ (some 9) rfl rfl Try.func53 (by kernel_rfl) rfl #[.slice A0_0 l0_0.length c0_0, .slice A1_0 l1_0.length c1_0] rfl (by (try simp only [List.map_toArray, List.map_cons, List.map_nil]); first | done | rfl | (simp only [List.length_drop, List.length_take]; rfl)) ?_; (with_reducible refine (laws_eqStringS.calls k _ _ l0_0 _ _ l1_0 false _ ?side1 ?side2 ?side3 ?side4 A3.out).mono ?_); (case side1 => repeat (first | exact (Sq.a1 HR0_0.out HB.out) | (with_reducible refine Sq.s ?_ _) | (with_reducible refine Sq.t ?_ _) | (with_reducible refine Sq.u ?_))); (case side2 => exact HC0_0.out); (case side3 => repeat (first | exact (Sq.a1 HR1_0.out HB.out) | (with_reducible refine Sq.s ?_ _) | (with_reducible refine Sq.t ?_ _) | (with_reducible refine Sq.u ?_))); (case side4 => exact HC1_0.out); rintro e w' ⟨rfl, ⟨nd, rfl⟩⟩; refine ⟨_, rfl, ?_⟩))
  go_ret
  exact ⟨by first | rfl | (simp [errW_none, errW_some] <;> rfl) | (simp [*, errW_none, errW_some] <;> rfl), by repeat (first | (with_reducible first | exact HB.out | apply Sq.i | apply Sq.j | apply Sq.k | refine Sq.h ?_ GE266.out | refine Sq.h ?_ GE267.out) | exact HB.out)⟩

/-! ### laws_FnExactMemHostFault: function 3 -/
def laws_FnExactMemHostFault.f (k : Nat) (l0_0 : List ByteArray) (l0_1 : List ByteArray) (l0_2 : List (S155)) (a0_3 : Int) : Option (Bool) := (laws_szMemHost.f k l0_0 l0_1 l0_2 a0_3 1048576).bind fun t272 => (if t272 < 0 then (some true) else ((laws_toMemHost.f k l0_0 l0_1 l0_2 a0_3).bind fun bt273 => ((spec_MemHostFault.f k bt273.1 bt273.2.1 bt273.2.2.1 bt273.2.2.2).bind fun t283 => ((laws_toMemHost.f k l0_0 l0_1 l0_2 a0_3).bind fun bt284 => ((impl_MemHostFault.f k bt284.1 bt284.2.1 bt284.2.2.1 bt284.2.2.2).bind fun t295 => (if t295 = t283 then ((laws_toMemHost.f k l0_0 l0_1 l0_2 a0_3).bind fun bt296 => ((laws_eqMemHost.f k bt284.1 bt284.2.1 bt284.2.2.1 bt284.2.2.2 bt296.1 bt296.2.1 bt296.2.2.1 bt296.2.2.2).bind fun t306 => (if t306 = true then (some true) else (some false)))) else (some false)))))))
theorem laws_FnExactMemHostFault.mono : ∀ a0 a1 a2 a3 k, LeO (laws_FnExactMemHostFault.f k a0 a1 a2 a3) (laws_FnExactMemHostFault.f (k + 1) a0 a1 a2 a3) := by
 intro a0 a1 a2 a3 k
 unfold laws_FnExactMemHostFault.f
 repeat' first
   | (with_reducible exact impl_MemHostFault.mono _ _ _ _ _)
   | (with_reducible exact laws_eqMemHost.mono _ _ _ _ _ _ _ _ _)
   | (with_reducible exact laws_szMemHost.mono _ _ _ _ _ _)
   | (with_reducible exact laws_toMemHost.mono _ _ _ _ _)
   | (with_reducible exact spec_MemHostFault.mono _ _ _ _ _)
   | (with_reducible exact LeO.refl _)
   | (with_reducible exact LeO.none _)
   | (with_reducible refine LeO.ite ?_ ?_)
   | (with_reducible refine LeO.bind ?_ (fun _ => ?_))
   | exact impl_MemHostFault.mono _ _ _ _ _
   | exact laws_eqMemHost.mono _ _ _ _ _ _ _ _ _
   | exact laws_szMemHost.mono _ _ _ _ _ _
   | exact laws_toMemHost.mono _ _ _ _ _
   | exact spec_MemHostFault.mono _ _ _ _ _
   | exact LeO.none _
   | refine LeO.ite ?_ ?_
   | refine LeO.bind ?_ (fun _ => ?_)
set_option maxHeartbeats 8000000 in
set_option maxRecDepth 100000 in
theorem laws_FnExactMemHostFault.calls (k : Nat) (A0_0 : Option Addr) (c0_0 : Nat) (l0_0 : List ByteArray) (A0_1 : Option Addr) (c0_1 : Nat) (l0_1 : List ByteArray) (A0_2 : Option Addr) (c0_2 : Nat) (l0_2 : List (S155)) (a0_3 : Int) (r : Bool) (w : World) (hr0_0 : Kd.C Kd.string w A0_0 l0_0.length l0_0) (hc0_0 : l0_0.length ≤ c0_0) (hr0_1 : Kd.C Kd.string w A0_1 l0_1.length l0_1) (hc0_1 : l0_1.length ≤ c0_1) (hr0_2 : Kd.C k155 w A0_2 l0_2.length l0_2) (hc0_2 : l0_2.length ≤ c0_2) (h : laws_FnExactMemHostFault.f k l0_0 l0_1 l0_2 a0_3 = some r) :
  Calls Try.prog 3 #[.agg #[.slice A0_0 l0_0.length c0_0, .slice A0_1 l0_1.length c0_1, .slice A0_2 l0_2.length c0_2, .int .i64 a0_3]] w fun e w' => e = .returned (.bool r) ∧ Below w.heap.size w w' := by
 have hu25 := Try.underlying25
 have hu30 := Try.underlying30
 have HR0_0 := Sq.l hr0_0
 have HC0_0 := Sq.l hc0_0
 clear hr0_0 hc0_0
 have HR0_1 := Sq.l hr0_1
 have HC0_1 := Sq.l hc0_1
 clear hr0_1 hc0_1
 have HR0_2 := Sq.l hr0_2
 have HC0_2 := Sq.l hc0_2
 clear hr0_2 hc0_2
 have HB := Sq.l (Below.refl w.heap.size w)
 have H : ((laws_szMemHost.f k l0_0 l0_1 l0_2 a0_3 1048576).bind fun t272 => (if t272 < 0 then (some true) else ((laws_toMemHost.f k l0_0 l0_1 l0_2 a0_3).bind fun bt273 => ((spec_MemHostFault.f k bt273.1 bt273.2.1 bt273.2.2.1 bt273.2.2.2).bind fun t283 => ((laws_toMemHost.f k l0_0 l0_1 l0_2 a0_3).bind fun bt284 => ((impl_MemHostFault.f k bt284.1 bt284.2.1 bt284.2.2.1 bt284.2.2.2).bind fun t295 => (if t295 = t283 then ((laws_toMemHost.f k l0_0 l0_1 l0_2 a0_3).bind fun bt296 => ((laws_eqMemHost.f k bt284.1 bt284.2.1 bt284.2.2.1 bt284.2.2.2 bt296.1 bt296.2.1 bt296.2.2.1 bt296.2.2.2).bind fun t306 => (if t306 = true then (some true) else (some false)))) else (some false)))))))) = some r := h
 clear h
 replace H := Option.bind_eq_some_iff.mp H
 obtain ⟨t272, A20, H⟩ := H
 (try dsimp only at H)
 have A2 := Sq.l A20
 clear A20
 have HC3 := Sq.l H
 clear H
 go_enter Try.func3, Try.ntmps3
 go_upto_if 11 with (first | ((with_reducible refine gate_dst (N := 1) rfl ?_); refine box_event ?hg (N := 1) ?hd (cs := #[.slice A0_0 l0_0.length c0_0, .slice A0_1 l0_1.length c0_1, .slice A0_2 l0_2.length c0_2, .int .i64 a0_3]) (t := 25) ?hr ?_; (case hd => rfl); (case hg => rfl); (case hr => first | (go_simp; done) | (go_simp; rfl)); intro gb271 hg w4 hbox hb; have n0_ := Sq.l (Sq.a4 (by repeat (first | (with_reducible first | exact HB.out | apply Sq.i | apply Sq.j | apply Sq.k) | exact HB.out)) hb); have n1_ := Sq.l (hbox); have n2_ := Sq.l ((by rw [hg]; exact (Sq.a5 (by repeat (first | (with_reducible first | exact HB.out | apply Sq.i | apply Sq.j | apply Sq.k) | exact HB.out))) : w.heap.size ≤ gb271)); have n3_ := Sq.l ((by rw [hg]; exact (Sq.a5 (by repeat (first | (with_reducible first | exact HB.out | apply Sq.i | apply Sq.j | apply Sq.k) | exact HB.out))) : w.heap.size ≤ gb271)); clear HB; have HB := n0_; have BK271 := n1_; have GW271 := n2_; have GE271 := n3_; clear n0_ n1_ n2_ n3_; clear hb hbox hg; have hcz5_0 : w4.cell? ⟨gb271, 0, none⟩ = some (.slice A0_0 l0_0.length c0_0) := (Sq.o BK271.out 0).trans rfl; have hcz5_1 : w4.cell? ⟨gb271, 1, none⟩ = some (.slice A0_1 l0_1.length c0_1) := (Sq.o BK271.out 1).trans rfl; have hcz5_2 : w4.cell? ⟨gb271, 2, none⟩ = some (.slice A0_2 l0_2.length c0_2) := (Sq.o BK271.out 2).trans rfl; have hcz5_3 : w4.cell? ⟨gb271, 3, none⟩ = some (.int .i64 a0_3) := (Sq.o BK271.out 3).trans rfl; have hfz5_0 := Sq.r BK271.out 0; have hfz5_1 := Sq.r BK271.out 1; have hfz5_2 := Sq.r BK271.out 2; have hfz5_3 := Sq.r BK271.out 3) | ((with_reducible refine gate_callee (f := 8) rfl ?_); refine goesL_ (some 9) rfl rfl Try.func8 (by kernel_rfl) rfl #[.agg #[.slice A0_0 l0_0.length c0_0, .slice A0_1 l0_1.length c0_1, .slice A0_2 l0_2.length c0_2, .int .i64 a0_3], .int .i64 1048576] rfl (by (try simp only [List.map_toArray, List.map_cons, List.map_nil]); first | done | rfl | (simp only [List.length_drop, List.length_take]; rfl)) ?_; (with_reducible refine (laws_szMemHost.calls k _ _ l0_0 _ _ l0_1 _ _ l0_2 a0_3 1048576 t272 _ ?side1 ?side2 ?side3 ?side4 ?side5 ?side6 A2.out).mono ?_); (case side1 => repeat (first | exact (Sq.a1 HR0_0.out HB.out) | (with_reducible refine Sq.s ?_ _) | (with_reducible refine Sq.t ?_ _) | (with_reducible refine Sq.u ?_))); (case side2 => exact HC0_0.out); (case side3 => repeat (first | exact (Sq.a1 HR0_1.out HB.out) | (with_reducible refine Sq.s ?_ _) | (with_reducible refine Sq.t ?_ _) | (with_reducible refine Sq.u ?_))); (case side4 => exact HC0_1.out); (case side5 => repeat (first | exact (Sq.a1 HR0_2.out HB.out) | (with_reducible refine Sq.s ?_ _) | (with_reducible refine Sq.t ?_ _) | (with_reducible refine Sq.u ?_))); (case side6 => exact HC0_2.out); rintro e w6 ⟨rfl, hb⟩; refine ⟨_, rfl, ?_⟩; have n0_ := Sq.l (Sq.m (g := gb271) (o := .cells #[.slice A0_0 l0_0.length c0_0, .slice A0_1 l0_1.length c0_1, .slice A0_2 l0_2.length c0_2, .int .i64 a0_3] 25 (0, 0)) (by (with_reducible repeat (first | refine Sq.d ?_ _ | refine Sq.e ?_ | refine Sq.f ?_ _)); exact BK271.out) hb); have n1_ := Sq.l (Sq.a4 (by repeat (first | (with_reducible first | exact HB.out | apply Sq.i | apply Sq.j | apply Sq.k | refine Sq.h ?_ GE271.out) | exact HB.out)) hb); clear BK271; clear HB; have BK271 := n0_; have HB := n1_; clear n0_ n1_; (try clear hb); (try clear hb2); (try clear hk); (try clear hi)))
 (try simp only [Act.put, List.setIfInBounds_toArray, List.set_cons_zero, List.set_cons_succ])
 have H := HC3.out
 clear HC3
 by_cases c7 : t272 < 0
 ·rw [if_pos c7] at H
  have c7b0 : decide (t272 < 0) = true := decide_eq_true c7
  clear c7
  (first | rw [c7b0] | (simp only [i64_w, i32_w]; rw [c7b0]) | skip)
  obtain rfl := Option.some.inj H
  go_wp2
  go_ret
  exact ⟨by first | rfl | (simp [errW_none, errW_some] <;> rfl) | (simp [*, errW_none, errW_some] <;> rfl), by repeat (first | (with_reducible first | exact HB.out | apply Sq.i | apply Sq.j | apply Sq.k | refine Sq.h ?_ GE271.out) | exact HB.out)⟩
 ·rw [if_neg c7] at H
  have c7b0 : decide (t272 < 0) = false := decide_eq_false c7
  clear c7
  (first | rw [c7b0] | (simp only [i64_w, i32_w]; rw [c7b0]) | skip)
  replace H := Option.bind_eq_some_iff.mp H
  obtain ⟨⟨t273, t276, t279, t282⟩, A80, H⟩ := H
  (try dsimp only at H)
  have A8 := Sq.l A80
  clear A80
  replace H := Option.bind_eq_some_iff.mp H
  obtain ⟨t283, A90, H⟩ := H
  (try dsimp only at H)
  have A9 := Sq.l A90
  clear A90
  replace H := Option.bind_eq_some_iff.mp H
  obtain ⟨⟨t284, t287, t290, t293⟩, A100, H⟩ := H
  (try dsimp only at H)
  have A10 := Sq.l A100
  clear A100
  replace H := Option.bind_eq_some_iff.mp H
  obtain ⟨t295, A110, H⟩ := H
  (try dsimp only at H)
  have A11 := Sq.l A110
  clear A110
  have HC12 := Sq.l H
  clear H
  have hcz13_0 : w6.cell? ⟨gb271, 0, none⟩ = some (.slice A0_0 l0_0.length c0_0) := (Sq.o BK271.out 0).trans rfl
  have hcz13_1 : w6.cell? ⟨gb271, 1, none⟩ = some (.slice A0_1 l0_1.length c0_1) := (Sq.o BK271.out 1).trans rfl
  have hcz13_2 : w6.cell? ⟨gb271, 2, none⟩ = some (.slice A0_2 l0_2.length c0_2) := (Sq.o BK271.out 2).trans rfl
  have hcz13_3 : w6.cell? ⟨gb271, 3, none⟩ = some (.int .i64 a0_3) := (Sq.o BK271.out 3).trans rfl
  have hfz13_0 := Sq.r BK271.out 0
  have hfz13_1 := Sq.r BK271.out 1
  have hfz13_2 := Sq.r BK271.out 2
  have hfz13_3 := Sq.r BK271.out 3
  go_upto_if 21 with (first | ((with_reducible refine gate_callee (f := 10) rfl ?_); refine goesL_ (some 13) rfl rfl Try.func10 (by kernel_rfl) rfl #[.agg #[.slice A0_0 l0_0.length c0_0, .slice A0_1 l0_1.length c0_1, .slice A0_2 l0_2.length c0_2, .int .i64 a0_3]] rfl (by (try simp only [List.map_toArray, List.map_cons, List.map_nil]); first | done | rfl | (simp only [List.length_drop, List.length_take]; rfl)) ?_; (with_reducible refine (laws_toMemHost.calls k _ _ l0_0 _ _ l0_1 _ _ l0_2 a0_3 t273 t276 t279 t282 _ ?side1 ?side2 ?side3 ?side4 ?side5 ?side6 A8.out).mono ?_); (case side1 => repeat (first | exact (Sq.a1 HR0_0.out HB.out) | (with_reducible refine Sq.s ?_ _) | (with_reducible refine Sq.t ?_ _) | (with_reducible refine Sq.u ?_))); (case side2 => exact HC0_0.out); (case side3 => repeat (first | exact (Sq.a1 HR0_1.out HB.out) | (with_reducible refine Sq.s ?_ _) | (with_reducible refine Sq.t ?_ _) | (with_reducible refine Sq.u ?_))); (case side4 => exact HC0_1.out); (case side5 => repeat (first | exact (Sq.a1 HR0_2.out HB.out) | (with_reducible refine Sq.s ?_ _) | (with_reducible refine Sq.t ?_ _) | (with_reducible refine Sq.u ?_))); (case side6 => exact HC0_2.out); rintro e w14 ⟨v274, v277, v280, rfl, ho0, ho1, ho2, hb⟩; refine ⟨_, rfl, ?_⟩; have n0_ := Sq.l (Sq.a2 ho0 (Sq.a5 (by repeat (first | (with_reducible first | exact HB.out | apply Sq.i | apply Sq.j | apply Sq.k | refine Sq.h ?_ GE271.out) | exact HB.out)))); have n1_ := Sq.l (Sq.a2 ho1 (Sq.a5 (by repeat (first | (with_reducible first | exact HB.out | apply Sq.i | apply Sq.j | apply Sq.k | refine Sq.h ?_ GE271.out) | exact HB.out)))); have n2_ := Sq.l (Kd.S_lower ho2 (Sq.a5 (by repeat (first | (with_reducible first | exact HB.out | apply Sq.i | apply Sq.j | apply Sq.k | refine Sq.h ?_ GE271.out) | exact HB.out)))); have n3_ := Sq.l (Sq.m (g := gb271) (o := .cells #[.slice A0_0 l0_0.length c0_0, .slice A0_1 l0_1.length c0_1, .slice A0_2 l0_2.length c0_2, .int .i64 a0_3] 25 (0, 0)) (by (with_reducible repeat (first | refine Sq.d ?_ _ | refine Sq.e ?_ | refine Sq.f ?_ _)); exact BK271.out) hb); have n4_ := Sq.l (Sq.a4 (by repeat (first | (with_reducible first | exact HB.out | apply Sq.i | apply Sq.j | apply Sq.k | refine Sq.h ?_ GE271.out) | exact HB.out)) hb); clear BK271; clear HB; have HO275 := n0_; have HO278 := n1_; have HO281 := n2_; have BK271 := n3_; have HB := n4_; clear n0_ n1_ n2_ n3_ n4_; (try clear hb); (try clear hb2); (try clear hk); (try clear hi); (try clear ho0); (try clear ho1); (try clear ho2); obtain ⟨Ao15, co15, eo15⟩ := Kd.R_slice HO275.out; subst eo15; obtain ⟨Ao16, co16, eo16⟩ := Kd.R_slice HO278.out; subst eo16; obtain ⟨Ao17, co17, eo17⟩ := Kd.S_slice HO281.out; subst eo17) | ((with_reducible refine gate_callee (f := 9) rfl ?_); refine goesL_ (some 14) rfl rfl Try.func9 (by kernel_rfl) rfl #[.agg #[.slice Ao15 t273.length co15, .slice Ao16 t276.length co16, .slice Ao17 t279.length co17, .int .i64 t282]] rfl (by (try simp only [List.map_toArray, List.map_cons, List.map_nil]); first | done | rfl | (simp only [List.length_drop, List.length_take]; rfl)) ?_; (with_reducible refine (spec_MemHostFault.calls k _ _ t273 _ _ t276 _ _ t279 t282 t283 _ ?side1 ?side2 ?side3 ?side4 ?side5 ?side6 A9.out).mono ?_); (case side1 => repeat (first | exact (Sq.b4 HO275.out).2.2 | (with_reducible refine Sq.s ?_ _) | (with_reducible refine Sq.t ?_ _) | (with_reducible refine Sq.u ?_))); (case side2 => exact (Sq.b4 HO275.out).2.1); (case side3 => repeat (first | exact (Sq.b4 HO278.out).2.2 | (with_reducible refine Sq.s ?_ _) | (with_reducible refine Sq.t ?_ _) | (with_reducible refine Sq.u ?_))); (case side4 => exact (Sq.b4 HO278.out).2.1); (case side5 => repeat (first | exact (Kd.S_reads' HO281.out).2.2 | (with_reducible refine Sq.s ?_ _) | (with_reducible refine Sq.t ?_ _) | (with_reducible refine Sq.u ?_))); (case side6 => exact (Kd.S_reads' HO281.out).2.1); rintro e w18 ⟨rfl, hb⟩; refine ⟨_, rfl, ?_⟩; have n0_ := Sq.l (Sq.n (by (with_reducible repeat (first | apply Sq.a | apply Sq.b | apply Sq.c)); exact HO275.out) hb); have n1_ := Sq.l (Sq.n (by (with_reducible repeat (first | apply Sq.a | apply Sq.b | apply Sq.c)); exact HO278.out) hb); have n2_ := Sq.l (Kd.S_below (by (with_reducible repeat (first | apply Sq.a7 | apply Sq.a8 | apply Sq.a9)); exact HO281.out) hb); have n3_ := Sq.l (Sq.m (g := gb271) (o := .cells #[.slice A0_0 l0_0.length c0_0, .slice A0_1 l0_1.length c0_1, .slice A0_2 l0_2.length c0_2, .int .i64 a0_3] 25 (0, 0)) (by (with_reducible repeat (first | refine Sq.d ?_ _ | refine Sq.e ?_ | refine Sq.f ?_ _)); exact BK271.out) hb); have n4_ := Sq.l (Sq.a4 (by repeat (first | (with_reducible first | exact HB.out | apply Sq.i | apply Sq.j | apply Sq.k | refine Sq.h ?_ GE271.out) | exact HB.out)) hb); clear HO275; clear HO278; clear HO281; clear BK271; clear HB; have HO275 := n0_; have HO278 := n1_; have HO281 := n2_; have BK271 := n3_; have HB := n4_; clear n0_ n1_ n2_ n3_ n4_; (try clear hb); (try clear hb2); (try clear hk); (try clear hi); have hcz19_0 : w18.cell? ⟨gb271, 0, none⟩ = some (.slice A0_0 l0_0.length c0_0) := (Sq.o BK271.out 0).trans rfl; have hcz19_1 : w18.cell? ⟨gb271, 1, none⟩ = some (.slice A0_1 l0_1.length c0_1) := (Sq.o BK271.out 1).trans rfl; have hcz19_2 : w18.cell? ⟨gb271, 2, none⟩ = some (.slice A0_2 l0_2.length c0_2) := (Sq.o BK271.out 2).trans rfl; have hcz19_3 : w18.cell? ⟨gb271, 3, none⟩ = some (.int .i64 a0_3) := (Sq.o BK271.out 3).trans rfl; have hfz19_0 := Sq.r BK271.out 0; have hfz19_1 := Sq.r BK271.out 1; have hfz19_2 := Sq.r BK271.out 2; have hfz19_3 := Sq.r BK271.out 3) | ((with_reducible refine gate_callee (f := 10) rfl ?_); refine goesL_ (some 16) rfl rfl Try.func10 (by kernel_rfl) rfl #[.agg #[.slice A0_0 l0_0.length c0_0, .slice A0_1 l0_1.length c0_1, .slice A0_2 l0_2.length c0_2, .int .i64 a0_3]] rfl (by (try simp only [List.map_toArray, List.map_cons, List.map_nil]); first | done | rfl | (simp only [List.length_drop, List.length_take]; rfl)) ?_; (with_reducible refine (laws_toMemHost.calls k _ _ l0_0 _ _ l0_1 _ _ l0_2 a0_3 t284 t287 t290 t293 _ ?side1 ?side2 ?side3 ?side4 ?side5 ?side6 A10.out).mono ?_); (case side1 => repeat (first | exact (Sq.a1 HR0_0.out HB.out) | (with_reducible refine Sq.s ?_ _) | (with_reducible refine Sq.t ?_ _) | (with_reducible refine Sq.u ?_))); (case side2 => exact HC0_0.out); (case side3 => repeat (first | exact (Sq.a1 HR0_1.out HB.out) | (with_reducible refine Sq.s ?_ _) | (with_reducible refine Sq.t ?_ _) | (with_reducible refine Sq.u ?_))); (case side4 => exact HC0_1.out); (case side5 => repeat (first | exact (Sq.a1 HR0_2.out HB.out) | (with_reducible refine Sq.s ?_ _) | (with_reducible refine Sq.t ?_ _) | (with_reducible refine Sq.u ?_))); (case side6 => exact HC0_2.out); rintro e w20 ⟨v285, v288, v291, rfl, ho0, ho1, ho2, hb⟩; refine ⟨_, rfl, ?_⟩; have n0_ := Sq.l (Sq.a3 (Sq.b8 (Sq.b8 (Sq.b9 (by (with_reducible repeat (first | apply Sq.a | apply Sq.b | apply Sq.c)); exact HO275.out) hb) (Sq.b7 ho0)) (Sq.b7 ho1)) (fun _ h_ => h_.1)); have n1_ := Sq.l (Sq.a3 (Sq.b8 (Sq.b8 (Sq.b9 (by (with_reducible repeat (first | apply Sq.a | apply Sq.b | apply Sq.c)); exact HO278.out) hb) (Sq.b7 ho0)) (Sq.b7 ho1)) (fun _ h_ => h_.1)); have n2_ := Sq.l (Kd.S_elder' (by (with_reducible repeat (first | apply Sq.a7 | apply Sq.a8 | apply Sq.a9)); exact HO281.out) (Kd.S_base ho2) hb); have n3_ := Sq.l (Sq.a2 (Sq.c1 (Sq.c1 ho0 (Sq.c2 (by (with_reducible repeat (first | apply Sq.a | apply Sq.b | apply Sq.c)); exact HO275.out))) (Sq.c2 (by (with_reducible repeat (first | apply Sq.a | apply Sq.b | apply Sq.c)); exact HO278.out))) (Sq.a5 (by repeat (first | (with_reducible first | exact HB.out | apply Sq.i | apply Sq.j | apply Sq.k | refine Sq.h ?_ GE271.out) | exact HB.out)))); have n4_ := Sq.l (Sq.a2 (Sq.c1 (Sq.c1 ho1 (Sq.c2 (by (with_reducible repeat (first | apply Sq.a | apply Sq.b | apply Sq.c)); exact HO275.out))) (Sq.c2 (by (with_reducible repeat (first | apply Sq.a | apply Sq.b | apply Sq.c)); exact HO278.out))) (Sq.a5 (by repeat (first | (with_reducible first | exact HB.out | apply Sq.i | apply Sq.j | apply Sq.k | refine Sq.h ?_ GE271.out) | exact HB.out)))); have n5_ := Sq.l (Kd.S_lower (Kd.S_new' ho2 (Kd.S_lt (by (with_reducible repeat (first | apply Sq.a7 | apply Sq.a8 | apply Sq.a9)); exact HO281.out))) (Sq.a5 (by repeat (first | (with_reducible first | exact HB.out | apply Sq.i | apply Sq.j | apply Sq.k | refine Sq.h ?_ GE271.out) | exact HB.out)))); have n6_ := Sq.l (Sq.m (g := gb271) (o := .cells #[.slice A0_0 l0_0.length c0_0, .slice A0_1 l0_1.length c0_1, .slice A0_2 l0_2.length c0_2, .int .i64 a0_3] 25 (0, 0)) (by (with_reducible repeat (first | refine Sq.d ?_ _ | refine Sq.e ?_ | refine Sq.f ?_ _)); exact BK271.out) hb); have n7_ := Sq.l (Sq.a4 (by repeat (first | (with_reducible first | exact HB.out | apply Sq.i | apply Sq.j | apply Sq.k | refine Sq.h ?_ GE271.out) | exact HB.out)) hb); clear HO275; clear HO278; clear HO281; clear BK271; clear HB; have HO275 := n0_; have HO278 := n1_; have HO281 := n2_; have HO286 := n3_; have HO289 := n4_; have HO292 := n5_; have BK271 := n6_; have HB := n7_; clear n0_ n1_ n2_ n3_ n4_ n5_ n6_ n7_; (try clear hb); (try clear hb2); (try clear hk); (try clear hi); (try clear ho0); (try clear ho1); (try clear ho2)) | ((with_reducible refine gate_dst (N := 5) rfl ?_); refine box_event ?hg (N := 5) ?hd (cs := #[.slice none 0 0, .slice none 0 0, .slice none 0 0, .int .i64 0]) (t := 30) ?hr ?_; (case hd => rfl); (case hg => rfl); (case hr => first | (go_simp; done) | (go_simp; rfl)); intro gb294 hg w21 hbox hb; have n0_ := Sq.l (Sq.n (by (with_reducible repeat (first | apply Sq.a | apply Sq.b | apply Sq.c)); exact HO275.out) hb); have n1_ := Sq.l (Sq.n (by (with_reducible repeat (first | apply Sq.a | apply Sq.b | apply Sq.c)); exact HO278.out) hb); have n2_ := Sq.l (Kd.S_below (by (with_reducible repeat (first | apply Sq.a7 | apply Sq.a8 | apply Sq.a9)); exact HO281.out) hb); have n3_ := Sq.l (Sq.n (by (with_reducible repeat (first | apply Sq.a | apply Sq.b | apply Sq.c)); exact HO286.out) hb); have n4_ := Sq.l (Sq.n (by (with_reducible repeat (first | apply Sq.a | apply Sq.b | apply Sq.c)); exact HO289.out) hb); have n5_ := Sq.l (Kd.S_below (by (with_reducible repeat (first | apply Sq.a7 | apply Sq.a8 | apply Sq.a9)); exact HO292.out) hb); have n6_ := Sq.l (Sq.m (g := gb271) (o := .cells #[.slice A0_0 l0_0.length c0_0, .slice A0_1 l0_1.length c0_1, .slice A0_2 l0_2.length c0_2, .int .i64 a0_3] 25 (0, 0)) (by (with_reducible repeat (first | refine Sq.d ?_ _ | refine Sq.e ?_ | refine Sq.f ?_ _)); exact BK271.out) hb); have n7_ := Sq.l (Sq.a4 (by repeat (first | (with_reducible first | exact HB.out | apply Sq.i | apply Sq.j | apply Sq.k | refine Sq.h ?_ GE271.out) | exact HB.out)) hb); have n8_ := Sq.l (hbox); have n9_ := Sq.l ((by rw [hg]; exact (Sq.a5 (by repeat (first | (with_reducible first | exact HB.out | apply Sq.i | apply Sq.j | apply Sq.k | refine Sq.h ?_ GE271.out) | exact HB.out))) : w.heap.size ≤ gb294)); have n10_ := Sq.l ((by rw [hg]; exact (Sq.a5 (by repeat (first | (with_reducible first | exact HB.out | apply Sq.i | apply Sq.j | apply Sq.k | refine Sq.h ?_ GE271.out) | exact HB.out))) : w.heap.size ≤ gb294)); have n11_ := Sq.l ((by rw [hg]; exact Nat.ne_of_lt (blk_lt (g := gb271) (o := .cells #[.slice A0_0 l0_0.length c0_0, .slice A0_1 l0_1.length c0_1, .slice A0_2 l0_2.length c0_2, .int .i64 a0_3] 25 (0, 0)) (by (with_reducible repeat (first | refine Sq.d ?_ _ | refine Sq.e ?_ | refine Sq.f ?_ _)); exact BK271.out)) : gb271 ≠ gb294)); have n12_ := Sq.l ((by rw [hg]; exact Nat.ne_of_gt (blk_lt (g := gb271) (o := .cells #[.slice A0_0 l0_0.length c0_0, .slice A0_1 l0_1.length c0_1, .slice A0_2 l0_2.length c0_2, .int .i64 a0_3] 25 (0, 0)) (by (with_reducible repeat (first | refine Sq.d ?_ _ | refine Sq.e ?_ | refine Sq.f ?_ _)); exact BK271.out)) : gb294 ≠ gb271)); clear HO275; clear HO278; clear HO281; clear HO286; clear HO289; clear HO292; clear BK271; clear HB; have HO275 := n0_; have HO278 := n1_; have HO281 := n2_; have HO286 := n3_; have HO289 := n4_; have HO292 := n5_; have BK271 := n6_; have HB := n7_; have BK294 := n8_; have GW294 := n9_; have GE294 := n10_; have NB271_294 := n11_; have NB294_271 := n12_; clear n0_ n1_ n2_ n3_ n4_ n5_ n6_ n7_ n8_ n9_ n10_ n11_ n12_; clear hb hbox hg; obtain ⟨Ao22, co22, eo22⟩ := Kd.R_slice HO286.out; subst eo22; have hnb23 := NB294_271.out; have hnc23 := NB271_294.out; have hcz24_0 : w21.cell? ⟨gb294, 0, none⟩ = some (.slice none 0 0) := (Sq.o BK294.out 0).trans rfl; have hcz24_1 : w21.cell? ⟨gb294, 1, none⟩ = some (.slice none 0 0) := (Sq.o BK294.out 1).trans rfl; have hcz24_2 : w21.cell? ⟨gb294, 2, none⟩ = some (.slice none 0 0) := (Sq.o BK294.out 2).trans rfl; have hcz24_3 : w21.cell? ⟨gb294, 3, none⟩ = some (.int .i64 0) := (Sq.o BK294.out 3).trans rfl; have hfz24_0 := Sq.r BK294.out 0; have hfz24_1 := Sq.r BK294.out 1; have hfz24_2 := Sq.r BK294.out 2; have hfz24_3 := Sq.r BK294.out 3; obtain ⟨Ao25, co25, eo25⟩ := Kd.R_slice HO289.out; subst eo25; obtain ⟨Ao26, co26, eo26⟩ := Kd.S_slice HO292.out; subst eo26) | ((with_reducible refine gate_store (t := 30) (p := 5) rfl ?_); refine store_event (t := 30) (p := 5) (v := ?vo_w27) (w1 := ((((w21.setCell ⟨gb294, 0, none⟩ (.slice Ao22 t284.length co22)).setCell ⟨gb294, 1, none⟩ (.slice Ao25 t287.length co25)).setCell ⟨gb294, 2, none⟩ (.slice Ao26 t290.length co26)).setCell ⟨gb294, 3, none⟩ (.int .i64 t293))) ?hg ?ho ?hn ?hr ?_; (case ho => rfl); (case hg => rfl); (case hn => rfl); (case hr => first | (go_simp; done) | (go_simp; rfl)); intro w27 hw; have n0_ : Aside0 (Kd.R Kd.string 9 w27 w.heap.size (fun k_ => some k_ ≠ (.slice Ao16 t276.length co16 : Value).ownBlock ∧ some k_ ≠ (.slice Ao22 t284.length co22 : Value).ownBlock ∧ some k_ ≠ (.slice Ao25 t287.length co25 : Value).ownBlock) (.slice Ao15 t273.length co15) t273) := ⟨(by rw [hw]; exact (by (with_reducible repeat (first | apply Sq.a | apply Sq.b | apply Sq.c)); exact Sq.a3 (Sq.R4 (Sq.b5 HO275.out BK294.out (by decide)) (fun _ hk => hk.2)) (fun _ hk => ⟨hk.1.1.1, ⟨hk.1.1.2, hk.1.2⟩⟩)))⟩; have n1_ : Aside0 (Kd.R Kd.string 9 w27 w.heap.size (fun k_ => some k_ ≠ (.slice Ao15 t273.length co15 : Value).ownBlock ∧ some k_ ≠ (.slice Ao22 t284.length co22 : Value).ownBlock ∧ some k_ ≠ (.slice Ao25 t287.length co25 : Value).ownBlock) (.slice Ao16 t276.length co16) t276) := ⟨(by rw [hw]; exact (by (with_reducible repeat (first | apply Sq.a | apply Sq.b | apply Sq.c)); exact Sq.a3 (Sq.R4 (Sq.b5 HO278.out BK294.out (by decide)) (fun _ hk => hk.2)) (fun _ hk => ⟨hk.1.1.1, ⟨hk.1.1.2, hk.1.2⟩⟩)))⟩; have n2_ : Aside0 (Kd.S k90 90 w27 w.heap.size (fun k_ => some k_ ≠ (.slice Ao26 t290.length co26 : Value).ownBlock) (.slice Ao17 t279.length co17) t279) := ⟨(by rw [hw]; exact (by (with_reducible repeat (first | apply Sq.a7 | apply Sq.a8 | apply Sq.a9)); exact Kd.S_mono (Sq.S4 (Kd.S_types HO281.out BK294.out (by decide)) (fun _ hk => hk.2)) (fun _ hk => hk.1.2)))⟩; have n3_ : Aside0 (Kd.R Kd.string 9 w27 w.heap.size (fun k_ => some k_ ≠ (.slice Ao15 t273.length co15 : Value).ownBlock ∧ some k_ ≠ (.slice Ao16 t276.length co16 : Value).ownBlock ∧ some k_ ≠ (.slice Ao25 t287.length co25 : Value).ownBlock) (.slice Ao22 t284.length co22) t284) := ⟨(by rw [hw]; exact (by (with_reducible repeat (first | apply Sq.a | apply Sq.b | apply Sq.c)); exact Sq.a3 (Sq.R4 (Sq.b5 HO286.out BK294.out (by decide)) (fun _ hk => hk.2)) (fun _ hk => ⟨hk.1.1.2, ⟨hk.1.2, hk.1.1.1⟩⟩)))⟩; have n4_ : Aside0 (Kd.R Kd.string 9 w27 w.heap.size (fun k_ => some k_ ≠ (.slice Ao15 t273.length co15 : Value).ownBlock ∧ some k_ ≠ (.slice Ao16 t276.length co16 : Value).ownBlock ∧ some k_ ≠ (.slice Ao22 t284.length co22 : Value).ownBlock) (.slice Ao25 t287.length co25) t287) := ⟨(by rw [hw]; exact (by (with_reducible repeat (first | apply Sq.a | apply Sq.b | apply Sq.c)); exact Sq.a3 (Sq.R4 (Sq.b5 HO289.out BK294.out (by decide)) (fun _ hk => hk.2)) (fun _ hk => ⟨hk.1.1.2, ⟨hk.1.2, hk.1.1.1⟩⟩)))⟩; have n5_ : Aside0 (Kd.S k90 90 w27 w.heap.size (fun k_ => some k_ ≠ (.slice Ao17 t279.length co17 : Value).ownBlock) (.slice Ao26 t290.length co26) t290) := ⟨(by rw [hw]; exact (by (with_reducible repeat (first | apply Sq.a7 | apply Sq.a8 | apply Sq.a9)); exact Kd.S_mono (Sq.S4 (Kd.S_types HO292.out BK294.out (by decide)) (fun _ hk => hk.2)) (fun _ hk => hk.1.2)))⟩; have n6_ : Aside0 (w27.heap[gb271]? = some (.cells #[.slice A0_0 l0_0.length c0_0, .slice A0_1 l0_1.length c0_1, .slice A0_2 l0_2.length c0_2, .int .i64 a0_3] 25 (0, 0))) := ⟨(by rw [hw]; exact (by (with_reducible repeat (first | refine Sq.d ?_ _ | refine Sq.e ?_ | refine Sq.f ?_ _)); refine Sq.B4 ?_ NB271_294.out; (with_reducible repeat (first | refine Sq.d ?_ _ | refine Sq.e ?_ | refine Sq.f ?_ _)); exact BK271.out))⟩; have n7_ : Aside0 (w27.heap[gb294]? = some (.cells #[.slice Ao22 t284.length co22, .slice Ao25 t287.length co25, .slice Ao26 t290.length co26, .int .i64 t293] 30 (0, 0))) := ⟨(by rw [hw]; exact (by (with_reducible repeat (first | refine Sq.d ?_ _ | refine Sq.e ?_ | refine Sq.f ?_ _)); refine Sq.v (cs := #[.slice Ao22 t284.length co22, .slice Ao25 t287.length co25, .slice Ao26 t290.length co26, .int .i64 0]) ?_ 3 _ rfl; (with_reducible repeat (first | refine Sq.d ?_ _ | refine Sq.e ?_ | refine Sq.f ?_ _)); refine Sq.v (cs := #[.slice Ao22 t284.length co22, .slice Ao25 t287.length co25, .slice none 0 0, .int .i64 0]) ?_ 2 _ rfl; (with_reducible repeat (first | refine Sq.d ?_ _ | refine Sq.e ?_ | refine Sq.f ?_ _)); refine Sq.v (cs := #[.slice Ao22 t284.length co22, .slice none 0 0, .slice none 0 0, .int .i64 0]) ?_ 1 _ rfl; (with_reducible repeat (first | refine Sq.d ?_ _ | refine Sq.e ?_ | refine Sq.f ?_ _)); refine Sq.v (cs := #[.slice none 0 0, .slice none 0 0, .slice none 0 0, .int .i64 0]) ?_ 0 _ rfl; (with_reducible repeat (first | refine Sq.d ?_ _ | refine Sq.e ?_ | refine Sq.f ?_ _)); exact BK294.out))⟩; have n8_ : Aside0 (Below w.heap.size w w27) := ⟨(by rw [hw]; exact (by repeat (first | (with_reducible first | exact HB.out | apply Sq.i | apply Sq.j | apply Sq.k | refine Sq.h ?_ GE271.out | refine Sq.h ?_ GE294.out) | exact HB.out)))⟩; clear hw; clear HO275; clear HO278; clear HO281; clear HO286; clear HO289; clear HO292; clear BK271; clear BK294; clear HB; have HO275 := n0_; have HO278 := n1_; have HO281 := n2_; have HO286 := n3_; have HO289 := n4_; have HO292 := n5_; have BK271 := n6_; have BK294 := n7_; have HB := n8_; clear n0_ n1_ n2_ n3_ n4_ n5_ n6_ n7_ n8_; have hcz28_0 : w27.cell? ⟨gb294, 0, none⟩ = some (.slice Ao22 t284.length co22) := (Sq.o BK294.out 0).trans rfl; have hcz28_1 : w27.cell? ⟨gb294, 1, none⟩ = some (.slice Ao25 t287.length co25) := (Sq.o BK294.out 1).trans rfl; have hcz28_2 : w27.cell? ⟨gb294, 2, none⟩ = some (.slice Ao26 t290.length co26) := (Sq.o BK294.out 2).trans rfl; have hcz28_3 : w27.cell? ⟨gb294, 3, none⟩ = some (.int .i64 t293) := (Sq.o BK294.out 3).trans rfl; have hfz28_0 := Sq.r BK294.out 0; have hfz28_1 := Sq.r BK294.out 1; have hfz28_2 := Sq.r BK294.out 2; have hfz28_3 := Sq.r BK294.out 3) | ((with_reducible refine gate_callee (f := 11) rfl ?_); refine goesL_ (some 18) rfl rfl Try.func11 (by kernel_rfl) rfl #[.agg #[.slice Ao22 t284.length co22, .slice Ao25 t287.length co25, .slice Ao26 t290.length co26, .int .i64 t293]] rfl (by (try simp only [List.map_toArray, List.map_cons, List.map_nil]); first | done | rfl | (simp only [List.length_drop, List.length_take]; rfl)) ?_; (with_reducible refine (impl_MemHostFault.calls k (fun k_ => some k_ = (.slice Ao22 t284.length co22 : Value).ownBlock) _ _ t284 (fun k_ => some k_ = (.slice Ao25 t287.length co25 : Value).ownBlock) _ _ t287 _ _ t290 t293 t295 _ ?side1 ?side2 ?side3 ?side4 A11.out).mono ?_); (case side1 => exact Kd.R_V (Kd.R_tight rfl (Sq.b5 (Sq.b5 (Sq.b6 (Sq.b6 (HO286.out) (Kd.S_typed HO281.out) (by decide)) (Kd.S_typed HO292.out) (by decide)) BK271.out (by decide)) BK294.out (by decide)))); (case side2 => exact Kd.R_V (Kd.R_tight rfl (Sq.b5 (Sq.b5 (Sq.b6 (Sq.b6 (HO289.out) (Kd.S_typed HO281.out) (by decide)) (Kd.S_typed HO292.out) (by decide)) BK271.out (by decide)) BK294.out (by decide)))); (case side3 => repeat (first | exact (Kd.S_reads' HO292.out).2.2 | (with_reducible refine Sq.s ?_ _) | (with_reducible refine Sq.t ?_ _) | (with_reducible refine Sq.u ?_))); (case side4 => exact (Kd.S_reads' HO292.out).2.1); rintro e w29 ⟨rfl, hb⟩; refine ⟨_, rfl, ?_⟩; have n0_ := Sq.l (Sq.n (by (with_reducible repeat (first | apply Sq.a | apply Sq.b | apply Sq.c)); exact HO275.out) hb); have n1_ := Sq.l (Sq.n (by (with_reducible repeat (first | apply Sq.a | apply Sq.b | apply Sq.c)); exact HO278.out) hb); have n2_ := Sq.l (Kd.S_below (by (with_reducible repeat (first | apply Sq.a7 | apply Sq.a8 | apply Sq.a9)); exact HO281.out) hb); have n3_ := Sq.l (Sq.n (by (with_reducible repeat (first | apply Sq.a | apply Sq.b | apply Sq.c)); exact HO286.out) hb); have n4_ := Sq.l (Sq.n (by (with_reducible repeat (first | apply Sq.a | apply Sq.b | apply Sq.c)); exact HO289.out) hb); have n5_ := Sq.l (Kd.S_below (by (with_reducible repeat (first | apply Sq.a7 | apply Sq.a8 | apply Sq.a9)); exact HO292.out) hb); have n6_ := Sq.l (Sq.m (g := gb271) (o := .cells #[.slice A0_0 l0_0.length c0_0, .slice A0_1 l0_1.length c0_1, .slice A0_2 l0_2.length c0_2, .int .i64 a0_3] 25 (0, 0)) (by (with_reducible repeat (first | refine Sq.d ?_ _ | refine Sq.e ?_ | refine Sq.f ?_ _)); exact BK271.out) hb); have n7_ := Sq.l (Sq.m (g := gb294) (o := .cells #[.slice Ao22 t284.length co22, .slice Ao25 t287.length co25, .slice Ao26 t290.length co26, .int .i64 t293] 30 (0, 0)) (by (with_reducible repeat (first | refine Sq.d ?_ _ | refine Sq.e ?_ | refine Sq.f ?_ _)); exact BK294.out) hb); have n8_ := Sq.l (Sq.a4 (by repeat (first | (with_reducible first | exact HB.out | apply Sq.i | apply Sq.j | apply Sq.k | refine Sq.h ?_ GE271.out | refine Sq.h ?_ GE294.out) | exact HB.out)) hb); clear HO275; clear HO278; clear HO281; clear HO286; clear HO289; clear HO292; clear BK271; clear BK294; clear HB; have HO275 := n0_; have HO278 := n1_; have HO281 := n2_; have HO286 := n3_; have HO289 := n4_; have HO292 := n5_; have BK271 := n6_; have BK294 := n7_; have HB := n8_; clear n0_ n1_ n2_ n3_ n4_ n5_ n6_ n7_ n8_; (try clear hb); (try clear hb2); (try clear hk); (try clear hi)))
  (try simp only [Act.put, List.setIfInBounds_toArray, List.set_cons_zero, List.set_cons_succ])
  have H := HC12.out
  clear HC12
  by_cases c30 : t295 = t283
  ·rw [if_pos c30] at H
   have c30b0 : (t295 == t283) = true := beq_iff_eq.mpr c30
   have c30b1 : (t295 != t283) = false := bne_eq_false_iff_eq.mpr c30
   clear c30
   (first | rw [c30b0] | (simp only [i64_w, i32_w]; rw [c30b0]) | skip)
   replace H := Option.bind_eq_some_iff.mp H
   obtain ⟨⟨t296, t299, t302, t305⟩, A310, H⟩ := H
   (try dsimp only at H)
   have A31 := Sq.l A310
   clear A310
   replace H := Option.bind_eq_some_iff.mp H
   obtain ⟨t306, A320, H⟩ := H
   (try dsimp only at H)
   have A32 := Sq.l A320
   clear A320
   have HC33 := Sq.l H
   clear H
   try go_wp2
   have n0_ := Sq.l (Sq.c HO275.out)
   have n1_ := Sq.l (Sq.c HO278.out)
   have n2_ := Sq.l (Sq.a9 HO281.out)
   have n3_ := Sq.l (Sq.c HO286.out)
   have n4_ := Sq.l (Sq.c HO289.out)
   have n5_ := Sq.l (Sq.a9 HO292.out)
   have n6_ := Sq.l (Sq.e BK271.out)
   have n7_ := Sq.l (Sq.e BK294.out)
   have n8_ := Sq.l (Sq.k HB.out)
   clear HO275 HO278 HO281 HO286 HO289 HO292 BK271 BK294 HB; have HO275 := n0_; have HO278 := n1_; have HO281 := n2_; have HO286 := n3_; have HO289 := n4_; have HO292 := n5_; have BK271 := n6_; have BK294 := n7_; have HB := n8_; clear n0_ n1_ n2_ n3_ n4_ n5_ n6_ n7_ n8_
   refine start_ (n := 5) (S := fun w' => w'.cell? ⟨gb294, 0, none⟩ = some (.slice Ao22 t284.length co22) ∧ w'.cell? ⟨gb294, 1, none⟩ = some (.slice Ao25 t287.length co25) ∧ w'.cell? ⟨gb294, 2, none⟩ = some (.slice Ao26 t290.length co26) ∧ w'.cell? ⟨gb294, 3, none⟩ = some (.int .i64 t293) ∧ w'.cell? ⟨gb271, 0, none⟩ = some (.slice A0_0 l0_0.length c0_0) ∧ w'.cell? ⟨gb271, 1, none⟩ = some (.slice A0_1 l0_1.length c0_1) ∧ w'.cell? ⟨gb271, 2, none⟩ = some (.slice A0_2 l0_2.length c0_2) ∧ w'.cell? ⟨gb271, 3, none⟩ = some (.int .i64 a0_3)) (ds := []) #[false, false, false, false, false] (by kernel_rfl) rfl rfl ⟨(Sq.o BK294.out 0).trans rfl, (Sq.o BK294.out 1).trans rfl, (Sq.o BK294.out 2).trans rfl, (Sq.o BK294.out 3).trans rfl, (Sq.o BK271.out 0).trans rfl, (Sq.o BK271.out 1).trans rfl, (Sq.o BK271.out 2).trans rfl, (Sq.o BK271.out 3).trans rfl⟩ (fun hHeld => ?_)
   generalize w29.drew = w34 at HO275 HO278 HO281 HO286 HO289 HO292 BK271 BK294 HB hHeld ⊢
   refine take_ (i := 0) (N := some 22) (v := ?_) (a' := ?_) #[true, false, false, false, false] rfl rfl (by kernel_rfl) (fun _ _ _ h => h) (Or.inl ⟨by rfl, ?_⟩) hHeld ?_ ?_
   rotate_left
   ·rintro w' ⟨s0, s1, s2, s3, s4, s5, s6, s7⟩
    go_simp
    with_reducible rfl
   rotate_left
   ·simp only [Act.put, List.setIfInBounds_toArray, List.set_cons_zero, List.set_cons_succ, i64_w, i32_w]
    rfl
   refine take_ (i := 1) (N := some 23) (v := ?_) (a' := ?_) #[true, true, false, false, false] rfl rfl (by kernel_rfl) (fun _ _ _ h => h) (Or.inl ⟨by rfl, ?_⟩) hHeld ?_ ?_
   rotate_left
   ·rintro w' ⟨s0, s1, s2, s3, s4, s5, s6, s7⟩
    go_simp
    with_reducible rfl
   rotate_left
   ·simp only [Act.put, List.setIfInBounds_toArray, List.set_cons_zero, List.set_cons_succ, i64_w, i32_w]
    rfl
   refine one_ (i := 2) (N := some 24) #[true, true, true, false, false] rfl rfl (by kernel_rfl) (by decide) (fun K hK => ?_)
   refine goes_ Try.func10 (by kernel_rfl) rfl #[.agg #[.slice A0_0 l0_0.length c0_0, .slice A0_1 l0_1.length c0_1, .slice A0_2 l0_2.length c0_2, .int .i64 a0_3]] (by rfl) rfl rfl (by (try simp only [List.map_toArray, List.map_cons, List.map_nil]); first | done | rfl | (simp only [List.length_drop, List.length_take]; rfl)) ?_
   with_reducible refine (laws_toMemHost.calls k _ _ l0_0 _ _ l0_1 _ _ l0_2 a0_3 t296 t299 t302 t305 _ ?side1 ?side2 ?side3 ?side4 ?side5 ?side6 A31.out).mono ?_
   (case side1 => repeat (first | exact (Sq.a1 HR0_0.out HB.out) | (with_reducible refine Sq.s ?_ _) | (with_reducible refine Sq.t ?_ _) | (with_reducible refine Sq.u ?_)))
   (case side2 => exact HC0_0.out)
   (case side3 => repeat (first | exact (Sq.a1 HR0_1.out HB.out) | (with_reducible refine Sq.s ?_ _) | (with_reducible refine Sq.t ?_ _) | (with_reducible refine Sq.u ?_)))
   (case side4 => exact HC0_1.out)
   (case side5 => repeat (first | exact (Sq.a1 HR0_2.out HB.out) | (with_reducible refine Sq.s ?_ _) | (with_reducible refine Sq.t ?_ _) | (with_reducible refine Sq.u ?_)))
   (case side6 => exact HC0_2.out)
   rintro e w35 ⟨v297, v300, v303, rfl, ho0, ho1, ho2, hb⟩
   refine ⟨_, rfl, ?_⟩
   have n0_ := Sq.l (Sq.a3 (Sq.b8 (Sq.b8 (Sq.b9 (by (with_reducible repeat (first | apply Sq.a | apply Sq.b | apply Sq.c)); exact HO275.out) hb) (Sq.b7 ho0)) (Sq.b7 ho1)) (fun _ h_ => h_.1))
   have n1_ := Sq.l (Sq.a3 (Sq.b8 (Sq.b8 (Sq.b9 (by (with_reducible repeat (first | apply Sq.a | apply Sq.b | apply Sq.c)); exact HO278.out) hb) (Sq.b7 ho0)) (Sq.b7 ho1)) (fun _ h_ => h_.1))
   have n2_ := Sq.l (Kd.S_elder' (by (with_reducible repeat (first | apply Sq.a7 | apply Sq.a8 | apply Sq.a9)); exact HO281.out) (Kd.S_base ho2) hb)
   have n3_ := Sq.l (Sq.a3 (Sq.b8 (Sq.b8 (Sq.b9 (by (with_reducible repeat (first | apply Sq.a | apply Sq.b | apply Sq.c)); exact HO286.out) hb) (Sq.b7 ho0)) (Sq.b7 ho1)) (fun _ h_ => h_.1))
   have n4_ := Sq.l (Sq.a3 (Sq.b8 (Sq.b8 (Sq.b9 (by (with_reducible repeat (first | apply Sq.a | apply Sq.b | apply Sq.c)); exact HO289.out) hb) (Sq.b7 ho0)) (Sq.b7 ho1)) (fun _ h_ => h_.1))
   have n5_ := Sq.l (Kd.S_elder' (by (with_reducible repeat (first | apply Sq.a7 | apply Sq.a8 | apply Sq.a9)); exact HO292.out) (Kd.S_base ho2) hb)
   have n6_ := Sq.l (Sq.a2 (Sq.c1 (Sq.c1 (Sq.c1 (Sq.c1 ho0 (Sq.c2 (by (with_reducible repeat (first | apply Sq.a | apply Sq.b | apply Sq.c)); exact HO275.out))) (Sq.c2 (by (with_reducible repeat (first | apply Sq.a | apply Sq.b | apply Sq.c)); exact HO278.out))) (Sq.c2 (by (with_reducible repeat (first | apply Sq.a | apply Sq.b | apply Sq.c)); exact HO286.out))) (Sq.c2 (by (with_reducible repeat (first | apply Sq.a | apply Sq.b | apply Sq.c)); exact HO289.out))) (Sq.a5 (by repeat (first | (with_reducible first | exact HB.out | apply Sq.i | apply Sq.j | apply Sq.k | refine Sq.h ?_ GE271.out | refine Sq.h ?_ GE294.out) | exact HB.out))))
   have n7_ := Sq.l (Sq.a2 (Sq.c1 (Sq.c1 (Sq.c1 (Sq.c1 ho1 (Sq.c2 (by (with_reducible repeat (first | apply Sq.a | apply Sq.b | apply Sq.c)); exact HO275.out))) (Sq.c2 (by (with_reducible repeat (first | apply Sq.a | apply Sq.b | apply Sq.c)); exact HO278.out))) (Sq.c2 (by (with_reducible repeat (first | apply Sq.a | apply Sq.b | apply Sq.c)); exact HO286.out))) (Sq.c2 (by (with_reducible repeat (first | apply Sq.a | apply Sq.b | apply Sq.c)); exact HO289.out))) (Sq.a5 (by repeat (first | (with_reducible first | exact HB.out | apply Sq.i | apply Sq.j | apply Sq.k | refine Sq.h ?_ GE271.out | refine Sq.h ?_ GE294.out) | exact HB.out))))
   have n8_ := Sq.l (Kd.S_lower (Kd.S_new' (Kd.S_new' ho2 (Kd.S_lt (by (with_reducible repeat (first | apply Sq.a7 | apply Sq.a8 | apply Sq.a9)); exact HO281.out))) (Kd.S_lt (by (with_reducible repeat (first | apply Sq.a7 | apply Sq.a8 | apply Sq.a9)); exact HO292.out))) (Sq.a5 (by repeat (first | (with_reducible first | exact HB.out | apply Sq.i | apply Sq.j | apply Sq.k | refine Sq.h ?_ GE271.out | refine Sq.h ?_ GE294.out) | exact HB.out))))
   have n9_ := Sq.l (Sq.m (g := gb271) (o := .cells #[.slice A0_0 l0_0.length c0_0, .slice A0_1 l0_1.length c0_1, .slice A0_2 l0_2.length c0_2, .int .i64 a0_3] 25 (0, 0)) (by (with_reducible repeat (first | refine Sq.d ?_ _ | refine Sq.e ?_ | refine Sq.f ?_ _)); exact BK271.out) hb)
   have n10_ := Sq.l (Sq.m (g := gb294) (o := .cells #[.slice Ao22 t284.length co22, .slice Ao25 t287.length co25, .slice Ao26 t290.length co26, .int .i64 t293] 30 (0, 0)) (by (with_reducible repeat (first | refine Sq.d ?_ _ | refine Sq.e ?_ | refine Sq.f ?_ _)); exact BK294.out) hb)
   have n11_ := Sq.l (Sq.a4 (by repeat (first | (with_reducible first | exact HB.out | apply Sq.i | apply Sq.j | apply Sq.k | refine Sq.h ?_ GE271.out | refine Sq.h ?_ GE294.out) | exact HB.out)) hb)
   clear HO275 HO278 HO281 HO286 HO289 HO292 BK271 BK294 HB; have HO275 := n0_; have HO278 := n1_; have HO281 := n2_; have HO286 := n3_; have HO289 := n4_; have HO292 := n5_; have HO298 := n6_; have HO301 := n7_; have HO304 := n8_; have BK271 := n9_; have BK294 := n10_; have HB := n11_; clear n0_ n1_ n2_ n3_ n4_ n5_ n6_ n7_ n8_ n9_ n10_ n11_; (try clear hb); (try clear hb2); (try clear hk); (try clear hi); (try clear ho0); (try clear ho1); (try clear ho2)
   obtain ⟨Ao36, co36, eo36⟩ := Kd.R_slice HO298.out
   (first | subst eo36 | (injection eo36 with f1_ f2_ f3_; have f4_ := f1_.symm; have f5_ := f3_.symm; clear f1_ f2_ f3_; subst f4_; subst f5_))
   obtain ⟨Ao37, co37, eo37⟩ := Kd.R_slice HO301.out
   (first | subst eo37 | (injection eo37 with f1_ f2_ f3_; have f4_ := f1_.symm; have f5_ := f3_.symm; clear f1_ f2_ f3_; subst f4_; subst f5_))
   obtain ⟨Ao38, co38, eo38⟩ := Kd.S_slice HO304.out
   (first | subst eo38 | (injection eo38 with f1_ f2_ f3_; have f4_ := f1_.symm; have f5_ := f3_.symm; clear f1_ f2_ f3_; subst f4_; subst f5_))
   refine hK.out _ _ ⟨(Sq.o BK294.out 0).trans rfl, (Sq.o BK294.out 1).trans rfl, (Sq.o BK294.out 2).trans rfl, (Sq.o BK294.out 3).trans rfl, (Sq.o BK271.out 0).trans rfl, (Sq.o BK271.out 1).trans rfl, (Sq.o BK271.out 2).trans rfl, (Sq.o BK271.out 3).trans rfl⟩ (fun hHeld => ?_)
   clear hK K
   refine norm_ (a' := ?_) ?_ ?_
   rotate_left
   ·show Act.put _ (some 24) _ = _
    simp only [Act.put, List.setIfInBounds_toArray, List.set_cons_zero, List.set_cons_succ, i64_w, i32_w]
    rfl
   refine one_ (i := 3) (N := some 25) #[true, true, true, true, false] rfl rfl (by kernel_rfl) (by decide) (fun K hK => ?_)
   refine goes_ Try.func12 (by kernel_rfl) rfl #[.agg #[.slice Ao22 t284.length co22, .slice Ao25 t287.length co25, .slice Ao26 t290.length co26, .int .i64 t293], .agg #[.slice Ao36 t296.length co36, .slice Ao37 t299.length co37, .slice Ao38 t302.length co38, .int .i64 t305]] (by rfl) rfl rfl (by (try simp only [List.map_toArray, List.map_cons, List.map_nil]); first | done | rfl | (simp only [List.length_drop, List.length_take]; rfl)) ?_
   with_reducible refine (laws_eqMemHost.calls k _ _ t284 _ _ t287 _ _ t290 t293 _ _ t296 _ _ t299 _ _ t302 t305 t306 _ ?side1 ?side2 ?side3 ?side4 ?side5 ?side6 ?side7 ?side8 ?side9 ?side10 ?side11 ?side12 A32.out).mono ?_
   (case side1 => repeat (first | exact (Sq.b4 HO286.out).2.2 | (with_reducible refine Sq.s ?_ _) | (with_reducible refine Sq.t ?_ _) | (with_reducible refine Sq.u ?_)))
   (case side2 => exact (Sq.b4 HO286.out).2.1)
   (case side3 => repeat (first | exact (Sq.b4 HO289.out).2.2 | (with_reducible refine Sq.s ?_ _) | (with_reducible refine Sq.t ?_ _) | (with_reducible refine Sq.u ?_)))
   (case side4 => exact (Sq.b4 HO289.out).2.1)
   (case side5 => repeat (first | exact (Kd.S_reads' HO292.out).2.2 | (with_reducible refine Sq.s ?_ _) | (with_reducible refine Sq.t ?_ _) | (with_reducible refine Sq.u ?_)))
   (case side6 => exact (Kd.S_reads' HO292.out).2.1)
   (case side7 => repeat (first | exact (Sq.b4 HO298.out).2.2 | (with_reducible refine Sq.s ?_ _) | (with_reducible refine Sq.t ?_ _) | (with_reducible refine Sq.u ?_)))
   (case side8 => exact (Sq.b4 HO298.out).2.1)
   (case side9 => repeat (first | exact (Sq.b4 HO301.out).2.2 | (with_reducible refine Sq.s ?_ _) | (with_reducible refine Sq.t ?_ _) | (with_reducible refine Sq.u ?_)))
   (case side10 => exact (Sq.b4 HO301.out).2.1)
   (case side11 => repeat (first | exact (Kd.S_reads' HO304.out).2.2 | (with_reducible refine Sq.s ?_ _) | (with_reducible refine Sq.t ?_ _) | (with_reducible refine Sq.u ?_)))
   (case side12 => exact (Kd.S_reads' HO304.out).2.1)
   rintro e w39 ⟨rfl, hb⟩
   refine ⟨_, rfl, ?_⟩
   have n0_ := Sq.l (Sq.n (by (with_reducible repeat (first | apply Sq.a | apply Sq.b | apply Sq.c)); exact HO275.out) hb)
   have n1_ := Sq.l (Sq.n (by (with_reducible repeat (first | apply Sq.a | apply Sq.b | apply Sq.c)); exact HO278.out) hb)
   have n2_ := Sq.l (Kd.S_below (by (with_reducible repeat (first | apply Sq.a7 | apply Sq.a8 | apply Sq.a9)); exact HO281.out) hb)
   have n3_ := Sq.l (Sq.n (by (with_reducible repeat (first | apply Sq.a | apply Sq.b | apply Sq.c)); exact HO286.out) hb)
   have n4_ := Sq.l (Sq.n (by (with_reducible repeat (first | apply Sq.a | apply Sq.b | apply Sq.c)); exact HO289.out) hb)
   have n5_ := Sq.l (Kd.S_below (by (with_reducible repeat (first | apply Sq.a7 | apply Sq.a8 | apply Sq.a9)); exact HO292.out) hb)
   have n6_ := Sq.l (Sq.n (by (with_reducible repeat (first | apply Sq.a | apply Sq.b | apply Sq.c)); exact HO298.out) hb)
   have n7_ := Sq.l (Sq.n (by (with_reducible repeat (first | apply Sq.a | apply Sq.b | apply Sq.c)); exact HO301.out) hb)
   have n8_ := Sq.l (Kd.S_below (by (with_reducible repeat (first | apply Sq.a7 | apply Sq.a8 | apply Sq.a9)); exact HO304.out) hb)
   have n9_ := Sq.l (Sq.m (g := gb271) (o := .cells #[.slice A0_0 l0_0.length c0_0, .slice A0_1 l0_1.length c0_1, .slice A0_2 l0_2.length c0_2, .int .i64 a0_3] 25 (0, 0)) (by (with_reducible repeat (first | refine Sq.d ?_ _ | refine Sq.e ?_ | refine Sq.f ?_ _)); exact BK271.out) hb)
   have n10_ := Sq.l (Sq.m (g := gb294) (o := .cells #[.slice Ao22 t284.length co22, .slice Ao25 t287.length co25, .slice Ao26 t290.length co26, .int .i64 t293] 30 (0, 0)) (by (with_reducible repeat (first | refine Sq.d ?_ _ | refine Sq.e ?_ | refine Sq.f ?_ _)); exact BK294.out) hb)
   have n11_ := Sq.l (Sq.a4 (by repeat (first | (with_reducible first | exact HB.out | apply Sq.i | apply Sq.j | apply Sq.k | refine Sq.h ?_ GE271.out | refine Sq.h ?_ GE294.out) | exact HB.out)) hb)
   clear HO275 HO278 HO281 HO286 HO289 HO292 HO298 HO301 HO304 BK271 BK294 HB; have HO275 := n0_; have HO278 := n1_; have HO281 := n2_; have HO286 := n3_; have HO289 := n4_; have HO292 := n5_; have HO298 := n6_; have HO301 := n7_; have HO304 := n8_; have BK271 := n9_; have BK294 := n10_; have HB := n11_; clear n0_ n1_ n2_ n3_ n4_ n5_ n6_ n7_ n8_ n9_ n10_ n11_; (try clear hb); (try clear hb2); (try clear hk); (try clear hi)
   refine hK.out _ _ ⟨(Sq.o BK294.out 0).trans rfl, (Sq.o BK294.out 1).trans rfl, (Sq.o BK294.out 2).trans rfl, (Sq.o BK294.out 3).trans rfl, (Sq.o BK271.out 0).trans rfl, (Sq.o BK271.out 1).trans rfl, (Sq.o BK271.out 2).trans rfl, (Sq.o BK271.out 3).trans rfl⟩ (fun hHeld => ?_)
   clear hK K
   refine norm_ (a' := ?_) ?_ ?_
   rotate_left
   ·show Act.put _ (some 25) _ = _
    simp only [Act.put, List.setIfInBounds_toArray, List.set_cons_zero, List.set_cons_succ, i64_w, i32_w]
    rfl
   refine pure_ (i := 4) (N := some 26) (v := ?_) (a' := ?_) #[true, true, true, true, true] rfl rfl (by kernel_rfl) (fun _ _ _ h => h) (Or.inl ⟨by rfl, ?_⟩) ?_ ?_
   rotate_left
   ·intro w'
    go_simp
    with_reducible rfl
   rotate_left
   ·simp only [Act.put, List.setIfInBounds_toArray, List.set_cons_zero, List.set_cons_succ, i64_w, i32_w]
    rfl
   refine done_ (by kernel_rfl) ?_
   go_upto_if 26 with (fail)
   have H := HC33.out
   clear HC33
   by_cases c40 : t306 = true
   ·subst c40
    rw [if_pos rfl] at H
    obtain rfl := Option.some.inj H
    go_wp2
    go_ret
    exact ⟨by first | rfl | (simp [errW_none, errW_some] <;> rfl) | (simp [*, errW_none, errW_some] <;> rfl), by repeat (first | (with_reducible first | exact HB.out | apply Sq.i | apply Sq.j | apply Sq.k | refine Sq.h ?_ GE271.out | refine Sq.h ?_ GE294.out) | exact HB.out)⟩
   ·replace c40 := Bool.eq_false_iff.mpr c40
    subst c40
    rw [if_neg (show ¬ (false = true) by decide)] at H
    obtain rfl := Option.some.inj H
    go_wp2
    go_ret
    exact ⟨by first | rfl | (simp [errW_none, errW_some] <;> rfl) | (simp [*, errW_none, errW_some] <;> rfl), by repeat (first | (with_reducible first | exact HB.out | apply Sq.i | apply Sq.j | apply Sq.k | refine Sq.h ?_ GE271.out | refine Sq.h ?_ GE294.out) | exact HB.out)⟩
  ·rw [if_neg c30] at H
   have c30b0 : (t295 == t283) = false := beq_eq_false_iff_ne.mpr c30
   have c30b1 : (t295 != t283) = true := bne_iff_ne.mpr c30
   (first | rw [c30b0] | (simp only [i64_w, i32_w]; rw [c30b0]) | skip)
   obtain rfl := Option.some.inj H
   go_wp2
   go_ret
   exact ⟨by first | rfl | (simp [errW_none, errW_some] <;> rfl) | (simp [*, errW_none, errW_some] <;> rfl), by repeat (first | (with_reducible first | exact HB.out | apply Sq.i | apply Sq.j | apply Sq.k | refine Sq.h ?_ GE271.out | refine Sq.h ?_ GE294.out) | exact HB.out)⟩

end Go.Proofs.Ytmajbehafgajmaa.QFnExactMemHostFault
