-- Written for this claim by this session's own driver (wip/xprint.py).
import Derived.Test.YtmajbehafgajmaaQFnExactChainFaultx0
import Derived.Test.YtmajbehafgajmaaQFnExactChainFaultx1
import Derived.Test.YtmajbehafgajmaaQFnExactChainFaultx4
import Derived.Test.YtmajbehafgajmaaQFnExactChainFaultx5
import Derived.Test.YtmajbehafgajmaaQFnExactChainFaultx7
import Derived.Test.YtmajbehafgajmaaQFnExactChainFaultx8
namespace Go.Proofs.Ytmajbehafgajmaa.QFnExactChainFault
open Go.RowKit Go.Proofs.YtmajbehafgajmaaW.PrintWords Go.Proofs.YtmajbehafgajmaaW.PrintLast Go.Proofs.YtmajbehafgajmaaW.PrintMore
attribute [local go_sem] max2_int min2_int max_two min_two max_three min_three max_four min_four   -- for this text's walks alone
set_option linter.unusedVariables false
set_option linter.unusedSimpArgs false

/-! ### laws_eqImageS: function 41 -/
def laws_eqImageS.l0 : Nat → List (S148) → List (S148) → Int → Option (Bool)
 | 0, _, _, _ => none
 | k + 1, x0, x1, x5 => if x5 < (x0.length : Int) then (if 0 ≤ x5 then (if x5 < (x1.length : Int) then ((laws_eqImage.f k ((rd_T148 x0 x5).f0) ((rd_T148 x0 x5).f1) ((rd_T148 x0 x5).f2) ((rd_T148 x0 x5).f3) ((rd_T148 x0 x5).f4) ((rd_T148 x1 x5).f0) ((rd_T148 x1 x5).f1) ((rd_T148 x1 x5).f2) ((rd_T148 x1 x5).f3) ((rd_T148 x1 x5).f4)).bind fun t214 => (if t214 = true then (laws_eqImageS.l0 k x0 x1 (wrap64 (x5 + 1))) else (some false))) else (none)) else (none)) else (some true)
def laws_eqImageS.f (k : Nat) (l0 : List (S148)) (l1 : List (S148)) : Option (Bool) := if (l0.length : Int) = (l1.length : Int) then (laws_eqImageS.l0 k l0 l1 0) else (some false)
theorem laws_eqImageS.mono_l : ∀ k, (∀ y0 y1 y2, LeO (laws_eqImageS.l0 k y0 y1 y2) (laws_eqImageS.l0 (k + 1) y0 y1 y2))
 | 0 => fun _ _ _ r h => by simp [laws_eqImageS.l0] at h
 | k + 1 => by
  have ih0 := laws_eqImageS.mono_l k
  ·intro y0 y1 y2
   unfold laws_eqImageS.l0
   repeat' first
   | (with_reducible exact ih0 _ _ _)
   | (with_reducible exact laws_eqImage.mono _ _ _ _ _ _ _ _ _ _ _)
   | (with_reducible exact LeO.refl _)
   | (with_reducible exact LeO.none _)
   | (with_reducible refine LeO.ite ?_ ?_)
   | (with_reducible refine LeO.bind ?_ (fun _ => ?_))
   | exact ih0 _ _ _
   | exact laws_eqImage.mono _ _ _ _ _ _ _ _ _ _ _
   | exact LeO.none _
   | refine LeO.ite ?_ ?_
   | refine LeO.bind ?_ (fun _ => ?_)
theorem laws_eqImageS.mono : ∀ a0 a1 k, LeO (laws_eqImageS.f k a0 a1) (laws_eqImageS.f (k + 1) a0 a1) := by
 intro a0 a1 k
 have ih0 := laws_eqImageS.mono_l k
 unfold laws_eqImageS.f
 repeat' first
   | (with_reducible exact ih0 _ _ _)
   | (with_reducible exact laws_eqImage.mono _ _ _ _ _ _ _ _ _ _ _)
   | (with_reducible exact LeO.refl _)
   | (with_reducible exact LeO.none _)
   | (with_reducible refine LeO.ite ?_ ?_)
   | (with_reducible refine LeO.bind ?_ (fun _ => ?_))
   | exact ih0 _ _ _
   | exact laws_eqImage.mono _ _ _ _ _ _ _ _ _ _ _
   | exact LeO.none _
   | refine LeO.ite ?_ ?_
   | refine LeO.bind ?_ (fun _ => ?_)
def laws_eqImageS.T6 : Bool × List (List Nat × List Nat) := (true, [([], []), ([], []), ([0, 1], [0, 1]), ([2], [2]), ([], []), ([], []), ([4, 5], [4, 5]), ([6], [6]), ([3, 7], [3, 7]), ([8], [8])])
def laws_eqImageS.B6 : List Nat := [0, 0, 3, 7, 0, 0, 48, 112, 255, 511]
theorem laws_eqImageS.tab6 : rtab .any (opsOf Try.f41 6) = laws_eqImageS.T6 := by kernel_rfl
theorem laws_eqImageS.bits6 : waitsOk laws_eqImageS.T6.2 laws_eqImageS.B6 = true := by kernel_rfl
set_option maxHeartbeats 8000000 in
set_option maxRecDepth 100000 in
theorem laws_eqImageS.calls (k : Nat) (A0 : Option Addr) (c0 : Nat) (l0 : List (S148)) (A1 : Option Addr) (c1 : Nat) (l1 : List (S148)) (r : Bool) (w : World) (hr0 : Kd.C k148 w A0 l0.length l0) (hc0 : l0.length ≤ c0) (hr1 : Kd.C k148 w A1 l1.length l1) (hc1 : l1.length ≤ c1) (h : laws_eqImageS.f k l0 l1 = some r) :
  Calls Try.prog 41 #[.slice A0 l0.length c0, .slice A1 l1.length c1] w fun e w' => e = .returned (.bool r) ∧ Below w.heap.size w w' := by
 have hu148 := Try.underlying148
 have HR0 := Sq.l hr0
 have HC0 := Sq.l hc0
 clear hr0 hc0
 have HR1 := Sq.l hr1
 have HC1 := Sq.l hc1
 clear hr1 hc1
 have HB := Sq.l (Below.refl w.heap.size w)
 have H : (if (l0.length : Int) = (l1.length : Int) then (laws_eqImageS.l0 k l0 l1 0) else (some false)) = some r := h
 clear h
 by_cases c3 : (l0.length : Int) = (l1.length : Int)
 ·rw [if_pos c3] at H
  have c3b0 : ((l0.length : Int) == (l1.length : Int)) = true := beq_iff_eq.mpr c3
  have c3b1 : ((l0.length : Int) != (l1.length : Int)) = false := bne_eq_false_iff_eq.mpr c3
  have c3b2 : (l0.length == l1.length) = true := by first | simpa using c3 | (simp at c3 ⊢; omega)
  clear c3
  have H' := Sq.l H
  clear H
  go_enter Try.func41, Try.ntmps41
  go_wp2
  go_loopg [5] k (fun kq v5 w' => ∃ (x5_1 : Int), v5 = .int .i64 x5_1 ∧ Aside0 (laws_eqImageS.l0 kq l0 l1 x5_1 = some r) ∧ Aside0 (kq ≤ k) ∧ Aside0 (Below w.heap.size w w'))
  case atStart => exact ⟨(0), (by first | rfl | (simp; done) | (simp [*]; done)), H', ⟨Nat.le_refl _⟩, ⟨by repeat (first | (with_reducible first | exact HB.out | apply Sq.i | apply Sq.j | apply Sq.k) | exact HB.out)⟩⟩
  case round =>
   clear H'
   try clear c1; try clear p2; try clear c3; try clear c3b0; try clear c3b1; try clear c3b2
   obtain ⟨x5_1, rfl, HA, HK1, HB⟩ := hrel
   cases gk with
   | zero => exact absurd HA.out (by simp [laws_eqImageS.l0])
   | succ k1 =>
    have H := HA.out
    clear HA
    simp only [laws_eqImageS.l0] at H
    by_cases c4 : x5_1 < (l0.length : Int)
    ·rw [if_pos c4] at H
     have c4b0 : decide (x5_1 < (l0.length : Int)) = true := decide_eq_true c4
     clear c4
     by_cases c5 : 0 ≤ x5_1
     ·rw [if_pos c5] at H
      have c5b0 : decide (0 ≤ x5_1) = true := decide_eq_true c5
      clear c5
      by_cases c6 : x5_1 < (l1.length : Int)
      ·rw [if_pos c6] at H
       have c6b0 : decide (x5_1 < (l1.length : Int)) = true := decide_eq_true c6
       clear c6
       replace H := Option.bind_eq_some_iff.mp H
       obtain ⟨t214, A70, H⟩ := H
       (try dsimp only at H)
       have A7 := Sq.l A70
       clear A70
       by_cases c8 : t214 = true
       ·subst c8
        rw [if_pos rfl] at H
        have H' := Sq.l H
        clear H
        try go_wp2
        have n0_ := Sq.l (Sq.k HB.out)
        clear HB; have HB := n0_; clear n0_
        have p212 : 0 ≤ (x5_1 : Int) := of_decide_eq_true (by first | (with_reducible assumption) | assumption)
        have q212 : x5_1 < (l0.length : Int) := of_decide_eq_true (by first | (with_reducible assumption) | assumption)
        obtain ⟨ad212, A212_2, c212_2, A212_3, c212_3, A212_4, c212_4, e212, hx212_0, hx212_1, hx212_2, hx212_3, hx212_4, hl212_2, hi212_2, hl212_3, hi212_3, hl212_4, hi212_4⟩ := at_T148 HR0.out x5_1 p212 q212
        have hw212_4 := hx212_4
        have hw212_3 := hx212_3
        have hw212_2 := hx212_2
        have hw212_1 := hx212_1
        have hw212_0 := hx212_0
        cases e212
        replace hx212_0 := (HB.out.cell (World.block_lt_of_cell? w _ hx212_0)).trans hx212_0
        replace hx212_1 := (HB.out.cell (World.block_lt_of_cell? w _ hx212_1)).trans hx212_1
        replace hx212_2 := (HB.out.cell (World.block_lt_of_cell? w _ hx212_2)).trans hx212_2
        replace hx212_3 := (HB.out.cell (World.block_lt_of_cell? w _ hx212_3)).trans hx212_3
        replace hx212_4 := (HB.out.cell (World.block_lt_of_cell? w _ hx212_4)).trans hx212_4
        have HR212_2 := Sq.l hi212_2
        have HC212_2 := Sq.l hl212_2
        clear hi212_2 hl212_2
        have HR212_3 := Sq.l hi212_3
        have HC212_3 := Sq.l hl212_3
        clear hi212_3 hl212_3
        have HR212_4 := Sq.l hi212_4
        have HC212_4 := Sq.l hl212_4
        clear hi212_4 hl212_4; replace p212 := eq_true p212; replace q212 := eq_true q212
        have p213 : 0 ≤ (x5_1 : Int) := of_decide_eq_true (by first | (with_reducible assumption) | assumption)
        have q213 : x5_1 < (l1.length : Int) := of_decide_eq_true (by first | (with_reducible assumption) | assumption)
        obtain ⟨ad213, A213_2, c213_2, A213_3, c213_3, A213_4, c213_4, e213, hx213_0, hx213_1, hx213_2, hx213_3, hx213_4, hl213_2, hi213_2, hl213_3, hi213_3, hl213_4, hi213_4⟩ := at_T148 HR1.out x5_1 p213 q213
        have hw213_4 := hx213_4
        have hw213_3 := hx213_3
        have hw213_2 := hx213_2
        have hw213_1 := hx213_1
        have hw213_0 := hx213_0
        cases e213
        replace hx213_0 := (HB.out.cell (World.block_lt_of_cell? w _ hx213_0)).trans hx213_0
        replace hx213_1 := (HB.out.cell (World.block_lt_of_cell? w _ hx213_1)).trans hx213_1
        replace hx213_2 := (HB.out.cell (World.block_lt_of_cell? w _ hx213_2)).trans hx213_2
        replace hx213_3 := (HB.out.cell (World.block_lt_of_cell? w _ hx213_3)).trans hx213_3
        replace hx213_4 := (HB.out.cell (World.block_lt_of_cell? w _ hx213_4)).trans hx213_4
        have HR213_2 := Sq.l hi213_2
        have HC213_2 := Sq.l hl213_2
        clear hi213_2 hl213_2
        have HR213_3 := Sq.l hi213_3
        have HC213_3 := Sq.l hl213_3
        clear hi213_3 hl213_3
        have HR213_4 := Sq.l hi213_4
        have HC213_4 := Sq.l hl213_4
        clear hi213_4 hl213_4; replace p213 := eq_true p213; replace q213 := eq_true q213
        refine start_ (n := 10) (S := fun w' => w'.cell? (ad212.add ((x5_1).toNat * 5)) = some (.string ((rd_T148 l0 x5_1).f0)) ∧ w'.cell? ⟨(ad212.add ((x5_1).toNat * 5)).block, (ad212.add ((x5_1).toNat * 5)).off + 1, none⟩ = some (.string ((rd_T148 l0 x5_1).f1)) ∧ w'.cell? ⟨(ad212.add ((x5_1).toNat * 5)).block, (ad212.add ((x5_1).toNat * 5)).off + 2, none⟩ = some (.slice A212_2 ((rd_T148 l0 x5_1).f2).length c212_2) ∧ w'.cell? ⟨(ad212.add ((x5_1).toNat * 5)).block, (ad212.add ((x5_1).toNat * 5)).off + 3, none⟩ = some (.slice A212_3 ((rd_T148 l0 x5_1).f3).length c212_3) ∧ w'.cell? ⟨(ad212.add ((x5_1).toNat * 5)).block, (ad212.add ((x5_1).toNat * 5)).off + 4, none⟩ = some (.slice A212_4 ((rd_T148 l0 x5_1).f4).length c212_4) ∧ w'.cell? (ad213.add ((x5_1).toNat * 5)) = some (.string ((rd_T148 l1 x5_1).f0)) ∧ w'.cell? ⟨(ad213.add ((x5_1).toNat * 5)).block, (ad213.add ((x5_1).toNat * 5)).off + 1, none⟩ = some (.string ((rd_T148 l1 x5_1).f1)) ∧ w'.cell? ⟨(ad213.add ((x5_1).toNat * 5)).block, (ad213.add ((x5_1).toNat * 5)).off + 2, none⟩ = some (.slice A213_2 ((rd_T148 l1 x5_1).f2).length c213_2) ∧ w'.cell? ⟨(ad213.add ((x5_1).toNat * 5)).block, (ad213.add ((x5_1).toNat * 5)).off + 3, none⟩ = some (.slice A213_3 ((rd_T148 l1 x5_1).f3).length c213_3) ∧ w'.cell? ⟨(ad213.add ((x5_1).toNat * 5)).block, (ad213.add ((x5_1).toNat * 5)).off + 4, none⟩ = some (.slice A213_4 ((rd_T148 l1 x5_1).f4).length c213_4)) (ds := []) #[false, false, false, false, false, false, false, false, false, false] (by kernel_rfl) rfl rfl ⟨((HB.out.cell (World.block_lt_of_cell? w _ hw212_0)).trans hw212_0), ((HB.out.cell (World.block_lt_of_cell? w _ hw212_1)).trans hw212_1), ((HB.out.cell (World.block_lt_of_cell? w _ hw212_2)).trans hw212_2), ((HB.out.cell (World.block_lt_of_cell? w _ hw212_3)).trans hw212_3), ((HB.out.cell (World.block_lt_of_cell? w _ hw212_4)).trans hw212_4), ((HB.out.cell (World.block_lt_of_cell? w _ hw213_0)).trans hw213_0), ((HB.out.cell (World.block_lt_of_cell? w _ hw213_1)).trans hw213_1), ((HB.out.cell (World.block_lt_of_cell? w _ hw213_2)).trans hw213_2), ((HB.out.cell (World.block_lt_of_cell? w _ hw213_3)).trans hw213_3), ((HB.out.cell (World.block_lt_of_cell? w _ hw213_4)).trans hw213_4)⟩ (fun hHeld => ?_); refine with_tabW laws_eqImageS.tab6 laws_eqImageS.bits6 (fun HT_ HW_ => ?_)
        generalize wr.drew = w9 at HB HR212_2 HR212_3 HR212_4 HR213_2 HR213_3 HR213_4 hx212_0 hx212_1 hx212_2 hx212_3 hx212_4 hx213_0 hx213_1 hx213_2 hx213_3 hx213_4 hHeld ⊢
        refine pure_ (i := 0) (N := some 17) (v := ?_) (a' := ?_) #[true, false, false, false, false, false, false, false, false, false] rfl rfl (any_of HT_.out (by kernel_rfl)) (fun _ _ _ h => h) (Or.inl ⟨by rfl, ?_⟩) ?_ ?_
        rotate_left
        ·intro w'
         go_simp
         with_reducible rfl
        rotate_left
        ·simp only [Act.put, List.setIfInBounds_toArray, List.set_cons_zero, List.set_cons_succ, i64_w, i32_w]
         rfl
        refine pure_ (i := 1) (N := some 18) (v := ?_) (a' := ?_) #[true, true, false, false, false, false, false, false, false, false] rfl rfl (any_of HT_.out (by kernel_rfl)) (fun _ _ _ h => h) (Or.inl ⟨by rfl, ?_⟩) ?_ ?_
        rotate_left
        ·intro w'
         go_simp
         with_reducible rfl
        rotate_left
        ·simp only [Act.put, List.setIfInBounds_toArray, List.set_cons_zero, List.set_cons_succ, i64_w, i32_w]
         rfl
        refine pure_ (i := 2) (N := some 19) (v := ?_) (a' := ?_) #[true, true, true, false, false, false, false, false, false, false] rfl rfl (any_of HT_.out (by kernel_rfl)) (fun _ _ _ h => h) (Or.inl ⟨by rfl, ?_⟩) ?_ ?_
        rotate_left
        ·intro w'
         go_simp
         with_reducible rfl
        rotate_left
        ·simp only [Act.put, List.setIfInBounds_toArray, List.set_cons_zero, List.set_cons_succ, i64_w, i32_w]
         rfl
        refine pure_ (i := 4) (N := some 21) (v := ?_) (a' := ?_) #[true, true, true, false, true, false, false, false, false, false] rfl rfl (any_of HT_.out (by kernel_rfl)) (fun _ _ _ h => h) (Or.inl ⟨by rfl, ?_⟩) ?_ ?_
        rotate_left
        ·intro w'
         go_simp
         with_reducible rfl
        rotate_left
        ·simp only [Act.put, List.setIfInBounds_toArray, List.set_cons_zero, List.set_cons_succ, i64_w, i32_w]
         rfl
        refine pure_ (i := 5) (N := some 22) (v := ?_) (a' := ?_) #[true, true, true, false, true, true, false, false, false, false] rfl rfl (any_of HT_.out (by kernel_rfl)) (fun _ _ _ h => h) (Or.inl ⟨by rfl, ?_⟩) ?_ ?_
        rotate_left
        ·intro w'
         go_simp
         with_reducible rfl
        rotate_left
        ·simp only [Act.put, List.setIfInBounds_toArray, List.set_cons_zero, List.set_cons_succ, i64_w, i32_w]
         rfl
        refine pure_ (i := 6) (N := some 23) (v := ?_) (a' := ?_) #[true, true, true, false, true, true, true, false, false, false] rfl rfl (any_of HT_.out (by kernel_rfl)) (fun _ _ _ h => h) (Or.inl ⟨by rfl, ?_⟩) ?_ ?_
        rotate_left
        ·intro w'
         go_simp
         with_reducible rfl
        rotate_left
        ·simp only [Act.put, List.setIfInBounds_toArray, List.set_cons_zero, List.set_cons_succ, i64_w, i32_w]
         rfl
        refine take_ (i := 3) (N := some 20) (v := ?_) (a' := ?_) #[true, true, true, true, true, true, true, false, false, false] rfl rfl (take_ofW HT_.out HW_.out (by kernel_rfl)) (fun _ _ _ h => h) (Or.inl ⟨by rfl, ?_⟩) hHeld ?_ ?_
        rotate_left
        ·rintro w' ⟨s0, s1, s2, s3, s4, s5, s6, s7, s8, s9⟩
         go_simp
         with_reducible rfl
        rotate_left
        ·simp only [Act.put, List.setIfInBounds_toArray, List.set_cons_zero, List.set_cons_succ, i64_w, i32_w]
         rfl
        refine take_ (i := 7) (N := some 24) (v := ?_) (a' := ?_) #[true, true, true, true, true, true, true, true, false, false] rfl rfl (take_ofW HT_.out HW_.out (by kernel_rfl)) (fun _ _ _ h => h) (Or.inl ⟨by rfl, ?_⟩) hHeld ?_ ?_
        rotate_left
        ·rintro w' ⟨s0, s1, s2, s3, s4, s5, s6, s7, s8, s9⟩
         go_simp
         with_reducible rfl
        rotate_left
        ·simp only [Act.put, List.setIfInBounds_toArray, List.set_cons_zero, List.set_cons_succ, i64_w, i32_w]
         rfl
        refine one_ (i := 8) (N := some 25) #[true, true, true, true, true, true, true, true, true, false] rfl rfl (one_of HT_.out (by kernel_rfl)) (by decide) (fun K hK => ?_)
        refine goes_ Try.func97 (by kernel_rfl) rfl #[.agg #[.string ((rd_T148 l0 x5_1).f0), .string ((rd_T148 l0 x5_1).f1), .slice A212_2 ((rd_T148 l0 x5_1).f2).length c212_2, .slice A212_3 ((rd_T148 l0 x5_1).f3).length c212_3, .slice A212_4 ((rd_T148 l0 x5_1).f4).length c212_4], .agg #[.string ((rd_T148 l1 x5_1).f0), .string ((rd_T148 l1 x5_1).f1), .slice A213_2 ((rd_T148 l1 x5_1).f2).length c213_2, .slice A213_3 ((rd_T148 l1 x5_1).f3).length c213_3, .slice A213_4 ((rd_T148 l1 x5_1).f4).length c213_4]] (by rfl) rfl rfl (by (try simp only [List.map_toArray, List.map_cons, List.map_nil]); first | done | rfl | (simp only [List.length_drop, List.length_take]; rfl)) ?_
        with_reducible refine (laws_eqImage.calls k1 ((rd_T148 l0 x5_1).f0) ((rd_T148 l0 x5_1).f1) _ _ ((rd_T148 l0 x5_1).f2) _ _ ((rd_T148 l0 x5_1).f3) _ _ ((rd_T148 l0 x5_1).f4) ((rd_T148 l1 x5_1).f0) ((rd_T148 l1 x5_1).f1) _ _ ((rd_T148 l1 x5_1).f2) _ _ ((rd_T148 l1 x5_1).f3) _ _ ((rd_T148 l1 x5_1).f4) true _ ?side1 ?side2 ?side3 ?side4 ?side5 ?side6 ?side7 ?side8 ?side9 ?side10 ?side11 ?side12 A7.out).mono ?_
        (case side1 => repeat (first | exact (Sq.a1 HR212_2.out HB.out) | (with_reducible refine Sq.s ?_ _) | (with_reducible refine Sq.t ?_ _) | (with_reducible refine Sq.u ?_)))
        (case side2 => exact HC212_2.out)
        (case side3 => repeat (first | exact (Sq.a1 HR212_3.out HB.out) | (with_reducible refine Sq.s ?_ _) | (with_reducible refine Sq.t ?_ _) | (with_reducible refine Sq.u ?_)))
        (case side4 => exact HC212_3.out)
        (case side5 => repeat (first | exact (Sq.a1 HR212_4.out HB.out) | (with_reducible refine Sq.s ?_ _) | (with_reducible refine Sq.t ?_ _) | (with_reducible refine Sq.u ?_)))
        (case side6 => exact HC212_4.out)
        (case side7 => repeat (first | exact (Sq.a1 HR213_2.out HB.out) | (with_reducible refine Sq.s ?_ _) | (with_reducible refine Sq.t ?_ _) | (with_reducible refine Sq.u ?_)))
        (case side8 => exact HC213_2.out)
        (case side9 => repeat (first | exact (Sq.a1 HR213_3.out HB.out) | (with_reducible refine Sq.s ?_ _) | (with_reducible refine Sq.t ?_ _) | (with_reducible refine Sq.u ?_)))
        (case side10 => exact HC213_3.out)
        (case side11 => repeat (first | exact (Sq.a1 HR213_4.out HB.out) | (with_reducible refine Sq.s ?_ _) | (with_reducible refine Sq.t ?_ _) | (with_reducible refine Sq.u ?_)))
        (case side12 => exact HC213_4.out)
        rintro e w10 ⟨rfl, hb⟩
        refine ⟨_, rfl, ?_⟩
        have n0_ := Sq.l (Sq.a4 (by repeat (first | (with_reducible first | exact HB.out | apply Sq.i | apply Sq.j | apply Sq.k) | exact HB.out)) hb)
        clear HB; have HB := n0_; clear n0_; (try clear hb); (try clear hb2); (try clear hk); (try clear hi)
        refine hK.out _ _ ⟨((HB.out.cell (World.block_lt_of_cell? w _ hw212_0)).trans hw212_0), ((HB.out.cell (World.block_lt_of_cell? w _ hw212_1)).trans hw212_1), ((HB.out.cell (World.block_lt_of_cell? w _ hw212_2)).trans hw212_2), ((HB.out.cell (World.block_lt_of_cell? w _ hw212_3)).trans hw212_3), ((HB.out.cell (World.block_lt_of_cell? w _ hw212_4)).trans hw212_4), ((HB.out.cell (World.block_lt_of_cell? w _ hw213_0)).trans hw213_0), ((HB.out.cell (World.block_lt_of_cell? w _ hw213_1)).trans hw213_1), ((HB.out.cell (World.block_lt_of_cell? w _ hw213_2)).trans hw213_2), ((HB.out.cell (World.block_lt_of_cell? w _ hw213_3)).trans hw213_3), ((HB.out.cell (World.block_lt_of_cell? w _ hw213_4)).trans hw213_4)⟩ (fun hHeld => ?_)
        clear hK K
        refine norm_ (a' := ?_) ?_ ?_
        rotate_left
        ·show Act.put _ (some 25) _ = _
         simp only [Act.put, List.setIfInBounds_toArray, List.set_cons_zero, List.set_cons_succ, i64_w, i32_w]
         rfl
        refine pure_ (i := 9) (N := some 26) (v := ?_) (a' := ?_) #[true, true, true, true, true, true, true, true, true, true] rfl rfl (any_of HT_.out (by kernel_rfl)) (fun _ _ _ h => h) (Or.inl ⟨by rfl, ?_⟩) ?_ ?_
        rotate_left
        ·intro w'
         go_simp
         with_reducible rfl
        rotate_left
        ·simp only [Act.put, List.setIfInBounds_toArray, List.set_cons_zero, List.set_cons_succ, i64_w, i32_w]
         rfl
        refine done_ (done_of HT_.out (by kernel_rfl)) ?_
        try go_wp2
        go_roundg k1
        case measure => have := HK1.out; omega
        case rel => exact ⟨(wrap64 (x5_1 + 1)), (by first | rfl | (simp; done) | (simp [*]; done)), H', ⟨by have := HK1.out; omega⟩, ⟨by repeat (first | (with_reducible first | exact HB.out | apply Sq.i | apply Sq.j | apply Sq.k) | exact HB.out)⟩⟩
       ·replace c8 := Bool.eq_false_iff.mpr c8
        subst c8
        rw [if_neg (show ¬ (false = true) by decide)] at H
        obtain rfl := Option.some.inj H
        try go_wp2
        have n0_ := Sq.l (Sq.k HB.out)
        clear HB; have HB := n0_; clear n0_
        have p212 : 0 ≤ (x5_1 : Int) := of_decide_eq_true (by first | (with_reducible assumption) | assumption)
        have q212 : x5_1 < (l0.length : Int) := of_decide_eq_true (by first | (with_reducible assumption) | assumption)
        obtain ⟨ad212, A212_2, c212_2, A212_3, c212_3, A212_4, c212_4, e212, hx212_0, hx212_1, hx212_2, hx212_3, hx212_4, hl212_2, hi212_2, hl212_3, hi212_3, hl212_4, hi212_4⟩ := at_T148 HR0.out x5_1 p212 q212
        have hw212_4 := hx212_4
        have hw212_3 := hx212_3
        have hw212_2 := hx212_2
        have hw212_1 := hx212_1
        have hw212_0 := hx212_0
        cases e212
        replace hx212_0 := (HB.out.cell (World.block_lt_of_cell? w _ hx212_0)).trans hx212_0
        replace hx212_1 := (HB.out.cell (World.block_lt_of_cell? w _ hx212_1)).trans hx212_1
        replace hx212_2 := (HB.out.cell (World.block_lt_of_cell? w _ hx212_2)).trans hx212_2
        replace hx212_3 := (HB.out.cell (World.block_lt_of_cell? w _ hx212_3)).trans hx212_3
        replace hx212_4 := (HB.out.cell (World.block_lt_of_cell? w _ hx212_4)).trans hx212_4
        have HR212_2 := Sq.l hi212_2
        have HC212_2 := Sq.l hl212_2
        clear hi212_2 hl212_2
        have HR212_3 := Sq.l hi212_3
        have HC212_3 := Sq.l hl212_3
        clear hi212_3 hl212_3
        have HR212_4 := Sq.l hi212_4
        have HC212_4 := Sq.l hl212_4
        clear hi212_4 hl212_4; replace p212 := eq_true p212; replace q212 := eq_true q212
        have p213 : 0 ≤ (x5_1 : Int) := of_decide_eq_true (by first | (with_reducible assumption) | assumption)
        have q213 : x5_1 < (l1.length : Int) := of_decide_eq_true (by first | (with_reducible assumption) | assumption)
        obtain ⟨ad213, A213_2, c213_2, A213_3, c213_3, A213_4, c213_4, e213, hx213_0, hx213_1, hx213_2, hx213_3, hx213_4, hl213_2, hi213_2, hl213_3, hi213_3, hl213_4, hi213_4⟩ := at_T148 HR1.out x5_1 p213 q213
        have hw213_4 := hx213_4
        have hw213_3 := hx213_3
        have hw213_2 := hx213_2
        have hw213_1 := hx213_1
        have hw213_0 := hx213_0
        cases e213
        replace hx213_0 := (HB.out.cell (World.block_lt_of_cell? w _ hx213_0)).trans hx213_0
        replace hx213_1 := (HB.out.cell (World.block_lt_of_cell? w _ hx213_1)).trans hx213_1
        replace hx213_2 := (HB.out.cell (World.block_lt_of_cell? w _ hx213_2)).trans hx213_2
        replace hx213_3 := (HB.out.cell (World.block_lt_of_cell? w _ hx213_3)).trans hx213_3
        replace hx213_4 := (HB.out.cell (World.block_lt_of_cell? w _ hx213_4)).trans hx213_4
        have HR213_2 := Sq.l hi213_2
        have HC213_2 := Sq.l hl213_2
        clear hi213_2 hl213_2
        have HR213_3 := Sq.l hi213_3
        have HC213_3 := Sq.l hl213_3
        clear hi213_3 hl213_3
        have HR213_4 := Sq.l hi213_4
        have HC213_4 := Sq.l hl213_4
        clear hi213_4 hl213_4; replace p213 := eq_true p213; replace q213 := eq_true q213
        refine start_ (n := 10) (S := fun w' => w'.cell? (ad212.add ((x5_1).toNat * 5)) = some (.string ((rd_T148 l0 x5_1).f0)) ∧ w'.cell? ⟨(ad212.add ((x5_1).toNat * 5)).block, (ad212.add ((x5_1).toNat * 5)).off + 1, none⟩ = some (.string ((rd_T148 l0 x5_1).f1)) ∧ w'.cell? ⟨(ad212.add ((x5_1).toNat * 5)).block, (ad212.add ((x5_1).toNat * 5)).off + 2, none⟩ = some (.slice A212_2 ((rd_T148 l0 x5_1).f2).length c212_2) ∧ w'.cell? ⟨(ad212.add ((x5_1).toNat * 5)).block, (ad212.add ((x5_1).toNat * 5)).off + 3, none⟩ = some (.slice A212_3 ((rd_T148 l0 x5_1).f3).length c212_3) ∧ w'.cell? ⟨(ad212.add ((x5_1).toNat * 5)).block, (ad212.add ((x5_1).toNat * 5)).off + 4, none⟩ = some (.slice A212_4 ((rd_T148 l0 x5_1).f4).length c212_4) ∧ w'.cell? (ad213.add ((x5_1).toNat * 5)) = some (.string ((rd_T148 l1 x5_1).f0)) ∧ w'.cell? ⟨(ad213.add ((x5_1).toNat * 5)).block, (ad213.add ((x5_1).toNat * 5)).off + 1, none⟩ = some (.string ((rd_T148 l1 x5_1).f1)) ∧ w'.cell? ⟨(ad213.add ((x5_1).toNat * 5)).block, (ad213.add ((x5_1).toNat * 5)).off + 2, none⟩ = some (.slice A213_2 ((rd_T148 l1 x5_1).f2).length c213_2) ∧ w'.cell? ⟨(ad213.add ((x5_1).toNat * 5)).block, (ad213.add ((x5_1).toNat * 5)).off + 3, none⟩ = some (.slice A213_3 ((rd_T148 l1 x5_1).f3).length c213_3) ∧ w'.cell? ⟨(ad213.add ((x5_1).toNat * 5)).block, (ad213.add ((x5_1).toNat * 5)).off + 4, none⟩ = some (.slice A213_4 ((rd_T148 l1 x5_1).f4).length c213_4)) (ds := []) #[false, false, false, false, false, false, false, false, false, false] (by kernel_rfl) rfl rfl ⟨((HB.out.cell (World.block_lt_of_cell? w _ hw212_0)).trans hw212_0), ((HB.out.cell (World.block_lt_of_cell? w _ hw212_1)).trans hw212_1), ((HB.out.cell (World.block_lt_of_cell? w _ hw212_2)).trans hw212_2), ((HB.out.cell (World.block_lt_of_cell? w _ hw212_3)).trans hw212_3), ((HB.out.cell (World.block_lt_of_cell? w _ hw212_4)).trans hw212_4), ((HB.out.cell (World.block_lt_of_cell? w _ hw213_0)).trans hw213_0), ((HB.out.cell (World.block_lt_of_cell? w _ hw213_1)).trans hw213_1), ((HB.out.cell (World.block_lt_of_cell? w _ hw213_2)).trans hw213_2), ((HB.out.cell (World.block_lt_of_cell? w _ hw213_3)).trans hw213_3), ((HB.out.cell (World.block_lt_of_cell? w _ hw213_4)).trans hw213_4)⟩ (fun hHeld => ?_); refine with_tabW laws_eqImageS.tab6 laws_eqImageS.bits6 (fun HT_ HW_ => ?_)
        generalize wr.drew = w11 at HB HR212_2 HR212_3 HR212_4 HR213_2 HR213_3 HR213_4 hx212_0 hx212_1 hx212_2 hx212_3 hx212_4 hx213_0 hx213_1 hx213_2 hx213_3 hx213_4 hHeld ⊢
        refine pure_ (i := 0) (N := some 17) (v := ?_) (a' := ?_) #[true, false, false, false, false, false, false, false, false, false] rfl rfl (any_of HT_.out (by kernel_rfl)) (fun _ _ _ h => h) (Or.inl ⟨by rfl, ?_⟩) ?_ ?_
        rotate_left
        ·intro w'
         go_simp
         with_reducible rfl
        rotate_left
        ·simp only [Act.put, List.setIfInBounds_toArray, List.set_cons_zero, List.set_cons_succ, i64_w, i32_w]
         rfl
        refine pure_ (i := 1) (N := some 18) (v := ?_) (a' := ?_) #[true, true, false, false, false, false, false, false, false, false] rfl rfl (any_of HT_.out (by kernel_rfl)) (fun _ _ _ h => h) (Or.inl ⟨by rfl, ?_⟩) ?_ ?_
        rotate_left
        ·intro w'
         go_simp
         with_reducible rfl
        rotate_left
        ·simp only [Act.put, List.setIfInBounds_toArray, List.set_cons_zero, List.set_cons_succ, i64_w, i32_w]
         rfl
        refine pure_ (i := 2) (N := some 19) (v := ?_) (a' := ?_) #[true, true, true, false, false, false, false, false, false, false] rfl rfl (any_of HT_.out (by kernel_rfl)) (fun _ _ _ h => h) (Or.inl ⟨by rfl, ?_⟩) ?_ ?_
        rotate_left
        ·intro w'
         go_simp
         with_reducible rfl
        rotate_left
        ·simp only [Act.put, List.setIfInBounds_toArray, List.set_cons_zero, List.set_cons_succ, i64_w, i32_w]
         rfl
        refine pure_ (i := 4) (N := some 21) (v := ?_) (a' := ?_) #[true, true, true, false, true, false, false, false, false, false] rfl rfl (any_of HT_.out (by kernel_rfl)) (fun _ _ _ h => h) (Or.inl ⟨by rfl, ?_⟩) ?_ ?_
        rotate_left
        ·intro w'
         go_simp
         with_reducible rfl
        rotate_left
        ·simp only [Act.put, List.setIfInBounds_toArray, List.set_cons_zero, List.set_cons_succ, i64_w, i32_w]
         rfl
        refine pure_ (i := 5) (N := some 22) (v := ?_) (a' := ?_) #[true, true, true, false, true, true, false, false, false, false] rfl rfl (any_of HT_.out (by kernel_rfl)) (fun _ _ _ h => h) (Or.inl ⟨by rfl, ?_⟩) ?_ ?_
        rotate_left
        ·intro w'
         go_simp
         with_reducible rfl
        rotate_left
        ·simp only [Act.put, List.setIfInBounds_toArray, List.set_cons_zero, List.set_cons_succ, i64_w, i32_w]
         rfl
        refine pure_ (i := 6) (N := some 23) (v := ?_) (a' := ?_) #[true, true, true, false, true, true, true, false, false, false] rfl rfl (any_of HT_.out (by kernel_rfl)) (fun _ _ _ h => h) (Or.inl ⟨by rfl, ?_⟩) ?_ ?_
        rotate_left
        ·intro w'
         go_simp
         with_reducible rfl
        rotate_left
        ·simp only [Act.put, List.setIfInBounds_toArray, List.set_cons_zero, List.set_cons_succ, i64_w, i32_w]
         rfl
        refine take_ (i := 3) (N := some 20) (v := ?_) (a' := ?_) #[true, true, true, true, true, true, true, false, false, false] rfl rfl (take_ofW HT_.out HW_.out (by kernel_rfl)) (fun _ _ _ h => h) (Or.inl ⟨by rfl, ?_⟩) hHeld ?_ ?_
        rotate_left
        ·rintro w' ⟨s0, s1, s2, s3, s4, s5, s6, s7, s8, s9⟩
         go_simp
         with_reducible rfl
        rotate_left
        ·simp only [Act.put, List.setIfInBounds_toArray, List.set_cons_zero, List.set_cons_succ, i64_w, i32_w]
         rfl
        refine take_ (i := 7) (N := some 24) (v := ?_) (a' := ?_) #[true, true, true, true, true, true, true, true, false, false] rfl rfl (take_ofW HT_.out HW_.out (by kernel_rfl)) (fun _ _ _ h => h) (Or.inl ⟨by rfl, ?_⟩) hHeld ?_ ?_
        rotate_left
        ·rintro w' ⟨s0, s1, s2, s3, s4, s5, s6, s7, s8, s9⟩
         go_simp
         with_reducible rfl
        rotate_left
        ·simp only [Act.put, List.setIfInBounds_toArray, List.set_cons_zero, List.set_cons_succ, i64_w, i32_w]
         rfl
        refine one_ (i := 8) (N := some 25) #[true, true, true, true, true, true, true, true, true, false] rfl rfl (one_of HT_.out (by kernel_rfl)) (by decide) (fun K hK => ?_)
        refine goes_ Try.func97 (by kernel_rfl) rfl #[.agg #[.string ((rd_T148 l0 x5_1).f0), .string ((rd_T148 l0 x5_1).f1), .slice A212_2 ((rd_T148 l0 x5_1).f2).length c212_2, .slice A212_3 ((rd_T148 l0 x5_1).f3).length c212_3, .slice A212_4 ((rd_T148 l0 x5_1).f4).length c212_4], .agg #[.string ((rd_T148 l1 x5_1).f0), .string ((rd_T148 l1 x5_1).f1), .slice A213_2 ((rd_T148 l1 x5_1).f2).length c213_2, .slice A213_3 ((rd_T148 l1 x5_1).f3).length c213_3, .slice A213_4 ((rd_T148 l1 x5_1).f4).length c213_4]] (by rfl) rfl rfl (by (try simp only [List.map_toArray, List.map_cons, List.map_nil]); first | done | rfl | (simp only [List.length_drop, List.length_take]; rfl)) ?_
        with_reducible refine (laws_eqImage.calls k1 ((rd_T148 l0 x5_1).f0) ((rd_T148 l0 x5_1).f1) _ _ ((rd_T148 l0 x5_1).f2) _ _ ((rd_T148 l0 x5_1).f3) _ _ ((rd_T148 l0 x5_1).f4) ((rd_T148 l1 x5_1).f0) ((rd_T148 l1 x5_1).f1) _ _ ((rd_T148 l1 x5_1).f2) _ _ ((rd_T148 l1 x5_1).f3) _ _ ((rd_T148 l1 x5_1).f4) false _ ?side1 ?side2 ?side3 ?side4 ?side5 ?side6 ?side7 ?side8 ?side9 ?side10 ?side11 ?side12 A7.out).mono ?_
        (case side1 => repeat (first | exact (Sq.a1 HR212_2.out HB.out) | (with_reducible refine Sq.s ?_ _) | (with_reducible refine Sq.t ?_ _) | (with_reducible refine Sq.u ?_)))
        (case side2 => exact HC212_2.out)
        (case side3 => repeat (first | exact (Sq.a1 HR212_3.out HB.out) | (with_reducible refine Sq.s ?_ _) | (with_reducible refine Sq.t ?_ _) | (with_reducible refine Sq.u ?_)))
        (case side4 => exact HC212_3.out)
        (case side5 => repeat (first | exact (Sq.a1 HR212_4.out HB.out) | (with_reducible refine Sq.s ?_ _) | (with_reducible refine Sq.t ?_ _) | (with_reducible refine Sq.u ?_)))
        (case side6 => exact HC212_4.out)
        (case side7 => repeat (first | exact (Sq.a1 HR213_2.out HB.out) | (with_reducible refine Sq.s ?_ _) | (with_reducible refine Sq.t ?_ _) | (with_reducible refine Sq.u ?_)))
        (case side8 => exact HC213_2.out)
        (case side9 => repeat (first | exact (Sq.a1 HR213_3.out HB.out) | (with_reducible refine Sq.s ?_ _) | (with_reducible refine Sq.t ?_ _) | (with_reducible refine Sq.u ?_)))
        (case side10 => exact HC213_3.out)
        (case side11 => repeat (first | exact (Sq.a1 HR213_4.out HB.out) | (with_reducible refine Sq.s ?_ _) | (with_reducible refine Sq.t ?_ _) | (with_reducible refine Sq.u ?_)))
        (case side12 => exact HC213_4.out)
        rintro e w12 ⟨rfl, hb⟩
        refine ⟨_, rfl, ?_⟩
        have n0_ := Sq.l (Sq.a4 (by repeat (first | (with_reducible first | exact HB.out | apply Sq.i | apply Sq.j | apply Sq.k) | exact HB.out)) hb)
        clear HB; have HB := n0_; clear n0_; (try clear hb); (try clear hb2); (try clear hk); (try clear hi)
        refine hK.out _ _ ⟨((HB.out.cell (World.block_lt_of_cell? w _ hw212_0)).trans hw212_0), ((HB.out.cell (World.block_lt_of_cell? w _ hw212_1)).trans hw212_1), ((HB.out.cell (World.block_lt_of_cell? w _ hw212_2)).trans hw212_2), ((HB.out.cell (World.block_lt_of_cell? w _ hw212_3)).trans hw212_3), ((HB.out.cell (World.block_lt_of_cell? w _ hw212_4)).trans hw212_4), ((HB.out.cell (World.block_lt_of_cell? w _ hw213_0)).trans hw213_0), ((HB.out.cell (World.block_lt_of_cell? w _ hw213_1)).trans hw213_1), ((HB.out.cell (World.block_lt_of_cell? w _ hw213_2)).trans hw213_2), ((HB.out.cell (World.block_lt_of_cell? w _ hw213_3)).trans hw213_3), ((HB.out.cell (World.block_lt_of_cell? w _ hw213_4)).trans hw213_4)⟩ (fun hHeld => ?_)
        clear hK K
        refine norm_ (a' := ?_) ?_ ?_
        rotate_left
        ·show Act.put _ (some 25) _ = _
         simp only [Act.put, List.setIfInBounds_toArray, List.set_cons_zero, List.set_cons_succ, i64_w, i32_w]
         rfl
        refine pure_ (i := 9) (N := some 26) (v := ?_) (a' := ?_) #[true, true, true, true, true, true, true, true, true, true] rfl rfl (any_of HT_.out (by kernel_rfl)) (fun _ _ _ h => h) (Or.inl ⟨by rfl, ?_⟩) ?_ ?_
        rotate_left
        ·intro w'
         go_simp
         with_reducible rfl
        rotate_left
        ·simp only [Act.put, List.setIfInBounds_toArray, List.set_cons_zero, List.set_cons_succ, i64_w, i32_w]
         rfl
        refine done_ (done_of HT_.out (by kernel_rfl)) ?_
        try go_wp2
        go_ret
        exact ⟨by first | rfl | (simp [errW_none, errW_some] <;> rfl) | (simp [*, errW_none, errW_some] <;> rfl), by repeat (first | (with_reducible first | exact HB.out | apply Sq.i | apply Sq.j | apply Sq.k) | exact HB.out)⟩
      ·rw [if_neg c6] at H
       exact absurd H (by simp)
     ·rw [if_neg c5] at H
      exact absurd H (by simp)
    ·rw [if_neg c4] at H
     have c4b0 : decide (x5_1 < (l0.length : Int)) = false := decide_eq_false c4
     clear c4
     obtain rfl := Option.some.inj H
     go_wp2
     go_ret
     exact ⟨by first | rfl | (simp [errW_none, errW_some] <;> rfl) | (simp [*, errW_none, errW_some] <;> rfl), by repeat (first | (with_reducible first | exact HB.out | apply Sq.i | apply Sq.j | apply Sq.k) | exact HB.out)⟩
 ·rw [if_neg c3] at H
  have c3b0 : ((l0.length : Int) == (l1.length : Int)) = false := beq_eq_false_iff_ne.mpr c3
  have c3b1 : ((l0.length : Int) != (l1.length : Int)) = true := bne_iff_ne.mpr c3
  have c3b2 : (l0.length == l1.length) = false := by first | simpa using c3 | (simp at c3 ⊢; omega)
  obtain rfl := Option.some.inj H
  go_enter Try.func41, Try.ntmps41
  go_wp2
  go_ret
  exact ⟨by first | rfl | (simp [errW_none, errW_some] <;> rfl) | (simp [*, errW_none, errW_some] <;> rfl), by repeat (first | (with_reducible first | exact HB.out | apply Sq.i | apply Sq.j | apply Sq.k) | exact HB.out)⟩

/-! ### laws_FnExactChainFault: function 7 -/
def laws_FnExactChainFault.f (k : Nat) (l0 : List (S144)) : Option (Bool) := (laws_szImageS.f k l0 1048576).bind fun t215 => (if t215 < 0 then (some true) else ((laws_toImageS.f k l0).bind fun t216 => ((spec_ChainFault.f k t216).bind fun t219 => ((laws_toImageS.f k l0).bind fun t220 => ((impl_ChainFault.f t220).bind fun t223 => (if t223 = t219 then ((laws_toImageS.f k l0).bind fun t224 => ((laws_eqImageS.f k t220 t224).bind fun t227 => (if t227 = true then (some true) else (some false)))) else (some false)))))))
theorem laws_FnExactChainFault.mono : ∀ a0 k, LeO (laws_FnExactChainFault.f k a0) (laws_FnExactChainFault.f (k + 1) a0) := by
  intro a0 k
  unfold laws_FnExactChainFault.f
  repeat' first
      | (with_reducible exact laws_eqImageS.mono _ _ _)
      | (with_reducible exact laws_szImageS.mono _ _ _)
      | (with_reducible exact laws_toImageS.mono _ _)
      | (with_reducible exact spec_ChainFault.mono _ _)
      | (with_reducible exact LeO.refl _)
      | (with_reducible exact LeO.none _)
      | (with_reducible refine LeO.ite ?_ ?_)
      | (with_reducible refine LeO.bind ?_ (fun _ => ?_))
      | exact laws_eqImageS.mono _ _ _
      | exact laws_szImageS.mono _ _ _
      | exact laws_toImageS.mono _ _
      | exact spec_ChainFault.mono _ _
      | exact LeO.none _
      | refine LeO.ite ?_ ?_
      | refine LeO.bind ?_ (fun _ => ?_)
set_option maxHeartbeats 8000000 in
set_option maxRecDepth 100000 in
theorem laws_FnExactChainFault.calls (k : Nat) (A0 : Option Addr) (c0 : Nat) (l0 : List (S144)) (r : Bool) (w : World) (hr0 : Kd.C k144 w A0 l0.length l0) (hc0 : l0.length ≤ c0) (h : laws_FnExactChainFault.f k l0 = some r) :
    Calls Try.prog 7 #[.slice A0 l0.length c0] w fun e w' => e = .returned (.bool r) ∧ Below w.heap.size w w' := by
  have HR0 := Aside0.mk hr0
  have HC0 := Aside0.mk hc0
  clear hr0 hc0
  have HB := Aside0.mk (Below.refl w.heap.size w)
  have H : ((laws_szImageS.f k l0 1048576).bind fun t215 => (if t215 < 0 then (some true) else ((laws_toImageS.f k l0).bind fun t216 => ((spec_ChainFault.f k t216).bind fun t219 => ((laws_toImageS.f k l0).bind fun t220 => ((impl_ChainFault.f t220).bind fun t223 => (if t223 = t219 then ((laws_toImageS.f k l0).bind fun t224 => ((laws_eqImageS.f k t220 t224).bind fun t227 => (if t227 = true then (some true) else (some false)))) else (some false)))))))) = some r := h
  clear h
  replace H := Option.bind_eq_some_iff.mp H
  obtain ⟨t215, A20, H⟩ := H
  replace H : (if t215 < 0 then (some true) else ((laws_toImageS.f k l0).bind fun t216 => ((spec_ChainFault.f k t216).bind fun t219 => ((laws_toImageS.f k l0).bind fun t220 => ((impl_ChainFault.f t220).bind fun t223 => (if t223 = t219 then ((laws_toImageS.f k l0).bind fun t224 => ((laws_eqImageS.f k t220 t224).bind fun t227 => (if t227 = true then (some true) else (some false)))) else (some false))))))) = some r := H
  have A2 := Aside0.mk A20
  clear A20
  have HC3 := Aside0.mk H
  clear H
  go_enter Try.func7, Try.ntmps7
  go_upto_if 11 with (first | ((with_reducible refine gate_callee (f := 37) rfl ?_); refine goesL_ (some 9) rfl rfl Try.func37 (by kernel_rfl) rfl #[.slice A0 l0.length c0, .int .i64 1048576] rfl (by (try simp only [List.map_toArray, List.map_cons, List.map_nil]); first | done | rfl | (simp only [List.length_drop, List.length_take]; rfl)) ?_; (with_reducible refine (laws_szImageS.calls k _ _ l0 1048576 t215 _ ?side1 ?side2 A2.out).mono ?_); (case side1 => repeat (first | exact HR0.out | (with_reducible refine Kd.C_alloc ?_ _) | (with_reducible refine Kd.C_drewN ?_ _) | (with_reducible refine Kd.C_drew ?_))); (case side2 => exact HC0.out); rintro e w4 ⟨rfl, hb⟩; refine ⟨_, rfl, ?_⟩; have n0_ := Aside0.mk (below_step (by repeat (first | (with_reducible first | exact HB.out | apply below_alloc | apply pw_below_drewN | apply below_drew1) | exact HB.out)) hb); clear HB; have HB := n0_; clear n0_; (try clear hb); (try clear hb2); (try clear hk); (try clear hi)))
  (try simp only [Act.put, List.setIfInBounds_toArray, List.set_cons_zero, List.set_cons_succ])
  have H := HC3.out
  clear HC3
  by_cases c5 : t215 < 0
  · rw [if_pos c5] at H
    have c5b0 : decide (t215 < 0) = true := decide_eq_true c5
    clear c5
    (first | rw [c5b0] | (simp only [i64_w, i32_w]; rw [c5b0]) | skip)
    obtain rfl := Option.some.inj H
    go_wp2
    go_ret
    exact ⟨by first | rfl | (simp [errW_none, errW_some] <;> rfl) | (simp [*, errW_none, errW_some] <;> rfl), by repeat (first | (with_reducible first | exact HB.out | apply below_alloc | apply pw_below_drewN | apply below_drew1) | exact HB.out)⟩
  · rw [if_neg c5] at H
    have c5b0 : decide (t215 < 0) = false := decide_eq_false c5
    clear c5
    (first | rw [c5b0] | (simp only [i64_w, i32_w]; rw [c5b0]) | skip)
    replace H := Option.bind_eq_some_iff.mp H
    obtain ⟨t216, A60, H⟩ := H
    replace H : ((spec_ChainFault.f k t216).bind fun t219 => ((laws_toImageS.f k l0).bind fun t220 => ((impl_ChainFault.f t220).bind fun t223 => (if t223 = t219 then ((laws_toImageS.f k l0).bind fun t224 => ((laws_eqImageS.f k t220 t224).bind fun t227 => (if t227 = true then (some true) else (some false)))) else (some false))))) = some r := H
    have A6 := Aside0.mk A60
    clear A60
    replace H := Option.bind_eq_some_iff.mp H
    obtain ⟨t219, A70, H⟩ := H
    replace H : ((laws_toImageS.f k l0).bind fun t220 => ((impl_ChainFault.f t220).bind fun t223 => (if t223 = t219 then ((laws_toImageS.f k l0).bind fun t224 => ((laws_eqImageS.f k t220 t224).bind fun t227 => (if t227 = true then (some true) else (some false)))) else (some false)))) = some r := H
    have A7 := Aside0.mk A70
    clear A70
    replace H := Option.bind_eq_some_iff.mp H
    obtain ⟨t220, A80, H⟩ := H
    replace H : ((impl_ChainFault.f t220).bind fun t223 => (if t223 = t219 then ((laws_toImageS.f k l0).bind fun t224 => ((laws_eqImageS.f k t220 t224).bind fun t227 => (if t227 = true then (some true) else (some false)))) else (some false))) = some r := H
    have A8 := Aside0.mk A80
    clear A80
    replace H := Option.bind_eq_some_iff.mp H
    obtain ⟨t223, A90, H⟩ := H
    replace H : (if t223 = t219 then ((laws_toImageS.f k l0).bind fun t224 => ((laws_eqImageS.f k t220 t224).bind fun t227 => (if t227 = true then (some true) else (some false)))) else (some false)) = some r := H
    have A9 := Aside0.mk A90
    clear A90
    have HC10 := Aside0.mk H
    clear H
    go_upto_if 21 with (first | ((with_reducible refine gate_callee (f := 39) rfl ?_); refine goesL_ (some 13) rfl rfl Try.func39 (by kernel_rfl) rfl #[.slice A0 l0.length c0] rfl (by (try simp only [List.map_toArray, List.map_cons, List.map_nil]); first | done | rfl | (simp only [List.length_drop, List.length_take]; rfl)) ?_; (with_reducible refine (laws_toImageS.calls k _ _ l0 t216 _ ?side1 ?side2 A6.out).mono ?_); (case side1 => repeat (first | exact (Kd.C_below HR0.out HB.out) | (with_reducible refine Kd.C_alloc ?_ _) | (with_reducible refine Kd.C_drewN ?_ _) | (with_reducible refine Kd.C_drew ?_))); (case side2 => exact HC0.out); rintro e w11 ⟨v217, rfl, ho0, hb⟩; refine ⟨_, rfl, ?_⟩; have n0_ := Aside0.mk (Kd.R_lower ho0 (below_size (by repeat (first | (with_reducible first | exact HB.out | apply below_alloc | apply pw_below_drewN | apply below_drew1) | exact HB.out)))); have n1_ := Aside0.mk (below_step (by repeat (first | (with_reducible first | exact HB.out | apply below_alloc | apply pw_below_drewN | apply below_drew1) | exact HB.out)) hb); clear HB; have HO218 := n0_; have HB := n1_; clear n0_ n1_; (try clear hb); (try clear hb2); (try clear hk); (try clear hi); (try clear ho0); obtain ⟨Ao12, co12, eo12⟩ := Kd.R_slice HO218.out; subst eo12) | ((with_reducible refine gate_callee (f := 38) rfl ?_); refine goesL_ (some 14) rfl rfl Try.func38 (by kernel_rfl) rfl #[.slice Ao12 t216.length co12] rfl (by (try simp only [List.map_toArray, List.map_cons, List.map_nil]); first | done | rfl | (simp only [List.length_drop, List.length_take]; rfl)) ?_; (with_reducible refine (spec_ChainFault.calls k _ _ t216 t219 _ ?side1 ?side2 A7.out).mono ?_); (case side1 => repeat (first | exact (Kd.R_reads' HO218.out).2.2 | (with_reducible refine Kd.C_alloc ?_ _) | (with_reducible refine Kd.C_drewN ?_ _) | (with_reducible refine Kd.C_drew ?_))); (case side2 => exact (Kd.R_reads' HO218.out).2.1); rintro e w13 ⟨rfl, hb⟩; refine ⟨_, rfl, ?_⟩; have n0_ := Aside0.mk (Kd.R_below (by (with_reducible repeat (first | apply Kd.R_alloc | apply Kd.R_drewN | apply Kd.R_drew)); exact HO218.out) hb); have n1_ := Aside0.mk (below_step (by repeat (first | (with_reducible first | exact HB.out | apply below_alloc | apply pw_below_drewN | apply below_drew1) | exact HB.out)) hb); clear HO218; clear HB; have HO218 := n0_; have HB := n1_; clear n0_ n1_; (try clear hb); (try clear hb2); (try clear hk); (try clear hi)) | ((with_reducible refine gate_callee (f := 39) rfl ?_); refine goesL_ (some 16) rfl rfl Try.func39 (by kernel_rfl) rfl #[.slice A0 l0.length c0] rfl (by (try simp only [List.map_toArray, List.map_cons, List.map_nil]); first | done | rfl | (simp only [List.length_drop, List.length_take]; rfl)) ?_; (with_reducible refine (laws_toImageS.calls k _ _ l0 t220 _ ?side1 ?side2 A8.out).mono ?_); (case side1 => repeat (first | exact (Kd.C_below HR0.out HB.out) | (with_reducible refine Kd.C_alloc ?_ _) | (with_reducible refine Kd.C_drewN ?_ _) | (with_reducible refine Kd.C_drew ?_))); (case side2 => exact HC0.out); rintro e w14 ⟨v221, rfl, ho0, hb⟩; refine ⟨_, rfl, ?_⟩; have n0_ := Aside0.mk (Kd.R_elder' (by (with_reducible repeat (first | apply Kd.R_alloc | apply Kd.R_drewN | apply Kd.R_drew)); exact HO218.out) (Kd.R_base ho0) hb); have n1_ := Aside0.mk (Kd.R_lower (Kd.R_new' ho0 (Kd.R_lt (by (with_reducible repeat (first | apply Kd.R_alloc | apply Kd.R_drewN | apply Kd.R_drew)); exact HO218.out))) (below_size (by repeat (first | (with_reducible first | exact HB.out | apply below_alloc | apply pw_below_drewN | apply below_drew1) | exact HB.out)))); have n2_ := Aside0.mk (below_step (by repeat (first | (with_reducible first | exact HB.out | apply below_alloc | apply pw_below_drewN | apply below_drew1) | exact HB.out)) hb); clear HO218; clear HB; have HO218 := n0_; have HO222 := n1_; have HB := n2_; clear n0_ n1_ n2_; (try clear hb); (try clear hb2); (try clear hk); (try clear hi); (try clear ho0); obtain ⟨Ao15, co15, eo15⟩ := Kd.R_slice HO222.out; subst eo15) | ((with_reducible refine gate_callee (f := 40) rfl ?_); refine goesL_ (some 18) rfl rfl Try.func40 (by kernel_rfl) rfl #[.slice Ao15 t220.length co15] rfl (by (try simp only [List.map_toArray, List.map_cons, List.map_nil]); first | done | rfl | (simp only [List.length_drop, List.length_take]; rfl)) ?_; (with_reducible refine (impl_ChainFault.calls _ _ t220 t223 _ ?side1 ?side2 A9.out).mono ?_); (case side1 => repeat (first | exact (Kd.R_reads' HO222.out).2.2 | (with_reducible refine Kd.C_alloc ?_ _) | (with_reducible refine Kd.C_drewN ?_ _) | (with_reducible refine Kd.C_drew ?_))); (case side2 => exact (Kd.R_reads' HO222.out).2.1); rintro e w16 ⟨rfl, hb⟩; refine ⟨_, rfl, ?_⟩; have n0_ := Aside0.mk (Kd.R_below (by (with_reducible repeat (first | apply Kd.R_alloc | apply Kd.R_drewN | apply Kd.R_drew)); exact HO218.out) hb); have n1_ := Aside0.mk (Kd.R_below (by (with_reducible repeat (first | apply Kd.R_alloc | apply Kd.R_drewN | apply Kd.R_drew)); exact HO222.out) hb); have n2_ := Aside0.mk (below_step (by repeat (first | (with_reducible first | exact HB.out | apply below_alloc | apply pw_below_drewN | apply below_drew1) | exact HB.out)) hb); clear HO218; clear HO222; clear HB; have HO218 := n0_; have HO222 := n1_; have HB := n2_; clear n0_ n1_ n2_; (try clear hb); (try clear hb2); (try clear hk); (try clear hi)))
    (try simp only [Act.put, List.setIfInBounds_toArray, List.set_cons_zero, List.set_cons_succ])
    have H := HC10.out
    clear HC10
    by_cases c17 : t223 = t219
    · rw [if_pos c17] at H
      have c17b0 : (t223 == t219) = true := beq_iff_eq.mpr c17
      have c17b1 : (t223 != t219) = false := bne_eq_false_iff_eq.mpr c17
      clear c17
      (first | rw [c17b0] | (simp only [i64_w, i32_w]; rw [c17b0]) | skip)
      replace H := Option.bind_eq_some_iff.mp H
      obtain ⟨t224, A180, H⟩ := H
      replace H : ((laws_eqImageS.f k t220 t224).bind fun t227 => (if t227 = true then (some true) else (some false))) = some r := H
      have A18 := Aside0.mk A180
      clear A180
      replace H := Option.bind_eq_some_iff.mp H
      obtain ⟨t227, A190, H⟩ := H
      replace H : (if t227 = true then (some true) else (some false)) = some r := H
      have A19 := Aside0.mk A190
      clear A190
      have HC20 := Aside0.mk H
      clear H
      go_upto_if 26 with (first | ((with_reducible refine gate_callee (f := 39) rfl ?_); refine goesL_ (some 24) rfl rfl Try.func39 (by kernel_rfl) rfl #[.slice A0 l0.length c0] rfl (by (try simp only [List.map_toArray, List.map_cons, List.map_nil]); first | done | rfl | (simp only [List.length_drop, List.length_take]; rfl)) ?_; (with_reducible refine (laws_toImageS.calls k _ _ l0 t224 _ ?side1 ?side2 A18.out).mono ?_); (case side1 => repeat (first | exact (Kd.C_below HR0.out HB.out) | (with_reducible refine Kd.C_alloc ?_ _) | (with_reducible refine Kd.C_drewN ?_ _) | (with_reducible refine Kd.C_drew ?_))); (case side2 => exact HC0.out); rintro e w21 ⟨v225, rfl, ho0, hb⟩; refine ⟨_, rfl, ?_⟩; have n0_ := Aside0.mk (Kd.R_elder' (by (with_reducible repeat (first | apply Kd.R_alloc | apply Kd.R_drewN | apply Kd.R_drew)); exact HO218.out) (Kd.R_base ho0) hb); have n1_ := Aside0.mk (Kd.R_elder' (by (with_reducible repeat (first | apply Kd.R_alloc | apply Kd.R_drewN | apply Kd.R_drew)); exact HO222.out) (Kd.R_base ho0) hb); have n2_ := Aside0.mk (Kd.R_lower (Kd.R_new' (Kd.R_new' ho0 (Kd.R_lt (by (with_reducible repeat (first | apply Kd.R_alloc | apply Kd.R_drewN | apply Kd.R_drew)); exact HO218.out))) (Kd.R_lt (by (with_reducible repeat (first | apply Kd.R_alloc | apply Kd.R_drewN | apply Kd.R_drew)); exact HO222.out))) (below_size (by repeat (first | (with_reducible first | exact HB.out | apply below_alloc | apply pw_below_drewN | apply below_drew1) | exact HB.out)))); have n3_ := Aside0.mk (below_step (by repeat (first | (with_reducible first | exact HB.out | apply below_alloc | apply pw_below_drewN | apply below_drew1) | exact HB.out)) hb); clear HO218; clear HO222; clear HB; have HO218 := n0_; have HO222 := n1_; have HO226 := n2_; have HB := n3_; clear n0_ n1_ n2_ n3_; (try clear hb); (try clear hb2); (try clear hk); (try clear hi); (try clear ho0); obtain ⟨Ao22, co22, eo22⟩ := Kd.R_slice HO226.out; subst eo22) | ((with_reducible refine gate_callee (f := 41) rfl ?_); refine goesL_ (some 25) rfl rfl Try.func41 (by kernel_rfl) rfl #[.slice Ao15 t220.length co15, .slice Ao22 t224.length co22] rfl (by (try simp only [List.map_toArray, List.map_cons, List.map_nil]); first | done | rfl | (simp only [List.length_drop, List.length_take]; rfl)) ?_; (with_reducible refine (laws_eqImageS.calls k _ _ t220 _ _ t224 t227 _ ?side1 ?side2 ?side3 ?side4 A19.out).mono ?_); (case side1 => repeat (first | exact (Kd.R_reads' HO222.out).2.2 | (with_reducible refine Kd.C_alloc ?_ _) | (with_reducible refine Kd.C_drewN ?_ _) | (with_reducible refine Kd.C_drew ?_))); (case side2 => exact (Kd.R_reads' HO222.out).2.1); (case side3 => repeat (first | exact (Kd.R_reads' HO226.out).2.2 | (with_reducible refine Kd.C_alloc ?_ _) | (with_reducible refine Kd.C_drewN ?_ _) | (with_reducible refine Kd.C_drew ?_))); (case side4 => exact (Kd.R_reads' HO226.out).2.1); rintro e w23 ⟨rfl, hb⟩; refine ⟨_, rfl, ?_⟩; have n0_ := Aside0.mk (Kd.R_below (by (with_reducible repeat (first | apply Kd.R_alloc | apply Kd.R_drewN | apply Kd.R_drew)); exact HO218.out) hb); have n1_ := Aside0.mk (Kd.R_below (by (with_reducible repeat (first | apply Kd.R_alloc | apply Kd.R_drewN | apply Kd.R_drew)); exact HO222.out) hb); have n2_ := Aside0.mk (Kd.R_below (by (with_reducible repeat (first | apply Kd.R_alloc | apply Kd.R_drewN | apply Kd.R_drew)); exact HO226.out) hb); have n3_ := Aside0.mk (below_step (by repeat (first | (with_reducible first | exact HB.out | apply below_alloc | apply pw_below_drewN | apply below_drew1) | exact HB.out)) hb); clear HO218; clear HO222; clear HO226; clear HB; have HO218 := n0_; have HO222 := n1_; have HO226 := n2_; have HB := n3_; clear n0_ n1_ n2_ n3_; (try clear hb); (try clear hb2); (try clear hk); (try clear hi)))
      (try simp only [Act.put, List.setIfInBounds_toArray, List.set_cons_zero, List.set_cons_succ])
      have H := HC20.out
      clear HC20
      by_cases c24 : t227 = true
      · subst c24
        have H1 : (some true) = some r := by rw [if_pos rfl] at H; exact H
        clear H
        have H := H1
        clear H1
        obtain rfl := Option.some.inj H
        go_wp2
        go_ret
        exact ⟨by first | rfl | (simp [errW_none, errW_some] <;> rfl) | (simp [*, errW_none, errW_some] <;> rfl), by repeat (first | (with_reducible first | exact HB.out | apply below_alloc | apply pw_below_drewN | apply below_drew1) | exact HB.out)⟩
      · replace c24 := Bool.eq_false_iff.mpr c24
        subst c24
        have H1 : (some false) = some r := by rw [if_neg (show ¬ (false = true) by decide)] at H; exact H
        clear H
        have H := H1
        clear H1
        obtain rfl := Option.some.inj H
        go_wp2
        go_ret
        exact ⟨by first | rfl | (simp [errW_none, errW_some] <;> rfl) | (simp [*, errW_none, errW_some] <;> rfl), by repeat (first | (with_reducible first | exact HB.out | apply below_alloc | apply pw_below_drewN | apply below_drew1) | exact HB.out)⟩
    · rw [if_neg c17] at H
      have c17b0 : (t223 == t219) = false := beq_eq_false_iff_ne.mpr c17
      have c17b1 : (t223 != t219) = true := bne_iff_ne.mpr c17
      (first | rw [c17b0] | (simp only [i64_w, i32_w]; rw [c17b0]) | skip)
      obtain rfl := Option.some.inj H
      go_wp2
      go_ret
      exact ⟨by first | rfl | (simp [errW_none, errW_some] <;> rfl) | (simp [*, errW_none, errW_some] <;> rfl), by repeat (first | (with_reducible first | exact HB.out | apply below_alloc | apply pw_below_drewN | apply below_drew1) | exact HB.out)⟩

end Go.Proofs.Ytmajbehafgajmaa.QFnExactChainFault
