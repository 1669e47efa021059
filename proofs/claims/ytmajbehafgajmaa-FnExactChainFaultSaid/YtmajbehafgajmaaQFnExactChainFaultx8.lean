-- Written for this claim by this session's own driver (wip/xprint.py).
import Derived.Test.YtmajbehafgajmaaQFnExactChainFaultx0
import Derived.Test.YtmajbehafgajmaaQFnExactChainFaultx7
namespace Go.Proofs.Ytmajbehafgajmaa.QFnExactChainFault
open Go.RowKit Go.Proofs.YtmajbehafgajmaaW.PrintWords Go.Proofs.YtmajbehafgajmaaW.PrintLast Go.Proofs.YtmajbehafgajmaaW.PrintMore
attribute [local go_sem] max2_int min2_int max_two min_two max_three min_three max_four min_four   -- for this text's walks alone
set_option linter.unusedVariables false
set_option linter.unusedSimpArgs false

/-! ### laws_eqSnapS: function 140 -/
def laws_eqSnapS.l0 : Nat → List (S193) → List (S193) → Int → Option (Bool)
 | 0, _, _, _ => none
 | k + 1, x0, x1, x5 => if x5 < (x0.length : Int) then (if 0 ≤ x5 then (if x5 < (x1.length : Int) then ((laws_eqSnap.f k ((rd_T193 x0 x5).f0) ((rd_T193 x0 x5).f1) ((rd_T193 x1 x5).f0) ((rd_T193 x1 x5).f1)).bind fun t206 => (if t206 = true then (laws_eqSnapS.l0 k x0 x1 (wrap64 (x5 + 1))) else (some false))) else (none)) else (none)) else (some true)
def laws_eqSnapS.f (k : Nat) (l0 : List (S193)) (l1 : List (S193)) : Option (Bool) := if (l0.length : Int) = (l1.length : Int) then (laws_eqSnapS.l0 k l0 l1 0) else (some false)
theorem laws_eqSnapS.mono_l : ∀ k, (∀ y0 y1 y2, LeO (laws_eqSnapS.l0 k y0 y1 y2) (laws_eqSnapS.l0 (k + 1) y0 y1 y2))
 | 0 => fun _ _ _ r h => by simp [laws_eqSnapS.l0] at h
 | k + 1 => by
  have ih0 := laws_eqSnapS.mono_l k
  ·intro y0 y1 y2
   unfold laws_eqSnapS.l0
   repeat' first
   | (with_reducible exact ih0 _ _ _)
   | (with_reducible exact laws_eqSnap.mono _ _ _ _ _)
   | (with_reducible exact LeO.refl _)
   | (with_reducible exact LeO.none _)
   | (with_reducible refine LeO.ite ?_ ?_)
   | (with_reducible refine LeO.bind ?_ (fun _ => ?_))
   | exact ih0 _ _ _
   | exact laws_eqSnap.mono _ _ _ _ _
   | exact LeO.none _
   | refine LeO.ite ?_ ?_
   | refine LeO.bind ?_ (fun _ => ?_)
theorem laws_eqSnapS.mono : ∀ a0 a1 k, LeO (laws_eqSnapS.f k a0 a1) (laws_eqSnapS.f (k + 1) a0 a1) := by
 intro a0 a1 k
 have ih0 := laws_eqSnapS.mono_l k
 unfold laws_eqSnapS.f
 repeat' first
   | (with_reducible exact ih0 _ _ _)
   | (with_reducible exact laws_eqSnap.mono _ _ _ _ _)
   | (with_reducible exact LeO.refl _)
   | (with_reducible exact LeO.none _)
   | (with_reducible refine LeO.ite ?_ ?_)
   | (with_reducible refine LeO.bind ?_ (fun _ => ?_))
   | exact ih0 _ _ _
   | exact laws_eqSnap.mono _ _ _ _ _
   | exact LeO.none _
   | refine LeO.ite ?_ ?_
   | refine LeO.bind ?_ (fun _ => ?_)
def laws_eqSnapS.T6 : Bool × List (List Nat × List Nat) := (true, [([], []), ([], []), ([0, 1], [0, 1]), ([2], [2]), ([], []), ([], []), ([4, 5], [4, 5]), ([6], [6]), ([3, 7], [3, 7]), ([8], [8])])
def laws_eqSnapS.B6 : List Nat := [0, 0, 3, 7, 0, 0, 48, 112, 255, 511]
theorem laws_eqSnapS.tab6 : rtab .any (opsOf Try.f140 6) = laws_eqSnapS.T6 := by kernel_rfl
theorem laws_eqSnapS.bits6 : waitsOk laws_eqSnapS.T6.2 laws_eqSnapS.B6 = true := by kernel_rfl
set_option maxHeartbeats 8000000 in
set_option maxRecDepth 100000 in
theorem laws_eqSnapS.calls (k : Nat) (A0 : Option Addr) (c0 : Nat) (l0 : List (S193)) (A1 : Option Addr) (c1 : Nat) (l1 : List (S193)) (r : Bool) (w : World) (hr0 : Kd.C k193 w A0 l0.length l0) (hc0 : l0.length ≤ c0) (hr1 : Kd.C k193 w A1 l1.length l1) (hc1 : l1.length ≤ c1) (h : laws_eqSnapS.f k l0 l1 = some r) :
  Calls Try.prog 140 #[.slice A0 l0.length c0, .slice A1 l1.length c1] w fun e w' => e = .returned (.bool r) ∧ Below w.heap.size w w' := by
 have hu193 := Try.underlying193
 have HR0 := Sq.l hr0
 have HC0 := Sq.l hc0
 clear hr0 hc0
 have HR1 := Sq.l hr1
 have HC1 := Sq.l hc1
 clear hr1 hc1
 have HB := Sq.l (Below.refl w.heap.size w)
 have H : (if (l0.length : Int) = (l1.length : Int) then (laws_eqSnapS.l0 k l0 l1 0) else (some false)) = some r := h
 clear h
 by_cases c3 : (l0.length : Int) = (l1.length : Int)
 ·rw [if_pos c3] at H
  have c3b0 : ((l0.length : Int) == (l1.length : Int)) = true := beq_iff_eq.mpr c3
  have c3b1 : ((l0.length : Int) != (l1.length : Int)) = false := bne_eq_false_iff_eq.mpr c3
  have c3b2 : (l0.length == l1.length) = true := by first | simpa using c3 | (simp at c3 ⊢; omega)
  clear c3
  have H' := Sq.l H
  clear H
  go_enter Try.func140, Try.ntmps140
  go_wp2
  go_loopg [5] k (fun kq v5 w' => ∃ (x5_1 : Int), v5 = .int .i64 x5_1 ∧ Aside0 (laws_eqSnapS.l0 kq l0 l1 x5_1 = some r) ∧ Aside0 (kq ≤ k) ∧ Aside0 (Below w.heap.size w w'))
  case atStart => exact ⟨(0), (by first | rfl | (simp; done) | (simp [*]; done)), H', ⟨Nat.le_refl _⟩, ⟨by repeat (first | (with_reducible first | exact HB.out | apply Sq.i | apply Sq.j | apply Sq.k) | exact HB.out)⟩⟩
  case round =>
   clear H'
   try clear c1; try clear p2; try clear c3; try clear c3b0; try clear c3b1; try clear c3b2
   obtain ⟨x5_1, rfl, HA, HK1, HB⟩ := hrel
   cases gk with
   | zero => exact absurd HA.out (by simp [laws_eqSnapS.l0])
   | succ k1 =>
    have H := HA.out
    clear HA
    simp only [laws_eqSnapS.l0] at H
    by_cases c4 : x5_1 < (l0.length : Int)
    ·rw [if_pos c4] at H
     have c4b0 : decide (x5_1 < (l0.length : Int)) = true := decide_eq_true c4
     clear c4
     by_cases c5 : 0 ≤ x5_1
     ·rw [if_pos c5] at H
      have c5b0 : decide (0 ≤ x5_1) = true := decide_eq_true c5
      clear c5
      by_cases c6 : x5_1 < (l1.length : Int)
      ·rw [if_pos c6] at H
       have c6b0 : decide (x5_1 < (l1.length : Int)) = true := decide_eq_true c6
       clear c6
       replace H := Option.bind_eq_some_iff.mp H
       obtain ⟨t206, A70, H⟩ := H
       (try dsimp only at H)
       have A7 := Sq.l A70
       clear A70
       by_cases c8 : t206 = true
       ·subst c8
        rw [if_pos rfl] at H
        have H' := Sq.l H
        clear H
        try go_wp2
        have n0_ := Sq.l (Sq.k HB.out)
        clear HB; have HB := n0_; clear n0_
        have p204 : 0 ≤ (x5_1 : Int) := of_decide_eq_true (by first | (with_reducible assumption) | assumption)
        have q204 : x5_1 < (l0.length : Int) := of_decide_eq_true (by first | (with_reducible assumption) | assumption)
        obtain ⟨ad204, A204_1, c204_1, e204, hx204_0, hx204_1, hl204_1, hi204_1⟩ := at_T193 HR0.out x5_1 p204 q204
        have hw204_1 := hx204_1
        have hw204_0 := hx204_0
        cases e204
        replace hx204_0 := (HB.out.cell (World.block_lt_of_cell? w _ hx204_0)).trans hx204_0
        replace hx204_1 := (HB.out.cell (World.block_lt_of_cell? w _ hx204_1)).trans hx204_1
        have HR204_1 := Sq.l hi204_1
        have HC204_1 := Sq.l hl204_1
        clear hi204_1 hl204_1; replace p204 := eq_true p204; replace q204 := eq_true q204
        have p205 : 0 ≤ (x5_1 : Int) := of_decide_eq_true (by first | (with_reducible assumption) | assumption)
        have q205 : x5_1 < (l1.length : Int) := of_decide_eq_true (by first | (with_reducible assumption) | assumption)
        obtain ⟨ad205, A205_1, c205_1, e205, hx205_0, hx205_1, hl205_1, hi205_1⟩ := at_T193 HR1.out x5_1 p205 q205
        have hw205_1 := hx205_1
        have hw205_0 := hx205_0
        cases e205
        replace hx205_0 := (HB.out.cell (World.block_lt_of_cell? w _ hx205_0)).trans hx205_0
        replace hx205_1 := (HB.out.cell (World.block_lt_of_cell? w _ hx205_1)).trans hx205_1
        have HR205_1 := Sq.l hi205_1
        have HC205_1 := Sq.l hl205_1
        clear hi205_1 hl205_1; replace p205 := eq_true p205; replace q205 := eq_true q205
        refine start_ (n := 10) (S := fun w' => w'.cell? (ad204.add ((x5_1).toNat * 2)) = some (.string ((rd_T193 l0 x5_1).f0)) ∧ w'.cell? ⟨(ad204.add ((x5_1).toNat * 2)).block, (ad204.add ((x5_1).toNat * 2)).off + 1, none⟩ = some (.slice A204_1 ((rd_T193 l0 x5_1).f1).length c204_1) ∧ w'.cell? (ad205.add ((x5_1).toNat * 2)) = some (.string ((rd_T193 l1 x5_1).f0)) ∧ w'.cell? ⟨(ad205.add ((x5_1).toNat * 2)).block, (ad205.add ((x5_1).toNat * 2)).off + 1, none⟩ = some (.slice A205_1 ((rd_T193 l1 x5_1).f1).length c205_1)) (ds := []) #[false, false, false, false, false, false, false, false, false, false] (by kernel_rfl) rfl rfl ⟨((HB.out.cell (World.block_lt_of_cell? w _ hw204_0)).trans hw204_0), ((HB.out.cell (World.block_lt_of_cell? w _ hw204_1)).trans hw204_1), ((HB.out.cell (World.block_lt_of_cell? w _ hw205_0)).trans hw205_0), ((HB.out.cell (World.block_lt_of_cell? w _ hw205_1)).trans hw205_1)⟩ (fun hHeld => ?_); refine with_tabW laws_eqSnapS.tab6 laws_eqSnapS.bits6 (fun HT_ HW_ => ?_)
        generalize wr.drew = w9 at HB HR204_1 HR205_1 hx204_0 hx204_1 hx205_0 hx205_1 hHeld ⊢
        refine pure_ (i := 0) (N := some 17) (v := ?_) (a' := ?_) #[true, false, false, false, false, false, false, false, false, false] rfl rfl (any_of HT_.out (by kernel_rfl)) (fun _ _ _ h => h) (Or.inl ⟨by rfl, ?_⟩) ?_ ?_
        rotate_left
        ·intro w'
         go_simp
         with_reducible rfl
        rotate_left
        ·simp only [Act.put, List.setIfInBounds_toArray, List.set_cons_zero, List.set_cons_succ, i64_w, i32_w]
         rfl
        refine pure_ (i := 1) (N := some 18) (v := ?_) (a' := ?_) #[true, true, false, false, false, false, false, false, false, false] rfl rfl (any_of HT_.out (by kernel_rfl)) (fun _ _ _ h => h) (Or.inl ⟨by rfl, ?_⟩) ?_ ?_
        rotate_left
        ·intro w'
         go_simp
         with_reducible rfl
        rotate_left
        ·simp only [Act.put, List.setIfInBounds_toArray, List.set_cons_zero, List.set_cons_succ, i64_w, i32_w]
         rfl
        refine pure_ (i := 2) (N := some 19) (v := ?_) (a' := ?_) #[true, true, true, false, false, false, false, false, false, false] rfl rfl (any_of HT_.out (by kernel_rfl)) (fun _ _ _ h => h) (Or.inl ⟨by rfl, ?_⟩) ?_ ?_
        rotate_left
        ·intro w'
         go_simp
         with_reducible rfl
        rotate_left
        ·simp only [Act.put, List.setIfInBounds_toArray, List.set_cons_zero, List.set_cons_succ, i64_w, i32_w]
         rfl
        refine pure_ (i := 4) (N := some 21) (v := ?_) (a' := ?_) #[true, true, true, false, true, false, false, false, false, false] rfl rfl (any_of HT_.out (by kernel_rfl)) (fun _ _ _ h => h) (Or.inl ⟨by rfl, ?_⟩) ?_ ?_
        rotate_left
        ·intro w'
         go_simp
         with_reducible rfl
        rotate_left
        ·simp only [Act.put, List.setIfInBounds_toArray, List.set_cons_zero, List.set_cons_succ, i64_w, i32_w]
         rfl
        refine pure_ (i := 5) (N := some 22) (v := ?_) (a' := ?_) #[true, true, true, false, true, true, false, false, false, false] rfl rfl (any_of HT_.out (by kernel_rfl)) (fun _ _ _ h => h) (Or.inl ⟨by rfl, ?_⟩) ?_ ?_
        rotate_left
        ·intro w'
         go_simp
         with_reducible rfl
        rotate_left
        ·simp only [Act.put, List.setIfInBounds_toArray, List.set_cons_zero, List.set_cons_succ, i64_w, i32_w]
         rfl
        refine pure_ (i := 6) (N := some 23) (v := ?_) (a' := ?_) #[true, true, true, false, true, true, true, false, false, false] rfl rfl (any_of HT_.out (by kernel_rfl)) (fun _ _ _ h => h) (Or.inl ⟨by rfl, ?_⟩) ?_ ?_
        rotate_left
        ·intro w'
         go_simp
         with_reducible rfl
        rotate_left
        ·simp only [Act.put, List.setIfInBounds_toArray, List.set_cons_zero, List.set_cons_succ, i64_w, i32_w]
         rfl
        refine take_ (i := 3) (N := some 20) (v := ?_) (a' := ?_) #[true, true, true, true, true, true, true, false, false, false] rfl rfl (take_ofW HT_.out HW_.out (by kernel_rfl)) (fun _ _ _ h => h) (Or.inl ⟨by rfl, ?_⟩) hHeld ?_ ?_
        rotate_left
        ·rintro w' ⟨s0, s1, s2, s3⟩
         go_simp
         with_reducible rfl
        rotate_left
        ·simp only [Act.put, List.setIfInBounds_toArray, List.set_cons_zero, List.set_cons_succ, i64_w, i32_w]
         rfl
        refine take_ (i := 7) (N := some 24) (v := ?_) (a' := ?_) #[true, true, true, true, true, true, true, true, false, false] rfl rfl (take_ofW HT_.out HW_.out (by kernel_rfl)) (fun _ _ _ h => h) (Or.inl ⟨by rfl, ?_⟩) hHeld ?_ ?_
        rotate_left
        ·rintro w' ⟨s0, s1, s2, s3⟩
         go_simp
         with_reducible rfl
        rotate_left
        ·simp only [Act.put, List.setIfInBounds_toArray, List.set_cons_zero, List.set_cons_succ, i64_w, i32_w]
         rfl
        refine one_ (i := 8) (N := some 25) #[true, true, true, true, true, true, true, true, true, false] rfl rfl (one_of HT_.out (by kernel_rfl)) (by decide) (fun K hK => ?_)
        refine goes_ Try.func154 (by kernel_rfl) rfl #[.agg #[.string ((rd_T193 l0 x5_1).f0), .slice A204_1 ((rd_T193 l0 x5_1).f1).length c204_1], .agg #[.string ((rd_T193 l1 x5_1).f0), .slice A205_1 ((rd_T193 l1 x5_1).f1).length c205_1]] (by rfl) rfl rfl (by (try simp only [List.map_toArray, List.map_cons, List.map_nil]); first | done | rfl | (simp only [List.length_drop, List.length_take]; rfl)) ?_
        with_reducible refine (laws_eqSnap.calls k1 ((rd_T193 l0 x5_1).f0) _ _ ((rd_T193 l0 x5_1).f1) ((rd_T193 l1 x5_1).f0) _ _ ((rd_T193 l1 x5_1).f1) true _ ?side1 ?side2 ?side3 ?side4 A7.out).mono ?_
        (case side1 => repeat (first | exact (Sq.a1 HR204_1.out HB.out) | (with_reducible refine Sq.s ?_ _) | (with_reducible refine Sq.t ?_ _) | (with_reducible refine Sq.u ?_)))
        (case side2 => exact HC204_1.out)
        (case side3 => repeat (first | exact (Sq.a1 HR205_1.out HB.out) | (with_reducible refine Sq.s ?_ _) | (with_reducible refine Sq.t ?_ _) | (with_reducible refine Sq.u ?_)))
        (case side4 => exact HC205_1.out)
        rintro e w10 ⟨rfl, hb⟩
        refine ⟨_, rfl, ?_⟩
        have n0_ := Sq.l (Sq.a4 (by repeat (first | (with_reducible first | exact HB.out | apply Sq.i | apply Sq.j | apply Sq.k) | exact HB.out)) hb)
        clear HB; have HB := n0_; clear n0_; (try clear hb); (try clear hb2); (try clear hk); (try clear hi)
        refine hK.out _ _ ⟨((HB.out.cell (World.block_lt_of_cell? w _ hw204_0)).trans hw204_0), ((HB.out.cell (World.block_lt_of_cell? w _ hw204_1)).trans hw204_1), ((HB.out.cell (World.block_lt_of_cell? w _ hw205_0)).trans hw205_0), ((HB.out.cell (World.block_lt_of_cell? w _ hw205_1)).trans hw205_1)⟩ (fun hHeld => ?_)
        clear hK K
        refine norm_ (a' := ?_) ?_ ?_
        rotate_left
        ·show Act.put _ (some 25) _ = _
         simp only [Act.put, List.setIfInBounds_toArray, List.set_cons_zero, List.set_cons_succ, i64_w, i32_w]
         rfl
        refine pure_ (i := 9) (N := some 26) (v := ?_) (a' := ?_) #[true, true, true, true, true, true, true, true, true, true] rfl rfl (any_of HT_.out (by kernel_rfl)) (fun _ _ _ h => h) (Or.inl ⟨by rfl, ?_⟩) ?_ ?_
        rotate_left
        ·intro w'
         go_simp
         with_reducible rfl
        rotate_left
        ·simp only [Act.put, List.setIfInBounds_toArray, List.set_cons_zero, List.set_cons_succ, i64_w, i32_w]
         rfl
        refine done_ (done_of HT_.out (by kernel_rfl)) ?_
        try go_wp2
        go_roundg k1
        case measure => have := HK1.out; omega
        case rel => exact ⟨(wrap64 (x5_1 + 1)), (by first | rfl | (simp; done) | (simp [*]; done)), H', ⟨by have := HK1.out; omega⟩, ⟨by repeat (first | (with_reducible first | exact HB.out | apply Sq.i | apply Sq.j | apply Sq.k) | exact HB.out)⟩⟩
       ·replace c8 := Bool.eq_false_iff.mpr c8
        subst c8
        rw [if_neg (show ¬ (false = true) by decide)] at H
        obtain rfl := Option.some.inj H
        try go_wp2
        have n0_ := Sq.l (Sq.k HB.out)
        clear HB; have HB := n0_; clear n0_
        have p204 : 0 ≤ (x5_1 : Int) := of_decide_eq_true (by first | (with_reducible assumption) | assumption)
        have q204 : x5_1 < (l0.length : Int) := of_decide_eq_true (by first | (with_reducible assumption) | assumption)
        obtain ⟨ad204, A204_1, c204_1, e204, hx204_0, hx204_1, hl204_1, hi204_1⟩ := at_T193 HR0.out x5_1 p204 q204
        have hw204_1 := hx204_1
        have hw204_0 := hx204_0
        cases e204
        replace hx204_0 := (HB.out.cell (World.block_lt_of_cell? w _ hx204_0)).trans hx204_0
        replace hx204_1 := (HB.out.cell (World.block_lt_of_cell? w _ hx204_1)).trans hx204_1
        have HR204_1 := Sq.l hi204_1
        have HC204_1 := Sq.l hl204_1
        clear hi204_1 hl204_1; replace p204 := eq_true p204; replace q204 := eq_true q204
        have p205 : 0 ≤ (x5_1 : Int) := of_decide_eq_true (by first | (with_reducible assumption) | assumption)
        have q205 : x5_1 < (l1.length : Int) := of_decide_eq_true (by first | (with_reducible assumption) | assumption)
        obtain ⟨ad205, A205_1, c205_1, e205, hx205_0, hx205_1, hl205_1, hi205_1⟩ := at_T193 HR1.out x5_1 p205 q205
        have hw205_1 := hx205_1
        have hw205_0 := hx205_0
        cases e205
        replace hx205_0 := (HB.out.cell (World.block_lt_of_cell? w _ hx205_0)).trans hx205_0
        replace hx205_1 := (HB.out.cell (World.block_lt_of_cell? w _ hx205_1)).trans hx205_1
        have HR205_1 := Sq.l hi205_1
        have HC205_1 := Sq.l hl205_1
        clear hi205_1 hl205_1; replace p205 := eq_true p205; replace q205 := eq_true q205
        refine start_ (n := 10) (S := fun w' => w'.cell? (ad204.add ((x5_1).toNat * 2)) = some (.string ((rd_T193 l0 x5_1).f0)) ∧ w'.cell? ⟨(ad204.add ((x5_1).toNat * 2)).block, (ad204.add ((x5_1).toNat * 2)).off + 1, none⟩ = some (.slice A204_1 ((rd_T193 l0 x5_1).f1).length c204_1) ∧ w'.cell? (ad205.add ((x5_1).toNat * 2)) = some (.string ((rd_T193 l1 x5_1).f0)) ∧ w'.cell? ⟨(ad205.add ((x5_1).toNat * 2)).block, (ad205.add ((x5_1).toNat * 2)).off + 1, none⟩ = some (.slice A205_1 ((rd_T193 l1 x5_1).f1).length c205_1)) (ds := []) #[false, false, false, false, false, false, false, false, false, false] (by kernel_rfl) rfl rfl ⟨((HB.out.cell (World.block_lt_of_cell? w _ hw204_0)).trans hw204_0), ((HB.out.cell (World.block_lt_of_cell? w _ hw204_1)).trans hw204_1), ((HB.out.cell (World.block_lt_of_cell? w _ hw205_0)).trans hw205_0), ((HB.out.cell (World.block_lt_of_cell? w _ hw205_1)).trans hw205_1)⟩ (fun hHeld => ?_); refine with_tabW laws_eqSnapS.tab6 laws_eqSnapS.bits6 (fun HT_ HW_ => ?_)
        generalize wr.drew = w11 at HB HR204_1 HR205_1 hx204_0 hx204_1 hx205_0 hx205_1 hHeld ⊢
        refine pure_ (i := 0) (N := some 17) (v := ?_) (a' := ?_) #[true, false, false, false, false, false, false, false, false, false] rfl rfl (any_of HT_.out (by kernel_rfl)) (fun _ _ _ h => h) (Or.inl ⟨by rfl, ?_⟩) ?_ ?_
        rotate_left
        ·intro w'
         go_simp
         with_reducible rfl
        rotate_left
        ·simp only [Act.put, List.setIfInBounds_toArray, List.set_cons_zero, List.set_cons_succ, i64_w, i32_w]
         rfl
        refine pure_ (i := 1) (N := some 18) (v := ?_) (a' := ?_) #[true, true, false, false, false, false, false, false, false, false] rfl rfl (any_of HT_.out (by kernel_rfl)) (fun _ _ _ h => h) (Or.inl ⟨by rfl, ?_⟩) ?_ ?_
        rotate_left
        ·intro w'
         go_simp
         with_reducible rfl
        rotate_left
        ·simp only [Act.put, List.setIfInBounds_toArray, List.set_cons_zero, List.set_cons_succ, i64_w, i32_w]
         rfl
        refine pure_ (i := 2) (N := some 19) (v := ?_) (a' := ?_) #[true, true, true, false, false, false, false, false, false, false] rfl rfl (any_of HT_.out (by kernel_rfl)) (fun _ _ _ h => h) (Or.inl ⟨by rfl, ?_⟩) ?_ ?_
        rotate_left
        ·intro w'
         go_simp
         with_reducible rfl
        rotate_left
        ·simp only [Act.put, List.setIfInBounds_toArray, List.set_cons_zero, List.set_cons_succ, i64_w, i32_w]
         rfl
        refine pure_ (i := 4) (N := some 21) (v := ?_) (a' := ?_) #[true, true, true, false, true, false, false, false, false, false] rfl rfl (any_of HT_.out (by kernel_rfl)) (fun _ _ _ h => h) (Or.inl ⟨by rfl, ?_⟩) ?_ ?_
        rotate_left
        ·intro w'
         go_simp
         with_reducible rfl
        rotate_left
        ·simp only [Act.put, List.setIfInBounds_toArray, List.set_cons_zero, List.set_cons_succ, i64_w, i32_w]
         rfl
        refine pure_ (i := 5) (N := some 22) (v := ?_) (a' := ?_) #[true, true, true, false, true, true, false, false, false, false] rfl rfl (any_of HT_.out (by kernel_rfl)) (fun _ _ _ h => h) (Or.inl ⟨by rfl, ?_⟩) ?_ ?_
        rotate_left
        ·intro w'
         go_simp
         with_reducible rfl
        rotate_left
        ·simp only [Act.put, List.setIfInBounds_toArray, List.set_cons_zero, List.set_cons_succ, i64_w, i32_w]
         rfl
        refine pure_ (i := 6) (N := some 23) (v := ?_) (a' := ?_) #[true, true, true, false, true, true, true, false, false, false] rfl rfl (any_of HT_.out (by kernel_rfl)) (fun _ _ _ h => h) (Or.inl ⟨by rfl, ?_⟩) ?_ ?_
        rotate_left
        ·intro w'
         go_simp
         with_reducible rfl
        rotate_left
        ·simp only [Act.put, List.setIfInBounds_toArray, List.set_cons_zero, List.set_cons_succ, i64_w, i32_w]
         rfl
        refine take_ (i := 3) (N := some 20) (v := ?_) (a' := ?_) #[true, true, true, true, true, true, true, false, false, false] rfl rfl (take_ofW HT_.out HW_.out (by kernel_rfl)) (fun _ _ _ h => h) (Or.inl ⟨by rfl, ?_⟩) hHeld ?_ ?_
        rotate_left
        ·rintro w' ⟨s0, s1, s2, s3⟩
         go_simp
         with_reducible rfl
        rotate_left
        ·simp only [Act.put, List.setIfInBounds_toArray, List.set_cons_zero, List.set_cons_succ, i64_w, i32_w]
         rfl
        refine take_ (i := 7) (N := some 24) (v := ?_) (a' := ?_) #[true, true, true, true, true, true, true, true, false, false] rfl rfl (take_ofW HT_.out HW_.out (by kernel_rfl)) (fun _ _ _ h => h) (Or.inl ⟨by rfl, ?_⟩) hHeld ?_ ?_
        rotate_left
        ·rintro w' ⟨s0, s1, s2, s3⟩
         go_simp
         with_reducible rfl
        rotate_left
        ·simp only [Act.put, List.setIfInBounds_toArray, List.set_cons_zero, List.set_cons_succ, i64_w, i32_w]
         rfl
        refine one_ (i := 8) (N := some 25) #[true, true, true, true, true, true, true, true, true, false] rfl rfl (one_of HT_.out (by kernel_rfl)) (by decide) (fun K hK => ?_)
        refine goes_ Try.func154 (by kernel_rfl) rfl #[.agg #[.string ((rd_T193 l0 x5_1).f0), .slice A204_1 ((rd_T193 l0 x5_1).f1).length c204_1], .agg #[.string ((rd_T193 l1 x5_1).f0), .slice A205_1 ((rd_T193 l1 x5_1).f1).length c205_1]] (by rfl) rfl rfl (by (try simp only [List.map_toArray, List.map_cons, List.map_nil]); first | done | rfl | (simp only [List.length_drop, List.length_take]; rfl)) ?_
        with_reducible refine (laws_eqSnap.calls k1 ((rd_T193 l0 x5_1).f0) _ _ ((rd_T193 l0 x5_1).f1) ((rd_T193 l1 x5_1).f0) _ _ ((rd_T193 l1 x5_1).f1) false _ ?side1 ?side2 ?side3 ?side4 A7.out).mono ?_
        (case side1 => repeat (first | exact (Sq.a1 HR204_1.out HB.out) | (with_reducible refine Sq.s ?_ _) | (with_reducible refine Sq.t ?_ _) | (with_reducible refine Sq.u ?_)))
        (case side2 => exact HC204_1.out)
        (case side3 => repeat (first | exact (Sq.a1 HR205_1.out HB.out) | (with_reducible refine Sq.s ?_ _) | (with_reducible refine Sq.t ?_ _) | (with_reducible refine Sq.u ?_)))
        (case side4 => exact HC205_1.out)
        rintro e w12 ⟨rfl, hb⟩
        refine ⟨_, rfl, ?_⟩
        have n0_ := Sq.l (Sq.a4 (by repeat (first | (with_reducible first | exact HB.out | apply Sq.i | apply Sq.j | apply Sq.k) | exact HB.out)) hb)
        clear HB; have HB := n0_; clear n0_; (try clear hb); (try clear hb2); (try clear hk); (try clear hi)
        refine hK.out _ _ ⟨((HB.out.cell (World.block_lt_of_cell? w _ hw204_0)).trans hw204_0), ((HB.out.cell (World.block_lt_of_cell? w _ hw204_1)).trans hw204_1), ((HB.out.cell (World.block_lt_of_cell? w _ hw205_0)).trans hw205_0), ((HB.out.cell (World.block_lt_of_cell? w _ hw205_1)).trans hw205_1)⟩ (fun hHeld => ?_)
        clear hK K
        refine norm_ (a' := ?_) ?_ ?_
        rotate_left
        ·show Act.put _ (some 25) _ = _
         simp only [Act.put, List.setIfInBounds_toArray, List.set_cons_zero, List.set_cons_succ, i64_w, i32_w]
         rfl
        refine pure_ (i := 9) (N := some 26) (v := ?_) (a' := ?_) #[true, true, true, true, true, true, true, true, true, true] rfl rfl (any_of HT_.out (by kernel_rfl)) (fun _ _ _ h => h) (Or.inl ⟨by rfl, ?_⟩) ?_ ?_
        rotate_left
        ·intro w'
         go_simp
         with_reducible rfl
        rotate_left
        ·simp only [Act.put, List.setIfInBounds_toArray, List.set_cons_zero, List.set_cons_succ, i64_w, i32_w]
         rfl
        refine done_ (done_of HT_.out (by kernel_rfl)) ?_
        try go_wp2
        go_ret
        exact ⟨by first | rfl | (simp [errW_none, errW_some] <;> rfl) | (simp [*, errW_none, errW_some] <;> rfl), by repeat (first | (with_reducible first | exact HB.out | apply Sq.i | apply Sq.j | apply Sq.k) | exact HB.out)⟩
      ·rw [if_neg c6] at H
       exact absurd H (by simp)
     ·rw [if_neg c5] at H
      exact absurd H (by simp)
    ·rw [if_neg c4] at H
     have c4b0 : decide (x5_1 < (l0.length : Int)) = false := decide_eq_false c4
     clear c4
     obtain rfl := Option.some.inj H
     go_wp2
     go_ret
     exact ⟨by first | rfl | (simp [errW_none, errW_some] <;> rfl) | (simp [*, errW_none, errW_some] <;> rfl), by repeat (first | (with_reducible first | exact HB.out | apply Sq.i | apply Sq.j | apply Sq.k) | exact HB.out)⟩
 ·rw [if_neg c3] at H
  have c3b0 : ((l0.length : Int) == (l1.length : Int)) = false := beq_eq_false_iff_ne.mpr c3
  have c3b1 : ((l0.length : Int) != (l1.length : Int)) = true := bne_iff_ne.mpr c3
  have c3b2 : (l0.length == l1.length) = false := by first | simpa using c3 | (simp at c3 ⊢; omega)
  obtain rfl := Option.some.inj H
  go_enter Try.func140, Try.ntmps140
  go_wp2
  go_ret
  exact ⟨by first | rfl | (simp [errW_none, errW_some] <;> rfl) | (simp [*, errW_none, errW_some] <;> rfl), by repeat (first | (with_reducible first | exact HB.out | apply Sq.i | apply Sq.j | apply Sq.k) | exact HB.out)⟩

/-! ### laws_eqImage: function 97 -/
def laws_eqImage.f (k : Nat) (a0_0 : ByteArray) (a0_1 : ByteArray) (l0_2 : List Int) (l0_3 : List ByteArray) (l0_4 : List (S193)) (a1_0 : ByteArray) (a1_1 : ByteArray) (l1_2 : List Int) (l1_3 : List ByteArray) (l1_4 : List (S193)) : Option (Bool) := if a0_0.toList = a1_0.toList then (if a0_1.toList = a1_1.toList then ((laws_eqInt64S.f k l0_2 l1_2).bind fun t209 => (if t209 = true then ((laws_eqStringS.f k l0_3 l1_3).bind fun t210 => (if t210 = true then ((laws_eqSnapS.f k l0_4 l1_4).bind fun t211 => (if t211 = true then (some true) else (some false))) else (some false))) else (some false))) else (some false)) else (some false)
theorem laws_eqImage.mono : ∀ a0 a1 a2 a3 a4 a5 a6 a7 a8 a9 k, LeO (laws_eqImage.f k a0 a1 a2 a3 a4 a5 a6 a7 a8 a9) (laws_eqImage.f (k + 1) a0 a1 a2 a3 a4 a5 a6 a7 a8 a9) := by
 intro a0 a1 a2 a3 a4 a5 a6 a7 a8 a9 k
 unfold laws_eqImage.f
 repeat' first
   | (with_reducible exact laws_eqInt64S.mono _ _ _)
   | (with_reducible exact laws_eqSnapS.mono _ _ _)
   | (with_reducible exact laws_eqStringS.mono _ _ _)
   | (with_reducible exact LeO.refl _)
   | (with_reducible exact LeO.none _)
   | (with_reducible refine LeO.ite ?_ ?_)
   | (with_reducible refine LeO.bind ?_ (fun _ => ?_))
   | exact laws_eqInt64S.mono _ _ _
   | exact laws_eqSnapS.mono _ _ _
   | exact laws_eqStringS.mono _ _ _
   | exact LeO.none _
   | refine LeO.ite ?_ ?_
   | refine LeO.bind ?_ (fun _ => ?_)
set_option maxHeartbeats 8000000 in
set_option maxRecDepth 100000 in
theorem laws_eqImage.calls (k : Nat) (a0_0 : ByteArray) (a0_1 : ByteArray) (A0_2 : Option Addr) (c0_2 : Nat) (l0_2 : List Int) (A0_3 : Option Addr) (c0_3 : Nat) (l0_3 : List ByteArray) (A0_4 : Option Addr) (c0_4 : Nat) (l0_4 : List (S193)) (a1_0 : ByteArray) (a1_1 : ByteArray) (A1_2 : Option Addr) (c1_2 : Nat) (l1_2 : List Int) (A1_3 : Option Addr) (c1_3 : Nat) (l1_3 : List ByteArray) (A1_4 : Option Addr) (c1_4 : Nat) (l1_4 : List (S193)) (r : Bool) (w : World) (hr0_2 : Kd.C (Kd.int .i64) w A0_2 l0_2.length l0_2) (hc0_2 : l0_2.length ≤ c0_2) (hr0_3 : Kd.C Kd.string w A0_3 l0_3.length l0_3) (hc0_3 : l0_3.length ≤ c0_3) (hr0_4 : Kd.C k193 w A0_4 l0_4.length l0_4) (hc0_4 : l0_4.length ≤ c0_4) (hr1_2 : Kd.C (Kd.int .i64) w A1_2 l1_2.length l1_2) (hc1_2 : l1_2.length ≤ c1_2) (hr1_3 : Kd.C Kd.string w A1_3 l1_3.length l1_3) (hc1_3 : l1_3.length ≤ c1_3) (hr1_4 : Kd.C k193 w A1_4 l1_4.length l1_4) (hc1_4 : l1_4.length ≤ c1_4) (h : laws_eqImage.f k a0_0 a0_1 l0_2 l0_3 l0_4 a1_0 a1_1 l1_2 l1_3 l1_4 = some r) :
  Calls Try.prog 97 #[.agg #[.string a0_0, .string a0_1, .slice A0_2 l0_2.length c0_2, .slice A0_3 l0_3.length c0_3, .slice A0_4 l0_4.length c0_4], .agg #[.string a1_0, .string a1_1, .slice A1_2 l1_2.length c1_2, .slice A1_3 l1_3.length c1_3, .slice A1_4 l1_4.length c1_4]] w fun e w' => e = .returned (.bool r) ∧ Below w.heap.size w w' := by
 have hu148 := Try.underlying148
 have HR0_2 := Sq.l hr0_2
 have HC0_2 := Sq.l hc0_2
 clear hr0_2 hc0_2
 have HR0_3 := Sq.l hr0_3
 have HC0_3 := Sq.l hc0_3
 clear hr0_3 hc0_3
 have HR0_4 := Sq.l hr0_4
 have HC0_4 := Sq.l hc0_4
 clear hr0_4 hc0_4
 have HR1_2 := Sq.l hr1_2
 have HC1_2 := Sq.l hc1_2
 clear hr1_2 hc1_2
 have HR1_3 := Sq.l hr1_3
 have HC1_3 := Sq.l hc1_3
 clear hr1_3 hc1_3
 have HR1_4 := Sq.l hr1_4
 have HC1_4 := Sq.l hc1_4
 clear hr1_4 hc1_4
 have HB := Sq.l (Below.refl w.heap.size w)
 have H : (if a0_0.toList = a1_0.toList then (if a0_1.toList = a1_1.toList then ((laws_eqInt64S.f k l0_2 l1_2).bind fun t209 => (if t209 = true then ((laws_eqStringS.f k l0_3 l1_3).bind fun t210 => (if t210 = true then ((laws_eqSnapS.f k l0_4 l1_4).bind fun t211 => (if t211 = true then (some true) else (some false))) else (some false))) else (some false))) else (some false)) else (some false)) = some r := h
 clear h
 by_cases c3 : a0_0.toList = a1_0.toList
 ·rw [if_pos c3] at H
  have c3b0 : (a0_0.toList == a1_0.toList) = true := beq_iff_eq.mpr c3
  have c3b1 : (a0_0.toList != a1_0.toList) = false := bne_eq_false_iff_eq.mpr c3
  clear c3
  by_cases c4 : a0_1.toList = a1_1.toList
  ·rw [if_pos c4] at H
   have c4b0 : (a0_1.toList == a1_1.toList) = true := beq_iff_eq.mpr c4
   have c4b1 : (a0_1.toList != a1_1.toList) = false := bne_eq_false_iff_eq.mpr c4
   clear c4
   replace H := Option.bind_eq_some_iff.mp H
   obtain ⟨t209, A50, H⟩ := H
   (try dsimp only at H)
   have A5 := Sq.l A50
   clear A50
   by_cases c6 : t209 = true
   ·subst c6
    rw [if_pos rfl] at H
    replace H := Option.bind_eq_some_iff.mp H
    obtain ⟨t210, A70, H⟩ := H
    (try dsimp only at H)
    have A7 := Sq.l A70
    clear A70
    by_cases c8 : t210 = true
    ·subst c8
     rw [if_pos rfl] at H
     replace H := Option.bind_eq_some_iff.mp H
     obtain ⟨t211, A90, H⟩ := H
     (try dsimp only at H)
     have A9 := Sq.l A90
     clear A90
     by_cases c10 : t211 = true
     ·subst c10
      rw [if_pos rfl] at H
      obtain rfl := Option.some.inj H
      go_enter Try.func97, Try.ntmps97
      go_wp2_with (first | ((with_reducible refine gate_dst (N := 2) rfl ?_); refine box_event ?hg (N := 2) ?hd (cs := #[.string a0_0, .string a0_1, .slice A0_2 l0_2.length c0_2, .slice A0_3 l0_3.length c0_3, .slice A0_4 l0_4.length c0_4]) (t := 148) ?hr ?_; (case hd => rfl); (case hg => rfl); (case hr => first | (go_simp; done) | (go_simp; rfl)); intro gb207 hg w11 hbox hb; have n0_ := Sq.l (Sq.a4 (by repeat (first | (with_reducible first | exact HB.out | apply Sq.i | apply Sq.j | apply Sq.k) | exact HB.out)) hb); have n1_ := Sq.l (hbox); have n2_ := Sq.l ((by rw [hg]; exact (Sq.a5 (by repeat (first | (with_reducible first | exact HB.out | apply Sq.i | apply Sq.j | apply Sq.k) | exact HB.out))) : w.heap.size ≤ gb207)); have n3_ := Sq.l ((by rw [hg]; exact (Sq.a5 (by repeat (first | (with_reducible first | exact HB.out | apply Sq.i | apply Sq.j | apply Sq.k) | exact HB.out))) : w.heap.size ≤ gb207)); clear HB; have HB := n0_; have BK207 := n1_; have GW207 := n2_; have GE207 := n3_; clear n0_ n1_ n2_ n3_; clear hb hbox hg) | ((with_reducible refine gate_dst (N := 3) rfl ?_); refine box_event ?hg (N := 3) ?hd (cs := #[.string a1_0, .string a1_1, .slice A1_2 l1_2.length c1_2, .slice A1_3 l1_3.length c1_3, .slice A1_4 l1_4.length c1_4]) (t := 148) ?hr ?_; (case hd => rfl); (case hg => rfl); (case hr => first | (go_simp; done) | (go_simp; rfl)); intro gb208 hg w12 hbox hb; have n0_ := Sq.l (Sq.m (g := gb207) (o := .cells #[.string a0_0, .string a0_1, .slice A0_2 l0_2.length c0_2, .slice A0_3 l0_3.length c0_3, .slice A0_4 l0_4.length c0_4] 148 (0, 0)) (by (with_reducible repeat (first | refine Sq.d ?_ _ | refine Sq.e ?_ | refine Sq.f ?_ _)); exact BK207.out) hb); have n1_ := Sq.l (Sq.a4 (by repeat (first | (with_reducible first | exact HB.out | apply Sq.i | apply Sq.j | apply Sq.k | refine Sq.h ?_ GE207.out) | exact HB.out)) hb); have n2_ := Sq.l (hbox); have n3_ := Sq.l ((by rw [hg]; exact (Sq.a5 (by repeat (first | (with_reducible first | exact HB.out | apply Sq.i | apply Sq.j | apply Sq.k | refine Sq.h ?_ GE207.out) | exact HB.out))) : w.heap.size ≤ gb208)); have n4_ := Sq.l ((by rw [hg]; exact (Sq.a5 (by repeat (first | (with_reducible first | exact HB.out | apply Sq.i | apply Sq.j | apply Sq.k | refine Sq.h ?_ GE207.out) | exact HB.out))) : w.heap.size ≤ gb208)); have n5_ := Sq.l ((by rw [hg]; exact Nat.ne_of_lt (blk_lt (g := gb207) (o := .cells #[.string a0_0, .string a0_1, .slice A0_2 l0_2.length c0_2, .slice A0_3 l0_3.length c0_3, .slice A0_4 l0_4.length c0_4] 148 (0, 0)) (by (with_reducible repeat (first | refine Sq.d ?_ _ | refine Sq.e ?_ | refine Sq.f ?_ _)); exact BK207.out)) : gb207 ≠ gb208)); have n6_ := Sq.l ((by rw [hg]; exact Nat.ne_of_gt (blk_lt (g := gb207) (o := .cells #[.string a0_0, .string a0_1, .slice A0_2 l0_2.length c0_2, .slice A0_3 l0_3.length c0_3, .slice A0_4 l0_4.length c0_4] 148 (0, 0)) (by (with_reducible repeat (first | refine Sq.d ?_ _ | refine Sq.e ?_ | refine Sq.f ?_ _)); exact BK207.out)) : gb208 ≠ gb207)); clear BK207; clear HB; have BK207 := n0_; have HB := n1_; have BK208 := n2_; have GW208 := n3_; have GE208 := n4_; have NB207_208 := n5_; have NB208_207 := n6_; clear n0_ n1_ n2_ n3_ n4_ n5_ n6_; clear hb hbox hg; have hnb13 := NB207_208.out; have hnc13 := NB208_207.out; have hcz14_0 : w12.cell? ⟨gb207, 0, none⟩ = some (.string a0_0) := (Sq.o BK207.out 0).trans rfl; have hcz14_1 : w12.cell? ⟨gb207, 1, none⟩ = some (.string a0_1) := (Sq.o BK207.out 1).trans rfl; have hcz14_2 : w12.cell? ⟨gb207, 2, none⟩ = some (.slice A0_2 l0_2.length c0_2) := (Sq.o BK207.out 2).trans rfl; have hcz14_3 : w12.cell? ⟨gb207, 3, none⟩ = some (.slice A0_3 l0_3.length c0_3) := (Sq.o BK207.out 3).trans rfl; have hcz14_4 : w12.cell? ⟨gb207, 4, none⟩ = some (.slice A0_4 l0_4.length c0_4) := (Sq.o BK207.out 4).trans rfl; have hfz14_0 := Sq.r BK207.out 0; have hfz14_1 := Sq.r BK207.out 1; have hfz14_2 := Sq.r BK207.out 2; have hfz14_3 := Sq.r BK207.out 3; have hfz14_4 := Sq.r BK207.out 4; have hcz15_0 : w12.cell? ⟨gb208, 0, none⟩ = some (.string a1_0) := (Sq.o BK208.out 0).trans rfl; have hcz15_1 : w12.cell? ⟨gb208, 1, none⟩ = some (.string a1_1) := (Sq.o BK208.out 1).trans rfl; have hcz15_2 : w12.cell? ⟨gb208, 2, none⟩ = some (.slice A1_2 l1_2.length c1_2) := (Sq.o BK208.out 2).trans rfl; have hcz15_3 : w12.cell? ⟨gb208, 3, none⟩ = some (.slice A1_3 l1_3.length c1_3) := (Sq.o BK208.out 3).trans rfl; have hcz15_4 : w12.cell? ⟨gb208, 4, none⟩ = some (.slice A1_4 l1_4.length c1_4) := (Sq.o BK208.out 4).trans rfl; have hfz15_0 := Sq.r BK208.out 0; have hfz15_1 := Sq.r BK208.out 1; have hfz15_2 := Sq.r BK208.out 2; have hfz15_3 := Sq.r BK208.out 3; have hfz15_4 := Sq.r BK208.out 4) | ((with_reducible refine gate_callee (f := 25) rfl ?_); refine goesL_ (some 19) rfl rfl Try.func25 (by kernel_rfl) rfl #[.slice A0_2 l0_2.length c0_2, .slice A1_2 l1_2.length c1_2] rfl (by (try simp only [List.map_toArray, List.map_cons, List.map_nil]); first | done | rfl | (simp only [List.length_drop, List.length_take]; rfl)) ?_; (with_reducible refine (laws_eqInt64S.calls k _ _ l0_2 _ _ l1_2 true _ ?side1 ?side2 ?side3 ?side4 A5.out).mono ?_); (case side1 => repeat (first | exact (Sq.a1 HR0_2.out HB.out) | (with_reducible refine Sq.s ?_ _) | (with_reducible refine Sq.t ?_ _) | (with_reducible refine Sq.u ?_))); (case side2 => exact HC0_2.out); (case side3 => repeat (first | exact (Sq.a1 HR1_2.out HB.out) | (with_reducible refine Sq.s ?_ _) | (with_reducible refine Sq.t ?_ _) | (with_reducible refine Sq.u ?_))); (case side4 => exact HC1_2.out); rintro e w' ⟨rfl, ⟨nd, rfl⟩⟩; refine ⟨_, rfl, ?_⟩) | ((with_reducible refine gate_callee (f := 53) rfl ?_); refine goesL_ (some 25) rfl rfl Try.func53 (by kernel_rfl) rfl #[.slice A0_3 l0_3.length c0_3, .slice A1_3 l1_3.length c1_3] rfl (by (try simp only [List.map_toArray, List.map_cons, List.map_nil]); first | done | rfl | (simp only [List.length_drop, List.length_take]; rfl)) ?_; (with_reducible refine (laws_eqStringS.calls k _ _ l0_3 _ _ l1_3 true _ ?side1 ?side2 ?side3 ?side4 A7.out).mono ?_); (case side1 => repeat (first | exact (Sq.a1 HR0_3.out (by repeat (first | (with_reducible first | exact HB.out | apply Sq.i | apply Sq.j | apply Sq.k | refine Sq.h ?_ GE207.out | refine Sq.h ?_ GE208.out) | exact HB.out))) | (with_reducible refine Sq.s ?_ _) | (with_reducible refine Sq.t ?_ _) | (with_reducible refine Sq.u ?_))); (case side2 => exact HC0_3.out); (case side3 => repeat (first | exact (Sq.a1 HR1_3.out (by repeat (first | (with_reducible first | exact HB.out | apply Sq.i | apply Sq.j | apply Sq.k | refine Sq.h ?_ GE207.out | refine Sq.h ?_ GE208.out) | exact HB.out))) | (with_reducible refine Sq.s ?_ _) | (with_reducible refine Sq.t ?_ _) | (with_reducible refine Sq.u ?_))); (case side4 => exact HC1_3.out); rintro e w' ⟨rfl, ⟨nd, rfl⟩⟩; refine ⟨_, rfl, ?_⟩) | ((with_reducible refine gate_callee (f := 140) rfl ?_); refine goesL_ (some 31) rfl rfl Try.func140 (by kernel_rfl) rfl #[.slice A0_4 l0_4.length c0_4, .slice A1_4 l1_4.length c1_4] rfl (by (try simp only [List.map_toArray, List.map_cons, List.map_nil]); first | done | rfl | (simp only [List.length_drop, List.length_take]; rfl)) ?_; (with_reducible refine (laws_eqSnapS.calls k _ _ l0_4 _ _ l1_4 true _ ?side1 ?side2 ?side3 ?side4 A9.out).mono ?_); (case side1 => repeat (first | exact (Sq.a1 HR0_4.out (by repeat (first | (with_reducible first | exact HB.out | apply Sq.i | apply Sq.j | apply Sq.k | refine Sq.h ?_ GE207.out | refine Sq.h ?_ GE208.out) | exact HB.out))) | (with_reducible refine Sq.s ?_ _) | (with_reducible refine Sq.t ?_ _) | (with_reducible refine Sq.u ?_))); (case side2 => exact HC0_4.out); (case side3 => repeat (first | exact (Sq.a1 HR1_4.out (by repeat (first | (with_reducible first | exact HB.out | apply Sq.i | apply Sq.j | apply Sq.k | refine Sq.h ?_ GE207.out | refine Sq.h ?_ GE208.out) | exact HB.out))) | (with_reducible refine Sq.s ?_ _) | (with_reducible refine Sq.t ?_ _) | (with_reducible refine Sq.u ?_))); (case side4 => exact HC1_4.out); rintro e w16 ⟨rfl, hb⟩; refine ⟨_, rfl, ?_⟩; have n0_ := Sq.l (Sq.m (g := gb207) (o := .cells #[.string a0_0, .string a0_1, .slice A0_2 l0_2.length c0_2, .slice A0_3 l0_3.length c0_3, .slice A0_4 l0_4.length c0_4] 148 (0, 0)) (by (with_reducible repeat (first | refine Sq.d ?_ _ | refine Sq.e ?_ | refine Sq.f ?_ _)); exact BK207.out) hb); have n1_ := Sq.l (Sq.m (g := gb208) (o := .cells #[.string a1_0, .string a1_1, .slice A1_2 l1_2.length c1_2, .slice A1_3 l1_3.length c1_3, .slice A1_4 l1_4.length c1_4] 148 (0, 0)) (by (with_reducible repeat (first | refine Sq.d ?_ _ | refine Sq.e ?_ | refine Sq.f ?_ _)); exact BK208.out) hb); have n2_ := Sq.l (Sq.a4 (by repeat (first | (with_reducible first | exact HB.out | apply Sq.i | apply Sq.j | apply Sq.k | refine Sq.h ?_ GE207.out | refine Sq.h ?_ GE208.out) | exact HB.out)) hb); clear BK207; clear BK208; clear HB; have BK207 := n0_; have BK208 := n1_; have HB := n2_; clear n0_ n1_ n2_; (try clear hb); (try clear hb2); (try clear hk); (try clear hi)))
      go_ret
      exact ⟨by first | rfl | (simp [errW_none, errW_some] <;> rfl) | (simp [*, errW_none, errW_some] <;> rfl), by repeat (first | (with_reducible first | exact HB.out | apply Sq.i | apply Sq.j | apply Sq.k | refine Sq.h ?_ GE207.out | refine Sq.h ?_ GE208.out) | exact HB.out)⟩
     ·replace c10 := Bool.eq_false_iff.mpr c10
      subst c10
      rw [if_neg (show ¬ (false = true) by decide)] at H
      obtain rfl := Option.some.inj H
      go_enter Try.func97, Try.ntmps97
      go_wp2_with (first | ((with_reducible refine gate_dst (N := 2) rfl ?_); refine box_event ?hg (N := 2) ?hd (cs := #[.string a0_0, .string a0_1, .slice A0_2 l0_2.length c0_2, .slice A0_3 l0_3.length c0_3, .slice A0_4 l0_4.length c0_4]) (t := 148) ?hr ?_; (case hd => rfl); (case hg => rfl); (case hr => first | (go_simp; done) | (go_simp; rfl)); intro gb207 hg w17 hbox hb; have n0_ := Sq.l (Sq.a4 (by repeat (first | (with_reducible first | exact HB.out | apply Sq.i | apply Sq.j | apply Sq.k) | exact HB.out)) hb); have n1_ := Sq.l (hbox); have n2_ := Sq.l ((by rw [hg]; exact (Sq.a5 (by repeat (first | (with_reducible first | exact HB.out | apply Sq.i | apply Sq.j | apply Sq.k) | exact HB.out))) : w.heap.size ≤ gb207)); have n3_ := Sq.l ((by rw [hg]; exact (Sq.a5 (by repeat (first | (with_reducible first | exact HB.out | apply Sq.i | apply Sq.j | apply Sq.k) | exact HB.out))) : w.heap.size ≤ gb207)); clear HB; have HB := n0_; have BK207 := n1_; have GW207 := n2_; have GE207 := n3_; clear n0_ n1_ n2_ n3_; clear hb hbox hg) | ((with_reducible refine gate_dst (N := 3) rfl ?_); refine box_event ?hg (N := 3) ?hd (cs := #[.string a1_0, .string a1_1, .slice A1_2 l1_2.length c1_2, .slice A1_3 l1_3.length c1_3, .slice A1_4 l1_4.length c1_4]) (t := 148) ?hr ?_; (case hd => rfl); (case hg => rfl); (case hr => first | (go_simp; done) | (go_simp; rfl)); intro gb208 hg w18 hbox hb; have n0_ := Sq.l (Sq.m (g := gb207) (o := .cells #[.string a0_0, .string a0_1, .slice A0_2 l0_2.length c0_2, .slice A0_3 l0_3.length c0_3, .slice A0_4 l0_4.length c0_4] 148 (0, 0)) (by (with_reducible repeat (first | refine Sq.d ?_ _ | refine Sq.e ?_ | refine Sq.f ?_ _)); exact BK207.out) hb); have n1_ := Sq.l (Sq.a4 (by repeat (first | (with_reducible first | exact HB.out | apply Sq.i | apply Sq.j | apply Sq.k | refine Sq.h ?_ GE207.out) | exact HB.out)) hb); have n2_ := Sq.l (hbox); have n3_ := Sq.l ((by rw [hg]; exact (Sq.a5 (by repeat (first | (with_reducible first | exact HB.out | apply Sq.i | apply Sq.j | apply Sq.k | refine Sq.h ?_ GE207.out) | exact HB.out))) : w.heap.size ≤ gb208)); have n4_ := Sq.l ((by rw [hg]; exact (Sq.a5 (by repeat (first | (with_reducible first | exact HB.out | apply Sq.i | apply Sq.j | apply Sq.k | refine Sq.h ?_ GE207.out) | exact HB.out))) : w.heap.size ≤ gb208)); have n5_ := Sq.l ((by rw [hg]; exact Nat.ne_of_lt (blk_lt (g := gb207) (o := .cells #[.string a0_0, .string a0_1, .slice A0_2 l0_2.length c0_2, .slice A0_3 l0_3.length c0_3, .slice A0_4 l0_4.length c0_4] 148 (0, 0)) (by (with_reducible repeat (first | refine Sq.d ?_ _ | refine Sq.e ?_ | refine Sq.f ?_ _)); exact BK207.out)) : gb207 ≠ gb208)); have n6_ := Sq.l ((by rw [hg]; exact Nat.ne_of_gt (blk_lt (g := gb207) (o := .cells #[.string a0_0, .string a0_1, .slice A0_2 l0_2.length c0_2, .slice A0_3 l0_3.length c0_3, .slice A0_4 l0_4.length c0_4] 148 (0, 0)) (by (with_reducible repeat (first | refine Sq.d ?_ _ | refine Sq.e ?_ | refine Sq.f ?_ _)); exact BK207.out)) : gb208 ≠ gb207)); clear BK207; clear HB; have BK207 := n0_; have HB := n1_; have BK208 := n2_; have GW208 := n3_; have GE208 := n4_; have NB207_208 := n5_; have NB208_207 := n6_; clear n0_ n1_ n2_ n3_ n4_ n5_ n6_; clear hb hbox hg; have hnb19 := NB207_208.out; have hnc19 := NB208_207.out; have hcz20_0 : w18.cell? ⟨gb207, 0, none⟩ = some (.string a0_0) := (Sq.o BK207.out 0).trans rfl; have hcz20_1 : w18.cell? ⟨gb207, 1, none⟩ = some (.string a0_1) := (Sq.o BK207.out 1).trans rfl; have hcz20_2 : w18.cell? ⟨gb207, 2, none⟩ = some (.slice A0_2 l0_2.length c0_2) := (Sq.o BK207.out 2).trans rfl; have hcz20_3 : w18.cell? ⟨gb207, 3, none⟩ = some (.slice A0_3 l0_3.length c0_3) := (Sq.o BK207.out 3).trans rfl; have hcz20_4 : w18.cell? ⟨gb207, 4, none⟩ = some (.slice A0_4 l0_4.length c0_4) := (Sq.o BK207.out 4).trans rfl; have hfz20_0 := Sq.r BK207.out 0; have hfz20_1 := Sq.r BK207.out 1; have hfz20_2 := Sq.r BK207.out 2; have hfz20_3 := Sq.r BK207.out 3; have hfz20_4 := Sq.r BK207.out 4; have hcz21_0 : w18.cell? ⟨gb208, 0, none⟩ = some (.string a1_0) := (Sq.o BK208.out 0).trans rfl; have hcz21_1 : w18.cell? ⟨gb208, 1, none⟩ = some (.string a1_1) := (Sq.o BK208.out 1).trans rfl; have hcz21_2 : w18.cell? ⟨gb208, 2, none⟩ = some (.slice A1_2 l1_2.length c1_2) := (Sq.o BK208.out 2).trans rfl; have hcz21_3 : w18.cell? ⟨gb208, 3, none⟩ = some (.slice A1_3 l1_3.length c1_3) := (Sq.o BK208.out 3).trans rfl; have hcz21_4 : w18.cell? ⟨gb208, 4, none⟩ = some (.slice A1_4 l1_4.length c1_4) := (Sq.o BK208.out 4).trans rfl; have hfz21_0 := Sq.r BK208.out 0; have hfz21_1 := Sq.r BK208.out 1; have hfz21_2 := Sq.r BK208.out 2; have hfz21_3 := Sq.r BK208.out 3; have hfz21_4 := Sq.r BK208.out 4) | ((with_reducible refine gate_callee (f := 25) rfl ?_); refine goesL_ (some 19) rfl rfl Try.func25 (by kernel_rfl) rfl #[.slice A0_2 l0_2.length c0_2, .slice A1_2 l1_2.length c1_2] rfl (by (try simp only [List.map_toArray, List.map_cons, List.map_nil]); first | done | rfl | (simp only [List.length_drop, List.length_take]; rfl)) ?_; (with_reducible refine (laws_eqInt64S.calls k _ _ l0_2 _ _ l1_2 true _ ?side1 ?side2 ?side3 ?side4 A5.out).mono ?_); (case side1 => repeat (first | exact (Sq.a1 HR0_2.out HB.out) | (with_reducible refine Sq.s ?_ _) | (with_reducible refine Sq.t ?_ _) | (with_reducible refine Sq.u ?_))); (case side2 => exact HC0_2.out); (case side3 => repeat (first | exact (Sq.a1 HR1_2.out HB.out) | (with_reducible refine Sq.s ?_ _) | (with_reducible refine Sq.t ?_ _) | (with_reducible refine Sq.u ?_))); (case side4 => exact HC1_2.out); rintro e w' ⟨rfl, ⟨nd, rfl⟩⟩; refine ⟨_, rfl, ?_⟩) | ((with_reducible refine gate_callee (f := 53) rfl ?_); refine goesL_ (some 25) rfl rfl Try.func53 (by kernel_rfl) rfl #[.slice A0_3 l0_3.length c0_3, .slice A1_3 l1_3.length c1_3] rfl (by (try simp only [List.map_toArray, List.map_cons, List.map_nil]); first | done | rfl | (simp only [List.length_drop, List.length_take]; rfl)) ?_; (with_reducible refine (laws_eqStringS.calls k _ _ l0_3 _ _ l1_3 true _ ?side1 ?side2 ?side3 ?side4 A7.out).mono ?_); (case side1 => repeat (first | exact (Sq.a1 HR0_3.out (by repeat (first | (with_reducible first | exact HB.out | apply Sq.i | apply Sq.j | apply Sq.k | refine Sq.h ?_ GE207.out | refine Sq.h ?_ GE208.out) | exact HB.out))) | (with_reducible refine Sq.s ?_ _) | (with_reducible refine Sq.t ?_ _) | (with_reducible refine Sq.u ?_))); (case side2 => exact HC0_3.out); (case side3 => repeat (first | exact (Sq.a1 HR1_3.out (by repeat (first | (with_reducible first | exact HB.out | apply Sq.i | apply Sq.j | apply Sq.k | refine Sq.h ?_ GE207.out | refine Sq.h ?_ GE208.out) | exact HB.out))) | (with_reducible refine Sq.s ?_ _) | (with_reducible refine Sq.t ?_ _) | (with_reducible refine Sq.u ?_))); (case side4 => exact HC1_3.out); rintro e w' ⟨rfl, ⟨nd, rfl⟩⟩; refine ⟨_, rfl, ?_⟩) | ((with_reducible refine gate_callee (f := 140) rfl ?_); refine goesL_ (some 31) rfl rfl Try.func140 (by kernel_rfl) rfl #[.slice A0_4 l0_4.length c0_4, .slice A1_4 l1_4.length c1_4] rfl (by (try simp only [List.map_toArray, List.map_cons, List.map_nil]); first | done | rfl | (simp only [List.length_drop, List.length_take]; rfl)) ?_; (with_reducible refine (laws_eqSnapS.calls k _ _ l0_4 _ _ l1_4 false _ ?side1 ?side2 ?side3 ?side4 A9.out).mono ?_); (case side1 => repeat (first | exact (Sq.a1 HR0_4.out (by repeat (first | (with_reducible first | exact HB.out | apply Sq.i | apply Sq.j | apply Sq.k | refine Sq.h ?_ GE207.out | refine Sq.h ?_ GE208.out) | exact HB.out))) | (with_reducible refine Sq.s ?_ _) | (with_reducible refine Sq.t ?_ _) | (with_reducible refine Sq.u ?_))); (case side2 => exact HC0_4.out); (case side3 => repeat (first | exact (Sq.a1 HR1_4.out (by repeat (first | (with_reducible first | exact HB.out | apply Sq.i | apply Sq.j | apply Sq.k | refine Sq.h ?_ GE207.out | refine Sq.h ?_ GE208.out) | exact HB.out))) | (with_reducible refine Sq.s ?_ _) | (with_reducible refine Sq.t ?_ _) | (with_reducible refine Sq.u ?_))); (case side4 => exact HC1_4.out); rintro e w22 ⟨rfl, hb⟩; refine ⟨_, rfl, ?_⟩; have n0_ := Sq.l (Sq.m (g := gb207) (o := .cells #[.string a0_0, .string a0_1, .slice A0_2 l0_2.length c0_2, .slice A0_3 l0_3.length c0_3, .slice A0_4 l0_4.length c0_4] 148 (0, 0)) (by (with_reducible repeat (first | refine Sq.d ?_ _ | refine Sq.e ?_ | refine Sq.f ?_ _)); exact BK207.out) hb); have n1_ := Sq.l (Sq.m (g := gb208) (o := .cells #[.string a1_0, .string a1_1, .slice A1_2 l1_2.length c1_2, .slice A1_3 l1_3.length c1_3, .slice A1_4 l1_4.length c1_4] 148 (0, 0)) (by (with_reducible repeat (first | refine Sq.d ?_ _ | refine Sq.e ?_ | refine Sq.f ?_ _)); exact BK208.out) hb); have n2_ := Sq.l (Sq.a4 (by repeat (first | (with_reducible first | exact HB.out | apply Sq.i | apply Sq.j | apply Sq.k | refine Sq.h ?_ GE207.out | refine Sq.h ?_ GE208.out) | exact HB.out)) hb); clear BK207; clear BK208; clear HB; have BK207 := n0_; have BK208 := n1_; have HB := n2_; clear n0_ n1_ n2_; (try clear hb); (try clear hb2); (try clear hk); (try clear hi)))
      go_ret
      exact ⟨by first | rfl | (simp [errW_none, errW_some] <;> rfl) | (simp [*, errW_none, errW_some] <;> rfl), by repeat (first | (with_reducible first | exact HB.out | apply Sq.i | apply Sq.j | apply Sq.k | refine Sq.h ?_ GE207.out | refine Sq.h ?_ GE208.out) | exact HB.out)⟩
    ·replace c8 := Bool.eq_false_iff.mpr c8
     subst c8
     rw [if_neg (show ¬ (false = true) by decide)] at H
     obtain rfl := Option.some.inj H
     go_enter Try.func97, Try.ntmps97
     go_wp2_with (first | ((with_reducible refine gate_dst (N := 2) rfl ?_); refine box_event ?hg (N := 2) ?hd (cs := #[.string a0_0, .string a0_1, .slice A0_2 l0_2.length c0_2, .slice A0_3 l0_3.length c0_3, .slice A0_4 l0_4.length c0_4]) (t := 148) ?hr ?_; (case hd => rfl); (case hg => rfl); (case hr => first | (go_simp; done) | (go_simp; rfl)); intro gb207 hg w23 hbox hb; have n0_ := Sq.l (Sq.a4 (by repeat (first | (with_reducible first | exact HB.out | apply Sq.i | apply Sq.j | apply Sq.k) | exact HB.out)) hb); have n1_ := Sq.l (hbox); have n2_ := Sq.l ((by rw [hg]; exact (Sq.a5 (by repeat (first | (with_reducible first | exact HB.out | apply Sq.i | apply Sq.j | apply Sq.k) | exact HB.out))) : w.heap.size ≤ gb207)); have n3_ := Sq.l ((by rw [hg]; exact (Sq.a5 (by repeat (first | (with_reducible first | exact HB.out | apply Sq.i | apply Sq.j | apply Sq.k) | exact HB.out))) : w.heap.size ≤ gb207)); clear HB; have HB := n0_; have BK207 := n1_; have GW207 := n2_; have GE207 := n3_; clear n0_ n1_ n2_ n3_; clear hb hbox hg) | ((with_reducible refine gate_dst (N := 3) rfl ?_); refine box_event ?hg (N := 3) ?hd (cs := #[.string a1_0, .string a1_1, .slice A1_2 l1_2.length c1_2, .slice A1_3 l1_3.length c1_3, .slice A1_4 l1_4.length c1_4]) (t := 148) ?hr ?_; (case hd => rfl); (case hg => rfl); (case hr => first | (go_simp; done) | (go_simp; rfl)); intro gb208 hg w24 hbox hb; have n0_ := Sq.l (Sq.m (g := gb207) (o := .cells #[.string a0_0, .string a0_1, .slice A0_2 l0_2.length c0_2, .slice A0_3 l0_3.length c0_3, .slice A0_4 l0_4.length c0_4] 148 (0, 0)) (by (with_reducible repeat (first | refine Sq.d ?_ _ | refine Sq.e ?_ | refine Sq.f ?_ _)); exact BK207.out) hb); have n1_ := Sq.l (Sq.a4 (by repeat (first | (with_reducible first | exact HB.out | apply Sq.i | apply Sq.j | apply Sq.k | refine Sq.h ?_ GE207.out) | exact HB.out)) hb); have n2_ := Sq.l (hbox); have n3_ := Sq.l ((by rw [hg]; exact (Sq.a5 (by repeat (first | (with_reducible first | exact HB.out | apply Sq.i | apply Sq.j | apply Sq.k | refine Sq.h ?_ GE207.out) | exact HB.out))) : w.heap.size ≤ gb208)); have n4_ := Sq.l ((by rw [hg]; exact (Sq.a5 (by repeat (first | (with_reducible first | exact HB.out | apply Sq.i | apply Sq.j | apply Sq.k | refine Sq.h ?_ GE207.out) | exact HB.out))) : w.heap.size ≤ gb208)); have n5_ := Sq.l ((by rw [hg]; exact Nat.ne_of_lt (blk_lt (g := gb207) (o := .cells #[.string a0_0, .string a0_1, .slice A0_2 l0_2.length c0_2, .slice A0_3 l0_3.length c0_3, .slice A0_4 l0_4.length c0_4] 148 (0, 0)) (by (with_reducible repeat (first | refine Sq.d ?_ _ | refine Sq.e ?_ | refine Sq.f ?_ _)); exact BK207.out)) : gb207 ≠ gb208)); have n6_ := Sq.l ((by rw [hg]; exact Nat.ne_of_gt (blk_lt (g := gb207) (o := .cells #[.string a0_0, .string a0_1, .slice A0_2 l0_2.length c0_2, .slice A0_3 l0_3.length c0_3, .slice A0_4 l0_4.length c0_4] 148 (0, 0)) (by (with_reducible repeat (first | refine Sq.d ?_ _ | refine Sq.e ?_ | refine Sq.f ?_ _)); exact BK207.out)) : gb208 ≠ gb207)); clear BK207; clear HB; have BK207 := n0_; have HB := n1_; have BK208 := n2_; have GW208 := n3_; have GE208 := n4_; have NB207_208 := n5_; have NB208_207 := n6_; clear n0_ n1_ n2_ n3_ n4_ n5_ n6_; clear hb hbox hg; have hnb25 := NB207_208.out; have hnc25 := NB208_207.out; have hcz26_0 : w24.cell? ⟨gb207, 0, none⟩ = some (.string a0_0) := (Sq.o BK207.out 0).trans rfl; have hcz26_1 : w24.cell? ⟨gb207, 1, none⟩ = some (.string a0_1) := (Sq.o BK207.out 1).trans rfl; have hcz26_2 : w24.cell? ⟨gb207, 2, none⟩ = some (.slice A0_2 l0_2.length c0_2) := (Sq.o BK207.out 2).trans rfl; have hcz26_3 : w24.cell? ⟨gb207, 3, none⟩ = some (.slice A0_3 l0_3.length c0_3) := (Sq.o BK207.out 3).trans rfl; have hcz26_4 : w24.cell? ⟨gb207, 4, none⟩ = some (.slice A0_4 l0_4.length c0_4) := (Sq.o BK207.out 4).trans rfl; have hfz26_0 := Sq.r BK207.out 0; have hfz26_1 := Sq.r BK207.out 1; have hfz26_2 := Sq.r BK207.out 2; have hfz26_3 := Sq.r BK207.out 3; have hfz26_4 := Sq.r BK207.out 4; have hcz27_0 : w24.cell? ⟨gb208, 0, none⟩ = some (.string a1_0) := (Sq.o BK208.out 0).trans rfl; have hcz27_1 : w24.cell? ⟨gb208, 1, none⟩ = some (.string a1_1) := (Sq.o BK208.out 1).trans rfl; have hcz27_2 : w24.cell? ⟨gb208, 2, none⟩ = some (.slice A1_2 l1_2.length c1_2) := (Sq.o BK208.out 2).trans rfl; have hcz27_3 : w24.cell? ⟨gb208, 3, none⟩ = some (.slice A1_3 l1_3.length c1_3) := (Sq.o BK208.out 3).trans rfl; have hcz27_4 : w24.cell? ⟨gb208, 4, none⟩ = some (.slice A1_4 l1_4.length c1_4) := (Sq.o BK208.out 4).trans rfl; have hfz27_0 := Sq.r BK208.out 0; have hfz27_1 := Sq.r BK208.out 1; have hfz27_2 := Sq.r BK208.out 2; have hfz27_3 := Sq.r BK208.out 3; have hfz27_4 := Sq.r BK208.out 4) | ((with_reducible refine gate_callee (f := 25) rfl ?_); refine goesL_ (some 19) rfl rfl Try.func25 (by kernel_rfl) rfl #[.slice A0_2 l0_2.length c0_2, .slice A1_2 l1_2.length c1_2] rfl (by (try simp only [List.map_toArray, List.map_cons, List.map_nil]); first | done | rfl | (simp only [List.length_drop, List.length_take]; rfl)) ?_; (with_reducible refine (laws_eqInt64S.calls k _ _ l0_2 _ _ l1_2 true _ ?side1 ?side2 ?side3 ?side4 A5.out).mono ?_); (case side1 => repeat (first | exact (Sq.a1 HR0_2.out HB.out) | (with_reducible refine Sq.s ?_ _) | (with_reducible refine Sq.t ?_ _) | (with_reducible refine Sq.u ?_))); (case side2 => exact HC0_2.out); (case side3 => repeat (first | exact (Sq.a1 HR1_2.out HB.out) | (with_reducible refine Sq.s ?_ _) | (with_reducible refine Sq.t ?_ _) | (with_reducible refine Sq.u ?_))); (case side4 => exact HC1_2.out); rintro e w' ⟨rfl, ⟨nd, rfl⟩⟩; refine ⟨_, rfl, ?_⟩) | ((with_reducible refine gate_callee (f := 53) rfl ?_); refine goesL_ (some 25) rfl rfl Try.func53 (by kernel_rfl) rfl #[.slice A0_3 l0_3.length c0_3, .slice A1_3 l1_3.length c1_3] rfl (by (try simp only [List.map_toArray, List.map_cons, List.map_nil]); first | done | rfl | (simp only [List.length_drop, List.length_take]; rfl)) ?_; (with_reducible refine (laws_eqStringS.calls k _ _ l0_3 _ _ l1_3 false _ ?side1 ?side2 ?side3 ?side4 A7.out).mono ?_); (case side1 => repeat (first | exact (Sq.a1 HR0_3.out (by repeat (first | (with_reducible first | exact HB.out | apply Sq.i | apply Sq.j | apply Sq.k | refine Sq.h ?_ GE207.out | refine Sq.h ?_ GE208.out) | exact HB.out))) | (with_reducible refine Sq.s ?_ _) | (with_reducible refine Sq.t ?_ _) | (with_reducible refine Sq.u ?_))); (case side2 => exact HC0_3.out); (case side3 => repeat (first | exact (Sq.a1 HR1_3.out (by repeat (first | (with_reducible first | exact HB.out | apply Sq.i | apply Sq.j | apply Sq.k | refine Sq.h ?_ GE207.out | refine Sq.h ?_ GE208.out) | exact HB.out))) | (with_reducible refine Sq.s ?_ _) | (with_reducible refine Sq.t ?_ _) | (with_reducible refine Sq.u ?_))); (case side4 => exact HC1_3.out); rintro e w' ⟨rfl, ⟨nd, rfl⟩⟩; refine ⟨_, rfl, ?_⟩))
     go_ret
     exact ⟨by first | rfl | (simp [errW_none, errW_some] <;> rfl) | (simp [*, errW_none, errW_some] <;> rfl), by repeat (first | (with_reducible first | exact HB.out | apply Sq.i | apply Sq.j | apply Sq.k | refine Sq.h ?_ GE207.out | refine Sq.h ?_ GE208.out) | exact HB.out)⟩
   ·replace c6 := Bool.eq_false_iff.mpr c6
    subst c6
    rw [if_neg (show ¬ (false = true) by decide)] at H
    obtain rfl := Option.some.inj H
    go_enter Try.func97, Try.ntmps97
    go_wp2_with (first | ((with_reducible refine gate_dst (N := 2) rfl ?_); refine box_event ?hg (N := 2) ?hd (cs := #[.string a0_0, .string a0_1, .slice A0_2 l0_2.length c0_2, .slice A0_3 l0_3.length c0_3, .slice A0_4 l0_4.length c0_4]) (t := 148) ?hr ?_; (case hd => rfl); (case hg => rfl); (case hr => first | (go_simp; done) | (go_simp; rfl)); intro gb207 hg w28 hbox hb; have n0_ := Sq.l (Sq.a4 (by repeat (first | (with_reducible first | exact HB.out | apply Sq.i | apply Sq.j | apply Sq.k) | exact HB.out)) hb); have n1_ := Sq.l (hbox); have n2_ := Sq.l ((by rw [hg]; exact (Sq.a5 (by repeat (first | (with_reducible first | exact HB.out | apply Sq.i | apply Sq.j | apply Sq.k) | exact HB.out))) : w.heap.size ≤ gb207)); have n3_ := Sq.l ((by rw [hg]; exact (Sq.a5 (by repeat (first | (with_reducible first | exact HB.out | apply Sq.i | apply Sq.j | apply Sq.k) | exact HB.out))) : w.heap.size ≤ gb207)); clear HB; have HB := n0_; have BK207 := n1_; have GW207 := n2_; have GE207 := n3_; clear n0_ n1_ n2_ n3_; clear hb hbox hg) | ((with_reducible refine gate_dst (N := 3) rfl ?_); refine box_event ?hg (N := 3) ?hd (cs := #[.string a1_0, .string a1_1, .slice A1_2 l1_2.length c1_2, .slice A1_3 l1_3.length c1_3, .slice A1_4 l1_4.length c1_4]) (t := 148) ?hr ?_; (case hd => rfl); (case hg => rfl); (case hr => first | (go_simp; done) | (go_simp; rfl)); intro gb208 hg w29 hbox hb; have n0_ := Sq.l (Sq.m (g := gb207) (o := .cells #[.string a0_0, .string a0_1, .slice A0_2 l0_2.length c0_2, .slice A0_3 l0_3.length c0_3, .slice A0_4 l0_4.length c0_4] 148 (0, 0)) (by (with_reducible repeat (first | refine Sq.d ?_ _ | refine Sq.e ?_ | refine Sq.f ?_ _)); exact BK207.out) hb); have n1_ := Sq.l (Sq.a4 (by repeat (first | (with_reducible first | exact HB.out | apply Sq.i | apply Sq.j | apply Sq.k | refine Sq.h ?_ GE207.out) | exact HB.out)) hb); have n2_ := Sq.l (hbox); have n3_ := Sq.l ((by rw [hg]; exact (Sq.a5 (by repeat (first | (with_reducible first | exact HB.out | apply Sq.i | apply Sq.j | apply Sq.k | refine Sq.h ?_ GE207.out) | exact HB.out))) : w.heap.size ≤ gb208)); have n4_ := Sq.l ((by rw [hg]; exact (Sq.a5 (by repeat (first | (with_reducible first | exact HB.out | apply Sq.i | apply Sq.j | apply Sq.k | refine Sq.h ?_ GE207.out) | exact HB.out))) : w.heap.size ≤ gb208)); have n5_ := Sq.l ((by rw [hg]; exact Nat.ne_of_lt (blk_lt (g := gb207) (o := .cells #[.string a0_0, .string a0_1, .slice A0_2 l0_2.length c0_2, .slice A0_3 l0_3.length c0_3, .slice A0_4 l0_4.length c0_4] 148 (0, 0)) (by (with_reducible repeat (first | refine Sq.d ?_ _ | refine Sq.e ?_ | refine Sq.f ?_ _)); exact BK207.out)) : gb207 ≠ gb208)); have n6_ := Sq.l ((by rw [hg]; exact Nat.ne_of_gt (blk_lt (g := gb207) (o := .cells #[.string a0_0, .string a0_1, .slice A0_2 l0_2.length c0_2, .slice A0_3 l0_3.length c0_3, .slice A0_4 l0_4.length c0_4] 148 (0, 0)) (by (with_reducible repeat (first | refine Sq.d ?_ _ | refine Sq.e ?_ | refine Sq.f ?_ _)); exact BK207.out)) : gb208 ≠ gb207)); clear BK207; clear HB; have BK207 := n0_; have HB := n1_; have BK208 := n2_; have GW208 := n3_; have GE208 := n4_; have NB207_208 := n5_; have NB208_207 := n6_; clear n0_ n1_ n2_ n3_ n4_ n5_ n6_; clear hb hbox hg; have hnb30 := NB207_208.out; have hnc30 := NB208_207.out; have hcz31_0 : w29.cell? ⟨gb207, 0, none⟩ = some (.string a0_0) := (Sq.o BK207.out 0).trans rfl; have hcz31_1 : w29.cell? ⟨gb207, 1, none⟩ = some (.string a0_1) := (Sq.o BK207.out 1).trans rfl; have hcz31_2 : w29.cell? ⟨gb207, 2, none⟩ = some (.slice A0_2 l0_2.length c0_2) := (Sq.o BK207.out 2).trans rfl; have hcz31_3 : w29.cell? ⟨gb207, 3, none⟩ = some (.slice A0_3 l0_3.length c0_3) := (Sq.o BK207.out 3).trans rfl; have hcz31_4 : w29.cell? ⟨gb207, 4, none⟩ = some (.slice A0_4 l0_4.length c0_4) := (Sq.o BK207.out 4).trans rfl; have hfz31_0 := Sq.r BK207.out 0; have hfz31_1 := Sq.r BK207.out 1; have hfz31_2 := Sq.r BK207.out 2; have hfz31_3 := Sq.r BK207.out 3; have hfz31_4 := Sq.r BK207.out 4; have hcz32_0 : w29.cell? ⟨gb208, 0, none⟩ = some (.string a1_0) := (Sq.o BK208.out 0).trans rfl; have hcz32_1 : w29.cell? ⟨gb208, 1, none⟩ = some (.string a1_1) := (Sq.o BK208.out 1).trans rfl; have hcz32_2 : w29.cell? ⟨gb208, 2, none⟩ = some (.slice A1_2 l1_2.length c1_2) := (Sq.o BK208.out 2).trans rfl; have hcz32_3 : w29.cell? ⟨gb208, 3, none⟩ = some (.slice A1_3 l1_3.length c1_3) := (Sq.o BK208.out 3).trans rfl; have hcz32_4 : w29.cell? ⟨gb208, 4, none⟩ = some (.slice A1_4 l1_4.length c1_4) := (Sq.o BK208.out 4).trans rfl; have hfz32_0 := Sq.r BK208.out 0; have hfz32_1 := Sq.r BK208.out 1; have hfz32_2 := Sq.r BK208.out 2; have hfz32_3 := Sq.r BK208.out 3; have hfz32_4 := Sq.r BK208.out 4) | ((with_reducible refine gate_callee (f := 25) rfl ?_); refine goesL_ (some 19) rfl rfl Try.func25 (by kernel_rfl) rfl #[.slice A0_2 l0_2.length c0_2, .slice A1_2 l1_2.length c1_2] rfl (by (try simp only [List.map_toArray, List.map_cons, List.map_nil]); first | done | rfl | (simp only [List.length_drop, List.length_take]; rfl)) ?_; (with_reducible refine (laws_eqInt64S.calls k _ _ l0_2 _ _ l1_2 false _ ?side1 ?side2 ?side3 ?side4 A5.out).mono ?_); (case side1 => repeat (first | exact (Sq.a1 HR0_2.out HB.out) | (with_reducible refine Sq.s ?_ _) | (with_reducible refine Sq.t ?_ _) | (with_reducible refine Sq.u ?_))); (case side2 => exact HC0_2.out); (case side3 => repeat (first | exact (Sq.a1 HR1_2.out HB.out) | (with_reducible refine Sq.s ?_ _) | (with_reducible refine Sq.t ?_ _) | (with_reducible refine Sq.u ?_))); (case side4 => exact HC1_2.out); rintro e w' ⟨rfl, ⟨nd, rfl⟩⟩; refine ⟨_, rfl, ?_⟩))
    go_ret
    exact ⟨by first | rfl | (simp [errW_none, errW_some] <;> rfl) | (simp [*, errW_none, errW_some] <;> rfl), by repeat (first | (with_reducible first | exact HB.out | apply Sq.i | apply Sq.j | apply Sq.k | refine Sq.h ?_ GE207.out | refine Sq.h ?_ GE208.out) | exact HB.out)⟩
  ·rw [if_neg c4] at H
   have c4b0 : (a0_1.toList == a1_1.toList) = false := beq_eq_false_iff_ne.mpr c4
   have c4b1 : (a0_1.toList != a1_1.toList) = true := bne_iff_ne.mpr c4
   obtain rfl := Option.some.inj H
   go_enter Try.func97, Try.ntmps97
   go_wp2_with (first | ((with_reducible refine gate_dst (N := 2) rfl ?_); refine box_event ?hg (N := 2) ?hd (cs := #[.string a0_0, .string a0_1, .slice A0_2 l0_2.length c0_2, .slice A0_3 l0_3.length c0_3, .slice A0_4 l0_4.length c0_4]) (t := 148) ?hr ?_; (case hd => rfl); (case hg => rfl); (case hr => first | (go_simp; done) | (go_simp; rfl)); intro gb207 hg w33 hbox hb; have n0_ := Sq.l (Sq.a4 (by repeat (first | (with_reducible first | exact HB.out | apply Sq.i | apply Sq.j | apply Sq.k) | exact HB.out)) hb); have n1_ := Sq.l (hbox); have n2_ := Sq.l ((by rw [hg]; exact (Sq.a5 (by repeat (first | (with_reducible first | exact HB.out | apply Sq.i | apply Sq.j | apply Sq.k) | exact HB.out))) : w.heap.size ≤ gb207)); have n3_ := Sq.l ((by rw [hg]; exact (Sq.a5 (by repeat (first | (with_reducible first | exact HB.out | apply Sq.i | apply Sq.j | apply Sq.k) | exact HB.out))) : w.heap.size ≤ gb207)); clear HB; have HB := n0_; have BK207 := n1_; have GW207 := n2_; have GE207 := n3_; clear n0_ n1_ n2_ n3_; clear hb hbox hg) | ((with_reducible refine gate_dst (N := 3) rfl ?_); refine box_event ?hg (N := 3) ?hd (cs := #[.string a1_0, .string a1_1, .slice A1_2 l1_2.length c1_2, .slice A1_3 l1_3.length c1_3, .slice A1_4 l1_4.length c1_4]) (t := 148) ?hr ?_; (case hd => rfl); (case hg => rfl); (case hr => first | (go_simp; done) | (go_simp; rfl)); intro gb208 hg w34 hbox hb; have n0_ := Sq.l (Sq.m (g := gb207) (o := .cells #[.string a0_0, .string a0_1, .slice A0_2 l0_2.length c0_2, .slice A0_3 l0_3.length c0_3, .slice A0_4 l0_4.length c0_4] 148 (0, 0)) (by (with_reducible repeat (first | refine Sq.d ?_ _ | refine Sq.e ?_ | refine Sq.f ?_ _)); exact BK207.out) hb); have n1_ := Sq.l (Sq.a4 (by repeat (first | (with_reducible first | exact HB.out | apply Sq.i | apply Sq.j | apply Sq.k | refine Sq.h ?_ GE207.out) | exact HB.out)) hb); have n2_ := Sq.l (hbox); have n3_ := Sq.l ((by rw [hg]; exact (Sq.a5 (by repeat (first | (with_reducible first | exact HB.out | apply Sq.i | apply Sq.j | apply Sq.k | refine Sq.h ?_ GE207.out) | exact HB.out))) : w.heap.size ≤ gb208)); have n4_ := Sq.l ((by rw [hg]; exact (Sq.a5 (by repeat (first | (with_reducible first | exact HB.out | apply Sq.i | apply Sq.j | apply Sq.k | refine Sq.h ?_ GE207.out) | exact HB.out))) : w.heap.size ≤ gb208)); have n5_ := Sq.l ((by rw [hg]; exact Nat.ne_of_lt (blk_lt (g := gb207) (o := .cells #[.string a0_0, .string a0_1, .slice A0_2 l0_2.length c0_2, .slice A0_3 l0_3.length c0_3, .slice A0_4 l0_4.length c0_4] 148 (0, 0)) (by (with_reducible repeat (first | refine Sq.d ?_ _ | refine Sq.e ?_ | refine Sq.f ?_ _)); exact BK207.out)) : gb207 ≠ gb208)); have n6_ := Sq.l ((by rw [hg]; exact Nat.ne_of_gt (blk_lt (g := gb207) (o := .cells #[.string a0_0, .string a0_1, .slice A0_2 l0_2.length c0_2, .slice A0_3 l0_3.length c0_3, .slice A0_4 l0_4.length c0_4] 148 (0, 0)) (by (with_reducible repeat (first | refine Sq.d ?_ _ | refine Sq.e ?_ | refine Sq.f ?_ _)); exact BK207.out)) : gb208 ≠ gb207)); clear BK207; clear HB; have BK207 := n0_; have HB := n1_; have BK208 := n2_; have GW208 := n3_; have GE208 := n4_; have NB207_208 := n5_; have NB208_207 := n6_; clear n0_ n1_ n2_ n3_ n4_ n5_ n6_; clear hb hbox hg; have hnb35 := NB207_208.out; have hnc35 := NB208_207.out; have hcz36_0 : w34.cell? ⟨gb207, 0, none⟩ = some (.string a0_0) := (Sq.o BK207.out 0).trans rfl; have hcz36_1 : w34.cell? ⟨gb207, 1, none⟩ = some (.string a0_1) := (Sq.o BK207.out 1).trans rfl; have hcz36_2 : w34.cell? ⟨gb207, 2, none⟩ = some (.slice A0_2 l0_2.length c0_2) := (Sq.o BK207.out 2).trans rfl; have hcz36_3 : w34.cell? ⟨gb207, 3, none⟩ = some (.slice A0_3 l0_3.length c0_3) := (Sq.o BK207.out 3).trans rfl; have hcz36_4 : w34.cell? ⟨gb207, 4, none⟩ = some (.slice A0_4 l0_4.length c0_4) := (Sq.o BK207.out 4).trans rfl; have hfz36_0 := Sq.r BK207.out 0; have hfz36_1 := Sq.r BK207.out 1; have hfz36_2 := Sq.r BK207.out 2; have hfz36_3 := Sq.r BK207.out 3; have hfz36_4 := Sq.r BK207.out 4; have hcz37_0 : w34.cell? ⟨gb208, 0, none⟩ = some (.string a1_0) := (Sq.o BK208.out 0).trans rfl; have hcz37_1 : w34.cell? ⟨gb208, 1, none⟩ = some (.string a1_1) := (Sq.o BK208.out 1).trans rfl; have hcz37_2 : w34.cell? ⟨gb208, 2, none⟩ = some (.slice A1_2 l1_2.length c1_2) := (Sq.o BK208.out 2).trans rfl; have hcz37_3 : w34.cell? ⟨gb208, 3, none⟩ = some (.slice A1_3 l1_3.length c1_3) := (Sq.o BK208.out 3).trans rfl; have hcz37_4 : w34.cell? ⟨gb208, 4, none⟩ = some (.slice A1_4 l1_4.length c1_4) := (Sq.o BK208.out 4).trans rfl; have hfz37_0 := Sq.r BK208.out 0; have hfz37_1 := Sq.r BK208.out 1; have hfz37_2 := Sq.r BK208.out 2; have hfz37_3 := Sq.r BK208.out 3; have hfz37_4 := Sq.r BK208.out 4))
   go_ret
   exact ⟨by first | rfl | (simp [errW_none, errW_some] <;> rfl) | (simp [*, errW_none, errW_some] <;> rfl), by repeat (first | (with_reducible first | exact HB.out | apply Sq.i | apply Sq.j | apply Sq.k | refine Sq.h ?_ GE207.out | refine Sq.h ?_ GE208.out) | exact HB.out)⟩
 ·rw [if_neg c3] at H
  have c3b0 : (a0_0.toList == a1_0.toList) = false := beq_eq_false_iff_ne.mpr c3
  have c3b1 : (a0_0.toList != a1_0.toList) = true := bne_iff_ne.mpr c3
  obtain rfl := Option.some.inj H
  go_enter Try.func97, Try.ntmps97
  go_wp2_with (first | ((with_reducible refine gate_dst (N := 2) rfl ?_); refine box_event ?hg (N := 2) ?hd (cs := #[.string a0_0, .string a0_1, .slice A0_2 l0_2.length c0_2, .slice A0_3 l0_3.length c0_3, .slice A0_4 l0_4.length c0_4]) (t := 148) ?hr ?_; (case hd => rfl); (case hg => rfl); (case hr => first | (go_simp; done) | (go_simp; rfl)); intro gb207 hg w38 hbox hb; have n0_ := Sq.l (Sq.a4 (by repeat (first | (with_reducible first | exact HB.out | apply Sq.i | apply Sq.j | apply Sq.k) | exact HB.out)) hb); have n1_ := Sq.l (hbox); have n2_ := Sq.l ((by rw [hg]; exact (Sq.a5 (by repeat (first | (with_reducible first | exact HB.out | apply Sq.i | apply Sq.j | apply Sq.k) | exact HB.out))) : w.heap.size ≤ gb207)); have n3_ := Sq.l ((by rw [hg]; exact (Sq.a5 (by repeat (first | (with_reducible first | exact HB.out | apply Sq.i | apply Sq.j | apply Sq.k) | exact HB.out))) : w.heap.size ≤ gb207)); clear HB; have HB := n0_; have BK207 := n1_; have GW207 := n2_; have GE207 := n3_; clear n0_ n1_ n2_ n3_; clear hb hbox hg) | ((with_reducible refine gate_dst (N := 3) rfl ?_); refine box_event ?hg (N := 3) ?hd (cs := #[.string a1_0, .string a1_1, .slice A1_2 l1_2.length c1_2, .slice A1_3 l1_3.length c1_3, .slice A1_4 l1_4.length c1_4]) (t := 148) ?hr ?_; (case hd => rfl); (case hg => rfl); (case hr => first | (go_simp; done) | (go_simp; rfl)); intro gb208 hg w39 hbox hb; have n0_ := Sq.l (Sq.m (g := gb207) (o := .cells #[.string a0_0, .string a0_1, .slice A0_2 l0_2.length c0_2, .slice A0_3 l0_3.length c0_3, .slice A0_4 l0_4.length c0_4] 148 (0, 0)) (by (with_reducible repeat (first | refine Sq.d ?_ _ | refine Sq.e ?_ | refine Sq.f ?_ _)); exact BK207.out) hb); have n1_ := Sq.l (Sq.a4 (by repeat (first | (with_reducible first | exact HB.out | apply Sq.i | apply Sq.j | apply Sq.k | refine Sq.h ?_ GE207.out) | exact HB.out)) hb); have n2_ := Sq.l (hbox); have n3_ := Sq.l ((by rw [hg]; exact (Sq.a5 (by repeat (first | (with_reducible first | exact HB.out | apply Sq.i | apply Sq.j | apply Sq.k | refine Sq.h ?_ GE207.out) | exact HB.out))) : w.heap.size ≤ gb208)); have n4_ := Sq.l ((by rw [hg]; exact (Sq.a5 (by repeat (first | (with_reducible first | exact HB.out | apply Sq.i | apply Sq.j | apply Sq.k | refine Sq.h ?_ GE207.out) | exact HB.out))) : w.heap.size ≤ gb208)); have n5_ := Sq.l ((by rw [hg]; exact Nat.ne_of_lt (blk_lt (g := gb207) (o := .cells #[.string a0_0, .string a0_1, .slice A0_2 l0_2.length c0_2, .slice A0_3 l0_3.length c0_3, .slice A0_4 l0_4.length c0_4] 148 (0, 0)) (by (with_reducible repeat (first | refine Sq.d ?_ _ | refine Sq.e ?_ | refine Sq.f ?_ _)); exact BK207.out)) : gb207 ≠ gb208)); have n6_ := Sq.l ((by rw [hg]; exact Nat.ne_of_gt (blk_lt (g := gb207) (o := .cells #[.string a0_0, .string a0_1, .slice A0_2 l0_2.length c0_2, .slice A0_3 l0_3.length c0_3, .slice A0_4 l0_4.length c0_4] 148 (0, 0)) (by (with_reducible repeat (first | refine Sq.d ?_ _ | refine Sq.e ?_ | refine Sq.f ?_ _)); exact BK207.out)) : gb208 ≠ gb207)); clear BK207; clear HB; have BK207 := n0_; have HB := n1_; have BK208 := n2_; have GW208 := n3_; have GE208 := n4_; have NB207_208 := n5_; have NB208_207 := n6_; clear n0_ n1_ n2_ n3_ n4_ n5_ n6_; clear hb hbox hg; have hnb40 := NB207_208.out; have hnc40 := NB208_207.out; have hcz41_0 : w39.cell? ⟨gb207, 0, none⟩ = some (.string a0_0) := (Sq.o BK207.out 0).trans rfl; have hcz41_1 : w39.cell? ⟨gb207, 1, none⟩ = some (.string a0_1) := (Sq.o BK207.out 1).trans rfl; have hcz41_2 : w39.cell? ⟨gb207, 2, none⟩ = some (.slice A0_2 l0_2.length c0_2) := (Sq.o BK207.out 2).trans rfl; have hcz41_3 : w39.cell? ⟨gb207, 3, none⟩ = some (.slice A0_3 l0_3.length c0_3) := (Sq.o BK207.out 3).trans rfl; have hcz41_4 : w39.cell? ⟨gb207, 4, none⟩ = some (.slice A0_4 l0_4.length c0_4) := (Sq.o BK207.out 4).trans rfl; have hfz41_0 := Sq.r BK207.out 0; have hfz41_1 := Sq.r BK207.out 1; have hfz41_2 := Sq.r BK207.out 2; have hfz41_3 := Sq.r BK207.out 3; have hfz41_4 := Sq.r BK207.out 4; have hcz42_0 : w39.cell? ⟨gb208, 0, none⟩ = some (.string a1_0) := (Sq.o BK208.out 0).trans rfl; have hcz42_1 : w39.cell? ⟨gb208, 1, none⟩ = some (.string a1_1) := (Sq.o BK208.out 1).trans rfl; have hcz42_2 : w39.cell? ⟨gb208, 2, none⟩ = some (.slice A1_2 l1_2.length c1_2) := (Sq.o BK208.out 2).trans rfl; have hcz42_3 : w39.cell? ⟨gb208, 3, none⟩ = some (.slice A1_3 l1_3.length c1_3) := (Sq.o BK208.out 3).trans rfl; have hcz42_4 : w39.cell? ⟨gb208, 4, none⟩ = some (.slice A1_4 l1_4.length c1_4) := (Sq.o BK208.out 4).trans rfl; have hfz42_0 := Sq.r BK208.out 0; have hfz42_1 := Sq.r BK208.out 1; have hfz42_2 := Sq.r BK208.out 2; have hfz42_3 := Sq.r BK208.out 3; have hfz42_4 := Sq.r BK208.out 4))
  go_ret
  exact ⟨by first | rfl | (simp [errW_none, errW_some] <;> rfl) | (simp [*, errW_none, errW_some] <;> rfl), by repeat (first | (with_reducible first | exact HB.out | apply Sq.i | apply Sq.j | apply Sq.k | refine Sq.h ?_ GE207.out | refine Sq.h ?_ GE208.out) | exact HB.out)⟩

end Go.Proofs.Ytmajbehafgajmaa.QFnExactChainFault
