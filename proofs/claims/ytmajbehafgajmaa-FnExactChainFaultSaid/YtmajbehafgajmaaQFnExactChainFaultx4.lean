-- Written for this claim by this session's own driver (wip/xprint.py).
import Derived.Test.YtmajbehafgajmaaQFnExactChainFaultx0
import Derived.Test.YtmajbehafgajmaaQFnExactChainFaultx3
namespace Go.Proofs.Ytmajbehafgajmaa.QFnExactChainFault
open Go.RowKit Go.Proofs.YtmajbehafgajmaaW.PrintWords Go.Proofs.YtmajbehafgajmaaW.PrintLast Go.Proofs.YtmajbehafgajmaaW.PrintMore
attribute [local go_sem] max2_int min2_int max_two min_two max_three min_three max_four min_four   -- for this text's walks alone
set_option linter.unusedVariables false
set_option linter.unusedSimpArgs false

/-! ### spec_l13Find: function 93 -/
def spec_l13Find.l0 : Nat → List (S148) → ByteArray → Int → Option (Int)
  | 0, _, _, _ => none
  | k + 1, x0, x1, x5 => if x5 < (x0.length : Int) then (if 0 ≤ x5 then (if ((rd_T148 x0 x5).f0).toList = x1.toList then (some x5) else (spec_l13Find.l0 k x0 x1 (wrap64 (x5 + 1)))) else (none)) else (some (-1))
def spec_l13Find.f (k : Nat) (l0 : List (S148)) (a1 : ByteArray) : Option (Int) := spec_l13Find.l0 k l0 a1 0
theorem spec_l13Find.mono_l : ∀ k, (∀ y0 y1 y2, LeO (spec_l13Find.l0 k y0 y1 y2) (spec_l13Find.l0 (k + 1) y0 y1 y2))
  | 0 => fun _ _ _ r h => by simp [spec_l13Find.l0] at h
  | k + 1 => by
    have ih0 := spec_l13Find.mono_l k
    · intro y0 y1 y2
      unfold spec_l13Find.l0
      repeat' first
      | (with_reducible exact ih0 _ _ _)
      | (with_reducible exact LeO.refl _)
      | (with_reducible exact LeO.none _)
      | (with_reducible refine LeO.ite ?_ ?_)
      | (with_reducible refine LeO.bind ?_ (fun _ => ?_))
      | exact ih0 _ _ _
      | exact LeO.none _
      | refine LeO.ite ?_ ?_
      | refine LeO.bind ?_ (fun _ => ?_)
theorem spec_l13Find.mono : ∀ a0 a1 k, LeO (spec_l13Find.f k a0 a1) (spec_l13Find.f (k + 1) a0 a1) := by
  intro a0 a1 k
  have ih0 := spec_l13Find.mono_l k
  unfold spec_l13Find.f
  repeat' first
      | (with_reducible exact ih0 _ _ _)
      | (with_reducible exact LeO.refl _)
      | (with_reducible exact LeO.none _)
      | (with_reducible refine LeO.ite ?_ ?_)
      | (with_reducible refine LeO.bind ?_ (fun _ => ?_))
      | exact ih0 _ _ _
      | exact LeO.none _
      | refine LeO.ite ?_ ?_
      | refine LeO.bind ?_ (fun _ => ?_)
set_option maxHeartbeats 8000000 in
set_option maxRecDepth 100000 in
theorem spec_l13Find.calls (k : Nat) (A0 : Option Addr) (c0 : Nat) (l0 : List (S148)) (a1 : ByteArray) (r : Int) (w : World) (hr0 : Kd.C k148 w A0 l0.length l0) (hc0 : l0.length ≤ c0) (h : spec_l13Find.f k l0 a1 = some r) :
    Calls Try.prog 93 #[.slice A0 l0.length c0, .string a1] w fun e w' => e = .returned (.int .i64 r) ∧ Drawn0 w w' := by
  have HR0 := Aside0.mk hr0
  have HC0 := Aside0.mk hc0
  clear hr0 hc0
  have H : (spec_l13Find.l0 k l0 a1 0) = some r := h
  clear h
  have H' := Aside0.mk H
  clear H
  go_enter Try.func93, Try.ntmps93
  go_wp2
  go_loopg [5] k (fun kq v5 w' => ∃ (x5_1 : Int), v5 = .int .i64 x5_1 ∧ Aside0 (spec_l13Find.l0 kq l0 a1 x5_1 = some r) ∧ Aside0 (kq ≤ k) ∧ Drawn0 w w')
  case atStart => exact ⟨(0), (by first | rfl | (simp; done) | (simp [*]; done)), H', ⟨Nat.le_refl _⟩, by repeat (first | exact Drawn0.refl _ | apply Drawn0.step)⟩
  case round =>
    clear H'
    try clear p2
    obtain ⟨x5_1, rfl, HA, HK1, ⟨m1, rfl⟩⟩ := hrel
    cases gk with
    | zero => exact absurd HA.out (by simp [spec_l13Find.l0])
    | succ k1 =>
      have H := HA.out
      clear HA
      simp only [spec_l13Find.l0] at H
      by_cases c3 : x5_1 < (l0.length : Int)
      · rw [if_pos c3] at H
        have c3b0 : decide (x5_1 < (l0.length : Int)) = true := decide_eq_true c3
        clear c3
        by_cases c4 : 0 ≤ x5_1
        · rw [if_pos c4] at H
          have c4b0 : decide (0 ≤ x5_1) = true := decide_eq_true c4
          clear c4
          by_cases c5 : ((rd_T148 l0 x5_1).f0).toList = a1.toList
          · rw [if_pos c5] at H
            have c5b0 : (((rd_T148 l0 x5_1).f0).toList == a1.toList) = true := beq_iff_eq.mpr c5
            have c5b1 : (((rd_T148 l0 x5_1).f0).toList != a1.toList) = false := bne_eq_false_iff_eq.mpr c5
            clear c5
            obtain rfl := Option.some.inj H
            have p134 : 0 ≤ (x5_1 : Int) := of_decide_eq_true (by first | (with_reducible assumption) | assumption)
            have q134 : x5_1 < (l0.length : Int) := of_decide_eq_true (by first | (with_reducible assumption) | assumption)
            obtain ⟨ad134, A134_2, c134_2, A134_3, c134_3, A134_4, c134_4, e134, hx134_0, hx134_1, hx134_2, hx134_3, hx134_4, hl134_2, hi134_2, hl134_3, hi134_3, hl134_4, hi134_4⟩ := at_T148 HR0.out x5_1 p134 q134
            cases e134
            have HR134_2 := Aside0.mk hi134_2
            have HC134_2 := Aside0.mk hl134_2
            clear hi134_2 hl134_2
            have HR134_3 := Aside0.mk hi134_3
            have HC134_3 := Aside0.mk hl134_3
            clear hi134_3 hl134_3
            have HR134_4 := Aside0.mk hi134_4
            have HC134_4 := Aside0.mk hl134_4
            clear hi134_4 hl134_4
            replace p134 := eq_true p134
            replace q134 := eq_true q134
            go_wp2
            go_ret
            exact ⟨by first | rfl | (simp; done) | (simp [*]; done), by repeat (first | exact Drawn0.refl _ | apply Drawn0.step)⟩
          · rw [if_neg c5] at H
            have c5b0 : (((rd_T148 l0 x5_1).f0).toList == a1.toList) = false := beq_eq_false_iff_ne.mpr c5
            have c5b1 : (((rd_T148 l0 x5_1).f0).toList != a1.toList) = true := bne_iff_ne.mpr c5
            have H' := Aside0.mk H
            clear H
            have p134 : 0 ≤ (x5_1 : Int) := of_decide_eq_true (by first | (with_reducible assumption) | assumption)
            have q134 : x5_1 < (l0.length : Int) := of_decide_eq_true (by first | (with_reducible assumption) | assumption)
            obtain ⟨ad134, A134_2, c134_2, A134_3, c134_3, A134_4, c134_4, e134, hx134_0, hx134_1, hx134_2, hx134_3, hx134_4, hl134_2, hi134_2, hl134_3, hi134_3, hl134_4, hi134_4⟩ := at_T148 HR0.out x5_1 p134 q134
            cases e134
            have HR134_2 := Aside0.mk hi134_2
            have HC134_2 := Aside0.mk hl134_2
            clear hi134_2 hl134_2
            have HR134_3 := Aside0.mk hi134_3
            have HC134_3 := Aside0.mk hl134_3
            clear hi134_3 hl134_3
            have HR134_4 := Aside0.mk hi134_4
            have HC134_4 := Aside0.mk hl134_4
            clear hi134_4 hl134_4
            replace p134 := eq_true p134
            replace q134 := eq_true q134
            go_wp2
            go_roundg k1
            case measure => have := HK1.out; omega
            case rel => exact ⟨(wrap64 (x5_1 + 1)), (by first | rfl | (simp; done) | (simp [*]; done)), H', ⟨by have := HK1.out; omega⟩, by repeat (first | exact Drawn0.refl _ | apply Drawn0.step)⟩
        · rw [if_neg c4] at H
          exact absurd H (by simp)
      · rw [if_neg c3] at H
        have c3b0 : decide (x5_1 < (l0.length : Int)) = false := decide_eq_false c3
        clear c3
        obtain rfl := Option.some.inj H
        go_wp2
        go_ret
        exact ⟨by first | rfl | (simp; done) | (simp [*]; done), by repeat (first | exact Drawn0.refl _ | apply Drawn0.step)⟩

/-! ### spec_ChainFault: function 38 -/
mutual
def spec_ChainFault.l0 : Nat → List (S148) → Int → Option (Int)
 | 0, _, _ => none
 | k + 1, x0, x3 => if x3 < (x0.length : Int) then (if 0 ≤ x3 then ((spec_ImageFault.f k ((rd_T148 x0 x3).f0) ((rd_T148 x0 x3).f1) ((rd_T148 x0 x3).f2) ((rd_T148 x0 x3).f3) ((rd_T148 x0 x3).f4)).bind fun t136 => (if t136 = 0 then ((spec_l13Find.f k x0 ((rd_T148 x0 x3).f0)).bind fun t138 => (if t138 = x3 then (spec_ChainFault.l0 k x0 (wrap64 (x3 + 1))) else (some 1))) else (some 1))) else (none)) else (spec_ChainFault.l1 k x0 0)
def spec_ChainFault.l1 : Nat → List (S148) → Int → Option (Int)
 | 0, _, _ => none
 | k + 1, x0, x4 => if x4 < (x0.length : Int) then (spec_ChainFault.l2 k x0 x4 x4 0) else (some 0)
def spec_ChainFault.l2 : Nat → List (S148) → Int → Int → Int → Option (Int)
 | 0, _, _, _, _ => none
 | k + 1, x0, x4, x5, x6 => if 0 ≤ x5 then (if x5 < (x0.length : Int) then (if ((rd_T148 x0 x5).f1).toList = ([] : List UInt8) then (spec_ChainFault.l1 k x0 (wrap64 (x4 + 1))) else ((spec_l13Find.f k x0 ((rd_T148 x0 x5).f1)).bind fun t141 => (if t141 < 0 then (some 1) else (if x6 > 12 then (some 1) else (spec_ChainFault.l2 k x0 x4 t141 (wrap64 (x6 + 1))))))) else (none)) else (none)
end
def spec_ChainFault.f (k : Nat) (l0 : List (S148)) : Option (Int) := if (l0.length : Int) > 12 then (some 1) else (spec_ChainFault.l0 k l0 0)
theorem spec_ChainFault.mono_l : ∀ k, (∀ y0 y1, LeO (spec_ChainFault.l0 k y0 y1) (spec_ChainFault.l0 (k + 1) y0 y1)) ∧ (∀ y0 y1, LeO (spec_ChainFault.l1 k y0 y1) (spec_ChainFault.l1 (k + 1) y0 y1)) ∧ (∀ y0 y1 y2 y3, LeO (spec_ChainFault.l2 k y0 y1 y2 y3) (spec_ChainFault.l2 (k + 1) y0 y1 y2 y3))
 | 0 => ⟨fun _ _ r h => by simp [spec_ChainFault.l0] at h, fun _ _ r h => by simp [spec_ChainFault.l1] at h, fun _ _ _ _ r h => by simp [spec_ChainFault.l2] at h⟩
 | k + 1 => by
  obtain ⟨ih0, ih1, ih2⟩ := spec_ChainFault.mono_l k
  refine ⟨?_, ?_, ?_⟩
  ·intro y0 y1
   unfold spec_ChainFault.l0
   repeat' first
   | (with_reducible exact ih0 _ _)
   | (with_reducible exact ih1 _ _)
   | (with_reducible exact ih2 _ _ _ _)
   | (with_reducible exact spec_ImageFault.mono _ _ _ _ _ _)
   | (with_reducible exact spec_l13Find.mono _ _ _)
   | (with_reducible exact LeO.refl _)
   | (with_reducible exact LeO.none _)
   | (with_reducible refine LeO.ite ?_ ?_)
   | (with_reducible refine LeO.bind ?_ (fun _ => ?_))
   | exact ih0 _ _
   | exact ih1 _ _
   | exact ih2 _ _ _ _
   | exact spec_ImageFault.mono _ _ _ _ _ _
   | exact spec_l13Find.mono _ _ _
   | exact LeO.none _
   | refine LeO.ite ?_ ?_
   | refine LeO.bind ?_ (fun _ => ?_)
  ·intro y0 y1
   unfold spec_ChainFault.l1
   repeat' first
   | (with_reducible exact ih0 _ _)
   | (with_reducible exact ih1 _ _)
   | (with_reducible exact ih2 _ _ _ _)
   | (with_reducible exact spec_ImageFault.mono _ _ _ _ _ _)
   | (with_reducible exact spec_l13Find.mono _ _ _)
   | (with_reducible exact LeO.refl _)
   | (with_reducible exact LeO.none _)
   | (with_reducible refine LeO.ite ?_ ?_)
   | (with_reducible refine LeO.bind ?_ (fun _ => ?_))
   | exact ih0 _ _
   | exact ih1 _ _
   | exact ih2 _ _ _ _
   | exact spec_ImageFault.mono _ _ _ _ _ _
   | exact spec_l13Find.mono _ _ _
   | exact LeO.none _
   | refine LeO.ite ?_ ?_
   | refine LeO.bind ?_ (fun _ => ?_)
  ·intro y0 y1 y2 y3
   unfold spec_ChainFault.l2
   repeat' first
   | (with_reducible exact ih0 _ _)
   | (with_reducible exact ih1 _ _)
   | (with_reducible exact ih2 _ _ _ _)
   | (with_reducible exact spec_ImageFault.mono _ _ _ _ _ _)
   | (with_reducible exact spec_l13Find.mono _ _ _)
   | (with_reducible exact LeO.refl _)
   | (with_reducible exact LeO.none _)
   | (with_reducible refine LeO.ite ?_ ?_)
   | (with_reducible refine LeO.bind ?_ (fun _ => ?_))
   | exact ih0 _ _
   | exact ih1 _ _
   | exact ih2 _ _ _ _
   | exact spec_ImageFault.mono _ _ _ _ _ _
   | exact spec_l13Find.mono _ _ _
   | exact LeO.none _
   | refine LeO.ite ?_ ?_
   | refine LeO.bind ?_ (fun _ => ?_)
theorem spec_ChainFault.mono : ∀ a0 k, LeO (spec_ChainFault.f k a0) (spec_ChainFault.f (k + 1) a0) := by
 intro a0 k
 obtain ⟨ih0, ih1, ih2⟩ := spec_ChainFault.mono_l k
 unfold spec_ChainFault.f
 repeat' first
   | (with_reducible exact ih0 _ _)
   | (with_reducible exact ih1 _ _)
   | (with_reducible exact ih2 _ _ _ _)
   | (with_reducible exact spec_ImageFault.mono _ _ _ _ _ _)
   | (with_reducible exact spec_l13Find.mono _ _ _)
   | (with_reducible exact LeO.refl _)
   | (with_reducible exact LeO.none _)
   | (with_reducible refine LeO.ite ?_ ?_)
   | (with_reducible refine LeO.bind ?_ (fun _ => ?_))
   | exact ih0 _ _
   | exact ih1 _ _
   | exact ih2 _ _ _ _
   | exact spec_ImageFault.mono _ _ _ _ _ _
   | exact spec_l13Find.mono _ _ _
   | exact LeO.none _
   | refine LeO.ite ?_ ?_
   | refine LeO.bind ?_ (fun _ => ?_)
set_option maxHeartbeats 8000000 in
set_option maxRecDepth 100000 in
theorem spec_ChainFault.calls (k : Nat) (A0 : Option Addr) (c0 : Nat) (l0 : List (S148)) (r : Int) (w : World) (hr0 : Kd.C k148 w A0 l0.length l0) (hc0 : l0.length ≤ c0) (h : spec_ChainFault.f k l0 = some r) :
  Calls Try.prog 38 #[.slice A0 l0.length c0] w fun e w' => e = .returned (.int .i64 r) ∧ Below w.heap.size w w' := by
 have hu148 := Try.underlying148
 have HR0 := Sq.l hr0
 have HC0 := Sq.l hc0
 clear hr0 hc0
 have HB := Sq.l (Below.refl w.heap.size w)
 have H : (if (l0.length : Int) > 12 then (some 1) else (spec_ChainFault.l0 k l0 0)) = some r := h
 clear h
 by_cases c2 : (l0.length : Int) > 12
 ·rw [if_pos c2] at H
  have c2b0 : decide (12 < (l0.length : Int)) = true := decide_eq_true c2
  have c2b1 : decide (12 < l0.length) = true := decide_eq_true (by omega)
  clear c2
  obtain rfl := Option.some.inj H
  go_enter Try.func38, Try.ntmps38
  go_wp2
  go_ret
  exact ⟨by first | rfl | (simp [errW_none, errW_some] <;> rfl) | (simp [*, errW_none, errW_some] <;> rfl), by repeat (first | (with_reducible first | exact HB.out | apply Sq.i | apply Sq.j | apply Sq.k) | exact HB.out)⟩
 ·rw [if_neg c2] at H
  have c2b0 : decide (12 < (l0.length : Int)) = false := decide_eq_false c2
  have c2b1 : decide (12 < l0.length) = false := decide_eq_false (by omega)
  clear c2
  have H' := Sq.l H
  clear H
  go_enter Try.func38, Try.ntmps38
  go_wp2
  go_loopg [3] k (fun kq v3 w' => ∃ (x3_1 : Int), v3 = .int .i64 x3_1 ∧ Aside0 (spec_ChainFault.l0 kq l0 x3_1 = some r) ∧ Aside0 (kq ≤ k) ∧ Aside0 (Below w.heap.size w w'))
  case atStart => exact ⟨(0), (by first | rfl | (simp; done) | (simp [*]; done)), H', ⟨Nat.le_refl _⟩, ⟨by repeat (first | (with_reducible first | exact HB.out | apply Sq.i | apply Sq.j | apply Sq.k) | exact HB.out)⟩⟩
  case round =>
   clear H'
   try clear c2; try clear c2b0; try clear c2b1; try clear p2
   obtain ⟨x3_1, rfl, HA, HK1, HB⟩ := hrel
   cases gk with
   | zero => exact absurd HA.out (by simp [spec_ChainFault.l0])
   | succ k1 =>
    have H := HA.out
    clear HA
    simp only [spec_ChainFault.l0] at H
    by_cases c3 : x3_1 < (l0.length : Int)
    ·rw [if_pos c3] at H
     have c3b0 : decide (x3_1 < (l0.length : Int)) = true := decide_eq_true c3
     clear c3
     by_cases c4 : 0 ≤ x3_1
     ·rw [if_pos c4] at H
      have c4b0 : decide (0 ≤ x3_1) = true := decide_eq_true c4
      clear c4
      replace H := Option.bind_eq_some_iff.mp H
      obtain ⟨t136, A50, H⟩ := H
      (try dsimp only at H)
      have A5 := Sq.l A50
      clear A50
      by_cases c6 : t136 = 0
      ·rw [if_pos c6] at H
       have c6b0 : (t136 == 0) = true := beq_iff_eq.mpr c6
       have c6b1 : (t136 != 0) = false := bne_eq_false_iff_eq.mpr c6
       clear c6
       replace H := Option.bind_eq_some_iff.mp H
       obtain ⟨t138, A70, H⟩ := H
       (try dsimp only at H)
       have A7 := Sq.l A70
       clear A70
       by_cases c8 : t138 = x3_1
       ·rw [if_pos c8] at H
        have c8b0 : (t138 == x3_1) = true := beq_iff_eq.mpr c8
        have c8b1 : (t138 != x3_1) = false := bne_eq_false_iff_eq.mpr c8
        clear c8
        have H' := Sq.l H
        clear H
        have p135 : 0 ≤ (x3_1 : Int) := of_decide_eq_true (by first | (with_reducible assumption) | assumption)
        have q135 : x3_1 < (l0.length : Int) := of_decide_eq_true (by first | (with_reducible assumption) | assumption)
        obtain ⟨ad135, A135_2, c135_2, A135_3, c135_3, A135_4, c135_4, e135, hx135_0, hx135_1, hx135_2, hx135_3, hx135_4, hl135_2, hi135_2, hl135_3, hi135_3, hl135_4, hi135_4⟩ := at_T148 HR0.out x3_1 p135 q135
        cases e135
        replace hx135_0 := (HB.out.cell (World.block_lt_of_cell? w _ hx135_0)).trans hx135_0
        replace hx135_1 := (HB.out.cell (World.block_lt_of_cell? w _ hx135_1)).trans hx135_1
        replace hx135_2 := (HB.out.cell (World.block_lt_of_cell? w _ hx135_2)).trans hx135_2
        replace hx135_3 := (HB.out.cell (World.block_lt_of_cell? w _ hx135_3)).trans hx135_3
        replace hx135_4 := (HB.out.cell (World.block_lt_of_cell? w _ hx135_4)).trans hx135_4
        have HR135_2 := Sq.l hi135_2
        have HC135_2 := Sq.l hl135_2
        clear hi135_2 hl135_2
        have HR135_3 := Sq.l hi135_3
        have HC135_3 := Sq.l hl135_3
        clear hi135_3 hl135_3
        have HR135_4 := Sq.l hi135_4
        have HC135_4 := Sq.l hl135_4
        clear hi135_4 hl135_4; replace p135 := eq_true p135; replace q135 := eq_true q135
        go_wp2_with (first | ((with_reducible refine gate_callee (f := 92) rfl ?_); refine goesL_ (some 20) rfl rfl Try.func92 (by kernel_rfl) rfl #[.agg #[.string ((rd_T148 l0 x3_1).f0), .string ((rd_T148 l0 x3_1).f1), .slice A135_2 ((rd_T148 l0 x3_1).f2).length c135_2, .slice A135_3 ((rd_T148 l0 x3_1).f3).length c135_3, .slice A135_4 ((rd_T148 l0 x3_1).f4).length c135_4]] rfl (by (try simp only [List.map_toArray, List.map_cons, List.map_nil]); first | done | rfl | (simp only [List.length_drop, List.length_take]; rfl)) ?_; (with_reducible refine (spec_ImageFault.calls k1 ((rd_T148 l0 x3_1).f0) ((rd_T148 l0 x3_1).f1) _ _ ((rd_T148 l0 x3_1).f2) _ _ ((rd_T148 l0 x3_1).f3) _ _ ((rd_T148 l0 x3_1).f4) t136 _ ?side1 ?side2 ?side3 ?side4 ?side5 ?side6 A5.out).mono ?_); (case side1 => repeat (first | exact (Sq.a1 HR135_2.out HB.out) | (with_reducible refine Sq.s ?_ _) | (with_reducible refine Sq.t ?_ _) | (with_reducible refine Sq.u ?_))); (case side2 => exact HC135_2.out); (case side3 => repeat (first | exact (Sq.a1 HR135_3.out HB.out) | (with_reducible refine Sq.s ?_ _) | (with_reducible refine Sq.t ?_ _) | (with_reducible refine Sq.u ?_))); (case side4 => exact HC135_3.out); (case side5 => repeat (first | exact (Sq.a1 HR135_4.out HB.out) | (with_reducible refine Sq.s ?_ _) | (with_reducible refine Sq.t ?_ _) | (with_reducible refine Sq.u ?_))); (case side6 => exact HC135_4.out); rintro e w9 ⟨rfl, hb⟩; refine ⟨_, rfl, ?_⟩; have n0_ := Sq.l (Sq.a4 (by repeat (first | (with_reducible first | exact HB.out | apply Sq.i | apply Sq.j | apply Sq.k) | exact HB.out)) hb); clear HB; have HB := n0_; clear n0_; (try clear hb); (try clear hb2); (try clear hk); (try clear hi); have p137 : 0 ≤ (x3_1 : Int) := of_decide_eq_true (by first | (with_reducible assumption) | assumption); have q137 : x3_1 < (l0.length : Int) := of_decide_eq_true (by first | (with_reducible assumption) | assumption); obtain ⟨ad137, A137_2, c137_2, A137_3, c137_3, A137_4, c137_4, e137, hx137_0, hx137_1, hx137_2, hx137_3, hx137_4, hl137_2, hi137_2, hl137_3, hi137_3, hl137_4, hi137_4⟩ := at_T148 HR0.out x3_1 p137 q137; obtain rfl : ad135 = ad137 := (by injection e137); replace hx137_0 := (HB.out.cell (World.block_lt_of_cell? w _ hx137_0)).trans hx137_0; replace hx137_1 := (HB.out.cell (World.block_lt_of_cell? w _ hx137_1)).trans hx137_1; replace hx137_2 := (HB.out.cell (World.block_lt_of_cell? w _ hx137_2)).trans hx137_2; replace hx137_3 := (HB.out.cell (World.block_lt_of_cell? w _ hx137_3)).trans hx137_3; replace hx137_4 := (HB.out.cell (World.block_lt_of_cell? w _ hx137_4)).trans hx137_4; have HR137_2 := Sq.l hi137_2; have HC137_2 := Sq.l hl137_2; clear hi137_2 hl137_2; have HR137_3 := Sq.l hi137_3; have HC137_3 := Sq.l hl137_3; clear hi137_3 hl137_3; have HR137_4 := Sq.l hi137_4; have HC137_4 := Sq.l hl137_4; clear hi137_4 hl137_4; replace p137 := eq_true p137; replace q137 := eq_true q137) | (go_at_call 93; (with_reducible refine (spec_l13Find.calls k1 _ _ l0 ((rd_T148 l0 x3_1).f0) t138 _ ?side1 ?side2 A7.out).mono ?_); (case side1 => repeat (first | exact (Sq.a1 HR0.out HB.out) | (with_reducible refine Sq.s ?_ _) | (with_reducible refine Sq.t ?_ _) | (with_reducible refine Sq.u ?_))); (case side2 => exact HC0.out); rintro e w' ⟨rfl, ⟨nd, rfl⟩⟩))
        go_roundg k1
        case measure => have := HK1.out; omega
        case rel => exact ⟨(wrap64 (x3_1 + 1)), (by first | rfl | (simp; done) | (simp [*]; done)), H', ⟨by have := HK1.out; omega⟩, ⟨by repeat (first | (with_reducible first | exact HB.out | apply Sq.i | apply Sq.j | apply Sq.k) | exact HB.out)⟩⟩
       ·rw [if_neg c8] at H
        have c8b0 : (t138 == x3_1) = false := beq_eq_false_iff_ne.mpr c8
        have c8b1 : (t138 != x3_1) = true := bne_iff_ne.mpr c8
        obtain rfl := Option.some.inj H
        have p135 : 0 ≤ (x3_1 : Int) := of_decide_eq_true (by first | (with_reducible assumption) | assumption)
        have q135 : x3_1 < (l0.length : Int) := of_decide_eq_true (by first | (with_reducible assumption) | assumption)
        obtain ⟨ad135, A135_2, c135_2, A135_3, c135_3, A135_4, c135_4, e135, hx135_0, hx135_1, hx135_2, hx135_3, hx135_4, hl135_2, hi135_2, hl135_3, hi135_3, hl135_4, hi135_4⟩ := at_T148 HR0.out x3_1 p135 q135
        cases e135
        replace hx135_0 := (HB.out.cell (World.block_lt_of_cell? w _ hx135_0)).trans hx135_0
        replace hx135_1 := (HB.out.cell (World.block_lt_of_cell? w _ hx135_1)).trans hx135_1
        replace hx135_2 := (HB.out.cell (World.block_lt_of_cell? w _ hx135_2)).trans hx135_2
        replace hx135_3 := (HB.out.cell (World.block_lt_of_cell? w _ hx135_3)).trans hx135_3
        replace hx135_4 := (HB.out.cell (World.block_lt_of_cell? w _ hx135_4)).trans hx135_4
        have HR135_2 := Sq.l hi135_2
        have HC135_2 := Sq.l hl135_2
        clear hi135_2 hl135_2
        have HR135_3 := Sq.l hi135_3
        have HC135_3 := Sq.l hl135_3
        clear hi135_3 hl135_3
        have HR135_4 := Sq.l hi135_4
        have HC135_4 := Sq.l hl135_4
        clear hi135_4 hl135_4; replace p135 := eq_true p135; replace q135 := eq_true q135
        go_wp2_with (first | ((with_reducible refine gate_callee (f := 92) rfl ?_); refine goesL_ (some 20) rfl rfl Try.func92 (by kernel_rfl) rfl #[.agg #[.string ((rd_T148 l0 x3_1).f0), .string ((rd_T148 l0 x3_1).f1), .slice A135_2 ((rd_T148 l0 x3_1).f2).length c135_2, .slice A135_3 ((rd_T148 l0 x3_1).f3).length c135_3, .slice A135_4 ((rd_T148 l0 x3_1).f4).length c135_4]] rfl (by (try simp only [List.map_toArray, List.map_cons, List.map_nil]); first | done | rfl | (simp only [List.length_drop, List.length_take]; rfl)) ?_; (with_reducible refine (spec_ImageFault.calls k1 ((rd_T148 l0 x3_1).f0) ((rd_T148 l0 x3_1).f1) _ _ ((rd_T148 l0 x3_1).f2) _ _ ((rd_T148 l0 x3_1).f3) _ _ ((rd_T148 l0 x3_1).f4) t136 _ ?side1 ?side2 ?side3 ?side4 ?side5 ?side6 A5.out).mono ?_); (case side1 => repeat (first | exact (Sq.a1 HR135_2.out HB.out) | (with_reducible refine Sq.s ?_ _) | (with_reducible refine Sq.t ?_ _) | (with_reducible refine Sq.u ?_))); (case side2 => exact HC135_2.out); (case side3 => repeat (first | exact (Sq.a1 HR135_3.out HB.out) | (with_reducible refine Sq.s ?_ _) | (with_reducible refine Sq.t ?_ _) | (with_reducible refine Sq.u ?_))); (case side4 => exact HC135_3.out); (case side5 => repeat (first | exact (Sq.a1 HR135_4.out HB.out) | (with_reducible refine Sq.s ?_ _) | (with_reducible refine Sq.t ?_ _) | (with_reducible refine Sq.u ?_))); (case side6 => exact HC135_4.out); rintro e w10 ⟨rfl, hb⟩; refine ⟨_, rfl, ?_⟩; have n0_ := Sq.l (Sq.a4 (by repeat (first | (with_reducible first | exact HB.out | apply Sq.i | apply Sq.j | apply Sq.k) | exact HB.out)) hb); clear HB; have HB := n0_; clear n0_; (try clear hb); (try clear hb2); (try clear hk); (try clear hi); have p137 : 0 ≤ (x3_1 : Int) := of_decide_eq_true (by first | (with_reducible assumption) | assumption); have q137 : x3_1 < (l0.length : Int) := of_decide_eq_true (by first | (with_reducible assumption) | assumption); obtain ⟨ad137, A137_2, c137_2, A137_3, c137_3, A137_4, c137_4, e137, hx137_0, hx137_1, hx137_2, hx137_3, hx137_4, hl137_2, hi137_2, hl137_3, hi137_3, hl137_4, hi137_4⟩ := at_T148 HR0.out x3_1 p137 q137; obtain rfl : ad135 = ad137 := (by injection e137); replace hx137_0 := (HB.out.cell (World.block_lt_of_cell? w _ hx137_0)).trans hx137_0; replace hx137_1 := (HB.out.cell (World.block_lt_of_cell? w _ hx137_1)).trans hx137_1; replace hx137_2 := (HB.out.cell (World.block_lt_of_cell? w _ hx137_2)).trans hx137_2; replace hx137_3 := (HB.out.cell (World.block_lt_of_cell? w _ hx137_3)).trans hx137_3; replace hx137_4 := (HB.out.cell (World.block_lt_of_cell? w _ hx137_4)).trans hx137_4; have HR137_2 := Sq.l hi137_2; have HC137_2 := Sq.l hl137_2; clear hi137_2 hl137_2; have HR137_3 := Sq.l hi137_3; have HC137_3 := Sq.l hl137_3; clear hi137_3 hl137_3; have HR137_4 := Sq.l hi137_4; have HC137_4 := Sq.l hl137_4; clear hi137_4 hl137_4; replace p137 := eq_true p137; replace q137 := eq_true q137) | (go_at_call 93; (with_reducible refine (spec_l13Find.calls k1 _ _ l0 ((rd_T148 l0 x3_1).f0) t138 _ ?side1 ?side2 A7.out).mono ?_); (case side1 => repeat (first | exact (Sq.a1 HR0.out HB.out) | (with_reducible refine Sq.s ?_ _) | (with_reducible refine Sq.t ?_ _) | (with_reducible refine Sq.u ?_))); (case side2 => exact HC0.out); rintro e w' ⟨rfl, ⟨nd, rfl⟩⟩))
        go_ret
        exact ⟨by first | rfl | (simp [errW_none, errW_some] <;> rfl) | (simp [*, errW_none, errW_some] <;> rfl), by repeat (first | (with_reducible first | exact HB.out | apply Sq.i | apply Sq.j | apply Sq.k) | exact HB.out)⟩
      ·rw [if_neg c6] at H
       have c6b0 : (t136 == 0) = false := beq_eq_false_iff_ne.mpr c6
       have c6b1 : (t136 != 0) = true := bne_iff_ne.mpr c6
       obtain rfl := Option.some.inj H
       have p135 : 0 ≤ (x3_1 : Int) := of_decide_eq_true (by first | (with_reducible assumption) | assumption)
       have q135 : x3_1 < (l0.length : Int) := of_decide_eq_true (by first | (with_reducible assumption) | assumption)
       obtain ⟨ad135, A135_2, c135_2, A135_3, c135_3, A135_4, c135_4, e135, hx135_0, hx135_1, hx135_2, hx135_3, hx135_4, hl135_2, hi135_2, hl135_3, hi135_3, hl135_4, hi135_4⟩ := at_T148 HR0.out x3_1 p135 q135
       cases e135
       replace hx135_0 := (HB.out.cell (World.block_lt_of_cell? w _ hx135_0)).trans hx135_0
       replace hx135_1 := (HB.out.cell (World.block_lt_of_cell? w _ hx135_1)).trans hx135_1
       replace hx135_2 := (HB.out.cell (World.block_lt_of_cell? w _ hx135_2)).trans hx135_2
       replace hx135_3 := (HB.out.cell (World.block_lt_of_cell? w _ hx135_3)).trans hx135_3
       replace hx135_4 := (HB.out.cell (World.block_lt_of_cell? w _ hx135_4)).trans hx135_4
       have HR135_2 := Sq.l hi135_2
       have HC135_2 := Sq.l hl135_2
       clear hi135_2 hl135_2
       have HR135_3 := Sq.l hi135_3
       have HC135_3 := Sq.l hl135_3
       clear hi135_3 hl135_3
       have HR135_4 := Sq.l hi135_4
       have HC135_4 := Sq.l hl135_4
       clear hi135_4 hl135_4; replace p135 := eq_true p135; replace q135 := eq_true q135
       go_wp2_with (first | ((with_reducible refine gate_callee (f := 92) rfl ?_); refine goesL_ (some 20) rfl rfl Try.func92 (by kernel_rfl) rfl #[.agg #[.string ((rd_T148 l0 x3_1).f0), .string ((rd_T148 l0 x3_1).f1), .slice A135_2 ((rd_T148 l0 x3_1).f2).length c135_2, .slice A135_3 ((rd_T148 l0 x3_1).f3).length c135_3, .slice A135_4 ((rd_T148 l0 x3_1).f4).length c135_4]] rfl (by (try simp only [List.map_toArray, List.map_cons, List.map_nil]); first | done | rfl | (simp only [List.length_drop, List.length_take]; rfl)) ?_; (with_reducible refine (spec_ImageFault.calls k1 ((rd_T148 l0 x3_1).f0) ((rd_T148 l0 x3_1).f1) _ _ ((rd_T148 l0 x3_1).f2) _ _ ((rd_T148 l0 x3_1).f3) _ _ ((rd_T148 l0 x3_1).f4) t136 _ ?side1 ?side2 ?side3 ?side4 ?side5 ?side6 A5.out).mono ?_); (case side1 => repeat (first | exact (Sq.a1 HR135_2.out HB.out) | (with_reducible refine Sq.s ?_ _) | (with_reducible refine Sq.t ?_ _) | (with_reducible refine Sq.u ?_))); (case side2 => exact HC135_2.out); (case side3 => repeat (first | exact (Sq.a1 HR135_3.out HB.out) | (with_reducible refine Sq.s ?_ _) | (with_reducible refine Sq.t ?_ _) | (with_reducible refine Sq.u ?_))); (case side4 => exact HC135_3.out); (case side5 => repeat (first | exact (Sq.a1 HR135_4.out HB.out) | (with_reducible refine Sq.s ?_ _) | (with_reducible refine Sq.t ?_ _) | (with_reducible refine Sq.u ?_))); (case side6 => exact HC135_4.out); rintro e w11 ⟨rfl, hb⟩; refine ⟨_, rfl, ?_⟩; have n0_ := Sq.l (Sq.a4 (by repeat (first | (with_reducible first | exact HB.out | apply Sq.i | apply Sq.j | apply Sq.k) | exact HB.out)) hb); clear HB; have HB := n0_; clear n0_; (try clear hb); (try clear hb2); (try clear hk); (try clear hi)))
       go_ret
       exact ⟨by first | rfl | (simp [errW_none, errW_some] <;> rfl) | (simp [*, errW_none, errW_some] <;> rfl), by repeat (first | (with_reducible first | exact HB.out | apply Sq.i | apply Sq.j | apply Sq.k) | exact HB.out)⟩
     ·rw [if_neg c4] at H
      exact absurd H (by simp)
    ·rw [if_neg c3] at H
     have c3b0 : decide (x3_1 < (l0.length : Int)) = false := decide_eq_false c3
     clear c3
     have H' := Sq.l H
     clear H
     go_wp2
     go_loopg [4] k1 (fun kq v4 w' => ∃ (x4_2 : Int), v4 = .int .i64 x4_2 ∧ Aside0 (spec_ChainFault.l1 kq l0 x4_2 = some r) ∧ Aside0 (kq ≤ k1) ∧ Aside0 (Below w.heap.size w w'))
     case atStart => exact ⟨(0), (by first | rfl | (simp; done) | (simp [*]; done)), H', ⟨Nat.le_refl _⟩, ⟨by repeat (first | (with_reducible first | exact HB.out | apply Sq.i | apply Sq.j | apply Sq.k) | exact HB.out)⟩⟩
     case round =>
      clear H'
      try clear c1; try clear p1; try clear q1; try clear hx1; try clear c2; try clear c2b0; try clear c2b1; try clear p2; try clear c3; try clear c3b0; try clear c4; try clear c4b0; try clear c6; try clear c6b0; try clear c6b1; try clear p6; try clear c8; try clear c8b0; try clear c8b1; try clear c9; try clear hx135_0; try clear hx135_1; try clear hx135_2; try clear hx135_3; try clear hx135_4; try clear hx137_0; try clear hx137_1; try clear hx137_2; try clear hx137_3; try clear hx137_4; try clear p135; try clear p137; try clear p2; try clear q135; try clear q137
      obtain ⟨x4_2, rfl, HA, HK2, HB⟩ := hrel
      cases gk with
      | zero => exact absurd HA.out (by simp [spec_ChainFault.l1])
      | succ k2 =>
       have H := HA.out
       clear HA
       simp only [spec_ChainFault.l1] at H
       by_cases c12 : x4_2 < (l0.length : Int)
       ·rw [if_pos c12] at H
        have c12b0 : decide (x4_2 < (l0.length : Int)) = true := decide_eq_true c12
        clear c12
        have H' := Sq.l H
        clear H
        go_wp2
        go_loopg [5, 6] k2 (fun kq v5 v6 w' => ∃ (x5_3 : Int) (x6_3 : Int), v5 = .int .i64 x5_3 ∧ v6 = .int .i64 x6_3 ∧ Aside0 (spec_ChainFault.l2 kq l0 x4_2 x5_3 x6_3 = some r) ∧ Aside0 (kq ≤ k2) ∧ Aside0 (Below w.heap.size w w'))
        case atStart => exact ⟨(x4_2), (0), (by first | rfl | (simp; done) | (simp [*]; done)), (by first | rfl | (simp; done) | (simp [*]; done)), H', ⟨Nat.le_refl _⟩, ⟨by repeat (first | (with_reducible first | exact HB.out | apply Sq.i | apply Sq.j | apply Sq.k) | exact HB.out)⟩⟩
        case round =>
         clear H'
         try clear c1; try clear p1; try clear q1; try clear hx1; try clear c2; try clear c2b0; try clear c2b1; try clear p2; try clear c3; try clear c3b0; try clear c4; try clear c4b0; try clear c6; try clear c6b0; try clear c6b1; try clear p6; try clear c8; try clear c8b0; try clear c8b1; try clear c9; try clear c12; try clear c12b0; try clear hx135_0; try clear hx135_1; try clear hx135_2; try clear hx135_3; try clear hx135_4; try clear hx137_0; try clear hx137_1; try clear hx137_2; try clear hx137_3; try clear hx137_4; try clear p1; try clear p135; try clear p137; try clear p2; try clear p6; try clear q1; try clear q135; try clear q137
         obtain ⟨x5_3, x6_3, rfl, rfl, HA, HK3, HB⟩ := hrel
         cases gk with
         | zero => exact absurd HA.out (by simp [spec_ChainFault.l2])
         | succ k3 =>
          have H := HA.out
          clear HA
          simp only [spec_ChainFault.l2] at H
          by_cases c13 : 0 ≤ x5_3
          ·rw [if_pos c13] at H
           have c13b0 : decide (0 ≤ x5_3) = true := decide_eq_true c13
           clear c13
           by_cases c14 : x5_3 < (l0.length : Int)
           ·rw [if_pos c14] at H
            have c14b0 : decide (x5_3 < (l0.length : Int)) = true := decide_eq_true c14
            clear c14
            by_cases c15 : ((rd_T148 l0 x5_3).f1).toList = ([] : List UInt8)
            ·rw [if_pos c15] at H
             have c15b0 : (((rd_T148 l0 x5_3).f1).toList == ([] : List UInt8)) = true := beq_iff_eq.mpr c15
             have c15b1 : (((rd_T148 l0 x5_3).f1).toList != ([] : List UInt8)) = false := bne_eq_false_iff_eq.mpr c15
             (try (have c15b2 : (((rd_T148 l0 x5_3).f1).toList.isEmpty) = true := Sq.it c15))
             clear c15
             have H' := Sq.l H
             clear H
             have p139 : 0 ≤ (x5_3 : Int) := of_decide_eq_true (by first | (with_reducible assumption) | assumption)
             have q139 : x5_3 < (l0.length : Int) := of_decide_eq_true (by first | (with_reducible assumption) | assumption)
             obtain ⟨ad139, A139_2, c139_2, A139_3, c139_3, A139_4, c139_4, e139, hx139_0, hx139_1, hx139_2, hx139_3, hx139_4, hl139_2, hi139_2, hl139_3, hi139_3, hl139_4, hi139_4⟩ := at_T148 HR0.out x5_3 p139 q139
             cases e139
             replace hx139_0 := (HB.out.cell (World.block_lt_of_cell? w _ hx139_0)).trans hx139_0
             replace hx139_1 := (HB.out.cell (World.block_lt_of_cell? w _ hx139_1)).trans hx139_1
             replace hx139_2 := (HB.out.cell (World.block_lt_of_cell? w _ hx139_2)).trans hx139_2
             replace hx139_3 := (HB.out.cell (World.block_lt_of_cell? w _ hx139_3)).trans hx139_3
             replace hx139_4 := (HB.out.cell (World.block_lt_of_cell? w _ hx139_4)).trans hx139_4
             have HR139_2 := Sq.l hi139_2
             have HC139_2 := Sq.l hl139_2
             clear hi139_2 hl139_2
             have HR139_3 := Sq.l hi139_3
             have HC139_3 := Sq.l hl139_3
             clear hi139_3 hl139_3
             have HR139_4 := Sq.l hi139_4
             have HC139_4 := Sq.l hl139_4
             clear hi139_4 hl139_4; replace p139 := eq_true p139; replace q139 := eq_true q139
             go_wp2
             go_roundg k3
             case measure => have := HK1.out; have := HK2.out; have := HK3.out; omega
             case rel => exact ⟨(wrap64 (x4_2 + 1)), (by first | rfl | (simp; done) | (simp [*]; done)), H', ⟨by have := HK1.out; have := HK2.out; have := HK3.out; omega⟩, ⟨by repeat (first | (with_reducible first | exact HB.out | apply Sq.i | apply Sq.j | apply Sq.k) | exact HB.out)⟩⟩
            ·rw [if_neg c15] at H
             have c15b0 : (((rd_T148 l0 x5_3).f1).toList == ([] : List UInt8)) = false := beq_eq_false_iff_ne.mpr c15
             have c15b1 : (((rd_T148 l0 x5_3).f1).toList != ([] : List UInt8)) = true := bne_iff_ne.mpr c15
             (try (have c15b2 : (((rd_T148 l0 x5_3).f1).toList.isEmpty) = false := Sq.ie c15))
             replace H := Option.bind_eq_some_iff.mp H
             obtain ⟨t141, A160, H⟩ := H
             (try dsimp only at H)
             have A16 := Sq.l A160
             clear A160
             by_cases c17 : t141 < 0
             ·rw [if_pos c17] at H
              have c17b0 : decide (t141 < 0) = true := decide_eq_true c17
              clear c17
              obtain rfl := Option.some.inj H
              have p139 : 0 ≤ (x5_3 : Int) := of_decide_eq_true (by first | (with_reducible assumption) | assumption)
              have q139 : x5_3 < (l0.length : Int) := of_decide_eq_true (by first | (with_reducible assumption) | assumption)
              obtain ⟨ad139, A139_2, c139_2, A139_3, c139_3, A139_4, c139_4, e139, hx139_0, hx139_1, hx139_2, hx139_3, hx139_4, hl139_2, hi139_2, hl139_3, hi139_3, hl139_4, hi139_4⟩ := at_T148 HR0.out x5_3 p139 q139
              cases e139
              replace hx139_0 := (HB.out.cell (World.block_lt_of_cell? w _ hx139_0)).trans hx139_0
              replace hx139_1 := (HB.out.cell (World.block_lt_of_cell? w _ hx139_1)).trans hx139_1
              replace hx139_2 := (HB.out.cell (World.block_lt_of_cell? w _ hx139_2)).trans hx139_2
              replace hx139_3 := (HB.out.cell (World.block_lt_of_cell? w _ hx139_3)).trans hx139_3
              replace hx139_4 := (HB.out.cell (World.block_lt_of_cell? w _ hx139_4)).trans hx139_4
              have HR139_2 := Sq.l hi139_2
              have HC139_2 := Sq.l hl139_2
              clear hi139_2 hl139_2
              have HR139_3 := Sq.l hi139_3
              have HC139_3 := Sq.l hl139_3
              clear hi139_3 hl139_3
              have HR139_4 := Sq.l hi139_4
              have HC139_4 := Sq.l hl139_4
              clear hi139_4 hl139_4; replace p139 := eq_true p139; replace q139 := eq_true q139
              have p140 : 0 ≤ (x5_3 : Int) := of_decide_eq_true (by first | (with_reducible assumption) | assumption)
              have q140 : x5_3 < (l0.length : Int) := of_decide_eq_true (by first | (with_reducible assumption) | assumption)
              obtain ⟨ad140, A140_2, c140_2, A140_3, c140_3, A140_4, c140_4, e140, hx140_0, hx140_1, hx140_2, hx140_3, hx140_4, hl140_2, hi140_2, hl140_3, hi140_3, hl140_4, hi140_4⟩ := at_T148 HR0.out x5_3 p140 q140
              obtain rfl : ad139 = ad140 := (by injection e140)
              replace hx140_0 := (HB.out.cell (World.block_lt_of_cell? w _ hx140_0)).trans hx140_0
              replace hx140_1 := (HB.out.cell (World.block_lt_of_cell? w _ hx140_1)).trans hx140_1
              replace hx140_2 := (HB.out.cell (World.block_lt_of_cell? w _ hx140_2)).trans hx140_2
              replace hx140_3 := (HB.out.cell (World.block_lt_of_cell? w _ hx140_3)).trans hx140_3
              replace hx140_4 := (HB.out.cell (World.block_lt_of_cell? w _ hx140_4)).trans hx140_4
              have HR140_2 := Sq.l hi140_2
              have HC140_2 := Sq.l hl140_2
              clear hi140_2 hl140_2
              have HR140_3 := Sq.l hi140_3
              have HC140_3 := Sq.l hl140_3
              clear hi140_3 hl140_3
              have HR140_4 := Sq.l hi140_4
              have HC140_4 := Sq.l hl140_4
              clear hi140_4 hl140_4; replace p140 := eq_true p140; replace q140 := eq_true q140
              have ea_ := Option.some.inj (hx139_2.symm.trans hx140_2)
              injection ea_ with ea_ en_ ec_
              subst ea_
              subst ec_
              clear en_
              have ea_ := Option.some.inj (hx139_3.symm.trans hx140_3)
              injection ea_ with ea_ en_ ec_
              subst ea_
              subst ec_
              clear en_
              have ea_ := Option.some.inj (hx139_4.symm.trans hx140_4)
              injection ea_ with ea_ en_ ec_
              subst ea_
              subst ec_
              clear en_
              go_wp2_with (first | ((with_reducible refine gate_callee (f := 93) rfl ?_); refine goesL_ (some 54) rfl rfl Try.func93 (by kernel_rfl) rfl #[.slice (some ad139) l0.length c0, .string ((rd_T148 l0 x5_3).f1)] rfl (by (try simp only [List.map_toArray, List.map_cons, List.map_nil]); first | done | rfl | (simp only [List.length_drop, List.length_take]; rfl)) ?_; (with_reducible refine (spec_l13Find.calls k3 _ _ l0 ((rd_T148 l0 x5_3).f1) t141 _ ?side1 ?side2 A16.out).mono ?_); (case side1 => repeat (first | exact (Sq.a1 HR0.out HB.out) | (with_reducible refine Sq.s ?_ _) | (with_reducible refine Sq.t ?_ _) | (with_reducible refine Sq.u ?_))); (case side2 => exact HC0.out); rintro e w' ⟨rfl, ⟨nd, rfl⟩⟩; refine ⟨_, rfl, ?_⟩))
              go_ret
              exact ⟨by first | rfl | (simp [errW_none, errW_some] <;> rfl) | (simp [*, errW_none, errW_some] <;> rfl), by repeat (first | (with_reducible first | exact HB.out | apply Sq.i | apply Sq.j | apply Sq.k) | exact HB.out)⟩
             ·rw [if_neg c17] at H
              have c17b0 : decide (t141 < 0) = false := decide_eq_false c17
              clear c17
              by_cases c18 : x6_3 > 12
              ·rw [if_pos c18] at H
               have c18b0 : decide (12 < x6_3) = true := decide_eq_true c18
               clear c18
               obtain rfl := Option.some.inj H
               have p139 : 0 ≤ (x5_3 : Int) := of_decide_eq_true (by first | (with_reducible assumption) | assumption)
               have q139 : x5_3 < (l0.length : Int) := of_decide_eq_true (by first | (with_reducible assumption) | assumption)
               obtain ⟨ad139, A139_2, c139_2, A139_3, c139_3, A139_4, c139_4, e139, hx139_0, hx139_1, hx139_2, hx139_3, hx139_4, hl139_2, hi139_2, hl139_3, hi139_3, hl139_4, hi139_4⟩ := at_T148 HR0.out x5_3 p139 q139
               cases e139
               replace hx139_0 := (HB.out.cell (World.block_lt_of_cell? w _ hx139_0)).trans hx139_0
               replace hx139_1 := (HB.out.cell (World.block_lt_of_cell? w _ hx139_1)).trans hx139_1
               replace hx139_2 := (HB.out.cell (World.block_lt_of_cell? w _ hx139_2)).trans hx139_2
               replace hx139_3 := (HB.out.cell (World.block_lt_of_cell? w _ hx139_3)).trans hx139_3
               replace hx139_4 := (HB.out.cell (World.block_lt_of_cell? w _ hx139_4)).trans hx139_4
               have HR139_2 := Sq.l hi139_2
               have HC139_2 := Sq.l hl139_2
               clear hi139_2 hl139_2
               have HR139_3 := Sq.l hi139_3
               have HC139_3 := Sq.l hl139_3
               clear hi139_3 hl139_3
               have HR139_4 := Sq.l hi139_4
               have HC139_4 := Sq.l hl139_4
               clear hi139_4 hl139_4; replace p139 := eq_true p139; replace q139 := eq_true q139
               have p140 : 0 ≤ (x5_3 : Int) := of_decide_eq_true (by first | (with_reducible assumption) | assumption)
               have q140 : x5_3 < (l0.length : Int) := of_decide_eq_true (by first | (with_reducible assumption) | assumption)
               obtain ⟨ad140, A140_2, c140_2, A140_3, c140_3, A140_4, c140_4, e140, hx140_0, hx140_1, hx140_2, hx140_3, hx140_4, hl140_2, hi140_2, hl140_3, hi140_3, hl140_4, hi140_4⟩ := at_T148 HR0.out x5_3 p140 q140
               obtain rfl : ad139 = ad140 := (by injection e140)
               replace hx140_0 := (HB.out.cell (World.block_lt_of_cell? w _ hx140_0)).trans hx140_0
               replace hx140_1 := (HB.out.cell (World.block_lt_of_cell? w _ hx140_1)).trans hx140_1
               replace hx140_2 := (HB.out.cell (World.block_lt_of_cell? w _ hx140_2)).trans hx140_2
               replace hx140_3 := (HB.out.cell (World.block_lt_of_cell? w _ hx140_3)).trans hx140_3
               replace hx140_4 := (HB.out.cell (World.block_lt_of_cell? w _ hx140_4)).trans hx140_4
               have HR140_2 := Sq.l hi140_2
               have HC140_2 := Sq.l hl140_2
               clear hi140_2 hl140_2
               have HR140_3 := Sq.l hi140_3
               have HC140_3 := Sq.l hl140_3
               clear hi140_3 hl140_3
               have HR140_4 := Sq.l hi140_4
               have HC140_4 := Sq.l hl140_4
               clear hi140_4 hl140_4; replace p140 := eq_true p140; replace q140 := eq_true q140
               have ea_ := Option.some.inj (hx139_2.symm.trans hx140_2)
               injection ea_ with ea_ en_ ec_
               subst ea_
               subst ec_
               clear en_
               have ea_ := Option.some.inj (hx139_3.symm.trans hx140_3)
               injection ea_ with ea_ en_ ec_
               subst ea_
               subst ec_
               clear en_
               have ea_ := Option.some.inj (hx139_4.symm.trans hx140_4)
               injection ea_ with ea_ en_ ec_
               subst ea_
               subst ec_
               clear en_
               go_wp2_with (first | ((with_reducible refine gate_callee (f := 93) rfl ?_); refine goesL_ (some 54) rfl rfl Try.func93 (by kernel_rfl) rfl #[.slice (some ad139) l0.length c0, .string ((rd_T148 l0 x5_3).f1)] rfl (by (try simp only [List.map_toArray, List.map_cons, List.map_nil]); first | done | rfl | (simp only [List.length_drop, List.length_take]; rfl)) ?_; (with_reducible refine (spec_l13Find.calls k3 _ _ l0 ((rd_T148 l0 x5_3).f1) t141 _ ?side1 ?side2 A16.out).mono ?_); (case side1 => repeat (first | exact (Sq.a1 HR0.out HB.out) | (with_reducible refine Sq.s ?_ _) | (with_reducible refine Sq.t ?_ _) | (with_reducible refine Sq.u ?_))); (case side2 => exact HC0.out); rintro e w' ⟨rfl, ⟨nd, rfl⟩⟩; refine ⟨_, rfl, ?_⟩))
               go_ret
               exact ⟨by first | rfl | (simp [errW_none, errW_some] <;> rfl) | (simp [*, errW_none, errW_some] <;> rfl), by repeat (first | (with_reducible first | exact HB.out | apply Sq.i | apply Sq.j | apply Sq.k) | exact HB.out)⟩
              ·rw [if_neg c18] at H
               have c18b0 : decide (12 < x6_3) = false := decide_eq_false c18
               clear c18
               have H' := Sq.l H
               clear H
               have p139 : 0 ≤ (x5_3 : Int) := of_decide_eq_true (by first | (with_reducible assumption) | assumption)
               have q139 : x5_3 < (l0.length : Int) := of_decide_eq_true (by first | (with_reducible assumption) | assumption)
               obtain ⟨ad139, A139_2, c139_2, A139_3, c139_3, A139_4, c139_4, e139, hx139_0, hx139_1, hx139_2, hx139_3, hx139_4, hl139_2, hi139_2, hl139_3, hi139_3, hl139_4, hi139_4⟩ := at_T148 HR0.out x5_3 p139 q139
               cases e139
               replace hx139_0 := (HB.out.cell (World.block_lt_of_cell? w _ hx139_0)).trans hx139_0
               replace hx139_1 := (HB.out.cell (World.block_lt_of_cell? w _ hx139_1)).trans hx139_1
               replace hx139_2 := (HB.out.cell (World.block_lt_of_cell? w _ hx139_2)).trans hx139_2
               replace hx139_3 := (HB.out.cell (World.block_lt_of_cell? w _ hx139_3)).trans hx139_3
               replace hx139_4 := (HB.out.cell (World.block_lt_of_cell? w _ hx139_4)).trans hx139_4
               have HR139_2 := Sq.l hi139_2
               have HC139_2 := Sq.l hl139_2
               clear hi139_2 hl139_2
               have HR139_3 := Sq.l hi139_3
               have HC139_3 := Sq.l hl139_3
               clear hi139_3 hl139_3
               have HR139_4 := Sq.l hi139_4
               have HC139_4 := Sq.l hl139_4
               clear hi139_4 hl139_4; replace p139 := eq_true p139; replace q139 := eq_true q139
               have p140 : 0 ≤ (x5_3 : Int) := of_decide_eq_true (by first | (with_reducible assumption) | assumption)
               have q140 : x5_3 < (l0.length : Int) := of_decide_eq_true (by first | (with_reducible assumption) | assumption)
               obtain ⟨ad140, A140_2, c140_2, A140_3, c140_3, A140_4, c140_4, e140, hx140_0, hx140_1, hx140_2, hx140_3, hx140_4, hl140_2, hi140_2, hl140_3, hi140_3, hl140_4, hi140_4⟩ := at_T148 HR0.out x5_3 p140 q140
               obtain rfl : ad139 = ad140 := (by injection e140)
               replace hx140_0 := (HB.out.cell (World.block_lt_of_cell? w _ hx140_0)).trans hx140_0
               replace hx140_1 := (HB.out.cell (World.block_lt_of_cell? w _ hx140_1)).trans hx140_1
               replace hx140_2 := (HB.out.cell (World.block_lt_of_cell? w _ hx140_2)).trans hx140_2
               replace hx140_3 := (HB.out.cell (World.block_lt_of_cell? w _ hx140_3)).trans hx140_3
               replace hx140_4 := (HB.out.cell (World.block_lt_of_cell? w _ hx140_4)).trans hx140_4
               have HR140_2 := Sq.l hi140_2
               have HC140_2 := Sq.l hl140_2
               clear hi140_2 hl140_2
               have HR140_3 := Sq.l hi140_3
               have HC140_3 := Sq.l hl140_3
               clear hi140_3 hl140_3
               have HR140_4 := Sq.l hi140_4
               have HC140_4 := Sq.l hl140_4
               clear hi140_4 hl140_4; replace p140 := eq_true p140; replace q140 := eq_true q140
               have ea_ := Option.some.inj (hx139_2.symm.trans hx140_2)
               injection ea_ with ea_ en_ ec_
               subst ea_
               subst ec_
               clear en_
               have ea_ := Option.some.inj (hx139_3.symm.trans hx140_3)
               injection ea_ with ea_ en_ ec_
               subst ea_
               subst ec_
               clear en_
               have ea_ := Option.some.inj (hx139_4.symm.trans hx140_4)
               injection ea_ with ea_ en_ ec_
               subst ea_
               subst ec_
               clear en_
               go_wp2_with (first | ((with_reducible refine gate_callee (f := 93) rfl ?_); refine goesL_ (some 54) rfl rfl Try.func93 (by kernel_rfl) rfl #[.slice (some ad139) l0.length c0, .string ((rd_T148 l0 x5_3).f1)] rfl (by (try simp only [List.map_toArray, List.map_cons, List.map_nil]); first | done | rfl | (simp only [List.length_drop, List.length_take]; rfl)) ?_; (with_reducible refine (spec_l13Find.calls k3 _ _ l0 ((rd_T148 l0 x5_3).f1) t141 _ ?side1 ?side2 A16.out).mono ?_); (case side1 => repeat (first | exact (Sq.a1 HR0.out HB.out) | (with_reducible refine Sq.s ?_ _) | (with_reducible refine Sq.t ?_ _) | (with_reducible refine Sq.u ?_))); (case side2 => exact HC0.out); rintro e w' ⟨rfl, ⟨nd, rfl⟩⟩; refine ⟨_, rfl, ?_⟩))
               go_roundg k3
               case measure => have := HK1.out; have := HK2.out; have := HK3.out; omega
               case rel => exact ⟨(t141), (wrap64 (x6_3 + 1)), (by first | rfl | (simp; done) | (simp [*]; done)), (by first | rfl | (simp; done) | (simp [*]; done)), H', ⟨by have := HK1.out; have := HK2.out; have := HK3.out; omega⟩, ⟨by repeat (first | (with_reducible first | exact HB.out | apply Sq.i | apply Sq.j | apply Sq.k) | exact HB.out)⟩⟩
           ·rw [if_neg c14] at H
            exact absurd H (by simp)
          ·rw [if_neg c13] at H
           exact absurd H (by simp)
       ·rw [if_neg c12] at H
        have c12b0 : decide (x4_2 < (l0.length : Int)) = false := decide_eq_false c12
        clear c12
        obtain rfl := Option.some.inj H
        go_wp2
        go_ret
        exact ⟨by first | rfl | (simp [errW_none, errW_some] <;> rfl) | (simp [*, errW_none, errW_some] <;> rfl), by repeat (first | (with_reducible first | exact HB.out | apply Sq.i | apply Sq.j | apply Sq.k) | exact HB.out)⟩

/-! ### laws_toInt64S: function 21 -/
def laws_toInt64S.l0 : Nat → List Int → List Int → Int → Option (List Int)
  | 0, _, _, _ => none
  | k + 1, x0, x3, x4 => if x4 < (x0.length : Int) then (if 0 ≤ x4 then (if x4 < (x3.length : Int) then (laws_toInt64S.l0 k x0 (x3.set (x4 : Int).toNat (rd x0 x4)) (wrap64 (x4 + 1))) else (none)) else (none)) else (some x3)
def laws_toInt64S.f (k : Nat) (l0 : List Int) : Option (List Int) := if 0 ≤ (l0.length : Int) then (if ((l0.length : Int) : Int).toNat ≤ 35184372088832 then (laws_toInt64S.l0 k l0 (List.replicate ((l0.length : Int) : Int).toNat 0) 0) else (none)) else (none)
theorem laws_toInt64S.mono_l : ∀ k, (∀ y0 y1 y2, LeO (laws_toInt64S.l0 k y0 y1 y2) (laws_toInt64S.l0 (k + 1) y0 y1 y2))
  | 0 => fun _ _ _ r h => by simp [laws_toInt64S.l0] at h
  | k + 1 => by
    have ih0 := laws_toInt64S.mono_l k
    · intro y0 y1 y2
      unfold laws_toInt64S.l0
      repeat' first
      | (with_reducible exact ih0 _ _ _)
      | (with_reducible exact LeO.refl _)
      | (with_reducible exact LeO.none _)
      | (with_reducible refine LeO.ite ?_ ?_)
      | (with_reducible refine LeO.bind ?_ (fun _ => ?_))
      | exact ih0 _ _ _
      | exact LeO.none _
      | refine LeO.ite ?_ ?_
      | refine LeO.bind ?_ (fun _ => ?_)
theorem laws_toInt64S.mono : ∀ a0 k, LeO (laws_toInt64S.f k a0) (laws_toInt64S.f (k + 1) a0) := by
  intro a0 k
  have ih0 := laws_toInt64S.mono_l k
  unfold laws_toInt64S.f
  repeat' first
      | (with_reducible exact ih0 _ _ _)
      | (with_reducible exact LeO.refl _)
      | (with_reducible exact LeO.none _)
      | (with_reducible refine LeO.ite ?_ ?_)
      | (with_reducible refine LeO.bind ?_ (fun _ => ?_))
      | exact ih0 _ _ _
      | exact LeO.none _
      | refine LeO.ite ?_ ?_
      | refine LeO.bind ?_ (fun _ => ?_)
set_option maxHeartbeats 8000000 in
set_option maxRecDepth 100000 in
theorem laws_toInt64S.calls (k : Nat) (A0 : Option Addr) (c0 : Nat) (l0 : List Int) (r : List Int) (w : World) (hr0 : Kd.C (Kd.int .i64) w A0 l0.length l0) (hc0 : l0.length ≤ c0) (h : laws_toInt64S.f k l0 = some r) :
    Calls Try.prog 21 #[.slice A0 l0.length c0] w fun e w' => ∃ v0_ : Value, e = .returned (v0_) ∧ Kd.R (Kd.int .i64) 2 w' w.heap.size (fun _ => True) v0_ r ∧ Below w.heap.size w w' := by
  have HR0 := Aside0.mk hr0
  have HC0 := Aside0.mk hc0
  clear hr0 hc0
  have HB := Aside0.mk (Below.refl w.heap.size w)
  have H : (if 0 ≤ (l0.length : Int) then (if ((l0.length : Int) : Int).toNat ≤ 35184372088832 then (laws_toInt64S.l0 k l0 (List.replicate ((l0.length : Int) : Int).toNat 0) 0) else (none)) else (none)) = some r := h
  clear h
  by_cases c2 : 0 ≤ (l0.length : Int)
  · rw [if_pos c2] at H
    have c2b0 := eq_true c2
    have c2b1 : decide (0 ≤ (l0.length : Int)) = true := decide_eq_true c2
    clear c2
    by_cases c3 : ((l0.length : Int) : Int).toNat ≤ 35184372088832
    · rw [if_pos c3] at H
      have c3b0 := eq_true c3
      have c3b1 : decide (((l0.length : Int) : Int).toNat ≤ 35184372088832) = true := decide_eq_true c3
      clear c3
      obtain ⟨y142, hy142⟩ : ∃ y_ : List Int, y_ = (List.replicate ((l0.length : Int) : Int).toNat 0) := ⟨_, rfl⟩
      replace H : (laws_toInt64S.l0 k l0 y142 0) = some r := by first | (rw [hy142]; with_reducible exact H) | (have H2_ := (Option.bind_some _ _).symm.trans H; rw [hy142]; with_reducible exact H2_) | (have H2_ := (Option.bind_some _ _).symm.trans H; with_reducible exact H2_) | with_reducible exact H | (rw [hy142]; exact H) | exact H
      have Ny142 := Aside0.mk hy142
      clear hy142
      have H' := Aside0.mk H
      clear H
      go_enter Try.func21, Try.ntmps21
      go_wp2_with (first | ((with_reducible refine gate_dst (N := 7) rfl ?_); refine Kd.R_make (Kd.int .i64) _ 2 rfl (N := 7) rfl 50 _ _ rfl (l0.length : Int) rfl rfl Try.underlying50 (.int .i64 0) 8 info2 rfl (by decide) (by omega) 0 (ok := fun _ => True) (okp := fun _ => True) rfl (fun _ hk => hk) trivial (of_decide_eq_true (by first | (with_reducible assumption) | assumption)) (Nat.le_trans (Nat.mul_le_mul_right _ (of_decide_eq_true (by first | (with_reducible assumption) | assumption) : (l0.length : Int).toNat ≤ 35184372088832)) (by omega)) (Below.refl _ _) (Nat.le_refl _) ?_; intro v143 w4 ho5 hb hg_ hnew_; clear hg_ hnew_; (first | rw [← Ny142.out] at ho5 | (simp only [Int.reduceToNat] at ho5; rw [← Ny142.out] at ho5)); have n0_ := Aside0.mk (Kd.R_lower ho5 (below_size (by repeat (first | (with_reducible first | exact HB.out | apply below_alloc | apply pw_below_drewN | apply below_drew1) | exact HB.out)))); have n1_ := Aside0.mk (below_step (by repeat (first | (with_reducible first | exact HB.out | apply below_alloc | apply pw_below_drewN | apply below_drew1) | exact HB.out)) hb); clear HB; have HO144 := n0_; have HB := n1_; clear n0_ n1_; clear hb ho5))
      go_loopg [4] k (fun kq v4 w' => ∃ (x3_1 : List Int) (x4_1 : Int), v4 = .int .i64 x4_1 ∧ Aside0 (laws_toInt64S.l0 kq l0 x3_1 x4_1 = some r) ∧ Aside0 (kq ≤ k) ∧ Aside0 (Kd.R (Kd.int .i64) 2 w' w.heap.size (fun _ => True) v143 x3_1) ∧ Aside0 (Below w.heap.size w w'))
      case atStart => exact ⟨(y142), (0), (by first | rfl | (simp; done) | (simp [*]; done)), H', ⟨Nat.le_refl _⟩, ⟨by (with_reducible repeat (first | apply Kd.R_alloc | apply Kd.R_drewN | apply Kd.R_drew)); exact HO144.out⟩, ⟨by repeat (first | (with_reducible first | exact HB.out | apply below_alloc | apply pw_below_drewN | apply below_drew1) | exact HB.out)⟩⟩
      case round =>
        clear H'
        try clear c2
        try clear c2b0
        try clear c2b1
        try clear p2
        try clear c3
        try clear c3b0
        try clear c3b1
        obtain ⟨x3_1, x4_1, rfl, HA, HK1, HO_3, HB⟩ := hrel
        cases gk with
        | zero => exact absurd HA.out (by simp [laws_toInt64S.l0])
        | succ k1 =>
          have H := HA.out
          clear HA
          simp only [laws_toInt64S.l0] at H
          by_cases c6 : x4_1 < (l0.length : Int)
          · rw [if_pos c6] at H
            have c6b0 : decide (x4_1 < (l0.length : Int)) = true := decide_eq_true c6
            clear c6
            by_cases c7 : 0 ≤ x4_1
            · rw [if_pos c7] at H
              have c7b0 : decide (0 ≤ x4_1) = true := decide_eq_true c7
              clear c7
              by_cases c8 : x4_1 < (x3_1.length : Int)
              · rw [if_pos c8] at H
                have c8b0 : decide (x4_1 < (x3_1.length : Int)) = true := decide_eq_true c8
                clear c8
                obtain ⟨y146, hy146⟩ : ∃ y_ : List Int, y_ = (x3_1.set (x4_1 : Int).toNat (rd l0 x4_1)) := ⟨_, rfl⟩
                replace H : (laws_toInt64S.l0 k1 l0 y146 (wrap64 (x4_1 + 1))) = some r := by first | (rw [hy146]; with_reducible exact H) | (have H2_ := (Option.bind_some _ _).symm.trans H; rw [hy146]; with_reducible exact H2_) | (have H2_ := (Option.bind_some _ _).symm.trans H; with_reducible exact H2_) | with_reducible exact H | (rw [hy146]; exact H) | exact H
                have Ny146 := Aside0.mk hy146
                clear hy146
                have H' := Aside0.mk H
                clear H
                have p145 : 0 ≤ (x4_1 : Int) := of_decide_eq_true (by first | (with_reducible assumption) | assumption)
                have q145 : x4_1 < (l0.length : Int) := of_decide_eq_true (by first | (with_reducible assumption) | assumption)
                obtain ⟨ad145, e145, hx145_0⟩ := Kd.at_int HR0.out x4_1 p145 q145
                cases e145
                replace hx145_0 := (HB.out.cell (World.block_lt_of_cell? w _ hx145_0)).trans hx145_0
                replace p145 := eq_true p145
                replace q145 := eq_true q145
                have p9 : 0 ≤ (x4_1 : Int) := of_decide_eq_true (by first | (with_reducible assumption) | assumption)
                have q9 : (x4_1 : Int) < ((x3_1.length : Int) : Int) := of_decide_eq_true (by first | (with_reducible assumption) | assumption)
                obtain ⟨go9, co9, eo9, gb9, gl9, cl9, HG9⟩ := Kd.R_form HO_3.out (by omega)
                (first | cases eo9 | (injection eo9 with ea_ en_ ec_; (first | subst ea_ | (injection ea_ with ea_; subst ea_)); subst ec_; clear en_))
                have GB9 := Aside0.mk gb9
                have GG9 := Aside0.mk HG9
                clear gb9 gl9 HG9
                obtain ⟨hx9_0, hf9_0⟩ := Kd.R_celln 0 HO_3.out (x4_1 : Int) p9 q9
                replace p9 := eq_true p9
                replace q9 := eq_true q9
                have HP10 := Kd.R_putg HO_3.out (x4_1 : Int) (rd l0 x4_1)
                go_wp2_with (first | ((with_reducible refine gate_store (t := 2) (p := 20) rfl ?_); refine store_event (t := 2) (p := 20) (v := ?vo_w11) (w1 := (wr.setCell ⟨go9, (x4_1 : Int).toNat, none⟩ (.int .i64 (rd l0 x4_1)))) ?hg ?ho ?hn ?hr ?_; (case ho => rfl); (case hg => rfl); (case hn => rfl); (case hr => first | (go_simp; done) | (go_simp; rfl)); intro w11 hw; have hg : wr.grownBy w11 (some go9) := (by rw [hw]; exact HP10.2); have hp_ : Kd.R (Kd.int .i64) 2 w11 w.heap.size (fun _ => True) (.slice (some ⟨go9, 0, none⟩) x3_1.length co9) y146 := (by rw [hw, Ny146.out]; exact HP10.1); clear HP10; have n0_ := Aside0.mk (hp_); have n1_ := Aside0.mk ((by rw [hw]; exact below_set (HB.out) GB9.out : Below w.heap.size w w11)); clear HO_3; clear HB; have HO_3 := n0_; have HB := n1_; clear n0_ n1_; clear hg hw hp_))
                go_roundg k1
                case measure => have := HK1.out; omega
                case rel => exact ⟨(y146), (wrap64 (x4_1 + 1)), (by first | rfl | (simp; done) | (simp [*]; done)), H', ⟨by have := HK1.out; omega⟩, ⟨by (with_reducible repeat (first | apply Kd.R_alloc | apply Kd.R_drewN | apply Kd.R_drew)); exact HO_3.out⟩, ⟨by repeat (first | (with_reducible first | exact HB.out | apply below_alloc | apply pw_below_drewN | apply below_drew1) | exact HB.out)⟩⟩
              · rw [if_neg c8] at H
                exact absurd H (by simp)
            · rw [if_neg c7] at H
              exact absurd H (by simp)
          · rw [if_neg c6] at H
            have c6b0 : decide (x4_1 < (l0.length : Int)) = false := decide_eq_false c6
            clear c6
            obtain rfl := Option.some.inj H
            go_wp2
            go_ret
            exact ⟨_, by first | rfl | (simp [errW_none, errW_some] <;> rfl) | (simp [*, errW_none, errW_some] <;> rfl), by (with_reducible repeat (first | apply Kd.R_alloc | apply Kd.R_drewN | apply Kd.R_drew)); exact HO_3.out, by repeat (first | (with_reducible first | exact HB.out | apply below_alloc | apply pw_below_drewN | apply below_drew1) | exact HB.out)⟩
    · rw [if_neg c3] at H
      exact absurd H (by simp)
  · rw [if_neg c2] at H
    exact absurd H (by simp)

end Go.Proofs.Ytmajbehafgajmaa.QFnExactChainFault
