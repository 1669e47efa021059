-- Written for this claim by this session's own driver (wip/xprint.py).
import Derived.Test.YtmajbehafgajmaaQFnExactMemHostFaultx0
import Derived.Test.YtmajbehafgajmaaQFnExactMemHostFaultx2
namespace Go.Proofs.Ytmajbehafgajmaa.QFnExactMemHostFault
open Go.RowKit Go.Proofs.YtmajbehafgajmaaW.PrintWords Go.Proofs.YtmajbehafgajmaaW.PrintLast Go.Proofs.YtmajbehafgajmaaW.PrintMore
attribute [local go_sem] max2_int min2_int max_two min_two max_three min_three max_four min_four   -- for this text's walks alone
set_option linter.unusedVariables false
set_option linter.unusedSimpArgs false

/-! ### spec_l12Group: function 102 -/
mutual
def spec_l12Group.j0 : Nat → Int → Bool → List ByteArray → List ByteArray → List (S90) → Int → List (S97) → ByteArray → List Int → Option (Bool)
 | 0, _, _, _, _, _, _, _, _, _ => none
 | k + 1, x2, x24, x130000, x130001, x130002, x130003, x131000, x131001, x131002 => if x24 = true then (some false) else (if 0 ≤ (wrap64 (x2 * 4)) then (if (wrap64 (x2 * 4)) < (x131000.length : Int) then (spec_l12Group.l0 k x2 ((rd_T97 x131000 (wrap64 (x2 * 4))).f1) 0 x130000 x130001 x130002 x130003 x131000 x131001 x131002) else (none)) else (none))
def spec_l12Group.l0 : Nat → Int → Int → Int → List ByteArray → List ByteArray → List (S90) → Int → List (S97) → ByteArray → List Int → Option (Bool)
 | 0, _, _, _, _, _, _, _, _, _, _ => none
 | k + 1, x2, x7, x8, x130000, x130001, x130002, x130003, x131000, x131001, x131002 => if x8 < 4 then (if 0 ≤ (wrap64 ((wrap64 (x2 * 4)) + x8)) then (if (wrap64 ((wrap64 (x2 * 4)) + x8)) < (x131000.length : Int) then (if ((rd_T97 x131000 (wrap64 ((wrap64 (x2 * 4)) + x8))).f0) = 1 then (if ((rd_T97 x131000 (wrap64 ((wrap64 (x2 * 4)) + x8))).f1) = (wrap64 (x7 + x8)) then ((spec_l12Count.f k x130000 x130001 x130002 x130003 1 ((rd_T97 x131000 (wrap64 ((wrap64 (x2 * 4)) + x8))).f1)).bind fun t134 => (if t134 = 1 then (spec_l12Group.l0 k x2 x7 (wrap64 (x8 + 1)) x130000 x130001 x130002 x130003 x131000 x131001 x131002) else (some false))) else (some false)) else (some false)) else (none)) else (none)) else (some ((Int.tmod x7 4) == 0))
end
def spec_l12Group.f (k : Nat) (l0_0 : List ByteArray) (l0_1 : List ByteArray) (l0_2 : List (S90)) (a0_3 : Int) (l1_0 : List (S97)) (a1_1 : ByteArray) (l1_2 : List Int) (a2 : Int) : Option (Bool) := if a2 < 0 then (spec_l12Group.j0 k a2 true l0_0 l0_1 l0_2 a0_3 l1_0 a1_1 l1_2) else (if a2 ≥ 32 then (spec_l12Group.j0 k a2 true l0_0 l0_1 l0_2 a0_3 l1_0 a1_1 l1_2) else (spec_l12Group.j0 k a2 (decide ((wrap64 ((wrap64 (a2 + 1)) * 4)) > (l1_0.length : Int))) l0_0 l0_1 l0_2 a0_3 l1_0 a1_1 l1_2))
theorem spec_l12Group.mono_l : ∀ k, (∀ y0 y1 y2 y3 y4 y5 y6 y7 y8, LeO (spec_l12Group.j0 k y0 y1 y2 y3 y4 y5 y6 y7 y8) (spec_l12Group.j0 (k + 1) y0 y1 y2 y3 y4 y5 y6 y7 y8)) ∧ (∀ y0 y1 y2 y3 y4 y5 y6 y7 y8 y9, LeO (spec_l12Group.l0 k y0 y1 y2 y3 y4 y5 y6 y7 y8 y9) (spec_l12Group.l0 (k + 1) y0 y1 y2 y3 y4 y5 y6 y7 y8 y9))
 | 0 => ⟨fun _ _ _ _ _ _ _ _ _ r h => by simp [spec_l12Group.j0] at h, fun _ _ _ _ _ _ _ _ _ _ r h => by simp [spec_l12Group.l0] at h⟩
 | k + 1 => by
  obtain ⟨ih0, ih1⟩ := spec_l12Group.mono_l k
  refine ⟨?_, ?_⟩
  ·intro y0 y1 y2 y3 y4 y5 y6 y7 y8
   unfold spec_l12Group.j0
   repeat' first
   | (with_reducible exact ih0 _ _ _ _ _ _ _ _ _)
   | (with_reducible exact ih1 _ _ _ _ _ _ _ _ _ _)
   | (with_reducible exact spec_l12Count.mono _ _ _ _ _ _ _)
   | (with_reducible exact LeO.refl _)
   | (with_reducible exact LeO.none _)
   | (with_reducible refine LeO.ite ?_ ?_)
   | (with_reducible refine LeO.bind ?_ (fun _ => ?_))
   | exact ih0 _ _ _ _ _ _ _ _ _
   | exact ih1 _ _ _ _ _ _ _ _ _ _
   | exact spec_l12Count.mono _ _ _ _ _ _ _
   | exact LeO.none _
   | refine LeO.ite ?_ ?_
   | refine LeO.bind ?_ (fun _ => ?_)
  ·intro y0 y1 y2 y3 y4 y5 y6 y7 y8 y9
   unfold spec_l12Group.l0
   repeat' first
   | (with_reducible exact ih0 _ _ _ _ _ _ _ _ _)
   | (with_reducible exact ih1 _ _ _ _ _ _ _ _ _ _)
   | (with_reducible exact spec_l12Count.mono _ _ _ _ _ _ _)
   | (with_reducible exact LeO.refl _)
   | (with_reducible exact LeO.none _)
   | (with_reducible refine LeO.ite ?_ ?_)
   | (with_reducible refine LeO.bind ?_ (fun _ => ?_))
   | exact ih0 _ _ _ _ _ _ _ _ _
   | exact ih1 _ _ _ _ _ _ _ _ _ _
   | exact spec_l12Count.mono _ _ _ _ _ _ _
   | exact LeO.none _
   | refine LeO.ite ?_ ?_
   | refine LeO.bind ?_ (fun _ => ?_)
theorem spec_l12Group.mono : ∀ a0 a1 a2 a3 a4 a5 a6 a7 k, LeO (spec_l12Group.f k a0 a1 a2 a3 a4 a5 a6 a7) (spec_l12Group.f (k + 1) a0 a1 a2 a3 a4 a5 a6 a7) := by
 intro a0 a1 a2 a3 a4 a5 a6 a7 k
 obtain ⟨ih0, ih1⟩ := spec_l12Group.mono_l k
 unfold spec_l12Group.f
 repeat' first
   | (with_reducible exact ih0 _ _ _ _ _ _ _ _ _)
   | (with_reducible exact ih1 _ _ _ _ _ _ _ _ _ _)
   | (with_reducible exact spec_l12Count.mono _ _ _ _ _ _ _)
   | (with_reducible exact LeO.refl _)
   | (with_reducible exact LeO.none _)
   | (with_reducible refine LeO.ite ?_ ?_)
   | (with_reducible refine LeO.bind ?_ (fun _ => ?_))
   | exact ih0 _ _ _ _ _ _ _ _ _
   | exact ih1 _ _ _ _ _ _ _ _ _ _
   | exact spec_l12Count.mono _ _ _ _ _ _ _
   | exact LeO.none _
   | refine LeO.ite ?_ ?_
   | refine LeO.bind ?_ (fun _ => ?_)
set_option maxHeartbeats 8000000 in
set_option maxRecDepth 100000 in
theorem spec_l12Group.calls (k : Nat) (A0_0 : Option Addr) (c0_0 : Nat) (l0_0 : List ByteArray) (A0_1 : Option Addr) (c0_1 : Nat) (l0_1 : List ByteArray) (A0_2 : Option Addr) (c0_2 : Nat) (l0_2 : List (S90)) (a0_3 : Int) (A1_0 : Option Addr) (c1_0 : Nat) (l1_0 : List (S97)) (a1_1 : ByteArray) (A1_2 : Option Addr) (c1_2 : Nat) (l1_2 : List Int) (a2 : Int) (r : Bool) (w : World) (hr0_0 : Kd.C Kd.string w A0_0 l0_0.length l0_0) (hc0_0 : l0_0.length ≤ c0_0) (hr0_1 : Kd.C Kd.string w A0_1 l0_1.length l0_1) (hc0_1 : l0_1.length ≤ c0_1) (hr0_2 : Kd.C k90 w A0_2 l0_2.length l0_2) (hc0_2 : l0_2.length ≤ c0_2) (hr1_0 : Kd.C k97 w A1_0 l1_0.length l1_0) (hc1_0 : l1_0.length ≤ c1_0) (hr1_2 : Kd.C (Kd.int .i64) w A1_2 l1_2.length l1_2) (hc1_2 : l1_2.length ≤ c1_2) (h : spec_l12Group.f k l0_0 l0_1 l0_2 a0_3 l1_0 a1_1 l1_2 a2 = some r) :
  Calls Try.prog 102 #[.agg #[.slice A0_0 l0_0.length c0_0, .slice A0_1 l0_1.length c0_1, .slice A0_2 l0_2.length c0_2, .int .i64 a0_3], .agg #[.slice A1_0 l1_0.length c1_0, .string a1_1, .slice A1_2 l1_2.length c1_2], .int .i64 a2] w fun e w' => e = .returned (.bool r) ∧ Below w.heap.size w w' := by
 have hu30 := Try.underlying30
 have hu90 := Try.underlying90
 have hu97 := Try.underlying97
 have HR0_0 := Sq.l hr0_0
 have HC0_0 := Sq.l hc0_0
 clear hr0_0 hc0_0
 have HR0_1 := Sq.l hr0_1
 have HC0_1 := Sq.l hc0_1
 clear hr0_1 hc0_1
 have HR0_2 := Sq.l hr0_2
 have HC0_2 := Sq.l hc0_2
 clear hr0_2 hc0_2
 have HR1_0 := Sq.l hr1_0
 have HC1_0 := Sq.l hc1_0
 clear hr1_0 hc1_0
 have HR1_2 := Sq.l hr1_2
 have HC1_2 := Sq.l hc1_2
 clear hr1_2 hc1_2
 have HB := Sq.l (Below.refl w.heap.size w)
 have H : (if a2 < 0 then (spec_l12Group.j0 k a2 true l0_0 l0_1 l0_2 a0_3 l1_0 a1_1 l1_2) else (if a2 ≥ 32 then (spec_l12Group.j0 k a2 true l0_0 l0_1 l0_2 a0_3 l1_0 a1_1 l1_2) else (spec_l12Group.j0 k a2 (decide ((wrap64 ((wrap64 (a2 + 1)) * 4)) > (l1_0.length : Int))) l0_0 l0_1 l0_2 a0_3 l1_0 a1_1 l1_2))) = some r := h
 clear h
 have HC4 := Sq.l H
 clear H
 go_enter Try.func102, Try.ntmps102
 go_upto_region 1 with (first | ((with_reducible refine gate_dst (N := 3) rfl ?_); (try (refine gate_guard (by rfl) ?_; dsimp only)); refine box_event ?hg (N := 3) ?hd (cs := #[.slice A0_0 l0_0.length c0_0, .slice A0_1 l0_1.length c0_1, .slice A0_2 l0_2.length c0_2, .int .i64 a0_3]) (t := 30) ?hr ?_; (case hd => rfl); (case hg => rfl); (case hr => first | (go_simp; done) | (go_simp; rfl)); intro gb129 hg w5 hbox hb; have n0_ := Sq.l (Sq.a4 (by repeat (first | (with_reducible first | exact HB.out | apply Sq.i | apply Sq.j | apply Sq.k) | exact HB.out)) hb); have n1_ := Sq.l (hbox); have n2_ := Sq.l ((by rw [hg]; exact (Sq.a5 (by repeat (first | (with_reducible first | exact HB.out | apply Sq.i | apply Sq.j | apply Sq.k) | exact HB.out))) : w.heap.size ≤ gb129)); have n3_ := Sq.l ((by rw [hg]; exact (Sq.a5 (by repeat (first | (with_reducible first | exact HB.out | apply Sq.i | apply Sq.j | apply Sq.k) | exact HB.out))) : w.heap.size ≤ gb129)); clear HB; have HB := n0_; have BK129 := n1_; have GW129 := n2_; have GE129 := n3_; clear n0_ n1_ n2_ n3_; clear hb hbox hg) | ((with_reducible refine gate_dst (N := 4) rfl ?_); (try (refine gate_guard (by rfl) ?_; dsimp only)); refine box_event ?hg (N := 4) ?hd (cs := #[.slice A1_0 l1_0.length c1_0, .string a1_1, .slice A1_2 l1_2.length c1_2]) (t := 90) ?hr ?_; (case hd => rfl); (case hg => rfl); (case hr => first | (go_simp; done) | (go_simp; rfl)); intro gb130 hg w6 hbox hb; have n0_ := Sq.l (Sq.m (g := gb129) (o := .cells #[.slice A0_0 l0_0.length c0_0, .slice A0_1 l0_1.length c0_1, .slice A0_2 l0_2.length c0_2, .int .i64 a0_3] 30 (0, 0)) (by (with_reducible repeat (first | refine Sq.d ?_ _ | refine Sq.e ?_ | refine Sq.f ?_ _)); exact BK129.out) hb); have n1_ := Sq.l (Sq.a4 (by repeat (first | (with_reducible first | exact HB.out | apply Sq.i | apply Sq.j | apply Sq.k | refine Sq.h ?_ GE129.out) | exact HB.out)) hb); have n2_ := Sq.l (hbox); have n3_ := Sq.l ((by rw [hg]; exact (Sq.a5 (by repeat (first | (with_reducible first | exact HB.out | apply Sq.i | apply Sq.j | apply Sq.k | refine Sq.h ?_ GE129.out) | exact HB.out))) : w.heap.size ≤ gb130)); have n4_ := Sq.l ((by rw [hg]; exact (Sq.a5 (by repeat (first | (with_reducible first | exact HB.out | apply Sq.i | apply Sq.j | apply Sq.k | refine Sq.h ?_ GE129.out) | exact HB.out))) : w.heap.size ≤ gb130)); have n5_ := Sq.l ((by rw [hg]; exact Nat.ne_of_lt (blk_lt (g := gb129) (o := .cells #[.slice A0_0 l0_0.length c0_0, .slice A0_1 l0_1.length c0_1, .slice A0_2 l0_2.length c0_2, .int .i64 a0_3] 30 (0, 0)) (by (with_reducible repeat (first | refine Sq.d ?_ _ | refine Sq.e ?_ | refine Sq.f ?_ _)); exact BK129.out)) : gb129 ≠ gb130)); have n6_ := Sq.l ((by rw [hg]; exact Nat.ne_of_gt (blk_lt (g := gb129) (o := .cells #[.slice A0_0 l0_0.length c0_0, .slice A0_1 l0_1.length c0_1, .slice A0_2 l0_2.length c0_2, .int .i64 a0_3] 30 (0, 0)) (by (with_reducible repeat (first | refine Sq.d ?_ _ | refine Sq.e ?_ | refine Sq.f ?_ _)); exact BK129.out)) : gb130 ≠ gb129)); clear BK129; clear HB; have BK129 := n0_; have HB := n1_; have BK130 := n2_; have GW130 := n3_; have GE130 := n4_; have NB129_130 := n5_; have NB130_129 := n6_; clear n0_ n1_ n2_ n3_ n4_ n5_ n6_; clear hb hbox hg))
 (try simp only [Act.put, List.setIfInBounds_toArray, List.set_cons_zero, List.set_cons_succ])
 go_cut [24] (fun v24 wc => ∃ (kq : Nat) (x24_3 : Bool), v24 = .bool x24_3 ∧ Aside0 (spec_l12Group.j0 kq a2 x24_3 l0_0 l0_1 l0_2 a0_3 l1_0 a1_1 l1_2 = some r) ∧ Aside0 (kq ≤ k) ∧ Aside0 (wc.heap[gb129]? = some (.cells #[(.slice A0_0 l0_0.length c0_0), (.slice A0_1 l0_1.length c0_1), (.slice A0_2 l0_2.length c0_2), .int .i64 a0_3] 30 (0, 0))) ∧ Aside0 (wc.heap[gb130]? = some (.cells #[(.slice A1_0 l1_0.length c1_0), .string a1_1, (.slice A1_2 l1_2.length c1_2)] 90 (0, 0))) ∧ Aside0 (Below w.heap.size w wc))
 case first =>
  have H := HC4.out
  clear HC4
  by_cases c7 : a2 < 0
  ·rw [if_pos c7] at H
   have c7b0 : decide (a2 < 0) = true := decide_eq_true c7
   clear c7
   (first | rw [c7b0] | (simp only [i64_w, i32_w]; rw [c7b0]) | skip)
   have H' := Sq.l H
   clear H
   go_wp2
   go_meet
   case rel => exact ⟨_, (true), (by first | rfl | (simp; done) | (simp [*]; done)), H', ⟨by first | omega | exact Nat.le_refl _⟩, ⟨by (with_reducible repeat (first | refine Sq.d ?_ _ | refine Sq.e ?_ | refine Sq.f ?_ _)); exact BK129.out⟩, ⟨by (with_reducible repeat (first | refine Sq.d ?_ _ | refine Sq.e ?_ | refine Sq.f ?_ _)); exact BK130.out⟩, ⟨by repeat (first | (with_reducible first | exact HB.out | apply Sq.i | apply Sq.j | apply Sq.k | refine Sq.h ?_ GE129.out | refine Sq.h ?_ GE130.out) | exact HB.out)⟩⟩
  ·rw [if_neg c7] at H
   have c7b0 : decide (a2 < 0) = false := decide_eq_false c7
   clear c7
   (first | rw [c7b0] | (simp only [i64_w, i32_w]; rw [c7b0]) | skip)
   by_cases c8 : a2 ≥ 32
   ·rw [if_pos c8] at H
    have c8b0 : decide (32 ≤ a2) = true := decide_eq_true c8
    clear c8
    have H' := Sq.l H
    clear H
    go_wp2
    go_meet
    case rel => exact ⟨_, (true), (by first | rfl | (simp; done) | (simp [*]; done)), H', ⟨by first | omega | exact Nat.le_refl _⟩, ⟨by (with_reducible repeat (first | refine Sq.d ?_ _ | refine Sq.e ?_ | refine Sq.f ?_ _)); exact BK129.out⟩, ⟨by (with_reducible repeat (first | refine Sq.d ?_ _ | refine Sq.e ?_ | refine Sq.f ?_ _)); exact BK130.out⟩, ⟨by repeat (first | (with_reducible first | exact HB.out | apply Sq.i | apply Sq.j | apply Sq.k | refine Sq.h ?_ GE129.out | refine Sq.h ?_ GE130.out) | exact HB.out)⟩⟩
   ·rw [if_neg c8] at H
    have c8b0 : decide (32 ≤ a2) = false := decide_eq_false c8
    clear c8
    have H' := Sq.l H
    clear H; have hnb9 := NB130_129.out; have hnc9 := NB129_130.out
    have hcz10_0 : w6.cell? ⟨gb130, 0, none⟩ = some (.slice A1_0 l1_0.length c1_0) := (Sq.o BK130.out 0).trans rfl
    have hcz10_1 : w6.cell? ⟨gb130, 1, none⟩ = some (.string a1_1) := (Sq.o BK130.out 1).trans rfl
    have hcz10_2 : w6.cell? ⟨gb130, 2, none⟩ = some (.slice A1_2 l1_2.length c1_2) := (Sq.o BK130.out 2).trans rfl
    have hfz10_0 := Sq.r BK130.out 0
    have hfz10_1 := Sq.r BK130.out 1
    have hfz10_2 := Sq.r BK130.out 2
    go_wp2
    go_meet
    case rel => exact ⟨_, (decide ((wrap64 ((wrap64 (a2 + 1)) * 4)) > (l1_0.length : Int))), (by first | rfl | (simp; done) | (simp [*]; done)), H', ⟨by first | omega | exact Nat.le_refl _⟩, ⟨by (with_reducible repeat (first | refine Sq.d ?_ _ | refine Sq.e ?_ | refine Sq.f ?_ _)); exact BK129.out⟩, ⟨by (with_reducible repeat (first | refine Sq.d ?_ _ | refine Sq.e ?_ | refine Sq.f ?_ _)); exact BK130.out⟩, ⟨by repeat (first | (with_reducible first | exact HB.out | apply Sq.i | apply Sq.j | apply Sq.k | refine Sq.h ?_ GE129.out | refine Sq.h ?_ GE130.out) | exact HB.out)⟩⟩
 case rest =>
  clear HC4; try clear c1; try clear p2; try clear p6; try clear c7; try clear c7b0; try clear c8; try clear c8b0; try clear c9; try clear c10; try clear hcz10_0; try clear hcz10_1; try clear hcz10_2; try clear hfz10_0; try clear hfz10_1; try clear hfz10_2
  obtain ⟨kq, x24_3, rfl, HA, HJ3, BK129, BK130, HB⟩ := hcut
  cases kq with
  | zero => exact absurd HA.out (by simp [spec_l12Group.j0])
  | succ kj3 =>
   have H := HA.out
   clear HA
   simp only [spec_l12Group.j0] at H
   by_cases c11 : x24_3 = true
   ·subst c11
    rw [if_pos rfl] at H
    obtain rfl := Option.some.inj H
    go_wp2
    go_ret
    exact ⟨by first | rfl | (simp [errW_none, errW_some] <;> rfl) | (simp [*, errW_none, errW_some] <;> rfl), by repeat (first | (with_reducible first | exact HB.out | apply Sq.i | apply Sq.j | apply Sq.k | refine Sq.h ?_ GE129.out | refine Sq.h ?_ GE130.out) | exact HB.out)⟩
   ·replace c11 := Bool.eq_false_iff.mpr c11
    subst c11
    rw [if_neg (show ¬ (false = true) by decide)] at H
    obtain ⟨ji12, hji12⟩ : ∃ j_ : Int, (wrap64 (a2 * 4)) = j_ := ⟨_, rfl⟩
    replace H : (if 0 ≤ (ji12) then (if (ji12) < (l1_0.length : Int) then (spec_l12Group.l0 kj3 a2 ((rd_T97 l1_0 (ji12)).f1) 0 l0_0 l0_1 l0_2 a0_3 l1_0 a1_1 l1_2) else (none)) else (none)) = some r := by first | (rw [hji12] at H; exact H) | (simp only [hji12] at H ⊢; exact H)
    have hji12w : (IntKind.i64.wrap (a2 * 4)) = ji12 := (i64_w _).trans hji12
    by_cases c13 : 0 ≤ (ji12)
    ·rw [if_pos c13] at H
     have c13b0 : decide (0 ≤ (ji12)) = true := decide_eq_true c13
     clear c13
     by_cases c14 : (ji12) < (l1_0.length : Int)
     ·rw [if_pos c14] at H
      have c14b0 : decide ((ji12) < (l1_0.length : Int)) = true := decide_eq_true c14
      clear c14
      have H' := Sq.l H
      clear H; have hnb15 := NB130_129.out; have hnc15 := NB129_130.out
      have hcz16_0 : wc.cell? ⟨gb130, 0, none⟩ = some (.slice A1_0 l1_0.length c1_0) := (Sq.o BK130.out 0).trans rfl
      have hcz16_1 : wc.cell? ⟨gb130, 1, none⟩ = some (.string a1_1) := (Sq.o BK130.out 1).trans rfl
      have hcz16_2 : wc.cell? ⟨gb130, 2, none⟩ = some (.slice A1_2 l1_2.length c1_2) := (Sq.o BK130.out 2).trans rfl
      have hfz16_0 := Sq.r BK130.out 0
      have hfz16_1 := Sq.r BK130.out 1
      have hfz16_2 := Sq.r BK130.out 2
      have p131 : 0 ≤ ((ji12) : Int) := of_decide_eq_true (by first | (with_reducible assumption) | assumption)
      have q131 : (ji12) < (l1_0.length : Int) := of_decide_eq_true (by first | (with_reducible assumption) | assumption)
      obtain ⟨ad131, e131, hx131_0, hx131_1, hx131_2⟩ := at_T97 HR1_0.out (ji12) p131 q131
      cases e131
      replace hx131_0 := (HB.out.cell (World.block_lt_of_cell? w _ hx131_0)).trans hx131_0
      replace hx131_1 := (HB.out.cell (World.block_lt_of_cell? w _ hx131_1)).trans hx131_1
      replace hx131_2 := (HB.out.cell (World.block_lt_of_cell? w _ hx131_2)).trans hx131_2
      replace p131 := eq_true p131; replace q131 := eq_true q131
      go_wp2
      go_loopg [8] kj3 (fun kq v8 w' => ∃ (x8_2 : Int), v8 = .int .i64 x8_2 ∧ Aside0 (spec_l12Group.l0 kq a2 ((rd_T97 l1_0 (ji12)).f1) x8_2 l0_0 l0_1 l0_2 a0_3 l1_0 a1_1 l1_2 = some r) ∧ Aside0 (kq ≤ kj3) ∧ Aside0 (w'.heap[gb129]? = some (.cells #[(.slice A0_0 l0_0.length c0_0), (.slice A0_1 l0_1.length c0_1), (.slice A0_2 l0_2.length c0_2), .int .i64 a0_3] 30 (0, 0))) ∧ Aside0 (w'.heap[gb130]? = some (.cells #[(.slice (some ad131) l1_0.length c1_0), .string a1_1, (.slice A1_2 l1_2.length c1_2)] 90 (0, 0))) ∧ Aside0 (Below w.heap.size w w'))
      case atStart => exact ⟨(0), (by first | rfl | (simp; done) | (simp [*]; done)), H', ⟨Nat.le_refl _⟩, ⟨by (with_reducible repeat (first | refine Sq.d ?_ _ | refine Sq.e ?_ | refine Sq.f ?_ _)); exact BK129.out⟩, ⟨by (with_reducible repeat (first | refine Sq.d ?_ _ | refine Sq.e ?_ | refine Sq.f ?_ _)); exact BK130.out⟩, ⟨by repeat (first | (with_reducible first | exact HB.out | apply Sq.i | apply Sq.j | apply Sq.k | refine Sq.h ?_ GE129.out | refine Sq.h ?_ GE130.out) | exact HB.out)⟩⟩
      case round =>
       clear H'
       try clear c1; try clear p1; try clear q1; try clear hx1; try clear p2; try clear p6; try clear c7; try clear c7b0; try clear c8; try clear c8b0; try clear c9; try clear c10; try clear c11; try clear c13; try clear c13b0; try clear p13; try clear q13; try clear hx13; try clear c14; try clear c14b0; try clear c15; try clear hcz10_0; try clear hcz10_1; try clear hcz10_2; try clear hcz16_0; try clear hcz16_1; try clear hcz16_2; try clear hfz10_0; try clear hfz10_1; try clear hfz10_2; try clear hfz16_0; try clear hfz16_1; try clear hfz16_2; try clear hx131_0; try clear hx131_1; try clear hx131_2; try clear p131; try clear p2; try clear p6; try clear q131
       obtain ⟨x8_2, rfl, HA, HK2, BK129, BK130, HB⟩ := hrel
       cases gk with
       | zero => exact absurd HA.out (by simp [spec_l12Group.l0])
       | succ k2 =>
        have H := HA.out
        clear HA
        simp only [spec_l12Group.l0] at H
        by_cases c17 : x8_2 < 4
        ·rw [if_pos c17] at H
         have c17b0 : decide (x8_2 < 4) = true := decide_eq_true c17
         clear c17
         obtain ⟨ji18, hji18⟩ : ∃ j_ : Int, (wrap64 ((wrap64 (a2 * 4)) + x8_2)) = j_ := ⟨_, rfl⟩
         (try (have hji18n : (wrap64 (ji12 + x8_2)) = ji18 := by rw [← hji12]; exact hji18))
         (try (have hji18m : (IntKind.i64.wrap (ji12 + x8_2)) = ji18 := (i64_w _).trans hji18n))
         replace H : (if 0 ≤ (ji18) then (if (ji18) < (l1_0.length : Int) then (if ((rd_T97 l1_0 (ji18)).f0) = 1 then (if ((rd_T97 l1_0 (ji18)).f1) = (wrap64 (((rd_T97 l1_0 (ji12)).f1) + x8_2)) then ((spec_l12Count.f k2 l0_0 l0_1 l0_2 a0_3 1 ((rd_T97 l1_0 (ji18)).f1)).bind fun t134 => (if t134 = 1 then (spec_l12Group.l0 k2 a2 ((rd_T97 l1_0 (ji12)).f1) (wrap64 (x8_2 + 1)) l0_0 l0_1 l0_2 a0_3 l1_0 a1_1 l1_2) else (some false))) else (some false)) else (some false)) else (none)) else (none)) = some r := by first | (rw [hji18] at H; exact H) | (simp only [hji18] at H ⊢; exact H)
         have hji18w : (IntKind.i64.wrap ((wrap64 (a2 * 4)) + x8_2)) = ji18 := (i64_w _).trans hji18
         by_cases c19 : 0 ≤ (ji18)
         ·rw [if_pos c19] at H
          have c19b0 : decide (0 ≤ (ji18)) = true := decide_eq_true c19
          clear c19
          by_cases c20 : (ji18) < (l1_0.length : Int)
          ·rw [if_pos c20] at H
           have c20b0 : decide ((ji18) < (l1_0.length : Int)) = true := decide_eq_true c20
           clear c20
           by_cases c21 : ((rd_T97 l1_0 (ji18)).f0) = 1
           ·rw [if_pos c21] at H
            have c21b0 : (((rd_T97 l1_0 (ji18)).f0) == 1) = true := beq_iff_eq.mpr c21
            have c21b1 : (((rd_T97 l1_0 (ji18)).f0) != 1) = false := bne_eq_false_iff_eq.mpr c21
            clear c21
            by_cases c22 : ((rd_T97 l1_0 (ji18)).f1) = (wrap64 (((rd_T97 l1_0 (ji12)).f1) + x8_2))
            ·rw [if_pos c22] at H
             have c22b0 : (((rd_T97 l1_0 (ji18)).f1) == (wrap64 (((rd_T97 l1_0 (ji12)).f1) + x8_2))) = true := beq_iff_eq.mpr c22
             have c22b1 : (((rd_T97 l1_0 (ji18)).f1) != (wrap64 (((rd_T97 l1_0 (ji12)).f1) + x8_2))) = false := bne_eq_false_iff_eq.mpr c22
             clear c22
             replace H := Option.bind_eq_some_iff.mp H
             obtain ⟨t134, A230, H⟩ := H
             (try dsimp only at H)
             have A23 := Sq.l A230
             clear A230
             by_cases c24 : t134 = 1
             ·rw [if_pos c24] at H
              have c24b0 : (t134 == 1) = true := beq_iff_eq.mpr c24
              have c24b1 : (t134 != 1) = false := bne_eq_false_iff_eq.mpr c24
              clear c24
              have H' := Sq.l H
              clear H; have hnb25 := NB130_129.out; have hnc25 := NB129_130.out
              have hcz26_0 : wr.cell? ⟨gb130, 0, none⟩ = some (.slice (some ad131) l1_0.length c1_0) := (Sq.o BK130.out 0).trans rfl
              have hcz26_1 : wr.cell? ⟨gb130, 1, none⟩ = some (.string a1_1) := (Sq.o BK130.out 1).trans rfl
              have hcz26_2 : wr.cell? ⟨gb130, 2, none⟩ = some (.slice A1_2 l1_2.length c1_2) := (Sq.o BK130.out 2).trans rfl
              have hfz26_0 := Sq.r BK130.out 0
              have hfz26_1 := Sq.r BK130.out 1
              have hfz26_2 := Sq.r BK130.out 2
              have p132 : 0 ≤ ((ji18) : Int) := of_decide_eq_true (by first | (with_reducible assumption) | assumption)
              have q132 : (ji18) < (l1_0.length : Int) := of_decide_eq_true (by first | (with_reducible assumption) | assumption)
              obtain ⟨ad132, e132, hx132_0, hx132_1, hx132_2⟩ := at_T97 HR1_0.out (ji18) p132 q132
              obtain rfl : ad131 = ad132 := (by injection e132)
              replace hx132_0 := (HB.out.cell (World.block_lt_of_cell? w _ hx132_0)).trans hx132_0
              replace hx132_1 := (HB.out.cell (World.block_lt_of_cell? w _ hx132_1)).trans hx132_1
              replace hx132_2 := (HB.out.cell (World.block_lt_of_cell? w _ hx132_2)).trans hx132_2
              replace p132 := eq_true p132; replace q132 := eq_true q132
              go_wp2_with (first | ((with_reducible refine gate_dst (N := 9) rfl ?_); (try (refine gate_guard (by rfl) ?_; dsimp only)); refine box_event ?hg (N := 9) ?hd (cs := #[.int .i64 0, .int .i64 0, .int .i64 0]) (t := 97) ?hr ?_; (case hd => rfl); (case hg => rfl); (case hr => first | (go_simp; done) | (go_simp; rfl)); intro gb133 hg w27 hbox hb; have n0_ := Sq.l (Sq.m (g := gb129) (o := .cells #[.slice A0_0 l0_0.length c0_0, .slice A0_1 l0_1.length c0_1, .slice A0_2 l0_2.length c0_2, .int .i64 a0_3] 30 (0, 0)) (by (with_reducible repeat (first | refine Sq.d ?_ _ | refine Sq.e ?_ | refine Sq.f ?_ _)); exact BK129.out) hb); have n1_ := Sq.l (Sq.m (g := gb130) (o := .cells #[.slice (some ad131) l1_0.length c1_0, .string a1_1, .slice A1_2 l1_2.length c1_2] 90 (0, 0)) (by (with_reducible repeat (first | refine Sq.d ?_ _ | refine Sq.e ?_ | refine Sq.f ?_ _)); exact BK130.out) hb); have n2_ := Sq.l (Sq.a4 (by repeat (first | (with_reducible first | exact HB.out | apply Sq.i | apply Sq.j | apply Sq.k | refine Sq.h ?_ GE129.out | refine Sq.h ?_ GE130.out) | exact HB.out)) hb); have n3_ := Sq.l (hbox); have n4_ := Sq.l ((by rw [hg]; exact (Sq.a5 (by repeat (first | (with_reducible first | exact HB.out | apply Sq.i | apply Sq.j | apply Sq.k | refine Sq.h ?_ GE129.out | refine Sq.h ?_ GE130.out) | exact HB.out))) : w.heap.size ≤ gb133)); have n5_ := Sq.l ((by rw [hg]; exact (Sq.a5 (by repeat (first | (with_reducible first | exact HB.out | apply Sq.i | apply Sq.j | apply Sq.k | refine Sq.h ?_ GE129.out | refine Sq.h ?_ GE130.out) | exact HB.out))) : w.heap.size ≤ gb133)); have n6_ := Sq.l ((by rw [hg]; exact Nat.ne_of_lt (blk_lt (g := gb129) (o := .cells #[.slice A0_0 l0_0.length c0_0, .slice A0_1 l0_1.length c0_1, .slice A0_2 l0_2.length c0_2, .int .i64 a0_3] 30 (0, 0)) (by (with_reducible repeat (first | refine Sq.d ?_ _ | refine Sq.e ?_ | refine Sq.f ?_ _)); exact BK129.out)) : gb129 ≠ gb133)); have n7_ := Sq.l ((by rw [hg]; exact Nat.ne_of_gt (blk_lt (g := gb129) (o := .cells #[.slice A0_0 l0_0.length c0_0, .slice A0_1 l0_1.length c0_1, .slice A0_2 l0_2.length c0_2, .int .i64 a0_3] 30 (0, 0)) (by (with_reducible repeat (first | refine Sq.d ?_ _ | refine Sq.e ?_ | refine Sq.f ?_ _)); exact BK129.out)) : gb133 ≠ gb129)); have n8_ := Sq.l ((by rw [hg]; exact Nat.ne_of_lt (blk_lt (g := gb130) (o := .cells #[.slice (some ad131) l1_0.length c1_0, .string a1_1, .slice A1_2 l1_2.length c1_2] 90 (0, 0)) (by (with_reducible repeat (first | refine Sq.d ?_ _ | refine Sq.e ?_ | refine Sq.f ?_ _)); exact BK130.out)) : gb130 ≠ gb133)); have n9_ := Sq.l ((by rw [hg]; exact Nat.ne_of_gt (blk_lt (g := gb130) (o := .cells #[.slice (some ad131) l1_0.length c1_0, .string a1_1, .slice A1_2 l1_2.length c1_2] 90 (0, 0)) (by (with_reducible repeat (first | refine Sq.d ?_ _ | refine Sq.e ?_ | refine Sq.f ?_ _)); exact BK130.out)) : gb133 ≠ gb130)); clear BK129; clear BK130; clear HB; have BK129 := n0_; have BK130 := n1_; have HB := n2_; have BK133 := n3_; have GW133 := n4_; have GE133 := n5_; have NB129_133 := n6_; have NB133_129 := n7_; have NB130_133 := n8_; have NB133_130 := n9_; clear n0_ n1_ n2_ n3_ n4_ n5_ n6_ n7_ n8_ n9_; clear hb hbox hg; have hnb28 := NB133_129.out; have hnc28 := NB129_133.out; have hnb29 := NB133_130.out; have hnc29 := NB130_133.out; have hcz30_0 : w27.cell? ⟨gb133, 0, none⟩ = some (.int .i64 0) := (Sq.o BK133.out 0).trans rfl; have hcz30_1 : w27.cell? ⟨gb133, 1, none⟩ = some (.int .i64 0) := (Sq.o BK133.out 1).trans rfl; have hcz30_2 : w27.cell? ⟨gb133, 2, none⟩ = some (.int .i64 0) := (Sq.o BK133.out 2).trans rfl; have hfz30_0 := Sq.r BK133.out 0; have hfz30_1 := Sq.r BK133.out 1; have hfz30_2 := Sq.r BK133.out 2; have hcz31_0 : w27.cell? ⟨gb129, 0, none⟩ = some (.slice A0_0 l0_0.length c0_0) := (Sq.o BK129.out 0).trans rfl; have hcz31_1 : w27.cell? ⟨gb129, 1, none⟩ = some (.slice A0_1 l0_1.length c0_1) := (Sq.o BK129.out 1).trans rfl; have hcz31_2 : w27.cell? ⟨gb129, 2, none⟩ = some (.slice A0_2 l0_2.length c0_2) := (Sq.o BK129.out 2).trans rfl; have hcz31_3 : w27.cell? ⟨gb129, 3, none⟩ = some (.int .i64 a0_3) := (Sq.o BK129.out 3).trans rfl; have hfz31_0 := Sq.r BK129.out 0; have hfz31_1 := Sq.r BK129.out 1; have hfz31_2 := Sq.r BK129.out 2; have hfz31_3 := Sq.r BK129.out 3) | (go_at_call 46; (with_reducible refine (spec_l12Count.calls k2 _ _ l0_0 _ _ l0_1 _ _ l0_2 a0_3 1 ((rd_T97 l1_0 (ji18)).f1) t134 _ ?side1 ?side2 ?side3 ?side4 ?side5 ?side6 A23.out).mono ?_); (case side1 => exact Sq.a1 HR0_0.out (by repeat (first | (with_reducible first | exact HB.out | apply Sq.i | apply Sq.j | apply Sq.k | refine Sq.h ?_ GE129.out | refine Sq.h ?_ GE130.out | refine Sq.h ?_ GE133.out) | exact HB.out))); (case side2 => exact HC0_0.out); (case side3 => exact Sq.a1 HR0_1.out (by repeat (first | (with_reducible first | exact HB.out | apply Sq.i | apply Sq.j | apply Sq.k | refine Sq.h ?_ GE129.out | refine Sq.h ?_ GE130.out | refine Sq.h ?_ GE133.out) | exact HB.out))); (case side4 => exact HC0_1.out); (case side5 => exact Sq.a1 HR0_2.out (by repeat (first | (with_reducible first | exact HB.out | apply Sq.i | apply Sq.j | apply Sq.k | refine Sq.h ?_ GE129.out | refine Sq.h ?_ GE130.out | refine Sq.h ?_ GE133.out) | exact HB.out))); (case side6 => exact HC0_2.out); rintro e w32 ⟨rfl, hb⟩; have n0_ := Sq.l (Sq.m (g := gb129) (o := .cells #[.slice A0_0 l0_0.length c0_0, .slice A0_1 l0_1.length c0_1, .slice A0_2 l0_2.length c0_2, .int .i64 a0_3] 30 (0, 0)) (by (with_reducible repeat (first | refine Sq.d ?_ _ | refine Sq.e ?_ | refine Sq.f ?_ _)); refine Sq.B3 ?_ NB129_133.out; (with_reducible repeat (first | refine Sq.d ?_ _ | refine Sq.e ?_ | refine Sq.f ?_ _)); exact BK129.out) hb); have n1_ := Sq.l (Sq.m (g := gb130) (o := .cells #[.slice (some ad131) l1_0.length c1_0, .string a1_1, .slice A1_2 l1_2.length c1_2] 90 (0, 0)) (by (with_reducible repeat (first | refine Sq.d ?_ _ | refine Sq.e ?_ | refine Sq.f ?_ _)); refine Sq.B3 ?_ NB130_133.out; (with_reducible repeat (first | refine Sq.d ?_ _ | refine Sq.e ?_ | refine Sq.f ?_ _)); exact BK130.out) hb); have n2_ := Sq.l (Sq.m (g := gb133) (o := .cells #[.int .i64 ((rd_T97 l1_0 (ji18)).f0), .int .i64 ((rd_T97 l1_0 (ji18)).f1), .int .i64 ((rd_T97 l1_0 (ji18)).f2)] 97 (0, 0)) (by (with_reducible repeat (first | refine Sq.d ?_ _ | refine Sq.e ?_ | refine Sq.f ?_ _)); refine Sq.v (cs := #[.int .i64 ((rd_T97 l1_0 (ji18)).f0), .int .i64 ((rd_T97 l1_0 (ji18)).f1), .int .i64 0]) ?_ 2 _ rfl; (with_reducible repeat (first | refine Sq.d ?_ _ | refine Sq.e ?_ | refine Sq.f ?_ _)); refine Sq.v (cs := #[.int .i64 ((rd_T97 l1_0 (ji18)).f0), .int .i64 0, .int .i64 0]) ?_ 1 _ rfl; (with_reducible repeat (first | refine Sq.d ?_ _ | refine Sq.e ?_ | refine Sq.f ?_ _)); refine Sq.v (cs := #[.int .i64 0, .int .i64 0, .int .i64 0]) ?_ 0 _ rfl; (with_reducible repeat (first | refine Sq.d ?_ _ | refine Sq.e ?_ | refine Sq.f ?_ _)); exact BK133.out) hb); have n3_ := Sq.l (Sq.a4 (by repeat (first | (with_reducible first | exact HB.out | apply Sq.i | apply Sq.j | apply Sq.k | refine Sq.h ?_ GE129.out | refine Sq.h ?_ GE130.out | refine Sq.h ?_ GE133.out) | exact HB.out)) hb); clear BK129; clear BK130; clear BK133; clear HB; have BK129 := n0_; have BK130 := n1_; have BK133 := n2_; have HB := n3_; clear n0_ n1_ n2_ n3_; (try clear hb); (try clear hb2); (try clear hk); (try clear hi)))
              go_roundg k2
              case measure => have := HJ3.out; have := HK2.out; omega
              case rel => exact ⟨(wrap64 (x8_2 + 1)), (by first | rfl | (simp; done) | (simp [*]; done)), H', ⟨by have := HJ3.out; have := HK2.out; omega⟩, ⟨by (with_reducible repeat (first | refine Sq.d ?_ _ | refine Sq.e ?_ | refine Sq.f ?_ _)); exact BK129.out⟩, ⟨by (with_reducible repeat (first | refine Sq.d ?_ _ | refine Sq.e ?_ | refine Sq.f ?_ _)); exact BK130.out⟩, ⟨by repeat (first | (with_reducible first | exact HB.out | apply Sq.i | apply Sq.j | apply Sq.k | refine Sq.h ?_ GE129.out | refine Sq.h ?_ GE130.out | refine Sq.h ?_ GE133.out) | exact HB.out)⟩⟩
             ·rw [if_neg c24] at H
              have c24b0 : (t134 == 1) = false := beq_eq_false_iff_ne.mpr c24
              have c24b1 : (t134 != 1) = true := bne_iff_ne.mpr c24
              obtain rfl := Option.some.inj H
              have hnb33 := NB130_129.out; have hnc33 := NB129_130.out
              have hcz34_0 : wr.cell? ⟨gb130, 0, none⟩ = some (.slice (some ad131) l1_0.length c1_0) := (Sq.o BK130.out 0).trans rfl
              have hcz34_1 : wr.cell? ⟨gb130, 1, none⟩ = some (.string a1_1) := (Sq.o BK130.out 1).trans rfl
              have hcz34_2 : wr.cell? ⟨gb130, 2, none⟩ = some (.slice A1_2 l1_2.length c1_2) := (Sq.o BK130.out 2).trans rfl
              have hfz34_0 := Sq.r BK130.out 0
              have hfz34_1 := Sq.r BK130.out 1
              have hfz34_2 := Sq.r BK130.out 2
              have p132 : 0 ≤ ((ji18) : Int) := of_decide_eq_true (by first | (with_reducible assumption) | assumption)
              have q132 : (ji18) < (l1_0.length : Int) := of_decide_eq_true (by first | (with_reducible assumption) | assumption)
              obtain ⟨ad132, e132, hx132_0, hx132_1, hx132_2⟩ := at_T97 HR1_0.out (ji18) p132 q132
              obtain rfl : ad131 = ad132 := (by injection e132)
              replace hx132_0 := (HB.out.cell (World.block_lt_of_cell? w _ hx132_0)).trans hx132_0
              replace hx132_1 := (HB.out.cell (World.block_lt_of_cell? w _ hx132_1)).trans hx132_1
              replace hx132_2 := (HB.out.cell (World.block_lt_of_cell? w _ hx132_2)).trans hx132_2
              replace p132 := eq_true p132; replace q132 := eq_true q132
              go_wp2_with (first | ((with_reducible refine gate_dst (N := 9) rfl ?_); (try (refine gate_guard (by rfl) ?_; dsimp only)); refine box_event ?hg (N := 9) ?hd (cs := #[.int .i64 0, .int .i64 0, .int .i64 0]) (t := 97) ?hr ?_; (case hd => rfl); (case hg => rfl); (case hr => first | (go_simp; done) | (go_simp; rfl)); intro gb133 hg w35 hbox hb; have n0_ := Sq.l (Sq.m (g := gb129) (o := .cells #[.slice A0_0 l0_0.length c0_0, .slice A0_1 l0_1.length c0_1, .slice A0_2 l0_2.length c0_2, .int .i64 a0_3] 30 (0, 0)) (by (with_reducible repeat (first | refine Sq.d ?_ _ | refine Sq.e ?_ | refine Sq.f ?_ _)); exact BK129.out) hb); have n1_ := Sq.l (Sq.m (g := gb130) (o := .cells #[.slice (some ad131) l1_0.length c1_0, .string a1_1, .slice A1_2 l1_2.length c1_2] 90 (0, 0)) (by (with_reducible repeat (first | refine Sq.d ?_ _ | refine Sq.e ?_ | refine Sq.f ?_ _)); exact BK130.out) hb); have n2_ := Sq.l (Sq.a4 (by repeat (first | (with_reducible first | exact HB.out | apply Sq.i | apply Sq.j | apply Sq.k | refine Sq.h ?_ GE129.out | refine Sq.h ?_ GE130.out) | exact HB.out)) hb); have n3_ := Sq.l (hbox); have n4_ := Sq.l ((by rw [hg]; exact (Sq.a5 (by repeat (first | (with_reducible first | exact HB.out | apply Sq.i | apply Sq.j | apply Sq.k | refine Sq.h ?_ GE129.out | refine Sq.h ?_ GE130.out) | exact HB.out))) : w.heap.size ≤ gb133)); have n5_ := Sq.l ((by rw [hg]; exact (Sq.a5 (by repeat (first | (with_reducible first | exact HB.out | apply Sq.i | apply Sq.j | apply Sq.k | refine Sq.h ?_ GE129.out | refine Sq.h ?_ GE130.out) | exact HB.out))) : w.heap.size ≤ gb133)); have n6_ := Sq.l ((by rw [hg]; exact Nat.ne_of_lt (blk_lt (g := gb129) (o := .cells #[.slice A0_0 l0_0.length c0_0, .slice A0_1 l0_1.length c0_1, .slice A0_2 l0_2.length c0_2, .int .i64 a0_3] 30 (0, 0)) (by (with_reducible repeat (first | refine Sq.d ?_ _ | refine Sq.e ?_ | refine Sq.f ?_ _)); exact BK129.out)) : gb129 ≠ gb133)); have n7_ := Sq.l ((by rw [hg]; exact Nat.ne_of_gt (blk_lt (g := gb129) (o := .cells #[.slice A0_0 l0_0.length c0_0, .slice A0_1 l0_1.length c0_1, .slice A0_2 l0_2.length c0_2, .int .i64 a0_3] 30 (0, 0)) (by (with_reducible repeat (first | refine Sq.d ?_ _ | refine Sq.e ?_ | refine Sq.f ?_ _)); exact BK129.out)) : gb133 ≠ gb129)); have n8_ := Sq.l ((by rw [hg]; exact Nat.ne_of_lt (blk_lt (g := gb130) (o := .cells #[.slice (some ad131) l1_0.length c1_0, .string a1_1, .slice A1_2 l1_2.length c1_2] 90 (0, 0)) (by (with_reducible repeat (first | refine Sq.d ?_ _ | refine Sq.e ?_ | refine Sq.f ?_ _)); exact BK130.out)) : gb130 ≠ gb133)); have n9_ := Sq.l ((by rw [hg]; exact Nat.ne_of_gt (blk_lt (g := gb130) (o := .cells #[.slice (some ad131) l1_0.length c1_0, .string a1_1, .slice A1_2 l1_2.length c1_2] 90 (0, 0)) (by (with_reducible repeat (first | refine Sq.d ?_ _ | refine Sq.e ?_ | refine Sq.f ?_ _)); exact BK130.out)) : gb133 ≠ gb130)); clear BK129; clear BK130; clear HB; have BK129 := n0_; have BK130 := n1_; have HB := n2_; have BK133 := n3_; have GW133 := n4_; have GE133 := n5_; have NB129_133 := n6_; have NB133_129 := n7_; have NB130_133 := n8_; have NB133_130 := n9_; clear n0_ n1_ n2_ n3_ n4_ n5_ n6_ n7_ n8_ n9_; clear hb hbox hg; have hnb36 := NB133_129.out; have hnc36 := NB129_133.out; have hnb37 := NB133_130.out; have hnc37 := NB130_133.out; have hcz38_0 : w35.cell? ⟨gb133, 0, none⟩ = some (.int .i64 0) := (Sq.o BK133.out 0).trans rfl; have hcz38_1 : w35.cell? ⟨gb133, 1, none⟩ = some (.int .i64 0) := (Sq.o BK133.out 1).trans rfl; have hcz38_2 : w35.cell? ⟨gb133, 2, none⟩ = some (.int .i64 0) := (Sq.o BK133.out 2).trans rfl; have hfz38_0 := Sq.r BK133.out 0; have hfz38_1 := Sq.r BK133.out 1; have hfz38_2 := Sq.r BK133.out 2; have hcz39_0 : w35.cell? ⟨gb129, 0, none⟩ = some (.slice A0_0 l0_0.length c0_0) := (Sq.o BK129.out 0).trans rfl; have hcz39_1 : w35.cell? ⟨gb129, 1, none⟩ = some (.slice A0_1 l0_1.length c0_1) := (Sq.o BK129.out 1).trans rfl; have hcz39_2 : w35.cell? ⟨gb129, 2, none⟩ = some (.slice A0_2 l0_2.length c0_2) := (Sq.o BK129.out 2).trans rfl; have hcz39_3 : w35.cell? ⟨gb129, 3, none⟩ = some (.int .i64 a0_3) := (Sq.o BK129.out 3).trans rfl; have hfz39_0 := Sq.r BK129.out 0; have hfz39_1 := Sq.r BK129.out 1; have hfz39_2 := Sq.r BK129.out 2; have hfz39_3 := Sq.r BK129.out 3) | (go_at_call 46; (with_reducible refine (spec_l12Count.calls k2 _ _ l0_0 _ _ l0_1 _ _ l0_2 a0_3 1 ((rd_T97 l1_0 (ji18)).f1) t134 _ ?side1 ?side2 ?side3 ?side4 ?side5 ?side6 A23.out).mono ?_); (case side1 => exact Sq.a1 HR0_0.out (by repeat (first | (with_reducible first | exact HB.out | apply Sq.i | apply Sq.j | apply Sq.k | refine Sq.h ?_ GE129.out | refine Sq.h ?_ GE130.out | refine Sq.h ?_ GE133.out) | exact HB.out))); (case side2 => exact HC0_0.out); (case side3 => exact Sq.a1 HR0_1.out (by repeat (first | (with_reducible first | exact HB.out | apply Sq.i | apply Sq.j | apply Sq.k | refine Sq.h ?_ GE129.out | refine Sq.h ?_ GE130.out | refine Sq.h ?_ GE133.out) | exact HB.out))); (case side4 => exact HC0_1.out); (case side5 => exact Sq.a1 HR0_2.out (by repeat (first | (with_reducible first | exact HB.out | apply Sq.i | apply Sq.j | apply Sq.k | refine Sq.h ?_ GE129.out | refine Sq.h ?_ GE130.out | refine Sq.h ?_ GE133.out) | exact HB.out))); (case side6 => exact HC0_2.out); rintro e w40 ⟨rfl, hb⟩; have n0_ := Sq.l (Sq.m (g := gb129) (o := .cells #[.slice A0_0 l0_0.length c0_0, .slice A0_1 l0_1.length c0_1, .slice A0_2 l0_2.length c0_2, .int .i64 a0_3] 30 (0, 0)) (by (with_reducible repeat (first | refine Sq.d ?_ _ | refine Sq.e ?_ | refine Sq.f ?_ _)); refine Sq.B3 ?_ NB129_133.out; (with_reducible repeat (first | refine Sq.d ?_ _ | refine Sq.e ?_ | refine Sq.f ?_ _)); exact BK129.out) hb); have n1_ := Sq.l (Sq.m (g := gb130) (o := .cells #[.slice (some ad131) l1_0.length c1_0, .string a1_1, .slice A1_2 l1_2.length c1_2] 90 (0, 0)) (by (with_reducible repeat (first | refine Sq.d ?_ _ | refine Sq.e ?_ | refine Sq.f ?_ _)); refine Sq.B3 ?_ NB130_133.out; (with_reducible repeat (first | refine Sq.d ?_ _ | refine Sq.e ?_ | refine Sq.f ?_ _)); exact BK130.out) hb); have n2_ := Sq.l (Sq.m (g := gb133) (o := .cells #[.int .i64 ((rd_T97 l1_0 (ji18)).f0), .int .i64 ((rd_T97 l1_0 (ji18)).f1), .int .i64 ((rd_T97 l1_0 (ji18)).f2)] 97 (0, 0)) (by (with_reducible repeat (first | refine Sq.d ?_ _ | refine Sq.e ?_ | refine Sq.f ?_ _)); refine Sq.v (cs := #[.int .i64 ((rd_T97 l1_0 (ji18)).f0), .int .i64 ((rd_T97 l1_0 (ji18)).f1), .int .i64 0]) ?_ 2 _ rfl; (with_reducible repeat (first | refine Sq.d ?_ _ | refine Sq.e ?_ | refine Sq.f ?_ _)); refine Sq.v (cs := #[.int .i64 ((rd_T97 l1_0 (ji18)).f0), .int .i64 0, .int .i64 0]) ?_ 1 _ rfl; (with_reducible repeat (first | refine Sq.d ?_ _ | refine Sq.e ?_ | refine Sq.f ?_ _)); refine Sq.v (cs := #[.int .i64 0, .int .i64 0, .int .i64 0]) ?_ 0 _ rfl; (with_reducible repeat (first | refine Sq.d ?_ _ | refine Sq.e ?_ | refine Sq.f ?_ _)); exact BK133.out) hb); have n3_ := Sq.l (Sq.a4 (by repeat (first | (with_reducible first | exact HB.out | apply Sq.i | apply Sq.j | apply Sq.k | refine Sq.h ?_ GE129.out | refine Sq.h ?_ GE130.out | refine Sq.h ?_ GE133.out) | exact HB.out)) hb); clear BK129; clear BK130; clear BK133; clear HB; have BK129 := n0_; have BK130 := n1_; have BK133 := n2_; have HB := n3_; clear n0_ n1_ n2_ n3_; (try clear hb); (try clear hb2); (try clear hk); (try clear hi)))
              go_ret
              exact ⟨by first | rfl | (simp [errW_none, errW_some] <;> rfl) | (simp only [← hji12, ← hji18]; first | rfl | (simp [errW_none, errW_some] <;> rfl)) | (simp [*, errW_none, errW_some] <;> rfl), by repeat (first | (with_reducible first | exact HB.out | apply Sq.i | apply Sq.j | apply Sq.k | refine Sq.h ?_ GE129.out | refine Sq.h ?_ GE130.out | refine Sq.h ?_ GE133.out) | exact HB.out)⟩
            ·rw [if_neg c22] at H
             have c22b0 : (((rd_T97 l1_0 (ji18)).f1) == (wrap64 (((rd_T97 l1_0 (ji12)).f1) + x8_2))) = false := beq_eq_false_iff_ne.mpr c22
             have c22b1 : (((rd_T97 l1_0 (ji18)).f1) != (wrap64 (((rd_T97 l1_0 (ji12)).f1) + x8_2))) = true := bne_iff_ne.mpr c22
             obtain rfl := Option.some.inj H
             have hnb41 := NB130_129.out; have hnc41 := NB129_130.out
             have hcz42_0 : wr.cell? ⟨gb130, 0, none⟩ = some (.slice (some ad131) l1_0.length c1_0) := (Sq.o BK130.out 0).trans rfl
             have hcz42_1 : wr.cell? ⟨gb130, 1, none⟩ = some (.string a1_1) := (Sq.o BK130.out 1).trans rfl
             have hcz42_2 : wr.cell? ⟨gb130, 2, none⟩ = some (.slice A1_2 l1_2.length c1_2) := (Sq.o BK130.out 2).trans rfl
             have hfz42_0 := Sq.r BK130.out 0
             have hfz42_1 := Sq.r BK130.out 1
             have hfz42_2 := Sq.r BK130.out 2
             have p132 : 0 ≤ ((ji18) : Int) := of_decide_eq_true (by first | (with_reducible assumption) | assumption)
             have q132 : (ji18) < (l1_0.length : Int) := of_decide_eq_true (by first | (with_reducible assumption) | assumption)
             obtain ⟨ad132, e132, hx132_0, hx132_1, hx132_2⟩ := at_T97 HR1_0.out (ji18) p132 q132
             obtain rfl : ad131 = ad132 := (by injection e132)
             replace hx132_0 := (HB.out.cell (World.block_lt_of_cell? w _ hx132_0)).trans hx132_0
             replace hx132_1 := (HB.out.cell (World.block_lt_of_cell? w _ hx132_1)).trans hx132_1
             replace hx132_2 := (HB.out.cell (World.block_lt_of_cell? w _ hx132_2)).trans hx132_2
             replace p132 := eq_true p132; replace q132 := eq_true q132
             go_wp2_with (first | ((with_reducible refine gate_dst (N := 9) rfl ?_); (try (refine gate_guard (by rfl) ?_; dsimp only)); refine box_event ?hg (N := 9) ?hd (cs := #[.int .i64 0, .int .i64 0, .int .i64 0]) (t := 97) ?hr ?_; (case hd => rfl); (case hg => rfl); (case hr => first | (go_simp; done) | (go_simp; rfl)); intro gb133 hg w43 hbox hb; have n0_ := Sq.l (Sq.m (g := gb129) (o := .cells #[.slice A0_0 l0_0.length c0_0, .slice A0_1 l0_1.length c0_1, .slice A0_2 l0_2.length c0_2, .int .i64 a0_3] 30 (0, 0)) (by (with_reducible repeat (first | refine Sq.d ?_ _ | refine Sq.e ?_ | refine Sq.f ?_ _)); exact BK129.out) hb); have n1_ := Sq.l (Sq.m (g := gb130) (o := .cells #[.slice (some ad131) l1_0.length c1_0, .string a1_1, .slice A1_2 l1_2.length c1_2] 90 (0, 0)) (by (with_reducible repeat (first | refine Sq.d ?_ _ | refine Sq.e ?_ | refine Sq.f ?_ _)); exact BK130.out) hb); have n2_ := Sq.l (Sq.a4 (by repeat (first | (with_reducible first | exact HB.out | apply Sq.i | apply Sq.j | apply Sq.k | refine Sq.h ?_ GE129.out | refine Sq.h ?_ GE130.out) | exact HB.out)) hb); have n3_ := Sq.l (hbox); have n4_ := Sq.l ((by rw [hg]; exact (Sq.a5 (by repeat (first | (with_reducible first | exact HB.out | apply Sq.i | apply Sq.j | apply Sq.k | refine Sq.h ?_ GE129.out | refine Sq.h ?_ GE130.out) | exact HB.out))) : w.heap.size ≤ gb133)); have n5_ := Sq.l ((by rw [hg]; exact (Sq.a5 (by repeat (first | (with_reducible first | exact HB.out | apply Sq.i | apply Sq.j | apply Sq.k | refine Sq.h ?_ GE129.out | refine Sq.h ?_ GE130.out) | exact HB.out))) : w.heap.size ≤ gb133)); have n6_ := Sq.l ((by rw [hg]; exact Nat.ne_of_lt (blk_lt (g := gb129) (o := .cells #[.slice A0_0 l0_0.length c0_0, .slice A0_1 l0_1.length c0_1, .slice A0_2 l0_2.length c0_2, .int .i64 a0_3] 30 (0, 0)) (by (with_reducible repeat (first | refine Sq.d ?_ _ | refine Sq.e ?_ | refine Sq.f ?_ _)); exact BK129.out)) : gb129 ≠ gb133)); have n7_ := Sq.l ((by rw [hg]; exact Nat.ne_of_gt (blk_lt (g := gb129) (o := .cells #[.slice A0_0 l0_0.length c0_0, .slice A0_1 l0_1.length c0_1, .slice A0_2 l0_2.length c0_2, .int .i64 a0_3] 30 (0, 0)) (by (with_reducible repeat (first | refine Sq.d ?_ _ | refine Sq.e ?_ | refine Sq.f ?_ _)); exact BK129.out)) : gb133 ≠ gb129)); have n8_ := Sq.l ((by rw [hg]; exact Nat.ne_of_lt (blk_lt (g := gb130) (o := .cells #[.slice (some ad131) l1_0.length c1_0, .string a1_1, .slice A1_2 l1_2.length c1_2] 90 (0, 0)) (by (with_reducible repeat (first | refine Sq.d ?_ _ | refine Sq.e ?_ | refine Sq.f ?_ _)); exact BK130.out)) : gb130 ≠ gb133)); have n9_ := Sq.l ((by rw [hg]; exact Nat.ne_of_gt (blk_lt (g := gb130) (o := .cells #[.slice (some ad131) l1_0.length c1_0, .string a1_1, .slice A1_2 l1_2.length c1_2] 90 (0, 0)) (by (with_reducible repeat (first | refine Sq.d ?_ _ | refine Sq.e ?_ | refine Sq.f ?_ _)); exact BK130.out)) : gb133 ≠ gb130)); clear BK129; clear BK130; clear HB; have BK129 := n0_; have BK130 := n1_; have HB := n2_; have BK133 := n3_; have GW133 := n4_; have GE133 := n5_; have NB129_133 := n6_; have NB133_129 := n7_; have NB130_133 := n8_; have NB133_130 := n9_; clear n0_ n1_ n2_ n3_ n4_ n5_ n6_ n7_ n8_ n9_; clear hb hbox hg; have hnb44 := NB133_129.out; have hnc44 := NB129_133.out; have hnb45 := NB133_130.out; have hnc45 := NB130_133.out; have hcz46_0 : w43.cell? ⟨gb133, 0, none⟩ = some (.int .i64 0) := (Sq.o BK133.out 0).trans rfl; have hcz46_1 : w43.cell? ⟨gb133, 1, none⟩ = some (.int .i64 0) := (Sq.o BK133.out 1).trans rfl; have hcz46_2 : w43.cell? ⟨gb133, 2, none⟩ = some (.int .i64 0) := (Sq.o BK133.out 2).trans rfl; have hfz46_0 := Sq.r BK133.out 0; have hfz46_1 := Sq.r BK133.out 1; have hfz46_2 := Sq.r BK133.out 2))
             go_ret
             exact ⟨by first | rfl | (simp [errW_none, errW_some] <;> rfl) | (simp only [← hji12, ← hji18]; first | rfl | (simp [errW_none, errW_some] <;> rfl)) | (simp [*, errW_none, errW_some] <;> rfl), by repeat (first | (with_reducible first | exact HB.out | apply Sq.i | apply Sq.j | apply Sq.k | refine Sq.h ?_ GE129.out | refine Sq.h ?_ GE130.out | refine Sq.h ?_ GE133.out) | exact HB.out)⟩
           ·rw [if_neg c21] at H
            have c21b0 : (((rd_T97 l1_0 (ji18)).f0) == 1) = false := beq_eq_false_iff_ne.mpr c21
            have c21b1 : (((rd_T97 l1_0 (ji18)).f0) != 1) = true := bne_iff_ne.mpr c21
            obtain rfl := Option.some.inj H
            have hnb47 := NB130_129.out; have hnc47 := NB129_130.out
            have hcz48_0 : wr.cell? ⟨gb130, 0, none⟩ = some (.slice (some ad131) l1_0.length c1_0) := (Sq.o BK130.out 0).trans rfl
            have hcz48_1 : wr.cell? ⟨gb130, 1, none⟩ = some (.string a1_1) := (Sq.o BK130.out 1).trans rfl
            have hcz48_2 : wr.cell? ⟨gb130, 2, none⟩ = some (.slice A1_2 l1_2.length c1_2) := (Sq.o BK130.out 2).trans rfl
            have hfz48_0 := Sq.r BK130.out 0
            have hfz48_1 := Sq.r BK130.out 1
            have hfz48_2 := Sq.r BK130.out 2
            have p132 : 0 ≤ ((ji18) : Int) := of_decide_eq_true (by first | (with_reducible assumption) | assumption)
            have q132 : (ji18) < (l1_0.length : Int) := of_decide_eq_true (by first | (with_reducible assumption) | assumption)
            obtain ⟨ad132, e132, hx132_0, hx132_1, hx132_2⟩ := at_T97 HR1_0.out (ji18) p132 q132
            obtain rfl : ad131 = ad132 := (by injection e132)
            replace hx132_0 := (HB.out.cell (World.block_lt_of_cell? w _ hx132_0)).trans hx132_0
            replace hx132_1 := (HB.out.cell (World.block_lt_of_cell? w _ hx132_1)).trans hx132_1
            replace hx132_2 := (HB.out.cell (World.block_lt_of_cell? w _ hx132_2)).trans hx132_2
            replace p132 := eq_true p132; replace q132 := eq_true q132
            go_wp2_with (first | ((with_reducible refine gate_dst (N := 9) rfl ?_); (try (refine gate_guard (by rfl) ?_; dsimp only)); refine box_event ?hg (N := 9) ?hd (cs := #[.int .i64 0, .int .i64 0, .int .i64 0]) (t := 97) ?hr ?_; (case hd => rfl); (case hg => rfl); (case hr => first | (go_simp; done) | (go_simp; rfl)); intro gb133 hg w49 hbox hb; have n0_ := Sq.l (Sq.m (g := gb129) (o := .cells #[.slice A0_0 l0_0.length c0_0, .slice A0_1 l0_1.length c0_1, .slice A0_2 l0_2.length c0_2, .int .i64 a0_3] 30 (0, 0)) (by (with_reducible repeat (first | refine Sq.d ?_ _ | refine Sq.e ?_ | refine Sq.f ?_ _)); exact BK129.out) hb); have n1_ := Sq.l (Sq.m (g := gb130) (o := .cells #[.slice (some ad131) l1_0.length c1_0, .string a1_1, .slice A1_2 l1_2.length c1_2] 90 (0, 0)) (by (with_reducible repeat (first | refine Sq.d ?_ _ | refine Sq.e ?_ | refine Sq.f ?_ _)); exact BK130.out) hb); have n2_ := Sq.l (Sq.a4 (by repeat (first | (with_reducible first | exact HB.out | apply Sq.i | apply Sq.j | apply Sq.k | refine Sq.h ?_ GE129.out | refine Sq.h ?_ GE130.out) | exact HB.out)) hb); have n3_ := Sq.l (hbox); have n4_ := Sq.l ((by rw [hg]; exact (Sq.a5 (by repeat (first | (with_reducible first | exact HB.out | apply Sq.i | apply Sq.j | apply Sq.k | refine Sq.h ?_ GE129.out | refine Sq.h ?_ GE130.out) | exact HB.out))) : w.heap.size ≤ gb133)); have n5_ := Sq.l ((by rw [hg]; exact (Sq.a5 (by repeat (first | (with_reducible first | exact HB.out | apply Sq.i | apply Sq.j | apply Sq.k | refine Sq.h ?_ GE129.out | refine Sq.h ?_ GE130.out) | exact HB.out))) : w.heap.size ≤ gb133)); have n6_ := Sq.l ((by rw [hg]; exact Nat.ne_of_lt (blk_lt (g := gb129) (o := .cells #[.slice A0_0 l0_0.length c0_0, .slice A0_1 l0_1.length c0_1, .slice A0_2 l0_2.length c0_2, .int .i64 a0_3] 30 (0, 0)) (by (with_reducible repeat (first | refine Sq.d ?_ _ | refine Sq.e ?_ | refine Sq.f ?_ _)); exact BK129.out)) : gb129 ≠ gb133)); have n7_ := Sq.l ((by rw [hg]; exact Nat.ne_of_gt (blk_lt (g := gb129) (o := .cells #[.slice A0_0 l0_0.length c0_0, .slice A0_1 l0_1.length c0_1, .slice A0_2 l0_2.length c0_2, .int .i64 a0_3] 30 (0, 0)) (by (with_reducible repeat (first | refine Sq.d ?_ _ | refine Sq.e ?_ | refine Sq.f ?_ _)); exact BK129.out)) : gb133 ≠ gb129)); have n8_ := Sq.l ((by rw [hg]; exact Nat.ne_of_lt (blk_lt (g := gb130) (o := .cells #[.slice (some ad131) l1_0.length c1_0, .string a1_1, .slice A1_2 l1_2.length c1_2] 90 (0, 0)) (by (with_reducible repeat (first | refine Sq.d ?_ _ | refine Sq.e ?_ | refine Sq.f ?_ _)); exact BK130.out)) : gb130 ≠ gb133)); have n9_ := Sq.l ((by rw [hg]; exact Nat.ne_of_gt (blk_lt (g := gb130) (o := .cells #[.slice (some ad131) l1_0.length c1_0, .string a1_1, .slice A1_2 l1_2.length c1_2] 90 (0, 0)) (by (with_reducible repeat (first | refine Sq.d ?_ _ | refine Sq.e ?_ | refine Sq.f ?_ _)); exact BK130.out)) : gb133 ≠ gb130)); clear BK129; clear BK130; clear HB; have BK129 := n0_; have BK130 := n1_; have HB := n2_; have BK133 := n3_; have GW133 := n4_; have GE133 := n5_; have NB129_133 := n6_; have NB133_129 := n7_; have NB130_133 := n8_; have NB133_130 := n9_; clear n0_ n1_ n2_ n3_ n4_ n5_ n6_ n7_ n8_ n9_; clear hb hbox hg; have hnb50 := NB133_129.out; have hnc50 := NB129_133.out; have hnb51 := NB133_130.out; have hnc51 := NB130_133.out; have hcz52_0 : w49.cell? ⟨gb133, 0, none⟩ = some (.int .i64 0) := (Sq.o BK133.out 0).trans rfl; have hcz52_1 : w49.cell? ⟨gb133, 1, none⟩ = some (.int .i64 0) := (Sq.o BK133.out 1).trans rfl; have hcz52_2 : w49.cell? ⟨gb133, 2, none⟩ = some (.int .i64 0) := (Sq.o BK133.out 2).trans rfl; have hfz52_0 := Sq.r BK133.out 0; have hfz52_1 := Sq.r BK133.out 1; have hfz52_2 := Sq.r BK133.out 2))
            go_ret
            exact ⟨by first | rfl | (simp [errW_none, errW_some] <;> rfl) | (simp only [← hji12, ← hji18]; first | rfl | (simp [errW_none, errW_some] <;> rfl)) | (simp [*, errW_none, errW_some] <;> rfl), by repeat (first | (with_reducible first | exact HB.out | apply Sq.i | apply Sq.j | apply Sq.k | refine Sq.h ?_ GE129.out | refine Sq.h ?_ GE130.out | refine Sq.h ?_ GE133.out) | exact HB.out)⟩
          ·rw [if_neg c20] at H
           exact absurd H (by simp)
         ·rw [if_neg c19] at H
          exact absurd H (by simp)
        ·rw [if_neg c17] at H
         have c17b0 : decide (x8_2 < 4) = false := decide_eq_false c17
         clear c17
         obtain rfl := Option.some.inj H
         go_wp2
         go_ret
         exact ⟨by first | rfl | (simp [errW_none, errW_some] <;> rfl) | (simp only [← hji12]; first | rfl | (simp [errW_none, errW_some] <;> rfl)) | (simp [*, errW_none, errW_some] <;> rfl), by repeat (first | (with_reducible first | exact HB.out | apply Sq.i | apply Sq.j | apply Sq.k | refine Sq.h ?_ GE129.out | refine Sq.h ?_ GE130.out) | exact HB.out)⟩
     ·rw [if_neg c14] at H
      exact absurd H (by simp)
    ·rw [if_neg c13] at H
     exact absurd H (by simp)

end Go.Proofs.Ytmajbehafgajmaa.QFnExactMemHostFault
