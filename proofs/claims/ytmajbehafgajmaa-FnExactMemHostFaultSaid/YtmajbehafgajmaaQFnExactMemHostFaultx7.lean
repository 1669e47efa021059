-- Written for this claim by this session's own driver (wip/xprint.py).
import Derived.Test.YtmajbehafgajmaaQFnExactMemHostFaultx0
namespace Go.Proofs.Ytmajbehafgajmaa.QFnExactMemHostFault
open Go.RowKit Go.Proofs.YtmajbehafgajmaaW.PrintWords Go.Proofs.YtmajbehafgajmaaW.PrintLast Go.Proofs.YtmajbehafgajmaaW.PrintMore
attribute [local go_sem] max2_int min2_int max_two min_two max_three min_three max_four min_four   -- for this text's walks alone
set_option linter.unusedVariables false
set_option linter.unusedSimpArgs false

/-! ### impl_MemHost_yusers: function 51 -/
mutual
def impl_MemHost_yusers.l0 : Nat → Int → Int → Int → List (S90) → Int → Int → Option (Int)
 | 0, _, _, _, _, _, _ => none
 | k + 1, x1, x2, x7, x13, x14, x15 => if x15 < x14 then (if 0 ≤ x15 then (if x15 < (x13.length : Int) then (impl_MemHost_yusers.l1 k x1 x2 x7 x13 x14 x15 ((rd_T90 x13 x15).f0) (((rd_T90 x13 x15).f0).length : Int) 0) else (none)) else (none)) else (some x7)
def impl_MemHost_yusers.l1 : Nat → Int → Int → Int → List (S90) → Int → Int → List (S97) → Int → Int → Option (Int)
 | 0, _, _, _, _, _, _, _, _, _ => none
 | k + 1, x1, x2, x7, x13, x14, x15, x20, x21, x22 => if x22 < x21 then (if 0 ≤ x22 then (if x22 < (x20.length : Int) then (if ((rd_T97 x20 x22).f0) = x1 then (if ((rd_T97 x20 x22).f1) = x2 then (impl_MemHost_yusers.l1 k x1 x2 (wrap64 (x7 + 1)) x13 x14 x15 x20 x21 (wrap64 (x22 + 1))) else (impl_MemHost_yusers.l1 k x1 x2 x7 x13 x14 x15 x20 x21 (wrap64 (x22 + 1)))) else (impl_MemHost_yusers.l1 k x1 x2 x7 x13 x14 x15 x20 x21 (wrap64 (x22 + 1)))) else (none)) else (none)) else (impl_MemHost_yusers.l0 k x1 x2 x7 x13 x14 (wrap64 (x15 + 1)))
end
def impl_MemHost_yusers.f (k : Nat) (l0_0 : List ByteArray) (l0_1 : List ByteArray) (l0_2 : List (S90)) (a0_3 : Int) (a1 : Int) (a2 : Int) : Option (Int) := impl_MemHost_yusers.l0 k a1 a2 0 l0_2 (l0_2.length : Int) 0
theorem impl_MemHost_yusers.mono_l : ∀ k, (∀ y0 y1 y2 y3 y4 y5, LeO (impl_MemHost_yusers.l0 k y0 y1 y2 y3 y4 y5) (impl_MemHost_yusers.l0 (k + 1) y0 y1 y2 y3 y4 y5)) ∧ (∀ y0 y1 y2 y3 y4 y5 y6 y7 y8, LeO (impl_MemHost_yusers.l1 k y0 y1 y2 y3 y4 y5 y6 y7 y8) (impl_MemHost_yusers.l1 (k + 1) y0 y1 y2 y3 y4 y5 y6 y7 y8))
 | 0 => ⟨fun _ _ _ _ _ _ r h => by simp [impl_MemHost_yusers.l0] at h, fun _ _ _ _ _ _ _ _ _ r h => by simp [impl_MemHost_yusers.l1] at h⟩
 | k + 1 => by
  obtain ⟨ih0, ih1⟩ := impl_MemHost_yusers.mono_l k
  refine ⟨?_, ?_⟩
  ·intro y0 y1 y2 y3 y4 y5
   unfold impl_MemHost_yusers.l0
   repeat' first
   | (with_reducible exact ih0 _ _ _ _ _ _)
   | (with_reducible exact ih1 _ _ _ _ _ _ _ _ _)
   | (with_reducible exact LeO.refl _)
   | (with_reducible exact LeO.none _)
   | (with_reducible refine LeO.ite ?_ ?_)
   | (with_reducible refine LeO.bind ?_ (fun _ => ?_))
   | exact ih0 _ _ _ _ _ _
   | exact ih1 _ _ _ _ _ _ _ _ _
   | exact LeO.none _
   | refine LeO.ite ?_ ?_
   | refine LeO.bind ?_ (fun _ => ?_)
  ·intro y0 y1 y2 y3 y4 y5 y6 y7 y8
   unfold impl_MemHost_yusers.l1
   repeat' first
   | (with_reducible exact ih0 _ _ _ _ _ _)
   | (with_reducible exact ih1 _ _ _ _ _ _ _ _ _)
   | (with_reducible exact LeO.refl _)
   | (with_reducible exact LeO.none _)
   | (with_reducible refine LeO.ite ?_ ?_)
   | (with_reducible refine LeO.bind ?_ (fun _ => ?_))
   | exact ih0 _ _ _ _ _ _
   | exact ih1 _ _ _ _ _ _ _ _ _
   | exact LeO.none _
   | refine LeO.ite ?_ ?_
   | refine LeO.bind ?_ (fun _ => ?_)
theorem impl_MemHost_yusers.mono : ∀ a0 a1 a2 a3 a4 a5 k, LeO (impl_MemHost_yusers.f k a0 a1 a2 a3 a4 a5) (impl_MemHost_yusers.f (k + 1) a0 a1 a2 a3 a4 a5) := by
 intro a0 a1 a2 a3 a4 a5 k
 obtain ⟨ih0, ih1⟩ := impl_MemHost_yusers.mono_l k
 unfold impl_MemHost_yusers.f
 repeat' first
   | (with_reducible exact ih0 _ _ _ _ _ _)
   | (with_reducible exact ih1 _ _ _ _ _ _ _ _ _)
   | (with_reducible exact LeO.refl _)
   | (with_reducible exact LeO.none _)
   | (with_reducible refine LeO.ite ?_ ?_)
   | (with_reducible refine LeO.bind ?_ (fun _ => ?_))
   | exact ih0 _ _ _ _ _ _
   | exact ih1 _ _ _ _ _ _ _ _ _
   | exact LeO.none _
   | refine LeO.ite ?_ ?_
   | refine LeO.bind ?_ (fun _ => ?_)
set_option maxHeartbeats 8000000 in
set_option maxRecDepth 100000 in
theorem impl_MemHost_yusers.calls (k : Nat) (A0_0 : Option Addr) (c0_0 : Nat) (l0_0 : List ByteArray) (A0_1 : Option Addr) (c0_1 : Nat) (l0_1 : List ByteArray) (A0_2 : Option Addr) (c0_2 : Nat) (l0_2 : List (S90)) (a0_3 : Int) (a1 : Int) (a2 : Int) (r : Int) (w : World) (hr0_0 : Kd.C Kd.string w A0_0 l0_0.length l0_0) (hc0_0 : l0_0.length ≤ c0_0) (hr0_1 : Kd.C Kd.string w A0_1 l0_1.length l0_1) (hc0_1 : l0_1.length ≤ c0_1) (hr0_2 : Kd.C k90 w A0_2 l0_2.length l0_2) (hc0_2 : l0_2.length ≤ c0_2) (h : impl_MemHost_yusers.f k l0_0 l0_1 l0_2 a0_3 a1 a2 = some r) :
  Calls Try.prog 51 #[.agg #[.slice A0_0 l0_0.length c0_0, .slice A0_1 l0_1.length c0_1, .slice A0_2 l0_2.length c0_2, .int .i64 a0_3], .int .i64 a1, .int .i64 a2] w fun e w' => e = .returned (.int .i64 r) ∧ Below w.heap.size w w' := by
 have hu30 := Try.underlying30
 have hu90 := Try.underlying90
 have hu97 := Try.underlying97
 have HR0_0 := Sq.l hr0_0
 have HC0_0 := Sq.l hc0_0
 clear hr0_0 hc0_0
 have HR0_1 := Sq.l hr0_1
 have HC0_1 := Sq.l hc0_1
 clear hr0_1 hc0_1
 have HR0_2 := Sq.l hr0_2
 have HC0_2 := Sq.l hc0_2
 clear hr0_2 hc0_2
 have HB := Sq.l (Below.refl w.heap.size w)
 have H : (impl_MemHost_yusers.l0 k a1 a2 0 l0_2 (l0_2.length : Int) 0) = some r := h
 clear h
 have H' := Sq.l H
 clear H
 go_enter Try.func51, Try.ntmps51
 go_wp2_with (first | ((with_reducible refine gate_dst (N := 3) rfl ?_); refine box_event ?hg (N := 3) ?hd (cs := #[.slice A0_0 l0_0.length c0_0, .slice A0_1 l0_1.length c0_1, .slice A0_2 l0_2.length c0_2, .int .i64 a0_3]) (t := 30) ?hr ?_; (case hd => rfl); (case hg => rfl); (case hr => first | (go_simp; done) | (go_simp; rfl)); intro gb207 hg w4 hbox hb; have n0_ := Sq.l (Sq.a4 (by repeat (first | (with_reducible first | exact HB.out | apply Sq.i | apply Sq.j | apply Sq.k) | exact HB.out)) hb); have n1_ := Sq.l (hbox); have n2_ := Sq.l ((by rw [hg]; exact (Sq.a5 (by repeat (first | (with_reducible first | exact HB.out | apply Sq.i | apply Sq.j | apply Sq.k) | exact HB.out))) : w.heap.size ≤ gb207)); have n3_ := Sq.l ((by rw [hg]; exact (Sq.a5 (by repeat (first | (with_reducible first | exact HB.out | apply Sq.i | apply Sq.j | apply Sq.k) | exact HB.out))) : w.heap.size ≤ gb207)); clear HB; have HB := n0_; have BK207 := n1_; have GW207 := n2_; have GE207 := n3_; clear n0_ n1_ n2_ n3_; clear hb hbox hg; have hcz5_0 : w4.cell? ⟨gb207, 0, none⟩ = some (.slice A0_0 l0_0.length c0_0) := (Sq.o BK207.out 0).trans rfl; have hcz5_1 : w4.cell? ⟨gb207, 1, none⟩ = some (.slice A0_1 l0_1.length c0_1) := (Sq.o BK207.out 1).trans rfl; have hcz5_2 : w4.cell? ⟨gb207, 2, none⟩ = some (.slice A0_2 l0_2.length c0_2) := (Sq.o BK207.out 2).trans rfl; have hcz5_3 : w4.cell? ⟨gb207, 3, none⟩ = some (.int .i64 a0_3) := (Sq.o BK207.out 3).trans rfl; have hfz5_0 := Sq.r BK207.out 0; have hfz5_1 := Sq.r BK207.out 1; have hfz5_2 := Sq.r BK207.out 2; have hfz5_3 := Sq.r BK207.out 3))
 go_loopg [7, 15] k (fun kq v7 v15 w' => ∃ (x7_1 : Int) (x15_1 : Int), v7 = .int .i64 x7_1 ∧ v15 = .int .i64 x15_1 ∧ Aside0 (impl_MemHost_yusers.l0 kq a1 a2 x7_1 l0_2 (l0_2.length : Int) x15_1 = some r) ∧ Aside0 (kq ≤ k) ∧ Aside0 (w'.heap[gb207]? = some (.cells #[(.slice A0_0 l0_0.length c0_0), (.slice A0_1 l0_1.length c0_1), (.slice A0_2 l0_2.length c0_2), .int .i64 a0_3] 30 (0, 0))) ∧ Aside0 (Below w.heap.size w w'))
 case atStart => exact ⟨(0), (0), (by first | rfl | (simp; done) | (simp [*]; done)), (by first | rfl | (simp; done) | (simp [*]; done)), H', ⟨Nat.le_refl _⟩, ⟨by (with_reducible repeat (first | refine Sq.d ?_ _ | refine Sq.e ?_ | refine Sq.f ?_ _)); exact BK207.out⟩, ⟨by repeat (first | (with_reducible first | exact HB.out | apply Sq.i | apply Sq.j | apply Sq.k | refine Sq.h ?_ GE207.out) | exact HB.out)⟩⟩
 case round =>
  clear H'
  try clear p2; try clear c5; try clear hcz5_0; try clear hcz5_1; try clear hcz5_2; try clear hcz5_3; try clear hfz5_0; try clear hfz5_1; try clear hfz5_2; try clear hfz5_3
  obtain ⟨x7_1, x15_1, rfl, rfl, HA, HK1, BK207, HB⟩ := hrel
  cases gk with
  | zero => exact absurd HA.out (by simp [impl_MemHost_yusers.l0])
  | succ k1 =>
   have H := HA.out
   clear HA
   simp only [impl_MemHost_yusers.l0] at H
   by_cases c6 : x15_1 < (l0_2.length : Int)
   ·rw [if_pos c6] at H
    have c6b0 : decide (x15_1 < (l0_2.length : Int)) = true := decide_eq_true c6
    clear c6
    by_cases c7 : 0 ≤ x15_1
    ·rw [if_pos c7] at H
     have c7b0 : decide (0 ≤ x15_1) = true := decide_eq_true c7
     clear c7
     by_cases c8 : x15_1 < (l0_2.length : Int)
     ·rw [if_pos c8] at H
      have c8b0 : decide (x15_1 < (l0_2.length : Int)) = true := decide_eq_true c8
      clear c8
      have H' := Sq.l H
      clear H
      have p208 : 0 ≤ (x15_1 : Int) := of_decide_eq_true (by first | (with_reducible assumption) | assumption)
      have q208 : x15_1 < (l0_2.length : Int) := of_decide_eq_true (by first | (with_reducible assumption) | assumption)
      obtain ⟨ad208, A208_0, c208_0, A208_2, c208_2, e208, hx208_0, hx208_1, hx208_2, hl208_0, hi208_0, hl208_2, hi208_2⟩ := at_T90 HR0_2.out x15_1 p208 q208
      cases e208
      replace hx208_0 := (HB.out.cell (World.block_lt_of_cell? w _ hx208_0)).trans hx208_0
      replace hx208_1 := (HB.out.cell (World.block_lt_of_cell? w _ hx208_1)).trans hx208_1
      replace hx208_2 := (HB.out.cell (World.block_lt_of_cell? w _ hx208_2)).trans hx208_2
      have HR208_0 := Sq.l hi208_0
      have HC208_0 := Sq.l hl208_0
      clear hi208_0 hl208_0
      have HR208_2 := Sq.l hi208_2
      have HC208_2 := Sq.l hl208_2
      clear hi208_2 hl208_2; replace p208 := eq_true p208; replace q208 := eq_true q208
      go_wp2_with (first | ((with_reducible refine gate_dst (N := 9) rfl ?_); refine box_event ?hg (N := 9) ?hd (cs := #[.slice none 0 0, .string (⟨#[]⟩ : ByteArray), .slice none 0 0]) (t := 90) ?hr ?_; (case hd => rfl); (case hg => rfl); (case hr => first | (go_simp; done) | (go_simp; rfl)); intro gb209 hg w9 hbox hb; have n0_ := Sq.l (Sq.m (g := gb207) (o := .cells #[.slice A0_0 l0_0.length c0_0, .slice A0_1 l0_1.length c0_1, .slice (some ad208) l0_2.length c0_2, .int .i64 a0_3] 30 (0, 0)) (by (with_reducible repeat (first | refine Sq.d ?_ _ | refine Sq.e ?_ | refine Sq.f ?_ _)); exact BK207.out) hb); have n1_ := Sq.l (Sq.a4 (by repeat (first | (with_reducible first | exact HB.out | apply Sq.i | apply Sq.j | apply Sq.k | refine Sq.h ?_ GE207.out) | exact HB.out)) hb); have n2_ := Sq.l (hbox); have n3_ := Sq.l ((by rw [hg]; exact (Sq.a5 (by repeat (first | (with_reducible first | exact HB.out | apply Sq.i | apply Sq.j | apply Sq.k | refine Sq.h ?_ GE207.out) | exact HB.out))) : w.heap.size ≤ gb209)); have n4_ := Sq.l ((by rw [hg]; exact (Sq.a5 (by repeat (first | (with_reducible first | exact HB.out | apply Sq.i | apply Sq.j | apply Sq.k | refine Sq.h ?_ GE207.out) | exact HB.out))) : w.heap.size ≤ gb209)); have n5_ := Sq.l ((by rw [hg]; exact Nat.ne_of_lt (blk_lt (g := gb207) (o := .cells #[.slice A0_0 l0_0.length c0_0, .slice A0_1 l0_1.length c0_1, .slice (some ad208) l0_2.length c0_2, .int .i64 a0_3] 30 (0, 0)) (by (with_reducible repeat (first | refine Sq.d ?_ _ | refine Sq.e ?_ | refine Sq.f ?_ _)); exact BK207.out)) : gb207 ≠ gb209)); have n6_ := Sq.l ((by rw [hg]; exact Nat.ne_of_gt (blk_lt (g := gb207) (o := .cells #[.slice A0_0 l0_0.length c0_0, .slice A0_1 l0_1.length c0_1, .slice (some ad208) l0_2.length c0_2, .int .i64 a0_3] 30 (0, 0)) (by (with_reducible repeat (first | refine Sq.d ?_ _ | refine Sq.e ?_ | refine Sq.f ?_ _)); exact BK207.out)) : gb209 ≠ gb207)); clear BK207; clear HB; have BK207 := n0_; have HB := n1_; have BK209 := n2_; have GW209 := n3_; have GE209 := n4_; have NB207_209 := n5_; have NB209_207 := n6_; clear n0_ n1_ n2_ n3_ n4_ n5_ n6_; clear hb hbox hg; have hnb10 := NB209_207.out; have hnc10 := NB207_209.out; have hcz11_0 : w9.cell? ⟨gb209, 0, none⟩ = some (.slice none 0 0) := (Sq.o BK209.out 0).trans rfl; have hcz11_1 : w9.cell? ⟨gb209, 1, none⟩ = some (.string (⟨#[]⟩ : ByteArray)) := (Sq.o BK209.out 1).trans rfl; have hcz11_2 : w9.cell? ⟨gb209, 2, none⟩ = some (.slice none 0 0) := (Sq.o BK209.out 2).trans rfl; have hfz11_0 := Sq.r BK209.out 0; have hfz11_1 := Sq.r BK209.out 1; have hfz11_2 := Sq.r BK209.out 2))
      go_loopg [7, 22] k1 (fun kq v7 v22 w' => ∃ (x7_2 : Int) (x22_2 : Int), v7 = .int .i64 x7_2 ∧ v22 = .int .i64 x22_2 ∧ Aside0 (impl_MemHost_yusers.l1 kq a1 a2 x7_2 l0_2 (l0_2.length : Int) x15_1 ((rd_T90 l0_2 x15_1).f0) (((rd_T90 l0_2 x15_1).f0).length : Int) x22_2 = some r) ∧ Aside0 (kq ≤ k1) ∧ Aside0 (w'.heap[gb207]? = some (.cells #[(.slice A0_0 l0_0.length c0_0), (.slice A0_1 l0_1.length c0_1), (.slice (some ad208) l0_2.length c0_2), .int .i64 a0_3] 30 (0, 0))) ∧ Aside0 (w'.heap[gb209]? = some (.cells #[(.slice A208_0 ((rd_T90 l0_2 x15_1).f0).length c208_0), .string ((rd_T90 l0_2 x15_1).f1), (.slice A208_2 ((rd_T90 l0_2 x15_1).f2).length c208_2)] 90 (0, 0))) ∧ Aside0 (Below w.heap.size w w'))
      case atStart => exact ⟨(x7_1), (0), (by first | rfl | (simp; done) | (simp [*]; done)), (by first | rfl | (simp; done) | (simp [*]; done)), H', ⟨Nat.le_refl _⟩, ⟨by (with_reducible repeat (first | refine Sq.d ?_ _ | refine Sq.e ?_ | refine Sq.f ?_ _)); refine Sq.B3 ?_ NB207_209.out; (with_reducible repeat (first | refine Sq.d ?_ _ | refine Sq.e ?_ | refine Sq.f ?_ _)); exact BK207.out⟩, ⟨by (with_reducible repeat (first | refine Sq.d ?_ _ | refine Sq.e ?_ | refine Sq.f ?_ _)); refine Sq.v (cs := #[.slice A208_0 ((rd_T90 l0_2 x15_1).f0).length c208_0, .string ((rd_T90 l0_2 x15_1).f1), .slice none 0 0]) ?_ 2 _ rfl; (with_reducible repeat (first | refine Sq.d ?_ _ | refine Sq.e ?_ | refine Sq.f ?_ _)); refine Sq.v (cs := #[.slice A208_0 ((rd_T90 l0_2 x15_1).f0).length c208_0, .string (⟨#[]⟩ : ByteArray), .slice none 0 0]) ?_ 1 _ rfl; (with_reducible repeat (first | refine Sq.d ?_ _ | refine Sq.e ?_ | refine Sq.f ?_ _)); refine Sq.v (cs := #[.slice none 0 0, .string (⟨#[]⟩ : ByteArray), .slice none 0 0]) ?_ 0 _ rfl; (with_reducible repeat (first | refine Sq.d ?_ _ | refine Sq.e ?_ | refine Sq.f ?_ _)); exact BK209.out⟩, ⟨by repeat (first | (with_reducible first | exact HB.out | apply Sq.i | apply Sq.j | apply Sq.k | refine Sq.h ?_ GE207.out | refine Sq.h ?_ GE209.out) | exact HB.out)⟩⟩
      case round =>
       clear H'
       try clear c1; try clear c2; try clear p2; try clear q2; try clear hx2; try clear c5; try clear c6; try clear c6b0; try clear c7; try clear c7b0; try clear c8; try clear c8b0; try clear c10; try clear hcz11_0; try clear hcz11_1; try clear hcz11_2; try clear hcz5_0; try clear hcz5_1; try clear hcz5_2; try clear hcz5_3; try clear hfz11_0; try clear hfz11_1; try clear hfz11_2; try clear hfz5_0; try clear hfz5_1; try clear hfz5_2; try clear hfz5_3; try clear hx208_0; try clear hx208_1; try clear hx208_2; try clear p2; try clear p208; try clear q208
       obtain ⟨x7_2, x22_2, rfl, rfl, HA, HK2, BK207, BK209, HB⟩ := hrel
       cases gk with
       | zero => exact absurd HA.out (by simp [impl_MemHost_yusers.l1])
       | succ k2 =>
        have H := HA.out
        clear HA
        simp only [impl_MemHost_yusers.l1] at H
        by_cases c12 : x22_2 < (((rd_T90 l0_2 x15_1).f0).length : Int)
        ·rw [if_pos c12] at H
         have c12b0 : decide (x22_2 < (((rd_T90 l0_2 x15_1).f0).length : Int)) = true := decide_eq_true c12
         clear c12
         by_cases c13 : 0 ≤ x22_2
         ·rw [if_pos c13] at H
          have c13b0 : decide (0 ≤ x22_2) = true := decide_eq_true c13
          clear c13
          by_cases c14 : x22_2 < (((rd_T90 l0_2 x15_1).f0).length : Int)
          ·rw [if_pos c14] at H
           have c14b0 : decide (x22_2 < (((rd_T90 l0_2 x15_1).f0).length : Int)) = true := decide_eq_true c14
           clear c14
           by_cases c15 : ((rd_T97 ((rd_T90 l0_2 x15_1).f0) x22_2).f0) = a1
           ·rw [if_pos c15] at H
            have c15b0 : (((rd_T97 ((rd_T90 l0_2 x15_1).f0) x22_2).f0) == a1) = true := beq_iff_eq.mpr c15
            have c15b1 : (((rd_T97 ((rd_T90 l0_2 x15_1).f0) x22_2).f0) != a1) = false := bne_eq_false_iff_eq.mpr c15
            clear c15
            by_cases c16 : ((rd_T97 ((rd_T90 l0_2 x15_1).f0) x22_2).f1) = a2
            ·rw [if_pos c16] at H
             have c16b0 : (((rd_T97 ((rd_T90 l0_2 x15_1).f0) x22_2).f1) == a2) = true := beq_iff_eq.mpr c16
             have c16b1 : (((rd_T97 ((rd_T90 l0_2 x15_1).f0) x22_2).f1) != a2) = false := bne_eq_false_iff_eq.mpr c16
             clear c16
             have H' := Sq.l H
             clear H
             have p210 : 0 ≤ (x22_2 : Int) := of_decide_eq_true (by first | (with_reducible assumption) | assumption)
             have q210 : x22_2 < (((rd_T90 l0_2 x15_1).f0).length : Int) := of_decide_eq_true (by first | (with_reducible assumption) | assumption)
             obtain ⟨ad210, e210, hx210_0, hx210_1, hx210_2⟩ := at_T97 HR208_0.out x22_2 p210 q210
             cases e210
             replace hx210_0 := (HB.out.cell (World.block_lt_of_cell? w _ hx210_0)).trans hx210_0
             replace hx210_1 := (HB.out.cell (World.block_lt_of_cell? w _ hx210_1)).trans hx210_1
             replace hx210_2 := (HB.out.cell (World.block_lt_of_cell? w _ hx210_2)).trans hx210_2
             replace p210 := eq_true p210; replace q210 := eq_true q210
             go_wp2_with (first | ((with_reducible refine gate_dst (N := 11) rfl ?_); refine box_event ?hg (N := 11) ?hd (cs := #[.int .i64 0, .int .i64 0, .int .i64 0]) (t := 97) ?hr ?_; (case hd => rfl); (case hg => rfl); (case hr => first | (go_simp; done) | (go_simp; rfl)); intro gb211 hg w17 hbox hb; have n0_ := Sq.l (Sq.m (g := gb207) (o := .cells #[.slice A0_0 l0_0.length c0_0, .slice A0_1 l0_1.length c0_1, .slice (some ad208) l0_2.length c0_2, .int .i64 a0_3] 30 (0, 0)) (by (with_reducible repeat (first | refine Sq.d ?_ _ | refine Sq.e ?_ | refine Sq.f ?_ _)); exact BK207.out) hb); have n1_ := Sq.l (Sq.m (g := gb209) (o := .cells #[.slice (some ad210) ((rd_T90 l0_2 x15_1).f0).length c208_0, .string ((rd_T90 l0_2 x15_1).f1), .slice A208_2 ((rd_T90 l0_2 x15_1).f2).length c208_2] 90 (0, 0)) (by (with_reducible repeat (first | refine Sq.d ?_ _ | refine Sq.e ?_ | refine Sq.f ?_ _)); exact BK209.out) hb); have n2_ := Sq.l (Sq.a4 (by repeat (first | (with_reducible first | exact HB.out | apply Sq.i | apply Sq.j | apply Sq.k | refine Sq.h ?_ GE207.out | refine Sq.h ?_ GE209.out) | exact HB.out)) hb); have n3_ := Sq.l (hbox); have n4_ := Sq.l ((by rw [hg]; exact (Sq.a5 (by repeat (first | (with_reducible first | exact HB.out | apply Sq.i | apply Sq.j | apply Sq.k | refine Sq.h ?_ GE207.out | refine Sq.h ?_ GE209.out) | exact HB.out))) : w.heap.size ≤ gb211)); have n5_ := Sq.l ((by rw [hg]; exact (Sq.a5 (by repeat (first | (with_reducible first | exact HB.out | apply Sq.i | apply Sq.j | apply Sq.k | refine Sq.h ?_ GE207.out | refine Sq.h ?_ GE209.out) | exact HB.out))) : w.heap.size ≤ gb211)); have n6_ := Sq.l ((by rw [hg]; exact Nat.ne_of_lt (blk_lt (g := gb207) (o := .cells #[.slice A0_0 l0_0.length c0_0, .slice A0_1 l0_1.length c0_1, .slice (some ad208) l0_2.length c0_2, .int .i64 a0_3] 30 (0, 0)) (by (with_reducible repeat (first | refine Sq.d ?_ _ | refine Sq.e ?_ | refine Sq.f ?_ _)); exact BK207.out)) : gb207 ≠ gb211)); have n7_ := Sq.l ((by rw [hg]; exact Nat.ne_of_gt (blk_lt (g := gb207) (o := .cells #[.slice A0_0 l0_0.length c0_0, .slice A0_1 l0_1.length c0_1, .slice (some ad208) l0_2.length c0_2, .int .i64 a0_3] 30 (0, 0)) (by (with_reducible repeat (first | refine Sq.d ?_ _ | refine Sq.e ?_ | refine Sq.f ?_ _)); exact BK207.out)) : gb211 ≠ gb207)); have n8_ := Sq.l ((by rw [hg]; exact Nat.ne_of_lt (blk_lt (g := gb209) (o := .cells #[.slice (some ad210) ((rd_T90 l0_2 x15_1).f0).length c208_0, .string ((rd_T90 l0_2 x15_1).f1), .slice A208_2 ((rd_T90 l0_2 x15_1).f2).length c208_2] 90 (0, 0)) (by (with_reducible repeat (first | refine Sq.d ?_ _ | refine Sq.e ?_ | refine Sq.f ?_ _)); exact BK209.out)) : gb209 ≠ gb211)); have n9_ := Sq.l ((by rw [hg]; exact Nat.ne_of_gt (blk_lt (g := gb209) (o := .cells #[.slice (some ad210) ((rd_T90 l0_2 x15_1).f0).length c208_0, .string ((rd_T90 l0_2 x15_1).f1), .slice A208_2 ((rd_T90 l0_2 x15_1).f2).length c208_2] 90 (0, 0)) (by (with_reducible repeat (first | refine Sq.d ?_ _ | refine Sq.e ?_ | refine Sq.f ?_ _)); exact BK209.out)) : gb211 ≠ gb209)); clear BK207; clear BK209; clear HB; have BK207 := n0_; have BK209 := n1_; have HB := n2_; have BK211 := n3_; have GW211 := n4_; have GE211 := n5_; have NB207_211 := n6_; have NB211_207 := n7_; have NB209_211 := n8_; have NB211_209 := n9_; clear n0_ n1_ n2_ n3_ n4_ n5_ n6_ n7_ n8_ n9_; clear hb hbox hg; have hnb18 := NB211_207.out; have hnc18 := NB207_211.out; have hnb19 := NB211_209.out; have hnc19 := NB209_211.out; have hcz20_0 : w17.cell? ⟨gb211, 0, none⟩ = some (.int .i64 0) := (Sq.o BK211.out 0).trans rfl; have hcz20_1 : w17.cell? ⟨gb211, 1, none⟩ = some (.int .i64 0) := (Sq.o BK211.out 1).trans rfl; have hcz20_2 : w17.cell? ⟨gb211, 2, none⟩ = some (.int .i64 0) := (Sq.o BK211.out 2).trans rfl; have hfz20_0 := Sq.r BK211.out 0; have hfz20_1 := Sq.r BK211.out 1; have hfz20_2 := Sq.r BK211.out 2))
             go_roundg k2
             case measure => have := HK1.out; have := HK2.out; omega
             case rel => exact ⟨(wrap64 (x7_2 + 1)), (wrap64 (x22_2 + 1)), (by first | rfl | (simp; done) | (simp [*]; done)), (by first | rfl | (simp; done) | (simp [*]; done)), H', ⟨by have := HK1.out; have := HK2.out; omega⟩, ⟨by (with_reducible repeat (first | refine Sq.d ?_ _ | refine Sq.e ?_ | refine Sq.f ?_ _)); refine Sq.B3 ?_ NB207_211.out; (with_reducible repeat (first | refine Sq.d ?_ _ | refine Sq.e ?_ | refine Sq.f ?_ _)); exact BK207.out⟩, ⟨by (with_reducible repeat (first | refine Sq.d ?_ _ | refine Sq.e ?_ | refine Sq.f ?_ _)); refine Sq.B3 ?_ NB209_211.out; (with_reducible repeat (first | refine Sq.d ?_ _ | refine Sq.e ?_ | refine Sq.f ?_ _)); exact BK209.out⟩, ⟨by repeat (first | (with_reducible first | exact HB.out | apply Sq.i | apply Sq.j | apply Sq.k | refine Sq.h ?_ GE207.out | refine Sq.h ?_ GE209.out | refine Sq.h ?_ GE211.out) | exact HB.out)⟩⟩
            ·rw [if_neg c16] at H
             have c16b0 : (((rd_T97 ((rd_T90 l0_2 x15_1).f0) x22_2).f1) == a2) = false := beq_eq_false_iff_ne.mpr c16
             have c16b1 : (((rd_T97 ((rd_T90 l0_2 x15_1).f0) x22_2).f1) != a2) = true := bne_iff_ne.mpr c16
             have H' := Sq.l H
             clear H
             have p210 : 0 ≤ (x22_2 : Int) := of_decide_eq_true (by first | (with_reducible assumption) | assumption)
             have q210 : x22_2 < (((rd_T90 l0_2 x15_1).f0).length : Int) := of_decide_eq_true (by first | (with_reducible assumption) | assumption)
             obtain ⟨ad210, e210, hx210_0, hx210_1, hx210_2⟩ := at_T97 HR208_0.out x22_2 p210 q210
             cases e210
             replace hx210_0 := (HB.out.cell (World.block_lt_of_cell? w _ hx210_0)).trans hx210_0
             replace hx210_1 := (HB.out.cell (World.block_lt_of_cell? w _ hx210_1)).trans hx210_1
             replace hx210_2 := (HB.out.cell (World.block_lt_of_cell? w _ hx210_2)).trans hx210_2
             replace p210 := eq_true p210; replace q210 := eq_true q210
             go_wp2_with (first | ((with_reducible refine gate_dst (N := 11) rfl ?_); refine box_event ?hg (N := 11) ?hd (cs := #[.int .i64 0, .int .i64 0, .int .i64 0]) (t := 97) ?hr ?_; (case hd => rfl); (case hg => rfl); (case hr => first | (go_simp; done) | (go_simp; rfl)); intro gb211 hg w21 hbox hb; have n0_ := Sq.l (Sq.m (g := gb207) (o := .cells #[.slice A0_0 l0_0.length c0_0, .slice A0_1 l0_1.length c0_1, .slice (some ad208) l0_2.length c0_2, .int .i64 a0_3] 30 (0, 0)) (by (with_reducible repeat (first | refine Sq.d ?_ _ | refine Sq.e ?_ | refine Sq.f ?_ _)); exact BK207.out) hb); have n1_ := Sq.l (Sq.m (g := gb209) (o := .cells #[.slice (some ad210) ((rd_T90 l0_2 x15_1).f0).length c208_0, .string ((rd_T90 l0_2 x15_1).f1), .slice A208_2 ((rd_T90 l0_2 x15_1).f2).length c208_2] 90 (0, 0)) (by (with_reducible repeat (first | refine Sq.d ?_ _ | refine Sq.e ?_ | refine Sq.f ?_ _)); exact BK209.out) hb); have n2_ := Sq.l (Sq.a4 (by repeat (first | (with_reducible first | exact HB.out | apply Sq.i | apply Sq.j | apply Sq.k | refine Sq.h ?_ GE207.out | refine Sq.h ?_ GE209.out) | exact HB.out)) hb); have n3_ := Sq.l (hbox); have n4_ := Sq.l ((by rw [hg]; exact (Sq.a5 (by repeat (first | (with_reducible first | exact HB.out | apply Sq.i | apply Sq.j | apply Sq.k | refine Sq.h ?_ GE207.out | refine Sq.h ?_ GE209.out) | exact HB.out))) : w.heap.size ≤ gb211)); have n5_ := Sq.l ((by rw [hg]; exact (Sq.a5 (by repeat (first | (with_reducible first | exact HB.out | apply Sq.i | apply Sq.j | apply Sq.k | refine Sq.h ?_ GE207.out | refine Sq.h ?_ GE209.out) | exact HB.out))) : w.heap.size ≤ gb211)); have n6_ := Sq.l ((by rw [hg]; exact Nat.ne_of_lt (blk_lt (g := gb207) (o := .cells #[.slice A0_0 l0_0.length c0_0, .slice A0_1 l0_1.length c0_1, .slice (some ad208) l0_2.length c0_2, .int .i64 a0_3] 30 (0, 0)) (by (with_reducible repeat (first | refine Sq.d ?_ _ | refine Sq.e ?_ | refine Sq.f ?_ _)); exact BK207.out)) : gb207 ≠ gb211)); have n7_ := Sq.l ((by rw [hg]; exact Nat.ne_of_gt (blk_lt (g := gb207) (o := .cells #[.slice A0_0 l0_0.length c0_0, .slice A0_1 l0_1.length c0_1, .slice (some ad208) l0_2.length c0_2, .int .i64 a0_3] 30 (0, 0)) (by (with_reducible repeat (first | refine Sq.d ?_ _ | refine Sq.e ?_ | refine Sq.f ?_ _)); exact BK207.out)) : gb211 ≠ gb207)); have n8_ := Sq.l ((by rw [hg]; exact Nat.ne_of_lt (blk_lt (g := gb209) (o := .cells #[.slice (some ad210) ((rd_T90 l0_2 x15_1).f0).length c208_0, .string ((rd_T90 l0_2 x15_1).f1), .slice A208_2 ((rd_T90 l0_2 x15_1).f2).length c208_2] 90 (0, 0)) (by (with_reducible repeat (first | refine Sq.d ?_ _ | refine Sq.e ?_ | refine Sq.f ?_ _)); exact BK209.out)) : gb209 ≠ gb211)); have n9_ := Sq.l ((by rw [hg]; exact Nat.ne_of_gt (blk_lt (g := gb209) (o := .cells #[.slice (some ad210) ((rd_T90 l0_2 x15_1).f0).length c208_0, .string ((rd_T90 l0_2 x15_1).f1), .slice A208_2 ((rd_T90 l0_2 x15_1).f2).length c208_2] 90 (0, 0)) (by (with_reducible repeat (first | refine Sq.d ?_ _ | refine Sq.e ?_ | refine Sq.f ?_ _)); exact BK209.out)) : gb211 ≠ gb209)); clear BK207; clear BK209; clear HB; have BK207 := n0_; have BK209 := n1_; have HB := n2_; have BK211 := n3_; have GW211 := n4_; have GE211 := n5_; have NB207_211 := n6_; have NB211_207 := n7_; have NB209_211 := n8_; have NB211_209 := n9_; clear n0_ n1_ n2_ n3_ n4_ n5_ n6_ n7_ n8_ n9_; clear hb hbox hg; have hnb22 := NB211_207.out; have hnc22 := NB207_211.out; have hnb23 := NB211_209.out; have hnc23 := NB209_211.out; have hcz24_0 : w21.cell? ⟨gb211, 0, none⟩ = some (.int .i64 0) := (Sq.o BK211.out 0).trans rfl; have hcz24_1 : w21.cell? ⟨gb211, 1, none⟩ = some (.int .i64 0) := (Sq.o BK211.out 1).trans rfl; have hcz24_2 : w21.cell? ⟨gb211, 2, none⟩ = some (.int .i64 0) := (Sq.o BK211.out 2).trans rfl; have hfz24_0 := Sq.r BK211.out 0; have hfz24_1 := Sq.r BK211.out 1; have hfz24_2 := Sq.r BK211.out 2))
             go_roundg k2
             case measure => have := HK1.out; have := HK2.out; omega
             case rel => exact ⟨(x7_2), (wrap64 (x22_2 + 1)), (by first | rfl | (simp; done) | (simp [*]; done)), (by first | rfl | (simp; done) | (simp [*]; done)), H', ⟨by have := HK1.out; have := HK2.out; omega⟩, ⟨by (with_reducible repeat (first | refine Sq.d ?_ _ | refine Sq.e ?_ | refine Sq.f ?_ _)); refine Sq.B3 ?_ NB207_211.out; (with_reducible repeat (first | refine Sq.d ?_ _ | refine Sq.e ?_ | refine Sq.f ?_ _)); exact BK207.out⟩, ⟨by (with_reducible repeat (first | refine Sq.d ?_ _ | refine Sq.e ?_ | refine Sq.f ?_ _)); refine Sq.B3 ?_ NB209_211.out; (with_reducible repeat (first | refine Sq.d ?_ _ | refine Sq.e ?_ | refine Sq.f ?_ _)); exact BK209.out⟩, ⟨by repeat (first | (with_reducible first | exact HB.out | apply Sq.i | apply Sq.j | apply Sq.k | refine Sq.h ?_ GE207.out | refine Sq.h ?_ GE209.out | refine Sq.h ?_ GE211.out) | exact HB.out)⟩⟩
           ·rw [if_neg c15] at H
            have c15b0 : (((rd_T97 ((rd_T90 l0_2 x15_1).f0) x22_2).f0) == a1) = false := beq_eq_false_iff_ne.mpr c15
            have c15b1 : (((rd_T97 ((rd_T90 l0_2 x15_1).f0) x22_2).f0) != a1) = true := bne_iff_ne.mpr c15
            have H' := Sq.l H
            clear H
            have p210 : 0 ≤ (x22_2 : Int) := of_decide_eq_true (by first | (with_reducible assumption) | assumption)
            have q210 : x22_2 < (((rd_T90 l0_2 x15_1).f0).length : Int) := of_decide_eq_true (by first | (with_reducible assumption) | assumption)
            obtain ⟨ad210, e210, hx210_0, hx210_1, hx210_2⟩ := at_T97 HR208_0.out x22_2 p210 q210
            cases e210
            replace hx210_0 := (HB.out.cell (World.block_lt_of_cell? w _ hx210_0)).trans hx210_0
            replace hx210_1 := (HB.out.cell (World.block_lt_of_cell? w _ hx210_1)).trans hx210_1
            replace hx210_2 := (HB.out.cell (World.block_lt_of_cell? w _ hx210_2)).trans hx210_2
            replace p210 := eq_true p210; replace q210 := eq_true q210
            go_wp2_with (first | ((with_reducible refine gate_dst (N := 11) rfl ?_); refine box_event ?hg (N := 11) ?hd (cs := #[.int .i64 0, .int .i64 0, .int .i64 0]) (t := 97) ?hr ?_; (case hd => rfl); (case hg => rfl); (case hr => first | (go_simp; done) | (go_simp; rfl)); intro gb211 hg w25 hbox hb; have n0_ := Sq.l (Sq.m (g := gb207) (o := .cells #[.slice A0_0 l0_0.length c0_0, .slice A0_1 l0_1.length c0_1, .slice (some ad208) l0_2.length c0_2, .int .i64 a0_3] 30 (0, 0)) (by (with_reducible repeat (first | refine Sq.d ?_ _ | refine Sq.e ?_ | refine Sq.f ?_ _)); exact BK207.out) hb); have n1_ := Sq.l (Sq.m (g := gb209) (o := .cells #[.slice (some ad210) ((rd_T90 l0_2 x15_1).f0).length c208_0, .string ((rd_T90 l0_2 x15_1).f1), .slice A208_2 ((rd_T90 l0_2 x15_1).f2).length c208_2] 90 (0, 0)) (by (with_reducible repeat (first | refine Sq.d ?_ _ | refine Sq.e ?_ | refine Sq.f ?_ _)); exact BK209.out) hb); have n2_ := Sq.l (Sq.a4 (by repeat (first | (with_reducible first | exact HB.out | apply Sq.i | apply Sq.j | apply Sq.k | refine Sq.h ?_ GE207.out | refine Sq.h ?_ GE209.out) | exact HB.out)) hb); have n3_ := Sq.l (hbox); have n4_ := Sq.l ((by rw [hg]; exact (Sq.a5 (by repeat (first | (with_reducible first | exact HB.out | apply Sq.i | apply Sq.j | apply Sq.k | refine Sq.h ?_ GE207.out | refine Sq.h ?_ GE209.out) | exact HB.out))) : w.heap.size ≤ gb211)); have n5_ := Sq.l ((by rw [hg]; exact (Sq.a5 (by repeat (first | (with_reducible first | exact HB.out | apply Sq.i | apply Sq.j | apply Sq.k | refine Sq.h ?_ GE207.out | refine Sq.h ?_ GE209.out) | exact HB.out))) : w.heap.size ≤ gb211)); have n6_ := Sq.l ((by rw [hg]; exact Nat.ne_of_lt (blk_lt (g := gb207) (o := .cells #[.slice A0_0 l0_0.length c0_0, .slice A0_1 l0_1.length c0_1, .slice (some ad208) l0_2.length c0_2, .int .i64 a0_3] 30 (0, 0)) (by (with_reducible repeat (first | refine Sq.d ?_ _ | refine Sq.e ?_ | refine Sq.f ?_ _)); exact BK207.out)) : gb207 ≠ gb211)); have n7_ := Sq.l ((by rw [hg]; exact Nat.ne_of_gt (blk_lt (g := gb207) (o := .cells #[.slice A0_0 l0_0.length c0_0, .slice A0_1 l0_1.length c0_1, .slice (some ad208) l0_2.length c0_2, .int .i64 a0_3] 30 (0, 0)) (by (with_reducible repeat (first | refine Sq.d ?_ _ | refine Sq.e ?_ | refine Sq.f ?_ _)); exact BK207.out)) : gb211 ≠ gb207)); have n8_ := Sq.l ((by rw [hg]; exact Nat.ne_of_lt (blk_lt (g := gb209) (o := .cells #[.slice (some ad210) ((rd_T90 l0_2 x15_1).f0).length c208_0, .string ((rd_T90 l0_2 x15_1).f1), .slice A208_2 ((rd_T90 l0_2 x15_1).f2).length c208_2] 90 (0, 0)) (by (with_reducible repeat (first | refine Sq.d ?_ _ | refine Sq.e ?_ | refine Sq.f ?_ _)); exact BK209.out)) : gb209 ≠ gb211)); have n9_ := Sq.l ((by rw [hg]; exact Nat.ne_of_gt (blk_lt (g := gb209) (o := .cells #[.slice (some ad210) ((rd_T90 l0_2 x15_1).f0).length c208_0, .string ((rd_T90 l0_2 x15_1).f1), .slice A208_2 ((rd_T90 l0_2 x15_1).f2).length c208_2] 90 (0, 0)) (by (with_reducible repeat (first | refine Sq.d ?_ _ | refine Sq.e ?_ | refine Sq.f ?_ _)); exact BK209.out)) : gb211 ≠ gb209)); clear BK207; clear BK209; clear HB; have BK207 := n0_; have BK209 := n1_; have HB := n2_; have BK211 := n3_; have GW211 := n4_; have GE211 := n5_; have NB207_211 := n6_; have NB211_207 := n7_; have NB209_211 := n8_; have NB211_209 := n9_; clear n0_ n1_ n2_ n3_ n4_ n5_ n6_ n7_ n8_ n9_; clear hb hbox hg; have hnb26 := NB211_207.out; have hnc26 := NB207_211.out; have hnb27 := NB211_209.out; have hnc27 := NB209_211.out; have hcz28_0 : w25.cell? ⟨gb211, 0, none⟩ = some (.int .i64 0) := (Sq.o BK211.out 0).trans rfl; have hcz28_1 : w25.cell? ⟨gb211, 1, none⟩ = some (.int .i64 0) := (Sq.o BK211.out 1).trans rfl; have hcz28_2 : w25.cell? ⟨gb211, 2, none⟩ = some (.int .i64 0) := (Sq.o BK211.out 2).trans rfl; have hfz28_0 := Sq.r BK211.out 0; have hfz28_1 := Sq.r BK211.out 1; have hfz28_2 := Sq.r BK211.out 2))
            go_roundg k2
            case measure => have := HK1.out; have := HK2.out; omega
            case rel => exact ⟨(x7_2), (wrap64 (x22_2 + 1)), (by first | rfl | (simp; done) | (simp [*]; done)), (by first | rfl | (simp; done) | (simp [*]; done)), H', ⟨by have := HK1.out; have := HK2.out; omega⟩, ⟨by (with_reducible repeat (first | refine Sq.d ?_ _ | refine Sq.e ?_ | refine Sq.f ?_ _)); refine Sq.B3 ?_ NB207_211.out; (with_reducible repeat (first | refine Sq.d ?_ _ | refine Sq.e ?_ | refine Sq.f ?_ _)); exact BK207.out⟩, ⟨by (with_reducible repeat (first | refine Sq.d ?_ _ | refine Sq.e ?_ | refine Sq.f ?_ _)); refine Sq.B3 ?_ NB209_211.out; (with_reducible repeat (first | refine Sq.d ?_ _ | refine Sq.e ?_ | refine Sq.f ?_ _)); exact BK209.out⟩, ⟨by repeat (first | (with_reducible first | exact HB.out | apply Sq.i | apply Sq.j | apply Sq.k | refine Sq.h ?_ GE207.out | refine Sq.h ?_ GE209.out | refine Sq.h ?_ GE211.out) | exact HB.out)⟩⟩
          ·rw [if_neg c14] at H
           exact absurd H (by simp)
         ·rw [if_neg c13] at H
          exact absurd H (by simp)
        ·rw [if_neg c12] at H
         have c12b0 : decide (x22_2 < (((rd_T90 l0_2 x15_1).f0).length : Int)) = false := decide_eq_false c12
         clear c12
         have H' := Sq.l H
         clear H
         go_wp2
         go_roundg k2
         case measure => have := HK1.out; have := HK2.out; omega
         case rel => exact ⟨(x7_2), (wrap64 (x15_1 + 1)), (by first | rfl | (simp; done) | (simp [*]; done)), (by first | rfl | (simp; done) | (simp [*]; done)), H', ⟨by have := HK1.out; have := HK2.out; omega⟩, ⟨by (with_reducible repeat (first | refine Sq.d ?_ _ | refine Sq.e ?_ | refine Sq.f ?_ _)); exact BK207.out⟩, ⟨by repeat (first | (with_reducible first | exact HB.out | apply Sq.i | apply Sq.j | apply Sq.k | refine Sq.h ?_ GE207.out | refine Sq.h ?_ GE209.out) | exact HB.out)⟩⟩
     ·rw [if_neg c8] at H
      exact absurd H (by simp)
    ·rw [if_neg c7] at H
     exact absurd H (by simp)
   ·rw [if_neg c6] at H
    have c6b0 : decide (x15_1 < (l0_2.length : Int)) = false := decide_eq_false c6
    clear c6
    obtain rfl := Option.some.inj H
    go_wp2
    go_ret
    exact ⟨by first | rfl | (simp [errW_none, errW_some] <;> rfl) | (simp [*, errW_none, errW_some] <;> rfl), by repeat (first | (with_reducible first | exact HB.out | apply Sq.i | apply Sq.j | apply Sq.k | refine Sq.h ?_ GE207.out) | exact HB.out)⟩

/-! ### impl_MemHost_yhugeOk: function 52 -/
mutual
def impl_MemHost_yhugeOk.j0 : Nat → Int → Bool → List ByteArray → List ByteArray → List (S90) → Int → List (S97) → ByteArray → List Int → Option (Bool)
 | 0, _, _, _, _, _, _, _, _, _ => none
 | k + 1, x2, x19, x213000, x213001, x213002, x213003, x214000, x214001, x214002 => if x19 = true then (some false) else (if 0 ≤ (wrap64 (x2 * 4)) then (if (wrap64 (x2 * 4)) < (x214000.length : Int) then (if (wrap64 (x2 * 4)) ≤ (wrap64 ((wrap64 (x2 + 1)) * 4)) then (if (wrap64 ((wrap64 (x2 + 1)) * 4)) ≤ (x214000.length : Int) then ((some ((x214000.take ((wrap64 ((wrap64 (x2 + 1)) * 4)) : Int).toNat).drop ((wrap64 (x2 * 4)) : Int).toNat : List (S97))).bind fun y215 => (impl_MemHost_yhugeOk.l0 k ((rd_T97 x214000 (wrap64 (x2 * 4))).f1) y215 (y215.length : Int) 0 x213000 x213001 x213002 x213003)) else (none)) else (none)) else (none)) else (none))
def impl_MemHost_yhugeOk.l0 : Nat → Int → List (S97) → Int → Int → List ByteArray → List ByteArray → List (S90) → Int → Option (Bool)
 | 0, _, _, _, _, _, _, _, _ => none
 | k + 1, x7, x34, x35, x36, x213000, x213001, x213002, x213003 => if x36 < x35 then (if 0 ≤ x36 then (if x36 < (x34.length : Int) then (if ((rd_T97 x34 x36).f0) = 1 then (if (Int.tmod x7 4) = 0 then (if ((rd_T97 x34 x36).f1) = (wrap64 (x7 + x36)) then ((impl_MemHost_yusers.f k x213000 x213001 x213002 x213003 1 ((rd_T97 x34 x36).f1)).bind fun t221 => (if t221 = 1 then (impl_MemHost_yhugeOk.l0 k x7 x34 x35 (wrap64 (x36 + 1)) x213000 x213001 x213002 x213003) else (some false))) else (some false)) else (some false)) else (some false)) else (none)) else (none)) else (some true)
end
def impl_MemHost_yhugeOk.f (k : Nat) (l0_0 : List ByteArray) (l0_1 : List ByteArray) (l0_2 : List (S90)) (a0_3 : Int) (l1_0 : List (S97)) (a1_1 : ByteArray) (l1_2 : List Int) (a2 : Int) : Option (Bool) := if a2 < 0 then (impl_MemHost_yhugeOk.j0 k a2 true l0_0 l0_1 l0_2 a0_3 l1_0 a1_1 l1_2) else (impl_MemHost_yhugeOk.j0 k a2 (decide (a2 ≥ (wrap64 ((l1_0.length : Int) / 4)))) l0_0 l0_1 l0_2 a0_3 l1_0 a1_1 l1_2)
theorem impl_MemHost_yhugeOk.mono_l : ∀ k, (∀ y0 y1 y2 y3 y4 y5 y6 y7 y8, LeO (impl_MemHost_yhugeOk.j0 k y0 y1 y2 y3 y4 y5 y6 y7 y8) (impl_MemHost_yhugeOk.j0 (k + 1) y0 y1 y2 y3 y4 y5 y6 y7 y8)) ∧ (∀ y0 y1 y2 y3 y4 y5 y6 y7, LeO (impl_MemHost_yhugeOk.l0 k y0 y1 y2 y3 y4 y5 y6 y7) (impl_MemHost_yhugeOk.l0 (k + 1) y0 y1 y2 y3 y4 y5 y6 y7))
 | 0 => ⟨fun _ _ _ _ _ _ _ _ _ r h => by simp [impl_MemHost_yhugeOk.j0] at h, fun _ _ _ _ _ _ _ _ r h => by simp [impl_MemHost_yhugeOk.l0] at h⟩
 | k + 1 => by
  obtain ⟨ih0, ih1⟩ := impl_MemHost_yhugeOk.mono_l k
  refine ⟨?_, ?_⟩
  ·intro y0 y1 y2 y3 y4 y5 y6 y7 y8
   unfold impl_MemHost_yhugeOk.j0
   repeat' first
   | (with_reducible exact ih0 _ _ _ _ _ _ _ _ _)
   | (with_reducible exact ih1 _ _ _ _ _ _ _ _)
   | (with_reducible exact impl_MemHost_yusers.mono _ _ _ _ _ _ _)
   | (with_reducible exact LeO.refl _)
   | (with_reducible exact LeO.none _)
   | (with_reducible refine LeO.ite ?_ ?_)
   | (with_reducible refine LeO.bind ?_ (fun _ => ?_))
   | exact ih0 _ _ _ _ _ _ _ _ _
   | exact ih1 _ _ _ _ _ _ _ _
   | exact impl_MemHost_yusers.mono _ _ _ _ _ _ _
   | exact LeO.none _
   | refine LeO.ite ?_ ?_
   | refine LeO.bind ?_ (fun _ => ?_)
  ·intro y0 y1 y2 y3 y4 y5 y6 y7
   unfold impl_MemHost_yhugeOk.l0
   repeat' first
   | (with_reducible exact ih0 _ _ _ _ _ _ _ _ _)
   | (with_reducible exact ih1 _ _ _ _ _ _ _ _)
   | (with_reducible exact impl_MemHost_yusers.mono _ _ _ _ _ _ _)
   | (with_reducible exact LeO.refl _)
   | (with_reducible exact LeO.none _)
   | (with_reducible refine LeO.ite ?_ ?_)
   | (with_reducible refine LeO.bind ?_ (fun _ => ?_))
   | exact ih0 _ _ _ _ _ _ _ _ _
   | exact ih1 _ _ _ _ _ _ _ _
   | exact impl_MemHost_yusers.mono _ _ _ _ _ _ _
   | exact LeO.none _
   | refine LeO.ite ?_ ?_
   | refine LeO.bind ?_ (fun _ => ?_)
theorem impl_MemHost_yhugeOk.mono : ∀ a0 a1 a2 a3 a4 a5 a6 a7 k, LeO (impl_MemHost_yhugeOk.f k a0 a1 a2 a3 a4 a5 a6 a7) (impl_MemHost_yhugeOk.f (k + 1) a0 a1 a2 a3 a4 a5 a6 a7) := by
 intro a0 a1 a2 a3 a4 a5 a6 a7 k
 obtain ⟨ih0, ih1⟩ := impl_MemHost_yhugeOk.mono_l k
 unfold impl_MemHost_yhugeOk.f
 repeat' first
   | (with_reducible exact ih0 _ _ _ _ _ _ _ _ _)
   | (with_reducible exact ih1 _ _ _ _ _ _ _ _)
   | (with_reducible exact impl_MemHost_yusers.mono _ _ _ _ _ _ _)
   | (with_reducible exact LeO.refl _)
   | (with_reducible exact LeO.none _)
   | (with_reducible refine LeO.ite ?_ ?_)
   | (with_reducible refine LeO.bind ?_ (fun _ => ?_))
   | exact ih0 _ _ _ _ _ _ _ _ _
   | exact ih1 _ _ _ _ _ _ _ _
   | exact impl_MemHost_yusers.mono _ _ _ _ _ _ _
   | exact LeO.none _
   | refine LeO.ite ?_ ?_
   | refine LeO.bind ?_ (fun _ => ?_)
set_option maxHeartbeats 8000000 in
set_option maxRecDepth 100000 in
theorem impl_MemHost_yhugeOk.calls (k : Nat) (A0_0 : Option Addr) (c0_0 : Nat) (l0_0 : List ByteArray) (A0_1 : Option Addr) (c0_1 : Nat) (l0_1 : List ByteArray) (A0_2 : Option Addr) (c0_2 : Nat) (l0_2 : List (S90)) (a0_3 : Int) (A1_0 : Option Addr) (c1_0 : Nat) (l1_0 : List (S97)) (a1_1 : ByteArray) (A1_2 : Option Addr) (c1_2 : Nat) (l1_2 : List Int) (a2 : Int) (r : Bool) (w : World) (hr0_0 : Kd.C Kd.string w A0_0 l0_0.length l0_0) (hc0_0 : l0_0.length ≤ c0_0) (hr0_1 : Kd.C Kd.string w A0_1 l0_1.length l0_1) (hc0_1 : l0_1.length ≤ c0_1) (hr0_2 : Kd.C k90 w A0_2 l0_2.length l0_2) (hc0_2 : l0_2.length ≤ c0_2) (hr1_0 : Kd.C k97 w A1_0 l1_0.length l1_0) (hc1_0 : l1_0.length ≤ c1_0) (hr1_2 : Kd.C (Kd.int .i64) w A1_2 l1_2.length l1_2) (hc1_2 : l1_2.length ≤ c1_2) (h : impl_MemHost_yhugeOk.f k l0_0 l0_1 l0_2 a0_3 l1_0 a1_1 l1_2 a2 = some r) :
  Calls Try.prog 52 #[.agg #[.slice A0_0 l0_0.length c0_0, .slice A0_1 l0_1.length c0_1, .slice A0_2 l0_2.length c0_2, .int .i64 a0_3], .agg #[.slice A1_0 l1_0.length c1_0, .string a1_1, .slice A1_2 l1_2.length c1_2], .int .i64 a2] w fun e w' => e = .returned (.bool r) ∧ Below w.heap.size w w' := by
 have hu30 := Try.underlying30
 have hu90 := Try.underlying90
 have hu97 := Try.underlying97
 have HR0_0 := Sq.l hr0_0
 have HC0_0 := Sq.l hc0_0
 clear hr0_0 hc0_0
 have HR0_1 := Sq.l hr0_1
 have HC0_1 := Sq.l hc0_1
 clear hr0_1 hc0_1
 have HR0_2 := Sq.l hr0_2
 have HC0_2 := Sq.l hc0_2
 clear hr0_2 hc0_2
 have HR1_0 := Sq.l hr1_0
 have HC1_0 := Sq.l hc1_0
 clear hr1_0 hc1_0
 have HR1_2 := Sq.l hr1_2
 have HC1_2 := Sq.l hc1_2
 clear hr1_2 hc1_2
 have HB := Sq.l (Below.refl w.heap.size w)
 have H : (if a2 < 0 then (impl_MemHost_yhugeOk.j0 k a2 true l0_0 l0_1 l0_2 a0_3 l1_0 a1_1 l1_2) else (impl_MemHost_yhugeOk.j0 k a2 (decide (a2 ≥ (wrap64 ((l1_0.length : Int) / 4)))) l0_0 l0_1 l0_2 a0_3 l1_0 a1_1 l1_2)) = some r := h
 clear h
 have HC4 := Sq.l H
 clear H
 go_enter Try.func52, Try.ntmps52
 go_upto_region 1 with (first | ((with_reducible refine gate_dst (N := 3) rfl ?_); (try (refine gate_guard (by rfl) ?_; dsimp only)); refine box_event ?hg (N := 3) ?hd (cs := #[.slice A0_0 l0_0.length c0_0, .slice A0_1 l0_1.length c0_1, .slice A0_2 l0_2.length c0_2, .int .i64 a0_3]) (t := 30) ?hr ?_; (case hd => rfl); (case hg => rfl); (case hr => first | (go_simp; done) | (go_simp; rfl)); intro gb212 hg w5 hbox hb; have n0_ := Sq.l (Sq.a4 (by repeat (first | (with_reducible first | exact HB.out | apply Sq.i | apply Sq.j | apply Sq.k) | exact HB.out)) hb); have n1_ := Sq.l (hbox); have n2_ := Sq.l ((by rw [hg]; exact (Sq.a5 (by repeat (first | (with_reducible first | exact HB.out | apply Sq.i | apply Sq.j | apply Sq.k) | exact HB.out))) : w.heap.size ≤ gb212)); have n3_ := Sq.l ((by rw [hg]; exact (Sq.a5 (by repeat (first | (with_reducible first | exact HB.out | apply Sq.i | apply Sq.j | apply Sq.k) | exact HB.out))) : w.heap.size ≤ gb212)); clear HB; have HB := n0_; have BK212 := n1_; have GW212 := n2_; have GE212 := n3_; clear n0_ n1_ n2_ n3_; clear hb hbox hg) | ((with_reducible refine gate_dst (N := 4) rfl ?_); (try (refine gate_guard (by rfl) ?_; dsimp only)); refine box_event ?hg (N := 4) ?hd (cs := #[.slice A1_0 l1_0.length c1_0, .string a1_1, .slice A1_2 l1_2.length c1_2]) (t := 90) ?hr ?_; (case hd => rfl); (case hg => rfl); (case hr => first | (go_simp; done) | (go_simp; rfl)); intro gb213 hg w6 hbox hb; have n0_ := Sq.l (Sq.m (g := gb212) (o := .cells #[.slice A0_0 l0_0.length c0_0, .slice A0_1 l0_1.length c0_1, .slice A0_2 l0_2.length c0_2, .int .i64 a0_3] 30 (0, 0)) (by (with_reducible repeat (first | refine Sq.d ?_ _ | refine Sq.e ?_ | refine Sq.f ?_ _)); exact BK212.out) hb); have n1_ := Sq.l (Sq.a4 (by repeat (first | (with_reducible first | exact HB.out | apply Sq.i | apply Sq.j | apply Sq.k | refine Sq.h ?_ GE212.out) | exact HB.out)) hb); have n2_ := Sq.l (hbox); have n3_ := Sq.l ((by rw [hg]; exact (Sq.a5 (by repeat (first | (with_reducible first | exact HB.out | apply Sq.i | apply Sq.j | apply Sq.k | refine Sq.h ?_ GE212.out) | exact HB.out))) : w.heap.size ≤ gb213)); have n4_ := Sq.l ((by rw [hg]; exact (Sq.a5 (by repeat (first | (with_reducible first | exact HB.out | apply Sq.i | apply Sq.j | apply Sq.k | refine Sq.h ?_ GE212.out) | exact HB.out))) : w.heap.size ≤ gb213)); have n5_ := Sq.l ((by rw [hg]; exact Nat.ne_of_lt (blk_lt (g := gb212) (o := .cells #[.slice A0_0 l0_0.length c0_0, .slice A0_1 l0_1.length c0_1, .slice A0_2 l0_2.length c0_2, .int .i64 a0_3] 30 (0, 0)) (by (with_reducible repeat (first | refine Sq.d ?_ _ | refine Sq.e ?_ | refine Sq.f ?_ _)); exact BK212.out)) : gb212 ≠ gb213)); have n6_ := Sq.l ((by rw [hg]; exact Nat.ne_of_gt (blk_lt (g := gb212) (o := .cells #[.slice A0_0 l0_0.length c0_0, .slice A0_1 l0_1.length c0_1, .slice A0_2 l0_2.length c0_2, .int .i64 a0_3] 30 (0, 0)) (by (with_reducible repeat (first | refine Sq.d ?_ _ | refine Sq.e ?_ | refine Sq.f ?_ _)); exact BK212.out)) : gb213 ≠ gb212)); clear BK212; clear HB; have BK212 := n0_; have HB := n1_; have BK213 := n2_; have GW213 := n3_; have GE213 := n4_; have NB212_213 := n5_; have NB213_212 := n6_; clear n0_ n1_ n2_ n3_ n4_ n5_ n6_; clear hb hbox hg))
 (try simp only [Act.put, List.setIfInBounds_toArray, List.set_cons_zero, List.set_cons_succ])
 go_cut [19] (fun v19 wc => ∃ (kq : Nat) (x19_3 : Bool), v19 = .bool x19_3 ∧ Aside0 (impl_MemHost_yhugeOk.j0 kq a2 x19_3 l0_0 l0_1 l0_2 a0_3 l1_0 a1_1 l1_2 = some r) ∧ Aside0 (kq ≤ k) ∧ Aside0 (wc.heap[gb212]? = some (.cells #[(.slice A0_0 l0_0.length c0_0), (.slice A0_1 l0_1.length c0_1), (.slice A0_2 l0_2.length c0_2), .int .i64 a0_3] 30 (0, 0))) ∧ Aside0 (wc.heap[gb213]? = some (.cells #[(.slice A1_0 l1_0.length c1_0), .string a1_1, (.slice A1_2 l1_2.length c1_2)] 90 (0, 0))) ∧ Aside0 (Below w.heap.size w wc))
 case first =>
  have H := HC4.out
  clear HC4
  by_cases c7 : a2 < 0
  ·rw [if_pos c7] at H
   have c7b0 : decide (a2 < 0) = true := decide_eq_true c7
   clear c7
   (first | rw [c7b0] | (simp only [i64_w, i32_w]; rw [c7b0]) | skip)
   have H' := Sq.l H
   clear H
   go_wp2
   go_meet
   case rel => exact ⟨_, (true), (by first | rfl | (simp; done) | (simp [*]; done)), H', ⟨by first | omega | exact Nat.le_refl _⟩, ⟨by (with_reducible repeat (first | refine Sq.d ?_ _ | refine Sq.e ?_ | refine Sq.f ?_ _)); exact BK212.out⟩, ⟨by (with_reducible repeat (first | refine Sq.d ?_ _ | refine Sq.e ?_ | refine Sq.f ?_ _)); exact BK213.out⟩, ⟨by repeat (first | (with_reducible first | exact HB.out | apply Sq.i | apply Sq.j | apply Sq.k | refine Sq.h ?_ GE212.out | refine Sq.h ?_ GE213.out) | exact HB.out)⟩⟩
  ·rw [if_neg c7] at H
   have c7b0 : decide (a2 < 0) = false := decide_eq_false c7
   clear c7
   (first | rw [c7b0] | (simp only [i64_w, i32_w]; rw [c7b0]) | skip)
   have H' := Sq.l H
   clear H; have hnb8 := NB213_212.out; have hnc8 := NB212_213.out
   have hcz9_0 : w6.cell? ⟨gb213, 0, none⟩ = some (.slice A1_0 l1_0.length c1_0) := (Sq.o BK213.out 0).trans rfl
   have hcz9_1 : w6.cell? ⟨gb213, 1, none⟩ = some (.string a1_1) := (Sq.o BK213.out 1).trans rfl
   have hcz9_2 : w6.cell? ⟨gb213, 2, none⟩ = some (.slice A1_2 l1_2.length c1_2) := (Sq.o BK213.out 2).trans rfl
   have hfz9_0 := Sq.r BK213.out 0
   have hfz9_1 := Sq.r BK213.out 1
   have hfz9_2 := Sq.r BK213.out 2
   go_wp2
   go_meet
   case rel => exact ⟨_, (decide (a2 ≥ (wrap64 ((l1_0.length : Int) / 4)))), (by first | rfl | (simp; done) | (simp [*]; done)), H', ⟨by first | omega | exact Nat.le_refl _⟩, ⟨by (with_reducible repeat (first | refine Sq.d ?_ _ | refine Sq.e ?_ | refine Sq.f ?_ _)); exact BK212.out⟩, ⟨by (with_reducible repeat (first | refine Sq.d ?_ _ | refine Sq.e ?_ | refine Sq.f ?_ _)); exact BK213.out⟩, ⟨by repeat (first | (with_reducible first | exact HB.out | apply Sq.i | apply Sq.j | apply Sq.k | refine Sq.h ?_ GE212.out | refine Sq.h ?_ GE213.out) | exact HB.out)⟩⟩
 case rest =>
  clear HC4; try clear c1; try clear p2; try clear c5; try clear p6; try clear c7; try clear c7b0; try clear c8; try clear hcz9_0; try clear hcz9_1; try clear hcz9_2; try clear hfz9_0; try clear hfz9_1; try clear hfz9_2
  obtain ⟨kq, x19_3, rfl, HA, HJ3, BK212, BK213, HB⟩ := hcut
  cases kq with
  | zero => exact absurd HA.out (by simp [impl_MemHost_yhugeOk.j0])
  | succ kj3 =>
   have H := HA.out
   clear HA
   simp only [impl_MemHost_yhugeOk.j0] at H
   by_cases c10 : x19_3 = true
   ·subst c10
    rw [if_pos rfl] at H
    obtain rfl := Option.some.inj H
    go_wp2
    go_ret
    exact ⟨by first | rfl | (simp [errW_none, errW_some] <;> rfl) | (simp [*, errW_none, errW_some] <;> rfl), by repeat (first | (with_reducible first | exact HB.out | apply Sq.i | apply Sq.j | apply Sq.k | refine Sq.h ?_ GE212.out | refine Sq.h ?_ GE213.out) | exact HB.out)⟩
   ·replace c10 := Bool.eq_false_iff.mpr c10
    subst c10
    rw [if_neg (show ¬ (false = true) by decide)] at H
    obtain ⟨ji11, hji11⟩ : ∃ j_ : Int, (wrap64 (a2 * 4)) = j_ := ⟨_, rfl⟩
    replace H : (if 0 ≤ (ji11) then (if (ji11) < (l1_0.length : Int) then (if (ji11) ≤ (wrap64 ((wrap64 (a2 + 1)) * 4)) then (if (wrap64 ((wrap64 (a2 + 1)) * 4)) ≤ (l1_0.length : Int) then ((some ((l1_0.take ((wrap64 ((wrap64 (a2 + 1)) * 4)) : Int).toNat).drop ((ji11) : Int).toNat : List (S97))).bind fun y215 => (impl_MemHost_yhugeOk.l0 kj3 ((rd_T97 l1_0 (ji11)).f1) y215 (y215.length : Int) 0 l0_0 l0_1 l0_2 a0_3)) else (none)) else (none)) else (none)) else (none)) = some r := by first | (rw [hji11] at H; exact H) | (simp only [hji11] at H ⊢; exact H)
    have hji11w : (IntKind.i64.wrap (a2 * 4)) = ji11 := (i64_w _).trans hji11
    by_cases c12 : 0 ≤ (ji11)
    ·rw [if_pos c12] at H
     have c12b0 : decide (0 ≤ (ji11)) = true := decide_eq_true c12
     clear c12
     by_cases c13 : (ji11) < (l1_0.length : Int)
     ·rw [if_pos c13] at H
      have c13b0 : decide ((ji11) < (l1_0.length : Int)) = true := decide_eq_true c13
      clear c13
      have c14b0 := eq_true (of_decide_eq_true (by first | (with_reducible assumption) | assumption) : 0 ≤ (ji11))
      by_cases c15 : (ji11) ≤ (wrap64 ((wrap64 (a2 + 1)) * 4))
      ·rw [if_pos c15] at H
       have c15b0 := eq_true c15
       have c15b1 : decide ((ji11) ≤ (wrap64 ((wrap64 (a2 + 1)) * 4))) = true := decide_eq_true c15
       by_cases c16 : (wrap64 ((wrap64 (a2 + 1)) * 4)) ≤ (l1_0.length : Int)
       ·rw [if_pos c16] at H
        have c16b0 := eq_true c16
        have c16b1 : decide ((wrap64 ((wrap64 (a2 + 1)) * 4)) ≤ (l1_0.length : Int)) = true := decide_eq_true c16
        obtain ⟨y215, hy215⟩ : ∃ y_ : List (S97), y_ = ((l1_0.take ((wrap64 ((wrap64 (a2 + 1)) * 4)) : Int).toNat).drop ((ji11) : Int).toNat) := ⟨_, rfl⟩
        replace H : (impl_MemHost_yhugeOk.l0 kj3 ((rd_T97 l1_0 (ji11)).f1) y215 (y215.length : Int) 0 l0_0 l0_1 l0_2 a0_3) = some r := by first | (rw [hy215]; with_reducible exact H) | (have H2_ := (Option.bind_some _ _).symm.trans H; rw [hy215]; with_reducible exact H2_) | (have H2_ := (Option.bind_some _ _).symm.trans H; with_reducible exact H2_) | with_reducible exact H | (rw [hy215]; exact H) | exact H
        have Ny215 := Sq.l hy215
        clear hy215
        have H' := Sq.l H
        clear H; have hnb17 := NB213_212.out; have hnc17 := NB212_213.out
        have hcz18_0 : wc.cell? ⟨gb213, 0, none⟩ = some (.slice A1_0 l1_0.length c1_0) := (Sq.o BK213.out 0).trans rfl
        have hcz18_1 : wc.cell? ⟨gb213, 1, none⟩ = some (.string a1_1) := (Sq.o BK213.out 1).trans rfl
        have hcz18_2 : wc.cell? ⟨gb213, 2, none⟩ = some (.slice A1_2 l1_2.length c1_2) := (Sq.o BK213.out 2).trans rfl
        have hfz18_0 := Sq.r BK213.out 0
        have hfz18_1 := Sq.r BK213.out 1
        have hfz18_2 := Sq.r BK213.out 2
        have p214 : 0 ≤ ((ji11) : Int) := of_decide_eq_true (by first | (with_reducible assumption) | assumption)
        have q214 : (ji11) < (l1_0.length : Int) := of_decide_eq_true (by first | (with_reducible assumption) | assumption)
        obtain ⟨ad214, e214, hx214_0, hx214_1, hx214_2⟩ := at_T97 HR1_0.out (ji11) p214 q214
        cases e214
        replace hx214_0 := (HB.out.cell (World.block_lt_of_cell? w _ hx214_0)).trans hx214_0
        replace hx214_1 := (HB.out.cell (World.block_lt_of_cell? w _ hx214_1)).trans hx214_1
        replace hx214_2 := (HB.out.cell (World.block_lt_of_cell? w _ hx214_2)).trans hx214_2
        replace p214 := eq_true p214; replace q214 := eq_true q214
        have q19 : ((wrap64 ((wrap64 (a2 + 1)) * 4)) : Int) ≤ ((l1_0.length : Int) : Int) := of_decide_eq_true (by first | (with_reducible assumption) | assumption)
        obtain ⟨i019, hi019, _, hsz19, _⟩ := info_parts info97
        have hroom19 : l1_0.length ≤ c1_0 := HC1_0.out
        have hC19 : Kd.C k97 _ (some ad214) l1_0.length l1_0 := HR1_0.out
        have ql19 : ((ji11) : Int) ≤ ((wrap64 ((wrap64 (a2 + 1)) * 4)) : Int) := of_decide_eq_true (by first | (with_reducible assumption) | assumption)
        have q019 : (0 : Int) ≤ ((ji11) : Int) := of_decide_eq_true (by first | (with_reducible assumption) | assumption)
        have hcut19 := cut_mid (P := Try.prog) 88 97 .i64 .i64 Try.underlying88 hi019 3 hsz19 (some ad214) l1_0.length c1_0 (ji11) (wrap64 ((wrap64 (a2 + 1)) * 4)) q019 ql19 q19 hroom19
        have hr19 := Kd.C_mid (lo := ((ji11) : Int).toNat) (hi := ((wrap64 ((wrap64 (a2 + 1)) * 4)) : Int).toNat) (c := c1_0) hC19 (by omega) (by omega) hroom19
        obtain ⟨A19, hA19⟩ : ∃ A1, A1 = (if c1_0 = ((ji11) : Int).toNat then (some ad214) else ((some ad214) : Option Addr).map (·.add (((ji11) : Int).toNat * 3))) := ⟨_, rfl⟩
        obtain ⟨c19, hc19⟩ : ∃ c1, c1 = c1_0 - ((ji11) : Int).toNat := ⟨_, rfl⟩
        have hy19 : y215.length = ((wrap64 ((wrap64 (a2 + 1)) * 4)) : Int).toNat - ((ji11) : Int).toNat := (by rw [Ny215.out, List.length_drop, List.length_take] <;> omega)
        rw [show ((l1_0).take ((wrap64 ((wrap64 (a2 + 1)) * 4)) : Int).toNat).drop ((ji11) : Int).toNat = y215 from Ny215.out.symm] at hr19
        replace hr19 : Kd.C k97 _ A19 y215.length y215 := (by rw [hA19]; exact hr19)
        rw [← hy19, ← hA19, ← hc19] at hcut19
        have HR218 := Sq.l hr19
        have HC218 := Sq.l (show y215.length ≤ c19 from by rw [hy19, hc19]; exact Nat.sub_le_sub_right (Nat.le_trans (by omega) hroom19) _)
        clear hr19 hC19 hroom19 hi019 hsz19 hc19
        have KY19 := Sq.l hy19
        have KA19 := Sq.l hA19
        clear hy19 hA19; replace q19 := eq_true q19
        go_wp2
        go_loopg [36] kj3 (fun kq v36 w' => ∃ (x36_2 : Int), v36 = .int .i64 x36_2 ∧ Aside0 (impl_MemHost_yhugeOk.l0 kq ((rd_T97 l1_0 (ji11)).f1) y215 (y215.length : Int) x36_2 l0_0 l0_1 l0_2 a0_3 = some r) ∧ Aside0 (kq ≤ kj3) ∧ Aside0 (w'.heap[gb212]? = some (.cells #[(.slice A0_0 l0_0.length c0_0), (.slice A0_1 l0_1.length c0_1), (.slice A0_2 l0_2.length c0_2), .int .i64 a0_3] 30 (0, 0))) ∧ Aside0 (w'.heap[gb213]? = some (.cells #[(.slice (some ad214) l1_0.length c1_0), .string a1_1, (.slice A1_2 l1_2.length c1_2)] 90 (0, 0))) ∧ Aside0 (Below w.heap.size w w'))
        case atStart => exact ⟨(0), (by first | rfl | (simp; done) | (simp [*]; done)), H', ⟨Nat.le_refl _⟩, ⟨by (with_reducible repeat (first | refine Sq.d ?_ _ | refine Sq.e ?_ | refine Sq.f ?_ _)); exact BK212.out⟩, ⟨by (with_reducible repeat (first | refine Sq.d ?_ _ | refine Sq.e ?_ | refine Sq.f ?_ _)); exact BK213.out⟩, ⟨by repeat (first | (with_reducible first | exact HB.out | apply Sq.i | apply Sq.j | apply Sq.k | refine Sq.h ?_ GE212.out | refine Sq.h ?_ GE213.out) | exact HB.out)⟩⟩
        case round =>
         clear H'
         try clear c1; try clear q1; try clear p2; try clear q2; try clear hx2; try clear c5; try clear p6; try clear c7; try clear c7b0; try clear c8; try clear c10; try clear c12; try clear c12b0; try clear c13; try clear c13b0; try clear c14; try clear c14b0; try clear c15; try clear c15b0; try clear c15b1; try clear c16; try clear c16b0; try clear c16b1; try clear c17; try clear c19; try clear q19; try clear hcz18_0; try clear hcz18_1; try clear hcz18_2; try clear hcz9_0; try clear hcz9_1; try clear hcz9_2; try clear hfz18_0; try clear hfz18_1; try clear hfz18_2; try clear hfz9_0; try clear hfz9_1; try clear hfz9_2; try clear hx214_0; try clear hx214_1; try clear hx214_2; try clear p2; try clear p214; try clear p6; try clear q019; try clear q19; try clear q214
         obtain ⟨x36_2, rfl, HA, HK2, BK212, BK213, HB⟩ := hrel
         cases gk with
         | zero => exact absurd HA.out (by simp [impl_MemHost_yhugeOk.l0])
         | succ k2 =>
          have H := HA.out
          clear HA
          simp only [impl_MemHost_yhugeOk.l0] at H
          by_cases c20 : x36_2 < (y215.length : Int)
          ·rw [if_pos c20] at H
           have c20b0 : decide (x36_2 < (y215.length : Int)) = true := decide_eq_true c20
           clear c20
           by_cases c21 : 0 ≤ x36_2
           ·rw [if_pos c21] at H
            have c21b0 : decide (0 ≤ x36_2) = true := decide_eq_true c21
            clear c21
            by_cases c22 : x36_2 < (y215.length : Int)
            ·rw [if_pos c22] at H
             have c22b0 : decide (x36_2 < (y215.length : Int)) = true := decide_eq_true c22
             clear c22
             by_cases c23 : ((rd_T97 y215 x36_2).f0) = 1
             ·rw [if_pos c23] at H
              have c23b0 : (((rd_T97 y215 x36_2).f0) == 1) = true := beq_iff_eq.mpr c23
              have c23b1 : (((rd_T97 y215 x36_2).f0) != 1) = false := bne_eq_false_iff_eq.mpr c23
              clear c23
              by_cases c24 : (Int.tmod ((rd_T97 l1_0 (ji11)).f1) 4) = 0
              ·rw [if_pos c24] at H
               have c24b0 : ((Int.tmod ((rd_T97 l1_0 (ji11)).f1) 4) == 0) = true := beq_iff_eq.mpr c24
               have c24b1 : ((Int.tmod ((rd_T97 l1_0 (ji11)).f1) 4) != 0) = false := bne_eq_false_iff_eq.mpr c24
               clear c24
               by_cases c25 : ((rd_T97 y215 x36_2).f1) = (wrap64 (((rd_T97 l1_0 (ji11)).f1) + x36_2))
               ·rw [if_pos c25] at H
                have c25b0 : (((rd_T97 y215 x36_2).f1) == (wrap64 (((rd_T97 l1_0 (ji11)).f1) + x36_2))) = true := beq_iff_eq.mpr c25
                have c25b1 : (((rd_T97 y215 x36_2).f1) != (wrap64 (((rd_T97 l1_0 (ji11)).f1) + x36_2))) = false := bne_eq_false_iff_eq.mpr c25
                clear c25
                replace H := Option.bind_eq_some_iff.mp H
                obtain ⟨t221, A260, H⟩ := H
                (try dsimp only at H)
                have A26 := Sq.l A260
                clear A260
                by_cases c27 : t221 = 1
                ·rw [if_pos c27] at H
                 have c27b0 : (t221 == 1) = true := beq_iff_eq.mpr c27
                 have c27b1 : (t221 != 1) = false := bne_eq_false_iff_eq.mpr c27
                 clear c27
                 have H' := Sq.l H
                 clear H
                 have p219 : 0 ≤ (x36_2 : Int) := of_decide_eq_true (by first | (with_reducible assumption) | assumption)
                 have q219 : x36_2 < (y215.length : Int) := of_decide_eq_true (by first | (with_reducible assumption) | assumption)
                 obtain ⟨ad219, e219, hx219_0, hx219_1, hx219_2⟩ := at_T97 HR218.out x36_2 p219 q219
                 cases e219
                 replace hx219_0 := (HB.out.cell (World.block_lt_of_cell? w _ hx219_0)).trans hx219_0
                 replace hx219_1 := (HB.out.cell (World.block_lt_of_cell? w _ hx219_1)).trans hx219_1
                 replace hx219_2 := (HB.out.cell (World.block_lt_of_cell? w _ hx219_2)).trans hx219_2
                 replace p219 := eq_true p219; replace q219 := eq_true q219
                 go_wp2_with (first | ((with_reducible refine gate_dst (N := 9) rfl ?_); (try (refine gate_guard (by rfl) ?_; dsimp only)); refine box_event ?hg (N := 9) ?hd (cs := #[.int .i64 0, .int .i64 0, .int .i64 0]) (t := 97) ?hr ?_; (case hd => rfl); (case hg => rfl); (case hr => first | (go_simp; done) | (go_simp; rfl)); intro gb220 hg w28 hbox hb; have n0_ := Sq.l (Sq.m (g := gb212) (o := .cells #[.slice A0_0 l0_0.length c0_0, .slice A0_1 l0_1.length c0_1, .slice A0_2 l0_2.length c0_2, .int .i64 a0_3] 30 (0, 0)) (by (with_reducible repeat (first | refine Sq.d ?_ _ | refine Sq.e ?_ | refine Sq.f ?_ _)); exact BK212.out) hb); have n1_ := Sq.l (Sq.m (g := gb213) (o := .cells #[.slice (some ad214) l1_0.length c1_0, .string a1_1, .slice A1_2 l1_2.length c1_2] 90 (0, 0)) (by (with_reducible repeat (first | refine Sq.d ?_ _ | refine Sq.e ?_ | refine Sq.f ?_ _)); exact BK213.out) hb); have n2_ := Sq.l (Sq.a4 (by repeat (first | (with_reducible first | exact HB.out | apply Sq.i | apply Sq.j | apply Sq.k | refine Sq.h ?_ GE212.out | refine Sq.h ?_ GE213.out) | exact HB.out)) hb); have n3_ := Sq.l (hbox); have n4_ := Sq.l ((by rw [hg]; exact (Sq.a5 (by repeat (first | (with_reducible first | exact HB.out | apply Sq.i | apply Sq.j | apply Sq.k | refine Sq.h ?_ GE212.out | refine Sq.h ?_ GE213.out) | exact HB.out))) : w.heap.size ≤ gb220)); have n5_ := Sq.l ((by rw [hg]; exact (Sq.a5 (by repeat (first | (with_reducible first | exact HB.out | apply Sq.i | apply Sq.j | apply Sq.k | refine Sq.h ?_ GE212.out | refine Sq.h ?_ GE213.out) | exact HB.out))) : w.heap.size ≤ gb220)); have n6_ := Sq.l ((by rw [hg]; exact Nat.ne_of_lt (blk_lt (g := gb212) (o := .cells #[.slice A0_0 l0_0.length c0_0, .slice A0_1 l0_1.length c0_1, .slice A0_2 l0_2.length c0_2, .int .i64 a0_3] 30 (0, 0)) (by (with_reducible repeat (first | refine Sq.d ?_ _ | refine Sq.e ?_ | refine Sq.f ?_ _)); exact BK212.out)) : gb212 ≠ gb220)); have n7_ := Sq.l ((by rw [hg]; exact Nat.ne_of_gt (blk_lt (g := gb212) (o := .cells #[.slice A0_0 l0_0.length c0_0, .slice A0_1 l0_1.length c0_1, .slice A0_2 l0_2.length c0_2, .int .i64 a0_3] 30 (0, 0)) (by (with_reducible repeat (first | refine Sq.d ?_ _ | refine Sq.e ?_ | refine Sq.f ?_ _)); exact BK212.out)) : gb220 ≠ gb212)); have n8_ := Sq.l ((by rw [hg]; exact Nat.ne_of_lt (blk_lt (g := gb213) (o := .cells #[.slice (some ad214) l1_0.length c1_0, .string a1_1, .slice A1_2 l1_2.length c1_2] 90 (0, 0)) (by (with_reducible repeat (first | refine Sq.d ?_ _ | refine Sq.e ?_ | refine Sq.f ?_ _)); exact BK213.out)) : gb213 ≠ gb220)); have n9_ := Sq.l ((by rw [hg]; exact Nat.ne_of_gt (blk_lt (g := gb213) (o := .cells #[.slice (some ad214) l1_0.length c1_0, .string a1_1, .slice A1_2 l1_2.length c1_2] 90 (0, 0)) (by (with_reducible repeat (first | refine Sq.d ?_ _ | refine Sq.e ?_ | refine Sq.f ?_ _)); exact BK213.out)) : gb220 ≠ gb213)); clear BK212; clear BK213; clear HB; have BK212 := n0_; have BK213 := n1_; have HB := n2_; have BK220 := n3_; have GW220 := n4_; have GE220 := n5_; have NB212_220 := n6_; have NB220_212 := n7_; have NB213_220 := n8_; have NB220_213 := n9_; clear n0_ n1_ n2_ n3_ n4_ n5_ n6_ n7_ n8_ n9_; clear hb hbox hg; have hnb29 := NB220_212.out; have hnc29 := NB212_220.out; have hnb30 := NB220_213.out; have hnc30 := NB213_220.out; have hcz31_0 : w28.cell? ⟨gb220, 0, none⟩ = some (.int .i64 0) := (Sq.o BK220.out 0).trans rfl; have hcz31_1 : w28.cell? ⟨gb220, 1, none⟩ = some (.int .i64 0) := (Sq.o BK220.out 1).trans rfl; have hcz31_2 : w28.cell? ⟨gb220, 2, none⟩ = some (.int .i64 0) := (Sq.o BK220.out 2).trans rfl; have hfz31_0 := Sq.r BK220.out 0; have hfz31_1 := Sq.r BK220.out 1; have hfz31_2 := Sq.r BK220.out 2; have hnb32 := NB212_213.out; have hnc32 := NB213_212.out; have hcz33_0 : w28.cell? ⟨gb212, 0, none⟩ = some (.slice A0_0 l0_0.length c0_0) := (Sq.o BK212.out 0).trans rfl; have hcz33_1 : w28.cell? ⟨gb212, 1, none⟩ = some (.slice A0_1 l0_1.length c0_1) := (Sq.o BK212.out 1).trans rfl; have hcz33_2 : w28.cell? ⟨gb212, 2, none⟩ = some (.slice A0_2 l0_2.length c0_2) := (Sq.o BK212.out 2).trans rfl; have hcz33_3 : w28.cell? ⟨gb212, 3, none⟩ = some (.int .i64 a0_3) := (Sq.o BK212.out 3).trans rfl; have hfz33_0 := Sq.r BK212.out 0; have hfz33_1 := Sq.r BK212.out 1; have hfz33_2 := Sq.r BK212.out 2; have hfz33_3 := Sq.r BK212.out 3) | (go_at_call 51; (with_reducible refine (impl_MemHost_yusers.calls k2 _ _ l0_0 _ _ l0_1 _ _ l0_2 a0_3 1 ((rd_T97 y215 x36_2).f1) t221 _ ?side1 ?side2 ?side3 ?side4 ?side5 ?side6 A26.out).mono ?_); (case side1 => exact Sq.a1 HR0_0.out (by repeat (first | (with_reducible first | exact HB.out | apply Sq.i | apply Sq.j | apply Sq.k | refine Sq.h ?_ GE212.out | refine Sq.h ?_ GE213.out | refine Sq.h ?_ GE220.out) | exact HB.out))); (case side2 => exact HC0_0.out); (case side3 => exact Sq.a1 HR0_1.out (by repeat (first | (with_reducible first | exact HB.out | apply Sq.i | apply Sq.j | apply Sq.k | refine Sq.h ?_ GE212.out | refine Sq.h ?_ GE213.out | refine Sq.h ?_ GE220.out) | exact HB.out))); (case side4 => exact HC0_1.out); (case side5 => exact Sq.a1 HR0_2.out (by repeat (first | (with_reducible first | exact HB.out | apply Sq.i | apply Sq.j | apply Sq.k | refine Sq.h ?_ GE212.out | refine Sq.h ?_ GE213.out | refine Sq.h ?_ GE220.out) | exact HB.out))); (case side6 => exact HC0_2.out); rintro e w34 ⟨rfl, hb⟩; have n0_ := Sq.l (Sq.m (g := gb212) (o := .cells #[.slice A0_0 l0_0.length c0_0, .slice A0_1 l0_1.length c0_1, .slice A0_2 l0_2.length c0_2, .int .i64 a0_3] 30 (0, 0)) (by (with_reducible repeat (first | refine Sq.d ?_ _ | refine Sq.e ?_ | refine Sq.f ?_ _)); refine Sq.B3 ?_ NB212_220.out; (with_reducible repeat (first | refine Sq.d ?_ _ | refine Sq.e ?_ | refine Sq.f ?_ _)); exact BK212.out) hb); have n1_ := Sq.l (Sq.m (g := gb213) (o := .cells #[.slice (some ad214) l1_0.length c1_0, .string a1_1, .slice A1_2 l1_2.length c1_2] 90 (0, 0)) (by (with_reducible repeat (first | refine Sq.d ?_ _ | refine Sq.e ?_ | refine Sq.f ?_ _)); refine Sq.B3 ?_ NB213_220.out; (with_reducible repeat (first | refine Sq.d ?_ _ | refine Sq.e ?_ | refine Sq.f ?_ _)); exact BK213.out) hb); have n2_ := Sq.l (Sq.m (g := gb220) (o := .cells #[.int .i64 ((rd_T97 y215 x36_2).f0), .int .i64 ((rd_T97 y215 x36_2).f1), .int .i64 ((rd_T97 y215 x36_2).f2)] 97 (0, 0)) (by (with_reducible repeat (first | refine Sq.d ?_ _ | refine Sq.e ?_ | refine Sq.f ?_ _)); refine Sq.v (cs := #[.int .i64 ((rd_T97 y215 x36_2).f0), .int .i64 ((rd_T97 y215 x36_2).f1), .int .i64 0]) ?_ 2 _ rfl; (with_reducible repeat (first | refine Sq.d ?_ _ | refine Sq.e ?_ | refine Sq.f ?_ _)); refine Sq.v (cs := #[.int .i64 ((rd_T97 y215 x36_2).f0), .int .i64 0, .int .i64 0]) ?_ 1 _ rfl; (with_reducible repeat (first | refine Sq.d ?_ _ | refine Sq.e ?_ | refine Sq.f ?_ _)); refine Sq.v (cs := #[.int .i64 0, .int .i64 0, .int .i64 0]) ?_ 0 _ rfl; (with_reducible repeat (first | refine Sq.d ?_ _ | refine Sq.e ?_ | refine Sq.f ?_ _)); exact BK220.out) hb); have n3_ := Sq.l (Sq.a4 (by repeat (first | (with_reducible first | exact HB.out | apply Sq.i | apply Sq.j | apply Sq.k | refine Sq.h ?_ GE212.out | refine Sq.h ?_ GE213.out | refine Sq.h ?_ GE220.out) | exact HB.out)) hb); clear BK212; clear BK213; clear BK220; clear HB; have BK212 := n0_; have BK213 := n1_; have BK220 := n2_; have HB := n3_; clear n0_ n1_ n2_ n3_; (try clear hb); (try clear hb2); (try clear hk); (try clear hi)))
                 go_roundg k2
                 case measure => have := HJ3.out; have := HK2.out; omega
                 case rel => exact ⟨(wrap64 (x36_2 + 1)), (by first | rfl | (simp; done) | (simp [*]; done)), H', ⟨by have := HJ3.out; have := HK2.out; omega⟩, ⟨by (with_reducible repeat (first | refine Sq.d ?_ _ | refine Sq.e ?_ | refine Sq.f ?_ _)); exact BK212.out⟩, ⟨by (with_reducible repeat (first | refine Sq.d ?_ _ | refine Sq.e ?_ | refine Sq.f ?_ _)); exact BK213.out⟩, ⟨by repeat (first | (with_reducible first | exact HB.out | apply Sq.i | apply Sq.j | apply Sq.k | refine Sq.h ?_ GE212.out | refine Sq.h ?_ GE213.out | refine Sq.h ?_ GE220.out) | exact HB.out)⟩⟩
                ·rw [if_neg c27] at H
                 have c27b0 : (t221 == 1) = false := beq_eq_false_iff_ne.mpr c27
                 have c27b1 : (t221 != 1) = true := bne_iff_ne.mpr c27
                 obtain rfl := Option.some.inj H
                 have p219 : 0 ≤ (x36_2 : Int) := of_decide_eq_true (by first | (with_reducible assumption) | assumption)
                 have q219 : x36_2 < (y215.length : Int) := of_decide_eq_true (by first | (with_reducible assumption) | assumption)
                 obtain ⟨ad219, e219, hx219_0, hx219_1, hx219_2⟩ := at_T97 HR218.out x36_2 p219 q219
                 cases e219
                 replace hx219_0 := (HB.out.cell (World.block_lt_of_cell? w _ hx219_0)).trans hx219_0
                 replace hx219_1 := (HB.out.cell (World.block_lt_of_cell? w _ hx219_1)).trans hx219_1
                 replace hx219_2 := (HB.out.cell (World.block_lt_of_cell? w _ hx219_2)).trans hx219_2
                 replace p219 := eq_true p219; replace q219 := eq_true q219
                 go_wp2_with (first | ((with_reducible refine gate_dst (N := 9) rfl ?_); (try (refine gate_guard (by rfl) ?_; dsimp only)); refine box_event ?hg (N := 9) ?hd (cs := #[.int .i64 0, .int .i64 0, .int .i64 0]) (t := 97) ?hr ?_; (case hd => rfl); (case hg => rfl); (case hr => first | (go_simp; done) | (go_simp; rfl)); intro gb220 hg w35 hbox hb; have n0_ := Sq.l (Sq.m (g := gb212) (o := .cells #[.slice A0_0 l0_0.length c0_0, .slice A0_1 l0_1.length c0_1, .slice A0_2 l0_2.length c0_2, .int .i64 a0_3] 30 (0, 0)) (by (with_reducible repeat (first | refine Sq.d ?_ _ | refine Sq.e ?_ | refine Sq.f ?_ _)); exact BK212.out) hb); have n1_ := Sq.l (Sq.m (g := gb213) (o := .cells #[.slice (some ad214) l1_0.length c1_0, .string a1_1, .slice A1_2 l1_2.length c1_2] 90 (0, 0)) (by (with_reducible repeat (first | refine Sq.d ?_ _ | refine Sq.e ?_ | refine Sq.f ?_ _)); exact BK213.out) hb); have n2_ := Sq.l (Sq.a4 (by repeat (first | (with_reducible first | exact HB.out | apply Sq.i | apply Sq.j | apply Sq.k | refine Sq.h ?_ GE212.out | refine Sq.h ?_ GE213.out) | exact HB.out)) hb); have n3_ := Sq.l (hbox); have n4_ := Sq.l ((by rw [hg]; exact (Sq.a5 (by repeat (first | (with_reducible first | exact HB.out | apply Sq.i | apply Sq.j | apply Sq.k | refine Sq.h ?_ GE212.out | refine Sq.h ?_ GE213.out) | exact HB.out))) : w.heap.size ≤ gb220)); have n5_ := Sq.l ((by rw [hg]; exact (Sq.a5 (by repeat (first | (with_reducible first | exact HB.out | apply Sq.i | apply Sq.j | apply Sq.k | refine Sq.h ?_ GE212.out | refine Sq.h ?_ GE213.out) | exact HB.out))) : w.heap.size ≤ gb220)); have n6_ := Sq.l ((by rw [hg]; exact Nat.ne_of_lt (blk_lt (g := gb212) (o := .cells #[.slice A0_0 l0_0.length c0_0, .slice A0_1 l0_1.length c0_1, .slice A0_2 l0_2.length c0_2, .int .i64 a0_3] 30 (0, 0)) (by (with_reducible repeat (first | refine Sq.d ?_ _ | refine Sq.e ?_ | refine Sq.f ?_ _)); exact BK212.out)) : gb212 ≠ gb220)); have n7_ := Sq.l ((by rw [hg]; exact Nat.ne_of_gt (blk_lt (g := gb212) (o := .cells #[.slice A0_0 l0_0.length c0_0, .slice A0_1 l0_1.length c0_1, .slice A0_2 l0_2.length c0_2, .int .i64 a0_3] 30 (0, 0)) (by (with_reducible repeat (first | refine Sq.d ?_ _ | refine Sq.e ?_ | refine Sq.f ?_ _)); exact BK212.out)) : gb220 ≠ gb212)); have n8_ := Sq.l ((by rw [hg]; exact Nat.ne_of_lt (blk_lt (g := gb213) (o := .cells #[.slice (some ad214) l1_0.length c1_0, .string a1_1, .slice A1_2 l1_2.length c1_2] 90 (0, 0)) (by (with_reducible repeat (first | refine Sq.d ?_ _ | refine Sq.e ?_ | refine Sq.f ?_ _)); exact BK213.out)) : gb213 ≠ gb220)); have n9_ := Sq.l ((by rw [hg]; exact Nat.ne_of_gt (blk_lt (g := gb213) (o := .cells #[.slice (some ad214) l1_0.length c1_0, .string a1_1, .slice A1_2 l1_2.length c1_2] 90 (0, 0)) (by (with_reducible repeat (first | refine Sq.d ?_ _ | refine Sq.e ?_ | refine Sq.f ?_ _)); exact BK213.out)) : gb220 ≠ gb213)); clear BK212; clear BK213; clear HB; have BK212 := n0_; have BK213 := n1_; have HB := n2_; have BK220 := n3_; have GW220 := n4_; have GE220 := n5_; have NB212_220 := n6_; have NB220_212 := n7_; have NB213_220 := n8_; have NB220_213 := n9_; clear n0_ n1_ n2_ n3_ n4_ n5_ n6_ n7_ n8_ n9_; clear hb hbox hg; have hnb36 := NB220_212.out; have hnc36 := NB212_220.out; have hnb37 := NB220_213.out; have hnc37 := NB213_220.out; have hcz38_0 : w35.cell? ⟨gb220, 0, none⟩ = some (.int .i64 0) := (Sq.o BK220.out 0).trans rfl; have hcz38_1 : w35.cell? ⟨gb220, 1, none⟩ = some (.int .i64 0) := (Sq.o BK220.out 1).trans rfl; have hcz38_2 : w35.cell? ⟨gb220, 2, none⟩ = some (.int .i64 0) := (Sq.o BK220.out 2).trans rfl; have hfz38_0 := Sq.r BK220.out 0; have hfz38_1 := Sq.r BK220.out 1; have hfz38_2 := Sq.r BK220.out 2; have hnb39 := NB212_213.out; have hnc39 := NB213_212.out; have hcz40_0 : w35.cell? ⟨gb212, 0, none⟩ = some (.slice A0_0 l0_0.length c0_0) := (Sq.o BK212.out 0).trans rfl; have hcz40_1 : w35.cell? ⟨gb212, 1, none⟩ = some (.slice A0_1 l0_1.length c0_1) := (Sq.o BK212.out 1).trans rfl; have hcz40_2 : w35.cell? ⟨gb212, 2, none⟩ = some (.slice A0_2 l0_2.length c0_2) := (Sq.o BK212.out 2).trans rfl; have hcz40_3 : w35.cell? ⟨gb212, 3, none⟩ = some (.int .i64 a0_3) := (Sq.o BK212.out 3).trans rfl; have hfz40_0 := Sq.r BK212.out 0; have hfz40_1 := Sq.r BK212.out 1; have hfz40_2 := Sq.r BK212.out 2; have hfz40_3 := Sq.r BK212.out 3) | (go_at_call 51; (with_reducible refine (impl_MemHost_yusers.calls k2 _ _ l0_0 _ _ l0_1 _ _ l0_2 a0_3 1 ((rd_T97 y215 x36_2).f1) t221 _ ?side1 ?side2 ?side3 ?side4 ?side5 ?side6 A26.out).mono ?_); (case side1 => exact Sq.a1 HR0_0.out (by repeat (first | (with_reducible first | exact HB.out | apply Sq.i | apply Sq.j | apply Sq.k | refine Sq.h ?_ GE212.out | refine Sq.h ?_ GE213.out | refine Sq.h ?_ GE220.out) | exact HB.out))); (case side2 => exact HC0_0.out); (case side3 => exact Sq.a1 HR0_1.out (by repeat (first | (with_reducible first | exact HB.out | apply Sq.i | apply Sq.j | apply Sq.k | refine Sq.h ?_ GE212.out | refine Sq.h ?_ GE213.out | refine Sq.h ?_ GE220.out) | exact HB.out))); (case side4 => exact HC0_1.out); (case side5 => exact Sq.a1 HR0_2.out (by repeat (first | (with_reducible first | exact HB.out | apply Sq.i | apply Sq.j | apply Sq.k | refine Sq.h ?_ GE212.out | refine Sq.h ?_ GE213.out | refine Sq.h ?_ GE220.out) | exact HB.out))); (case side6 => exact HC0_2.out); rintro e w41 ⟨rfl, hb⟩; have n0_ := Sq.l (Sq.m (g := gb212) (o := .cells #[.slice A0_0 l0_0.length c0_0, .slice A0_1 l0_1.length c0_1, .slice A0_2 l0_2.length c0_2, .int .i64 a0_3] 30 (0, 0)) (by (with_reducible repeat (first | refine Sq.d ?_ _ | refine Sq.e ?_ | refine Sq.f ?_ _)); refine Sq.B3 ?_ NB212_220.out; (with_reducible repeat (first | refine Sq.d ?_ _ | refine Sq.e ?_ | refine Sq.f ?_ _)); exact BK212.out) hb); have n1_ := Sq.l (Sq.m (g := gb213) (o := .cells #[.slice (some ad214) l1_0.length c1_0, .string a1_1, .slice A1_2 l1_2.length c1_2] 90 (0, 0)) (by (with_reducible repeat (first | refine Sq.d ?_ _ | refine Sq.e ?_ | refine Sq.f ?_ _)); refine Sq.B3 ?_ NB213_220.out; (with_reducible repeat (first | refine Sq.d ?_ _ | refine Sq.e ?_ | refine Sq.f ?_ _)); exact BK213.out) hb); have n2_ := Sq.l (Sq.m (g := gb220) (o := .cells #[.int .i64 ((rd_T97 y215 x36_2).f0), .int .i64 ((rd_T97 y215 x36_2).f1), .int .i64 ((rd_T97 y215 x36_2).f2)] 97 (0, 0)) (by (with_reducible repeat (first | refine Sq.d ?_ _ | refine Sq.e ?_ | refine Sq.f ?_ _)); refine Sq.v (cs := #[.int .i64 ((rd_T97 y215 x36_2).f0), .int .i64 ((rd_T97 y215 x36_2).f1), .int .i64 0]) ?_ 2 _ rfl; (with_reducible repeat (first | refine Sq.d ?_ _ | refine Sq.e ?_ | refine Sq.f ?_ _)); refine Sq.v (cs := #[.int .i64 ((rd_T97 y215 x36_2).f0), .int .i64 0, .int .i64 0]) ?_ 1 _ rfl; (with_reducible repeat (first | refine Sq.d ?_ _ | refine Sq.e ?_ | refine Sq.f ?_ _)); refine Sq.v (cs := #[.int .i64 0, .int .i64 0, .int .i64 0]) ?_ 0 _ rfl; (with_reducible repeat (first | refine Sq.d ?_ _ | refine Sq.e ?_ | refine Sq.f ?_ _)); exact BK220.out) hb); have n3_ := Sq.l (Sq.a4 (by repeat (first | (with_reducible first | exact HB.out | apply Sq.i | apply Sq.j | apply Sq.k | refine Sq.h ?_ GE212.out | refine Sq.h ?_ GE213.out | refine Sq.h ?_ GE220.out) | exact HB.out)) hb); clear BK212; clear BK213; clear BK220; clear HB; have BK212 := n0_; have BK213 := n1_; have BK220 := n2_; have HB := n3_; clear n0_ n1_ n2_ n3_; (try clear hb); (try clear hb2); (try clear hk); (try clear hi)))
                 go_ret
                 exact ⟨by first | rfl | (simp [errW_none, errW_some] <;> rfl) | (simp only [← hji11]; first | rfl | (simp [errW_none, errW_some] <;> rfl)) | (simp [*, errW_none, errW_some] <;> rfl), by repeat (first | (with_reducible first | exact HB.out | apply Sq.i | apply Sq.j | apply Sq.k | refine Sq.h ?_ GE212.out | refine Sq.h ?_ GE213.out | refine Sq.h ?_ GE220.out) | exact HB.out)⟩
               ·rw [if_neg c25] at H
                have c25b0 : (((rd_T97 y215 x36_2).f1) == (wrap64 (((rd_T97 l1_0 (ji11)).f1) + x36_2))) = false := beq_eq_false_iff_ne.mpr c25
                have c25b1 : (((rd_T97 y215 x36_2).f1) != (wrap64 (((rd_T97 l1_0 (ji11)).f1) + x36_2))) = true := bne_iff_ne.mpr c25
                obtain rfl := Option.some.inj H
                have p219 : 0 ≤ (x36_2 : Int) := of_decide_eq_true (by first | (with_reducible assumption) | assumption)
                have q219 : x36_2 < (y215.length : Int) := of_decide_eq_true (by first | (with_reducible assumption) | assumption)
                obtain ⟨ad219, e219, hx219_0, hx219_1, hx219_2⟩ := at_T97 HR218.out x36_2 p219 q219
                cases e219
                replace hx219_0 := (HB.out.cell (World.block_lt_of_cell? w _ hx219_0)).trans hx219_0
                replace hx219_1 := (HB.out.cell (World.block_lt_of_cell? w _ hx219_1)).trans hx219_1
                replace hx219_2 := (HB.out.cell (World.block_lt_of_cell? w _ hx219_2)).trans hx219_2
                replace p219 := eq_true p219; replace q219 := eq_true q219
                go_wp2_with (first | ((with_reducible refine gate_dst (N := 9) rfl ?_); (try (refine gate_guard (by rfl) ?_; dsimp only)); refine box_event ?hg (N := 9) ?hd (cs := #[.int .i64 0, .int .i64 0, .int .i64 0]) (t := 97) ?hr ?_; (case hd => rfl); (case hg => rfl); (case hr => first | (go_simp; done) | (go_simp; rfl)); intro gb220 hg w42 hbox hb; have n0_ := Sq.l (Sq.m (g := gb212) (o := .cells #[.slice A0_0 l0_0.length c0_0, .slice A0_1 l0_1.length c0_1, .slice A0_2 l0_2.length c0_2, .int .i64 a0_3] 30 (0, 0)) (by (with_reducible repeat (first | refine Sq.d ?_ _ | refine Sq.e ?_ | refine Sq.f ?_ _)); exact BK212.out) hb); have n1_ := Sq.l (Sq.m (g := gb213) (o := .cells #[.slice (some ad214) l1_0.length c1_0, .string a1_1, .slice A1_2 l1_2.length c1_2] 90 (0, 0)) (by (with_reducible repeat (first | refine Sq.d ?_ _ | refine Sq.e ?_ | refine Sq.f ?_ _)); exact BK213.out) hb); have n2_ := Sq.l (Sq.a4 (by repeat (first | (with_reducible first | exact HB.out | apply Sq.i | apply Sq.j | apply Sq.k | refine Sq.h ?_ GE212.out | refine Sq.h ?_ GE213.out) | exact HB.out)) hb); have n3_ := Sq.l (hbox); have n4_ := Sq.l ((by rw [hg]; exact (Sq.a5 (by repeat (first | (with_reducible first | exact HB.out | apply Sq.i | apply Sq.j | apply Sq.k | refine Sq.h ?_ GE212.out | refine Sq.h ?_ GE213.out) | exact HB.out))) : w.heap.size ≤ gb220)); have n5_ := Sq.l ((by rw [hg]; exact (Sq.a5 (by repeat (first | (with_reducible first | exact HB.out | apply Sq.i | apply Sq.j | apply Sq.k | refine Sq.h ?_ GE212.out | refine Sq.h ?_ GE213.out) | exact HB.out))) : w.heap.size ≤ gb220)); have n6_ := Sq.l ((by rw [hg]; exact Nat.ne_of_lt (blk_lt (g := gb212) (o := .cells #[.slice A0_0 l0_0.length c0_0, .slice A0_1 l0_1.length c0_1, .slice A0_2 l0_2.length c0_2, .int .i64 a0_3] 30 (0, 0)) (by (with_reducible repeat (first | refine Sq.d ?_ _ | refine Sq.e ?_ | refine Sq.f ?_ _)); exact BK212.out)) : gb212 ≠ gb220)); have n7_ := Sq.l ((by rw [hg]; exact Nat.ne_of_gt (blk_lt (g := gb212) (o := .cells #[.slice A0_0 l0_0.length c0_0, .slice A0_1 l0_1.length c0_1, .slice A0_2 l0_2.length c0_2, .int .i64 a0_3] 30 (0, 0)) (by (with_reducible repeat (first | refine Sq.d ?_ _ | refine Sq.e ?_ | refine Sq.f ?_ _)); exact BK212.out)) : gb220 ≠ gb212)); have n8_ := Sq.l ((by rw [hg]; exact Nat.ne_of_lt (blk_lt (g := gb213) (o := .cells #[.slice (some ad214) l1_0.length c1_0, .string a1_1, .slice A1_2 l1_2.length c1_2] 90 (0, 0)) (by (with_reducible repeat (first | refine Sq.d ?_ _ | refine Sq.e ?_ | refine Sq.f ?_ _)); exact BK213.out)) : gb213 ≠ gb220)); have n9_ := Sq.l ((by rw [hg]; exact Nat.ne_of_gt (blk_lt (g := gb213) (o := .cells #[.slice (some ad214) l1_0.length c1_0, .string a1_1, .slice A1_2 l1_2.length c1_2] 90 (0, 0)) (by (with_reducible repeat (first | refine Sq.d ?_ _ | refine Sq.e ?_ | refine Sq.f ?_ _)); exact BK213.out)) : gb220 ≠ gb213)); clear BK212; clear BK213; clear HB; have BK212 := n0_; have BK213 := n1_; have HB := n2_; have BK220 := n3_; have GW220 := n4_; have GE220 := n5_; have NB212_220 := n6_; have NB220_212 := n7_; have NB213_220 := n8_; have NB220_213 := n9_; clear n0_ n1_ n2_ n3_ n4_ n5_ n6_ n7_ n8_ n9_; clear hb hbox hg; have hnb43 := NB220_212.out; have hnc43 := NB212_220.out; have hnb44 := NB220_213.out; have hnc44 := NB213_220.out; have hcz45_0 : w42.cell? ⟨gb220, 0, none⟩ = some (.int .i64 0) := (Sq.o BK220.out 0).trans rfl; have hcz45_1 : w42.cell? ⟨gb220, 1, none⟩ = some (.int .i64 0) := (Sq.o BK220.out 1).trans rfl; have hcz45_2 : w42.cell? ⟨gb220, 2, none⟩ = some (.int .i64 0) := (Sq.o BK220.out 2).trans rfl; have hfz45_0 := Sq.r BK220.out 0; have hfz45_1 := Sq.r BK220.out 1; have hfz45_2 := Sq.r BK220.out 2))
                go_ret
                exact ⟨by first | rfl | (simp [errW_none, errW_some] <;> rfl) | (simp only [← hji11]; first | rfl | (simp [errW_none, errW_some] <;> rfl)) | (simp [*, errW_none, errW_some] <;> rfl), by repeat (first | (with_reducible first | exact HB.out | apply Sq.i | apply Sq.j | apply Sq.k | refine Sq.h ?_ GE212.out | refine Sq.h ?_ GE213.out | refine Sq.h ?_ GE220.out) | exact HB.out)⟩
              ·rw [if_neg c24] at H
               have c24b0 : ((Int.tmod ((rd_T97 l1_0 (ji11)).f1) 4) == 0) = false := beq_eq_false_iff_ne.mpr c24
               have c24b1 : ((Int.tmod ((rd_T97 l1_0 (ji11)).f1) 4) != 0) = true := bne_iff_ne.mpr c24
               obtain rfl := Option.some.inj H
               have p219 : 0 ≤ (x36_2 : Int) := of_decide_eq_true (by first | (with_reducible assumption) | assumption)
               have q219 : x36_2 < (y215.length : Int) := of_decide_eq_true (by first | (with_reducible assumption) | assumption)
               obtain ⟨ad219, e219, hx219_0, hx219_1, hx219_2⟩ := at_T97 HR218.out x36_2 p219 q219
               cases e219
               replace hx219_0 := (HB.out.cell (World.block_lt_of_cell? w _ hx219_0)).trans hx219_0
               replace hx219_1 := (HB.out.cell (World.block_lt_of_cell? w _ hx219_1)).trans hx219_1
               replace hx219_2 := (HB.out.cell (World.block_lt_of_cell? w _ hx219_2)).trans hx219_2
               replace p219 := eq_true p219; replace q219 := eq_true q219
               go_wp2_with (first | ((with_reducible refine gate_dst (N := 9) rfl ?_); (try (refine gate_guard (by rfl) ?_; dsimp only)); refine box_event ?hg (N := 9) ?hd (cs := #[.int .i64 0, .int .i64 0, .int .i64 0]) (t := 97) ?hr ?_; (case hd => rfl); (case hg => rfl); (case hr => first | (go_simp; done) | (go_simp; rfl)); intro gb220 hg w46 hbox hb; have n0_ := Sq.l (Sq.m (g := gb212) (o := .cells #[.slice A0_0 l0_0.length c0_0, .slice A0_1 l0_1.length c0_1, .slice A0_2 l0_2.length c0_2, .int .i64 a0_3] 30 (0, 0)) (by (with_reducible repeat (first | refine Sq.d ?_ _ | refine Sq.e ?_ | refine Sq.f ?_ _)); exact BK212.out) hb); have n1_ := Sq.l (Sq.m (g := gb213) (o := .cells #[.slice (some ad214) l1_0.length c1_0, .string a1_1, .slice A1_2 l1_2.length c1_2] 90 (0, 0)) (by (with_reducible repeat (first | refine Sq.d ?_ _ | refine Sq.e ?_ | refine Sq.f ?_ _)); exact BK213.out) hb); have n2_ := Sq.l (Sq.a4 (by repeat (first | (with_reducible first | exact HB.out | apply Sq.i | apply Sq.j | apply Sq.k | refine Sq.h ?_ GE212.out | refine Sq.h ?_ GE213.out) | exact HB.out)) hb); have n3_ := Sq.l (hbox); have n4_ := Sq.l ((by rw [hg]; exact (Sq.a5 (by repeat (first | (with_reducible first | exact HB.out | apply Sq.i | apply Sq.j | apply Sq.k | refine Sq.h ?_ GE212.out | refine Sq.h ?_ GE213.out) | exact HB.out))) : w.heap.size ≤ gb220)); have n5_ := Sq.l ((by rw [hg]; exact (Sq.a5 (by repeat (first | (with_reducible first | exact HB.out | apply Sq.i | apply Sq.j | apply Sq.k | refine Sq.h ?_ GE212.out | refine Sq.h ?_ GE213.out) | exact HB.out))) : w.heap.size ≤ gb220)); have n6_ := Sq.l ((by rw [hg]; exact Nat.ne_of_lt (blk_lt (g := gb212) (o := .cells #[.slice A0_0 l0_0.length c0_0, .slice A0_1 l0_1.length c0_1, .slice A0_2 l0_2.length c0_2, .int .i64 a0_3] 30 (0, 0)) (by (with_reducible repeat (first | refine Sq.d ?_ _ | refine Sq.e ?_ | refine Sq.f ?_ _)); exact BK212.out)) : gb212 ≠ gb220)); have n7_ := Sq.l ((by rw [hg]; exact Nat.ne_of_gt (blk_lt (g := gb212) (o := .cells #[.slice A0_0 l0_0.length c0_0, .slice A0_1 l0_1.length c0_1, .slice A0_2 l0_2.length c0_2, .int .i64 a0_3] 30 (0, 0)) (by (with_reducible repeat (first | refine Sq.d ?_ _ | refine Sq.e ?_ | refine Sq.f ?_ _)); exact BK212.out)) : gb220 ≠ gb212)); have n8_ := Sq.l ((by rw [hg]; exact Nat.ne_of_lt (blk_lt (g := gb213) (o := .cells #[.slice (some ad214) l1_0.length c1_0, .string a1_1, .slice A1_2 l1_2.length c1_2] 90 (0, 0)) (by (with_reducible repeat (first | refine Sq.d ?_ _ | refine Sq.e ?_ | refine Sq.f ?_ _)); exact BK213.out)) : gb213 ≠ gb220)); have n9_ := Sq.l ((by rw [hg]; exact Nat.ne_of_gt (blk_lt (g := gb213) (o := .cells #[.slice (some ad214) l1_0.length c1_0, .string a1_1, .slice A1_2 l1_2.length c1_2] 90 (0, 0)) (by (with_reducible repeat (first | refine Sq.d ?_ _ | refine Sq.e ?_ | refine Sq.f ?_ _)); exact BK213.out)) : gb220 ≠ gb213)); clear BK212; clear BK213; clear HB; have BK212 := n0_; have BK213 := n1_; have HB := n2_; have BK220 := n3_; have GW220 := n4_; have GE220 := n5_; have NB212_220 := n6_; have NB220_212 := n7_; have NB213_220 := n8_; have NB220_213 := n9_; clear n0_ n1_ n2_ n3_ n4_ n5_ n6_ n7_ n8_ n9_; clear hb hbox hg; have hnb47 := NB220_212.out; have hnc47 := NB212_220.out; have hnb48 := NB220_213.out; have hnc48 := NB213_220.out; have hcz49_0 : w46.cell? ⟨gb220, 0, none⟩ = some (.int .i64 0) := (Sq.o BK220.out 0).trans rfl; have hcz49_1 : w46.cell? ⟨gb220, 1, none⟩ = some (.int .i64 0) := (Sq.o BK220.out 1).trans rfl; have hcz49_2 : w46.cell? ⟨gb220, 2, none⟩ = some (.int .i64 0) := (Sq.o BK220.out 2).trans rfl; have hfz49_0 := Sq.r BK220.out 0; have hfz49_1 := Sq.r BK220.out 1; have hfz49_2 := Sq.r BK220.out 2))
               go_ret
               exact ⟨by first | rfl | (simp [errW_none, errW_some] <;> rfl) | (simp only [← hji11]; first | rfl | (simp [errW_none, errW_some] <;> rfl)) | (simp [*, errW_none, errW_some] <;> rfl), by repeat (first | (with_reducible first | exact HB.out | apply Sq.i | apply Sq.j | apply Sq.k | refine Sq.h ?_ GE212.out | refine Sq.h ?_ GE213.out | refine Sq.h ?_ GE220.out) | exact HB.out)⟩
             ·rw [if_neg c23] at H
              have c23b0 : (((rd_T97 y215 x36_2).f0) == 1) = false := beq_eq_false_iff_ne.mpr c23
              have c23b1 : (((rd_T97 y215 x36_2).f0) != 1) = true := bne_iff_ne.mpr c23
              obtain rfl := Option.some.inj H
              have p219 : 0 ≤ (x36_2 : Int) := of_decide_eq_true (by first | (with_reducible assumption) | assumption)
              have q219 : x36_2 < (y215.length : Int) := of_decide_eq_true (by first | (with_reducible assumption) | assumption)
              obtain ⟨ad219, e219, hx219_0, hx219_1, hx219_2⟩ := at_T97 HR218.out x36_2 p219 q219
              cases e219
              replace hx219_0 := (HB.out.cell (World.block_lt_of_cell? w _ hx219_0)).trans hx219_0
              replace hx219_1 := (HB.out.cell (World.block_lt_of_cell? w _ hx219_1)).trans hx219_1
              replace hx219_2 := (HB.out.cell (World.block_lt_of_cell? w _ hx219_2)).trans hx219_2
              replace p219 := eq_true p219; replace q219 := eq_true q219
              go_wp2_with (first | ((with_reducible refine gate_dst (N := 9) rfl ?_); (try (refine gate_guard (by rfl) ?_; dsimp only)); refine box_event ?hg (N := 9) ?hd (cs := #[.int .i64 0, .int .i64 0, .int .i64 0]) (t := 97) ?hr ?_; (case hd => rfl); (case hg => rfl); (case hr => first | (go_simp; done) | (go_simp; rfl)); intro gb220 hg w50 hbox hb; have n0_ := Sq.l (Sq.m (g := gb212) (o := .cells #[.slice A0_0 l0_0.length c0_0, .slice A0_1 l0_1.length c0_1, .slice A0_2 l0_2.length c0_2, .int .i64 a0_3] 30 (0, 0)) (by (with_reducible repeat (first | refine Sq.d ?_ _ | refine Sq.e ?_ | refine Sq.f ?_ _)); exact BK212.out) hb); have n1_ := Sq.l (Sq.m (g := gb213) (o := .cells #[.slice (some ad214) l1_0.length c1_0, .string a1_1, .slice A1_2 l1_2.length c1_2] 90 (0, 0)) (by (with_reducible repeat (first | refine Sq.d ?_ _ | refine Sq.e ?_ | refine Sq.f ?_ _)); exact BK213.out) hb); have n2_ := Sq.l (Sq.a4 (by repeat (first | (with_reducible first | exact HB.out | apply Sq.i | apply Sq.j | apply Sq.k | refine Sq.h ?_ GE212.out | refine Sq.h ?_ GE213.out) | exact HB.out)) hb); have n3_ := Sq.l (hbox); have n4_ := Sq.l ((by rw [hg]; exact (Sq.a5 (by repeat (first | (with_reducible first | exact HB.out | apply Sq.i | apply Sq.j | apply Sq.k | refine Sq.h ?_ GE212.out | refine Sq.h ?_ GE213.out) | exact HB.out))) : w.heap.size ≤ gb220)); have n5_ := Sq.l ((by rw [hg]; exact (Sq.a5 (by repeat (first | (with_reducible first | exact HB.out | apply Sq.i | apply Sq.j | apply Sq.k | refine Sq.h ?_ GE212.out | refine Sq.h ?_ GE213.out) | exact HB.out))) : w.heap.size ≤ gb220)); have n6_ := Sq.l ((by rw [hg]; exact Nat.ne_of_lt (blk_lt (g := gb212) (o := .cells #[.slice A0_0 l0_0.length c0_0, .slice A0_1 l0_1.length c0_1, .slice A0_2 l0_2.length c0_2, .int .i64 a0_3] 30 (0, 0)) (by (with_reducible repeat (first | refine Sq.d ?_ _ | refine Sq.e ?_ | refine Sq.f ?_ _)); exact BK212.out)) : gb212 ≠ gb220)); have n7_ := Sq.l ((by rw [hg]; exact Nat.ne_of_gt (blk_lt (g := gb212) (o := .cells #[.slice A0_0 l0_0.length c0_0, .slice A0_1 l0_1.length c0_1, .slice A0_2 l0_2.length c0_2, .int .i64 a0_3] 30 (0, 0)) (by (with_reducible repeat (first | refine Sq.d ?_ _ | refine Sq.e ?_ | refine Sq.f ?_ _)); exact BK212.out)) : gb220 ≠ gb212)); have n8_ := Sq.l ((by rw [hg]; exact Nat.ne_of_lt (blk_lt (g := gb213) (o := .cells #[.slice (some ad214) l1_0.length c1_0, .string a1_1, .slice A1_2 l1_2.length c1_2] 90 (0, 0)) (by (with_reducible repeat (first | refine Sq.d ?_ _ | refine Sq.e ?_ | refine Sq.f ?_ _)); exact BK213.out)) : gb213 ≠ gb220)); have n9_ := Sq.l ((by rw [hg]; exact Nat.ne_of_gt (blk_lt (g := gb213) (o := .cells #[.slice (some ad214) l1_0.length c1_0, .string a1_1, .slice A1_2 l1_2.length c1_2] 90 (0, 0)) (by (with_reducible repeat (first | refine Sq.d ?_ _ | refine Sq.e ?_ | refine Sq.f ?_ _)); exact BK213.out)) : gb220 ≠ gb213)); clear BK212; clear BK213; clear HB; have BK212 := n0_; have BK213 := n1_; have HB := n2_; have BK220 := n3_; have GW220 := n4_; have GE220 := n5_; have NB212_220 := n6_; have NB220_212 := n7_; have NB213_220 := n8_; have NB220_213 := n9_; clear n0_ n1_ n2_ n3_ n4_ n5_ n6_ n7_ n8_ n9_; clear hb hbox hg; have hnb51 := NB220_212.out; have hnc51 := NB212_220.out; have hnb52 := NB220_213.out; have hnc52 := NB213_220.out; have hcz53_0 : w50.cell? ⟨gb220, 0, none⟩ = some (.int .i64 0) := (Sq.o BK220.out 0).trans rfl; have hcz53_1 : w50.cell? ⟨gb220, 1, none⟩ = some (.int .i64 0) := (Sq.o BK220.out 1).trans rfl; have hcz53_2 : w50.cell? ⟨gb220, 2, none⟩ = some (.int .i64 0) := (Sq.o BK220.out 2).trans rfl; have hfz53_0 := Sq.r BK220.out 0; have hfz53_1 := Sq.r BK220.out 1; have hfz53_2 := Sq.r BK220.out 2))
              go_ret
              exact ⟨by first | rfl | (simp [errW_none, errW_some] <;> rfl) | (simp only [← hji11]; first | rfl | (simp [errW_none, errW_some] <;> rfl)) | (simp [*, errW_none, errW_some] <;> rfl), by repeat (first | (with_reducible first | exact HB.out | apply Sq.i | apply Sq.j | apply Sq.k | refine Sq.h ?_ GE212.out | refine Sq.h ?_ GE213.out | refine Sq.h ?_ GE220.out) | exact HB.out)⟩
            ·rw [if_neg c22] at H
             exact absurd H (by simp)
           ·rw [if_neg c21] at H
            exact absurd H (by simp)
          ·rw [if_neg c20] at H
           have c20b0 : decide (x36_2 < (y215.length : Int)) = false := decide_eq_false c20
           clear c20
           obtain rfl := Option.some.inj H
           go_wp2
           go_ret
           exact ⟨by first | rfl | (simp [errW_none, errW_some] <;> rfl) | (simp only [← hji11]; first | rfl | (simp [errW_none, errW_some] <;> rfl)) | (simp [*, errW_none, errW_some] <;> rfl), by repeat (first | (with_reducible first | exact HB.out | apply Sq.i | apply Sq.j | apply Sq.k | refine Sq.h ?_ GE212.out | refine Sq.h ?_ GE213.out) | exact HB.out)⟩
       ·rw [if_neg c16] at H
        exact absurd H (by simp)
      ·rw [if_neg c15] at H
       exact absurd H (by simp)
     ·rw [if_neg c13] at H
      exact absurd H (by simp)
    ·rw [if_neg c12] at H
     exact absurd H (by simp)

end Go.Proofs.Ytmajbehafgajmaa.QFnExactMemHostFault
