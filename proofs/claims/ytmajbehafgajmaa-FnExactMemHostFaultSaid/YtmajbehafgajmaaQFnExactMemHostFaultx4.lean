-- Written for this claim by this session's own driver (wip/xprint.py).
import Derived.Test.YtmajbehafgajmaaQFnExactMemHostFaultx0
import Derived.Test.YtmajbehafgajmaaQFnExactMemHostFaultx1
import Derived.Test.YtmajbehafgajmaaQFnExactMemHostFaultx2
import Derived.Test.YtmajbehafgajmaaQFnExactMemHostFaultx3
namespace Go.Proofs.Ytmajbehafgajmaa.QFnExactMemHostFault
open Go.RowKit Go.Proofs.YtmajbehafgajmaaW.PrintWords Go.Proofs.YtmajbehafgajmaaW.PrintLast Go.Proofs.YtmajbehafgajmaaW.PrintMore
attribute [local go_sem] max2_int min2_int max_two min_two max_three min_three max_four min_four   -- for this text's walks alone
set_option linter.unusedVariables false
set_option linter.unusedSimpArgs false

/-! ### spec_l12Guest: function 45 -/
mutual
def spec_l12Guest.j0 : Nat → Bool → List ByteArray → List ByteArray → List (S90) → Int → List (S97) → ByteArray → List Int → Option (Bool)
 | 0, _, _, _, _, _, _, _, _ => none
 | k + 1, x32, x136000, x136001, x136002, x136003, x137000, x137001, x137002 => if x32 = true then (some false) else (spec_l12Guest.l0 k 0 x136000 x136001 x136002 x136003 x137000 x137001 x137002)
def spec_l12Guest.l0 : Nat → Int → List ByteArray → List ByteArray → List (S90) → Int → List (S97) → ByteArray → List Int → Option (Bool)
 | 0, _, _, _, _, _, _, _, _ => none
 | k + 1, x5, x136000, x136001, x136002, x136003, x137000, x137001, x137002 => if x5 < (x137000.length : Int) then (if 0 ≤ x5 then ((spec_l12Leads.f x136000 x136001 x136002 x136003 ((rd_T97 x137000 x5).f0) ((rd_T97 x137000 x5).f1) ((rd_T97 x137000 x5).f2)).bind fun t141 => (if t141 = true then (if ((rd_T97 x137000 x5).f2) < 0 then (some false) else (if ((rd_T97 x137000 x5).f2) > x136003 then (some false) else (spec_l12Guest.l0 k (wrap64 (x5 + 1)) x136000 x136001 x136002 x136003 x137000 x137001 x137002))) else (some false))) else (none)) else (spec_l12Guest.l1 k 0 x136000 x136001 x136002 x136003 x137000 x137001 x137002)
def spec_l12Guest.l1 : Nat → Int → List ByteArray → List ByteArray → List (S90) → Int → List (S97) → ByteArray → List Int → Option (Bool)
 | 0, _, _, _, _, _, _, _, _ => none
 | k + 1, x7, x136000, x136001, x136002, x136003, x137000, x137001, x137002 => if x7 < (x137002.length : Int) then (if 0 ≤ x7 then ((spec_l12Group.f k x136000 x136001 x136002 x136003 x137000 x137001 x137002 (rd x137002 x7)).bind fun t143 => (if t143 = true then (spec_l12Guest.l1 k (wrap64 (x7 + 1)) x136000 x136001 x136002 x136003 x137000 x137001 x137002) else (some false))) else (none)) else (some true)
end
def spec_l12Guest.f (k : Nat) (l0_0 : List ByteArray) (l0_1 : List ByteArray) (l0_2 : List (S90)) (a0_3 : Int) (l1_0 : List (S97)) (a1_1 : ByteArray) (l1_2 : List Int) : Option (Bool) := if (l1_0.length : Int) > 32 then (spec_l12Guest.j0 k true l0_0 l0_1 l0_2 a0_3 l1_0 a1_1 l1_2) else (if (a1_1.size : Int) > 4 then (spec_l12Guest.j0 k true l0_0 l0_1 l0_2 a0_3 l1_0 a1_1 l1_2) else ((spec_l08Rising.f k l1_2).bind fun t137 => (if t137 = true then ((spec_NextBit.f k a1_1 (l1_0.length : Int) true).bind fun t138 => (spec_l12Guest.j0 k (decide (t138 ≥ 0)) l0_0 l0_1 l0_2 a0_3 l1_0 a1_1 l1_2)) else (spec_l12Guest.j0 k true l0_0 l0_1 l0_2 a0_3 l1_0 a1_1 l1_2))))
theorem spec_l12Guest.mono_l : ∀ k, (∀ y0 y1 y2 y3 y4 y5 y6 y7, LeO (spec_l12Guest.j0 k y0 y1 y2 y3 y4 y5 y6 y7) (spec_l12Guest.j0 (k + 1) y0 y1 y2 y3 y4 y5 y6 y7)) ∧ (∀ y0 y1 y2 y3 y4 y5 y6 y7, LeO (spec_l12Guest.l0 k y0 y1 y2 y3 y4 y5 y6 y7) (spec_l12Guest.l0 (k + 1) y0 y1 y2 y3 y4 y5 y6 y7)) ∧ (∀ y0 y1 y2 y3 y4 y5 y6 y7, LeO (spec_l12Guest.l1 k y0 y1 y2 y3 y4 y5 y6 y7) (spec_l12Guest.l1 (k + 1) y0 y1 y2 y3 y4 y5 y6 y7))
 | 0 => ⟨fun _ _ _ _ _ _ _ _ r h => by simp [spec_l12Guest.j0] at h, fun _ _ _ _ _ _ _ _ r h => by simp [spec_l12Guest.l0] at h, fun _ _ _ _ _ _ _ _ r h => by simp [spec_l12Guest.l1] at h⟩
 | k + 1 => by
  obtain ⟨ih0, ih1, ih2⟩ := spec_l12Guest.mono_l k
  refine ⟨?_, ?_, ?_⟩
  ·intro y0 y1 y2 y3 y4 y5 y6 y7
   unfold spec_l12Guest.j0
   repeat' first
   | (with_reducible exact ih0 _ _ _ _ _ _ _ _)
   | (with_reducible exact ih1 _ _ _ _ _ _ _ _)
   | (with_reducible exact ih2 _ _ _ _ _ _ _ _)
   | (with_reducible exact spec_NextBit.mono _ _ _ _)
   | (with_reducible exact spec_l08Rising.mono _ _)
   | (with_reducible exact spec_l12Group.mono _ _ _ _ _ _ _ _ _)
   | (with_reducible exact LeO.refl _)
   | (with_reducible exact LeO.none _)
   | (with_reducible refine LeO.ite ?_ ?_)
   | (with_reducible refine LeO.bind ?_ (fun _ => ?_))
   | exact ih0 _ _ _ _ _ _ _ _
   | exact ih1 _ _ _ _ _ _ _ _
   | exact ih2 _ _ _ _ _ _ _ _
   | exact spec_NextBit.mono _ _ _ _
   | exact spec_l08Rising.mono _ _
   | exact spec_l12Group.mono _ _ _ _ _ _ _ _ _
   | exact LeO.none _
   | refine LeO.ite ?_ ?_
   | refine LeO.bind ?_ (fun _ => ?_)
  ·intro y0 y1 y2 y3 y4 y5 y6 y7
   unfold spec_l12Guest.l0
   repeat' first
   | (with_reducible exact ih0 _ _ _ _ _ _ _ _)
   | (with_reducible exact ih1 _ _ _ _ _ _ _ _)
   | (with_reducible exact ih2 _ _ _ _ _ _ _ _)
   | (with_reducible exact spec_NextBit.mono _ _ _ _)
   | (with_reducible exact spec_l08Rising.mono _ _)
   | (with_reducible exact spec_l12Group.mono _ _ _ _ _ _ _ _ _)
   | (with_reducible exact LeO.refl _)
   | (with_reducible exact LeO.none _)
   | (with_reducible refine LeO.ite ?_ ?_)
   | (with_reducible refine LeO.bind ?_ (fun _ => ?_))
   | exact ih0 _ _ _ _ _ _ _ _
   | exact ih1 _ _ _ _ _ _ _ _
   | exact ih2 _ _ _ _ _ _ _ _
   | exact spec_NextBit.mono _ _ _ _
   | exact spec_l08Rising.mono _ _
   | exact spec_l12Group.mono _ _ _ _ _ _ _ _ _
   | exact LeO.none _
   | refine LeO.ite ?_ ?_
   | refine LeO.bind ?_ (fun _ => ?_)
  ·intro y0 y1 y2 y3 y4 y5 y6 y7
   unfold spec_l12Guest.l1
   repeat' first
   | (with_reducible exact ih0 _ _ _ _ _ _ _ _)
   | (with_reducible exact ih1 _ _ _ _ _ _ _ _)
   | (with_reducible exact ih2 _ _ _ _ _ _ _ _)
   | (with_reducible exact spec_NextBit.mono _ _ _ _)
   | (with_reducible exact spec_l08Rising.mono _ _)
   | (with_reducible exact spec_l12Group.mono _ _ _ _ _ _ _ _ _)
   | (with_reducible exact LeO.refl _)
   | (with_reducible exact LeO.none _)
   | (with_reducible refine LeO.ite ?_ ?_)
   | (with_reducible refine LeO.bind ?_ (fun _ => ?_))
   | exact ih0 _ _ _ _ _ _ _ _
   | exact ih1 _ _ _ _ _ _ _ _
   | exact ih2 _ _ _ _ _ _ _ _
   | exact spec_NextBit.mono _ _ _ _
   | exact spec_l08Rising.mono _ _
   | exact spec_l12Group.mono _ _ _ _ _ _ _ _ _
   | exact LeO.none _
   | refine LeO.ite ?_ ?_
   | refine LeO.bind ?_ (fun _ => ?_)
theorem spec_l12Guest.mono : ∀ a0 a1 a2 a3 a4 a5 a6 k, LeO (spec_l12Guest.f k a0 a1 a2 a3 a4 a5 a6) (spec_l12Guest.f (k + 1) a0 a1 a2 a3 a4 a5 a6) := by
 intro a0 a1 a2 a3 a4 a5 a6 k
 obtain ⟨ih0, ih1, ih2⟩ := spec_l12Guest.mono_l k
 unfold spec_l12Guest.f
 repeat' first
   | (with_reducible exact ih0 _ _ _ _ _ _ _ _)
   | (with_reducible exact ih1 _ _ _ _ _ _ _ _)
   | (with_reducible exact ih2 _ _ _ _ _ _ _ _)
   | (with_reducible exact spec_NextBit.mono _ _ _ _)
   | (with_reducible exact spec_l08Rising.mono _ _)
   | (with_reducible exact spec_l12Group.mono _ _ _ _ _ _ _ _ _)
   | (with_reducible exact LeO.refl _)
   | (with_reducible exact LeO.none _)
   | (with_reducible refine LeO.ite ?_ ?_)
   | (with_reducible refine LeO.bind ?_ (fun _ => ?_))
   | exact ih0 _ _ _ _ _ _ _ _
   | exact ih1 _ _ _ _ _ _ _ _
   | exact ih2 _ _ _ _ _ _ _ _
   | exact spec_NextBit.mono _ _ _ _
   | exact spec_l08Rising.mono _ _
   | exact spec_l12Group.mono _ _ _ _ _ _ _ _ _
   | exact LeO.none _
   | refine LeO.ite ?_ ?_
   | refine LeO.bind ?_ (fun _ => ?_)
def spec_l12Guest.T12 : Bool × List (List Nat × List Nat) := (true, [([], []), ([], []), ([], []), ([2], [2]), ([], []), ([3, 4], [3, 4]), ([5], [5]), ([0, 1, 6], [0, 1, 6]), ([7], [7])])
def spec_l12Guest.B12 : List Nat := [0, 0, 0, 4, 0, 28, 60, 127, 255]
theorem spec_l12Guest.tab12 : rtab .any (opsOf Try.f45 12) = spec_l12Guest.T12 := by kernel_rfl
theorem spec_l12Guest.bits12 : waitsOk spec_l12Guest.T12.2 spec_l12Guest.B12 = true := by kernel_rfl
set_option maxHeartbeats 8000000 in
set_option maxRecDepth 100000 in
theorem spec_l12Guest.calls (k : Nat) (A0_0 : Option Addr) (c0_0 : Nat) (l0_0 : List ByteArray) (A0_1 : Option Addr) (c0_1 : Nat) (l0_1 : List ByteArray) (A0_2 : Option Addr) (c0_2 : Nat) (l0_2 : List (S90)) (a0_3 : Int) (A1_0 : Option Addr) (c1_0 : Nat) (l1_0 : List (S97)) (a1_1 : ByteArray) (A1_2 : Option Addr) (c1_2 : Nat) (l1_2 : List Int) (r : Bool) (w : World) (hr0_0 : Kd.C Kd.string w A0_0 l0_0.length l0_0) (hc0_0 : l0_0.length ≤ c0_0) (hr0_1 : Kd.C Kd.string w A0_1 l0_1.length l0_1) (hc0_1 : l0_1.length ≤ c0_1) (hr0_2 : Kd.C k90 w A0_2 l0_2.length l0_2) (hc0_2 : l0_2.length ≤ c0_2) (hr1_0 : Kd.C k97 w A1_0 l1_0.length l1_0) (hc1_0 : l1_0.length ≤ c1_0) (hr1_2 : Kd.C (Kd.int .i64) w A1_2 l1_2.length l1_2) (hc1_2 : l1_2.length ≤ c1_2) (h : spec_l12Guest.f k l0_0 l0_1 l0_2 a0_3 l1_0 a1_1 l1_2 = some r) :
  Calls Try.prog 45 #[.agg #[.slice A0_0 l0_0.length c0_0, .slice A0_1 l0_1.length c0_1, .slice A0_2 l0_2.length c0_2, .int .i64 a0_3], .agg #[.slice A1_0 l1_0.length c1_0, .string a1_1, .slice A1_2 l1_2.length c1_2]] w fun e w' => e = .returned (.bool r) ∧ Below w.heap.size w w' := by
 have hu30 := Try.underlying30
 have hu90 := Try.underlying90
 have hu97 := Try.underlying97
 have HR0_0 := Sq.l hr0_0
 have HC0_0 := Sq.l hc0_0
 clear hr0_0 hc0_0
 have HR0_1 := Sq.l hr0_1
 have HC0_1 := Sq.l hc0_1
 clear hr0_1 hc0_1
 have HR0_2 := Sq.l hr0_2
 have HC0_2 := Sq.l hc0_2
 clear hr0_2 hc0_2
 have HR1_0 := Sq.l hr1_0
 have HC1_0 := Sq.l hc1_0
 clear hr1_0 hc1_0
 have HR1_2 := Sq.l hr1_2
 have HC1_2 := Sq.l hc1_2
 clear hr1_2 hc1_2
 have HB := Sq.l (Below.refl w.heap.size w)
 have H : (if (l1_0.length : Int) > 32 then (spec_l12Guest.j0 k true l0_0 l0_1 l0_2 a0_3 l1_0 a1_1 l1_2) else (if (a1_1.size : Int) > 4 then (spec_l12Guest.j0 k true l0_0 l0_1 l0_2 a0_3 l1_0 a1_1 l1_2) else ((spec_l08Rising.f k l1_2).bind fun t137 => (if t137 = true then ((spec_NextBit.f k a1_1 (l1_0.length : Int) true).bind fun t138 => (spec_l12Guest.j0 k (decide (t138 ≥ 0)) l0_0 l0_1 l0_2 a0_3 l1_0 a1_1 l1_2)) else (spec_l12Guest.j0 k true l0_0 l0_1 l0_2 a0_3 l1_0 a1_1 l1_2))))) = some r := h
 clear h
 have HC3 := Sq.l H
 clear H
 go_enter Try.func45, Try.ntmps45
 go_upto_region 1 with (first | ((with_reducible refine gate_dst (N := 2) rfl ?_); (try (refine gate_guard (by rfl) ?_; dsimp only)); refine box_event ?hg (N := 2) ?hd (cs := #[.slice A0_0 l0_0.length c0_0, .slice A0_1 l0_1.length c0_1, .slice A0_2 l0_2.length c0_2, .int .i64 a0_3]) (t := 30) ?hr ?_; (case hd => rfl); (case hg => rfl); (case hr => first | (go_simp; done) | (go_simp; rfl)); intro gb135 hg w4 hbox hb; have n0_ := Sq.l (Sq.a4 (by repeat (first | (with_reducible first | exact HB.out | apply Sq.i | apply Sq.j | apply Sq.k) | exact HB.out)) hb); have n1_ := Sq.l (hbox); have n2_ := Sq.l ((by rw [hg]; exact (Sq.a5 (by repeat (first | (with_reducible first | exact HB.out | apply Sq.i | apply Sq.j | apply Sq.k) | exact HB.out))) : w.heap.size ≤ gb135)); have n3_ := Sq.l ((by rw [hg]; exact (Sq.a5 (by repeat (first | (with_reducible first | exact HB.out | apply Sq.i | apply Sq.j | apply Sq.k) | exact HB.out))) : w.heap.size ≤ gb135)); clear HB; have HB := n0_; have BK135 := n1_; have GW135 := n2_; have GE135 := n3_; clear n0_ n1_ n2_ n3_; clear hb hbox hg) | ((with_reducible refine gate_dst (N := 3) rfl ?_); (try (refine gate_guard (by rfl) ?_; dsimp only)); refine box_event ?hg (N := 3) ?hd (cs := #[.slice A1_0 l1_0.length c1_0, .string a1_1, .slice A1_2 l1_2.length c1_2]) (t := 90) ?hr ?_; (case hd => rfl); (case hg => rfl); (case hr => first | (go_simp; done) | (go_simp; rfl)); intro gb136 hg w5 hbox hb; have n0_ := Sq.l (Sq.m (g := gb135) (o := .cells #[.slice A0_0 l0_0.length c0_0, .slice A0_1 l0_1.length c0_1, .slice A0_2 l0_2.length c0_2, .int .i64 a0_3] 30 (0, 0)) (by (with_reducible repeat (first | refine Sq.d ?_ _ | refine Sq.e ?_ | refine Sq.f ?_ _)); exact BK135.out) hb); have n1_ := Sq.l (Sq.a4 (by repeat (first | (with_reducible first | exact HB.out | apply Sq.i | apply Sq.j | apply Sq.k | refine Sq.h ?_ GE135.out) | exact HB.out)) hb); have n2_ := Sq.l (hbox); have n3_ := Sq.l ((by rw [hg]; exact (Sq.a5 (by repeat (first | (with_reducible first | exact HB.out | apply Sq.i | apply Sq.j | apply Sq.k | refine Sq.h ?_ GE135.out) | exact HB.out))) : w.heap.size ≤ gb136)); have n4_ := Sq.l ((by rw [hg]; exact (Sq.a5 (by repeat (first | (with_reducible first | exact HB.out | apply Sq.i | apply Sq.j | apply Sq.k | refine Sq.h ?_ GE135.out) | exact HB.out))) : w.heap.size ≤ gb136)); have n5_ := Sq.l ((by rw [hg]; exact Nat.ne_of_lt (blk_lt (g := gb135) (o := .cells #[.slice A0_0 l0_0.length c0_0, .slice A0_1 l0_1.length c0_1, .slice A0_2 l0_2.length c0_2, .int .i64 a0_3] 30 (0, 0)) (by (with_reducible repeat (first | refine Sq.d ?_ _ | refine Sq.e ?_ | refine Sq.f ?_ _)); exact BK135.out)) : gb135 ≠ gb136)); have n6_ := Sq.l ((by rw [hg]; exact Nat.ne_of_gt (blk_lt (g := gb135) (o := .cells #[.slice A0_0 l0_0.length c0_0, .slice A0_1 l0_1.length c0_1, .slice A0_2 l0_2.length c0_2, .int .i64 a0_3] 30 (0, 0)) (by (with_reducible repeat (first | refine Sq.d ?_ _ | refine Sq.e ?_ | refine Sq.f ?_ _)); exact BK135.out)) : gb136 ≠ gb135)); clear BK135; clear HB; have BK135 := n0_; have HB := n1_; have BK136 := n2_; have GW136 := n3_; have GE136 := n4_; have NB135_136 := n5_; have NB136_135 := n6_; clear n0_ n1_ n2_ n3_ n4_ n5_ n6_; clear hb hbox hg))
 (try simp only [Act.put, List.setIfInBounds_toArray, List.set_cons_zero, List.set_cons_succ])
 go_cut [32] (fun v32 wc => ∃ (kq : Nat) (x32_2 : Bool), v32 = .bool x32_2 ∧ Aside0 (spec_l12Guest.j0 kq x32_2 l0_0 l0_1 l0_2 a0_3 l1_0 a1_1 l1_2 = some r) ∧ Aside0 (kq ≤ k) ∧ Aside0 (wc.heap[gb135]? = some (.cells #[(.slice A0_0 l0_0.length c0_0), (.slice A0_1 l0_1.length c0_1), (.slice A0_2 l0_2.length c0_2), .int .i64 a0_3] 30 (0, 0))) ∧ Aside0 (wc.heap[gb136]? = some (.cells #[(.slice A1_0 l1_0.length c1_0), .string a1_1, (.slice A1_2 l1_2.length c1_2)] 90 (0, 0))) ∧ Aside0 (Below w.heap.size w wc))
 case first =>
  have H := HC3.out
  clear HC3
  by_cases c6 : (l1_0.length : Int) > 32
  ·rw [if_pos c6] at H
   have c6b0 : decide (32 < (l1_0.length : Int)) = true := decide_eq_true c6
   have c6b1 : decide (32 < l1_0.length) = true := decide_eq_true (by omega)
   clear c6
   (first | rw [c6b0] | (simp only [i64_w, i32_w]; rw [c6b0]) | skip)
   have H' := Sq.l H
   clear H; have hnb7 := NB136_135.out; have hnc7 := NB135_136.out
   have hcz8_0 : w5.cell? ⟨gb136, 0, none⟩ = some (.slice A1_0 l1_0.length c1_0) := (Sq.o BK136.out 0).trans rfl
   have hcz8_1 : w5.cell? ⟨gb136, 1, none⟩ = some (.string a1_1) := (Sq.o BK136.out 1).trans rfl
   have hcz8_2 : w5.cell? ⟨gb136, 2, none⟩ = some (.slice A1_2 l1_2.length c1_2) := (Sq.o BK136.out 2).trans rfl
   have hfz8_0 := Sq.r BK136.out 0
   have hfz8_1 := Sq.r BK136.out 1
   have hfz8_2 := Sq.r BK136.out 2
   go_wp2
   go_meet
   case rel => exact ⟨_, (true), (by first | rfl | (simp; done) | (simp [*]; done)), H', ⟨by first | omega | exact Nat.le_refl _⟩, ⟨by (with_reducible repeat (first | refine Sq.d ?_ _ | refine Sq.e ?_ | refine Sq.f ?_ _)); exact BK135.out⟩, ⟨by (with_reducible repeat (first | refine Sq.d ?_ _ | refine Sq.e ?_ | refine Sq.f ?_ _)); exact BK136.out⟩, ⟨by repeat (first | (with_reducible first | exact HB.out | apply Sq.i | apply Sq.j | apply Sq.k | refine Sq.h ?_ GE135.out | refine Sq.h ?_ GE136.out) | exact HB.out)⟩⟩
  ·rw [if_neg c6] at H
   have c6b0 : decide (32 < (l1_0.length : Int)) = false := decide_eq_false c6
   have c6b1 : decide (32 < l1_0.length) = false := decide_eq_false (by omega)
   clear c6
   (first | rw [c6b0] | (simp only [i64_w, i32_w]; rw [c6b0]) | skip)
   by_cases c9 : (a1_1.size : Int) > 4
   ·rw [if_pos c9] at H
    have c9b0 : decide (4 < (a1_1.size : Int)) = true := decide_eq_true c9
    have c9b1 : decide (4 < a1_1.size) = true := decide_eq_true (by omega)
    clear c9
    have H' := Sq.l H
    clear H; have hnb10 := NB136_135.out; have hnc10 := NB135_136.out
    have hcz11_0 : w5.cell? ⟨gb136, 0, none⟩ = some (.slice A1_0 l1_0.length c1_0) := (Sq.o BK136.out 0).trans rfl
    have hcz11_1 : w5.cell? ⟨gb136, 1, none⟩ = some (.string a1_1) := (Sq.o BK136.out 1).trans rfl
    have hcz11_2 : w5.cell? ⟨gb136, 2, none⟩ = some (.slice A1_2 l1_2.length c1_2) := (Sq.o BK136.out 2).trans rfl
    have hfz11_0 := Sq.r BK136.out 0
    have hfz11_1 := Sq.r BK136.out 1
    have hfz11_2 := Sq.r BK136.out 2
    go_wp2
    go_meet
    case rel => exact ⟨_, (true), (by first | rfl | (simp; done) | (simp [*]; done)), H', ⟨by first | omega | exact Nat.le_refl _⟩, ⟨by (with_reducible repeat (first | refine Sq.d ?_ _ | refine Sq.e ?_ | refine Sq.f ?_ _)); exact BK135.out⟩, ⟨by (with_reducible repeat (first | refine Sq.d ?_ _ | refine Sq.e ?_ | refine Sq.f ?_ _)); exact BK136.out⟩, ⟨by repeat (first | (with_reducible first | exact HB.out | apply Sq.i | apply Sq.j | apply Sq.k | refine Sq.h ?_ GE135.out | refine Sq.h ?_ GE136.out) | exact HB.out)⟩⟩
   ·rw [if_neg c9] at H
    have c9b0 : decide (4 < (a1_1.size : Int)) = false := decide_eq_false c9
    have c9b1 : decide (4 < a1_1.size) = false := decide_eq_false (by omega)
    clear c9
    replace H := Option.bind_eq_some_iff.mp H
    obtain ⟨t137, A120, H⟩ := H
    (try dsimp only at H)
    have A12 := Sq.l A120
    clear A120
    by_cases c13 : t137 = true
    ·subst c13
     rw [if_pos rfl] at H
     replace H := Option.bind_eq_some_iff.mp H
     obtain ⟨t138, A140, H⟩ := H
     (try dsimp only at H)
     have A14 := Sq.l A140
     clear A140
     have H' := Sq.l H
     clear H; have hnb15 := NB136_135.out; have hnc15 := NB135_136.out
     have hcz16_0 : w5.cell? ⟨gb136, 0, none⟩ = some (.slice A1_0 l1_0.length c1_0) := (Sq.o BK136.out 0).trans rfl
     have hcz16_1 : w5.cell? ⟨gb136, 1, none⟩ = some (.string a1_1) := (Sq.o BK136.out 1).trans rfl
     have hcz16_2 : w5.cell? ⟨gb136, 2, none⟩ = some (.slice A1_2 l1_2.length c1_2) := (Sq.o BK136.out 2).trans rfl
     have hfz16_0 := Sq.r BK136.out 0
     have hfz16_1 := Sq.r BK136.out 1
     have hfz16_2 := Sq.r BK136.out 2
     go_wp2_with (first | (go_at_call 99; (with_reducible refine (spec_l08Rising.calls k _ _ l1_2 true _ ?side1 ?side2 A12.out).mono ?_); (case side1 => repeat (first | exact (Sq.a1 HR1_2.out HB.out) | (with_reducible refine Sq.s ?_ _) | (with_reducible refine Sq.t ?_ _) | (with_reducible refine Sq.u ?_))); (case side2 => exact HC1_2.out); rintro e w' ⟨rfl, ⟨nd, rfl⟩⟩) | (go_at_call 100; (with_reducible refine (spec_NextBit.calls k a1_1 (l1_0.length : Int) true t138 _ A14.out).mono ?_); rintro e w' ⟨rfl, ⟨nd, rfl⟩⟩))
     go_meet
     case rel => exact ⟨_, (decide (t138 ≥ 0)), (by first | rfl | (simp; done) | (simp [*]; done)), H', ⟨by first | omega | exact Nat.le_refl _⟩, ⟨by (with_reducible repeat (first | refine Sq.d ?_ _ | refine Sq.e ?_ | refine Sq.f ?_ _)); exact BK135.out⟩, ⟨by (with_reducible repeat (first | refine Sq.d ?_ _ | refine Sq.e ?_ | refine Sq.f ?_ _)); exact BK136.out⟩, ⟨by repeat (first | (with_reducible first | exact HB.out | apply Sq.i | apply Sq.j | apply Sq.k | refine Sq.h ?_ GE135.out | refine Sq.h ?_ GE136.out) | exact HB.out)⟩⟩
    ·replace c13 := Bool.eq_false_iff.mpr c13
     subst c13
     rw [if_neg (show ¬ (false = true) by decide)] at H
     have H' := Sq.l H
     clear H; have hnb17 := NB136_135.out; have hnc17 := NB135_136.out
     have hcz18_0 : w5.cell? ⟨gb136, 0, none⟩ = some (.slice A1_0 l1_0.length c1_0) := (Sq.o BK136.out 0).trans rfl
     have hcz18_1 : w5.cell? ⟨gb136, 1, none⟩ = some (.string a1_1) := (Sq.o BK136.out 1).trans rfl
     have hcz18_2 : w5.cell? ⟨gb136, 2, none⟩ = some (.slice A1_2 l1_2.length c1_2) := (Sq.o BK136.out 2).trans rfl
     have hfz18_0 := Sq.r BK136.out 0
     have hfz18_1 := Sq.r BK136.out 1
     have hfz18_2 := Sq.r BK136.out 2
     go_wp2_with (first | (go_at_call 99; (with_reducible refine (spec_l08Rising.calls k _ _ l1_2 false _ ?side1 ?side2 A12.out).mono ?_); (case side1 => repeat (first | exact (Sq.a1 HR1_2.out HB.out) | (with_reducible refine Sq.s ?_ _) | (with_reducible refine Sq.t ?_ _) | (with_reducible refine Sq.u ?_))); (case side2 => exact HC1_2.out); rintro e w' ⟨rfl, ⟨nd, rfl⟩⟩))
     go_meet
     case rel => exact ⟨_, (true), (by first | rfl | (simp; done) | (simp [*]; done)), H', ⟨by first | omega | exact Nat.le_refl _⟩, ⟨by (with_reducible repeat (first | refine Sq.d ?_ _ | refine Sq.e ?_ | refine Sq.f ?_ _)); exact BK135.out⟩, ⟨by (with_reducible repeat (first | refine Sq.d ?_ _ | refine Sq.e ?_ | refine Sq.f ?_ _)); exact BK136.out⟩, ⟨by repeat (first | (with_reducible first | exact HB.out | apply Sq.i | apply Sq.j | apply Sq.k | refine Sq.h ?_ GE135.out | refine Sq.h ?_ GE136.out) | exact HB.out)⟩⟩
 case rest =>
  clear HC3; try clear c1; try clear p2; try clear c4; try clear c6; try clear c6b0; try clear c6b1; try clear c7; try clear c9; try clear c9b0; try clear c9b1; try clear c10; try clear c13; try clear c15; try clear c17; try clear hcz11_0; try clear hcz11_1; try clear hcz11_2; try clear hcz16_0; try clear hcz16_1; try clear hcz16_2; try clear hcz18_0; try clear hcz18_1; try clear hcz18_2; try clear hcz8_0; try clear hcz8_1; try clear hcz8_2; try clear hfz11_0; try clear hfz11_1; try clear hfz11_2; try clear hfz16_0; try clear hfz16_1; try clear hfz16_2; try clear hfz18_0; try clear hfz18_1; try clear hfz18_2; try clear hfz8_0; try clear hfz8_1; try clear hfz8_2
  obtain ⟨kq, x32_2, rfl, HA, HJ2, BK135, BK136, HB⟩ := hcut
  cases kq with
  | zero => exact absurd HA.out (by simp [spec_l12Guest.j0])
  | succ kj2 =>
   have H := HA.out
   clear HA
   simp only [spec_l12Guest.j0] at H
   by_cases c19 : x32_2 = true
   ·subst c19
    rw [if_pos rfl] at H
    obtain rfl := Option.some.inj H
    go_wp2
    go_ret
    exact ⟨by first | rfl | (simp [errW_none, errW_some] <;> rfl) | (simp [*, errW_none, errW_some] <;> rfl), by repeat (first | (with_reducible first | exact HB.out | apply Sq.i | apply Sq.j | apply Sq.k | refine Sq.h ?_ GE135.out | refine Sq.h ?_ GE136.out) | exact HB.out)⟩
   ·replace c19 := Bool.eq_false_iff.mpr c19
    subst c19
    rw [if_neg (show ¬ (false = true) by decide)] at H
    have H' := Sq.l H
    clear H
    go_wp2
    go_loopg [5] kj2 (fun kq v5 w' => ∃ (x5_2 : Int), v5 = .int .i64 x5_2 ∧ Aside0 (spec_l12Guest.l0 kq x5_2 l0_0 l0_1 l0_2 a0_3 l1_0 a1_1 l1_2 = some r) ∧ Aside0 (kq ≤ kj2) ∧ Aside0 (w'.heap[gb135]? = some (.cells #[(.slice A0_0 l0_0.length c0_0), (.slice A0_1 l0_1.length c0_1), (.slice A0_2 l0_2.length c0_2), .int .i64 a0_3] 30 (0, 0))) ∧ Aside0 (w'.heap[gb136]? = some (.cells #[(.slice A1_0 l1_0.length c1_0), .string a1_1, (.slice A1_2 l1_2.length c1_2)] 90 (0, 0))) ∧ Aside0 (Below w.heap.size w w'))
    case atStart => exact ⟨(0), (by first | rfl | (simp; done) | (simp [*]; done)), H', ⟨Nat.le_refl _⟩, ⟨by (with_reducible repeat (first | refine Sq.d ?_ _ | refine Sq.e ?_ | refine Sq.f ?_ _)); exact BK135.out⟩, ⟨by (with_reducible repeat (first | refine Sq.d ?_ _ | refine Sq.e ?_ | refine Sq.f ?_ _)); exact BK136.out⟩, ⟨by repeat (first | (with_reducible first | exact HB.out | apply Sq.i | apply Sq.j | apply Sq.k | refine Sq.h ?_ GE135.out | refine Sq.h ?_ GE136.out) | exact HB.out)⟩⟩
    case round =>
     clear H'
     try clear c1; try clear p2; try clear c4; try clear c6; try clear c6b0; try clear c6b1; try clear c7; try clear c9; try clear c9b0; try clear c9b1; try clear c10; try clear c13; try clear c15; try clear c17; try clear c19; try clear hcz11_0; try clear hcz11_1; try clear hcz11_2; try clear hcz16_0; try clear hcz16_1; try clear hcz16_2; try clear hcz18_0; try clear hcz18_1; try clear hcz18_2; try clear hcz8_0; try clear hcz8_1; try clear hcz8_2; try clear hfz11_0; try clear hfz11_1; try clear hfz11_2; try clear hfz16_0; try clear hfz16_1; try clear hfz16_2; try clear hfz18_0; try clear hfz18_1; try clear hfz18_2; try clear hfz8_0; try clear hfz8_1; try clear hfz8_2; try clear p2
     obtain ⟨x5_2, rfl, HA, HK2, BK135, BK136, HB⟩ := hrel
     cases gk with
     | zero => exact absurd HA.out (by simp [spec_l12Guest.l0])
     | succ k2 =>
      have H := HA.out
      clear HA
      simp only [spec_l12Guest.l0] at H
      by_cases c20 : x5_2 < (l1_0.length : Int)
      ·rw [if_pos c20] at H
       have c20b0 : decide (x5_2 < (l1_0.length : Int)) = true := decide_eq_true c20
       clear c20
       by_cases c21 : 0 ≤ x5_2
       ·rw [if_pos c21] at H
        have c21b0 : decide (0 ≤ x5_2) = true := decide_eq_true c21
        clear c21
        replace H := Option.bind_eq_some_iff.mp H
        obtain ⟨t141, A220, H⟩ := H
        (try dsimp only at H)
        have A22 := Sq.l A220
        clear A220
        by_cases c23 : t141 = true
        ·subst c23
         rw [if_pos rfl] at H
         by_cases c24 : ((rd_T97 l1_0 x5_2).f2) < 0
         ·rw [if_pos c24] at H
          have c24b0 : decide (((rd_T97 l1_0 x5_2).f2) < 0) = true := decide_eq_true c24
          clear c24
          obtain rfl := Option.some.inj H
          have hnb25 := NB136_135.out; have hnc25 := NB135_136.out
          have hcz26_0 : wr.cell? ⟨gb136, 0, none⟩ = some (.slice A1_0 l1_0.length c1_0) := (Sq.o BK136.out 0).trans rfl
          have hcz26_1 : wr.cell? ⟨gb136, 1, none⟩ = some (.string a1_1) := (Sq.o BK136.out 1).trans rfl
          have hcz26_2 : wr.cell? ⟨gb136, 2, none⟩ = some (.slice A1_2 l1_2.length c1_2) := (Sq.o BK136.out 2).trans rfl
          have hfz26_0 := Sq.r BK136.out 0
          have hfz26_1 := Sq.r BK136.out 1
          have hfz26_2 := Sq.r BK136.out 2
          have p139 : 0 ≤ (x5_2 : Int) := of_decide_eq_true (by first | (with_reducible assumption) | assumption)
          have q139 : x5_2 < (l1_0.length : Int) := of_decide_eq_true (by first | (with_reducible assumption) | assumption)
          obtain ⟨ad139, e139, hx139_0, hx139_1, hx139_2⟩ := at_T97 HR1_0.out x5_2 p139 q139
          cases e139
          replace hx139_0 := (HB.out.cell (World.block_lt_of_cell? w _ hx139_0)).trans hx139_0
          replace hx139_1 := (HB.out.cell (World.block_lt_of_cell? w _ hx139_1)).trans hx139_1
          replace hx139_2 := (HB.out.cell (World.block_lt_of_cell? w _ hx139_2)).trans hx139_2
          replace p139 := eq_true p139; replace q139 := eq_true q139
          go_wp2_with (first | ((with_reducible refine gate_dst (N := 6) rfl ?_); (try (refine gate_guard (by rfl) ?_; dsimp only)); refine box_event ?hg (N := 6) ?hd (cs := #[.int .i64 0, .int .i64 0, .int .i64 0]) (t := 97) ?hr ?_; (case hd => rfl); (case hg => rfl); (case hr => first | (go_simp; done) | (go_simp; rfl)); intro gb140 hg w27 hbox hb; have n0_ := Sq.l (Sq.m (g := gb135) (o := .cells #[.slice A0_0 l0_0.length c0_0, .slice A0_1 l0_1.length c0_1, .slice A0_2 l0_2.length c0_2, .int .i64 a0_3] 30 (0, 0)) (by (with_reducible repeat (first | refine Sq.d ?_ _ | refine Sq.e ?_ | refine Sq.f ?_ _)); exact BK135.out) hb); have n1_ := Sq.l (Sq.m (g := gb136) (o := .cells #[.slice (some ad139) l1_0.length c1_0, .string a1_1, .slice A1_2 l1_2.length c1_2] 90 (0, 0)) (by (with_reducible repeat (first | refine Sq.d ?_ _ | refine Sq.e ?_ | refine Sq.f ?_ _)); exact BK136.out) hb); have n2_ := Sq.l (Sq.a4 (by repeat (first | (with_reducible first | exact HB.out | apply Sq.i | apply Sq.j | apply Sq.k | refine Sq.h ?_ GE135.out | refine Sq.h ?_ GE136.out) | exact HB.out)) hb); have n3_ := Sq.l (hbox); have n4_ := Sq.l ((by rw [hg]; exact (Sq.a5 (by repeat (first | (with_reducible first | exact HB.out | apply Sq.i | apply Sq.j | apply Sq.k | refine Sq.h ?_ GE135.out | refine Sq.h ?_ GE136.out) | exact HB.out))) : w.heap.size ≤ gb140)); have n5_ := Sq.l ((by rw [hg]; exact (Sq.a5 (by repeat (first | (with_reducible first | exact HB.out | apply Sq.i | apply Sq.j | apply Sq.k | refine Sq.h ?_ GE135.out | refine Sq.h ?_ GE136.out) | exact HB.out))) : w.heap.size ≤ gb140)); have n6_ := Sq.l ((by rw [hg]; exact Nat.ne_of_lt (blk_lt (g := gb135) (o := .cells #[.slice A0_0 l0_0.length c0_0, .slice A0_1 l0_1.length c0_1, .slice A0_2 l0_2.length c0_2, .int .i64 a0_3] 30 (0, 0)) (by (with_reducible repeat (first | refine Sq.d ?_ _ | refine Sq.e ?_ | refine Sq.f ?_ _)); exact BK135.out)) : gb135 ≠ gb140)); have n7_ := Sq.l ((by rw [hg]; exact Nat.ne_of_gt (blk_lt (g := gb135) (o := .cells #[.slice A0_0 l0_0.length c0_0, .slice A0_1 l0_1.length c0_1, .slice A0_2 l0_2.length c0_2, .int .i64 a0_3] 30 (0, 0)) (by (with_reducible repeat (first | refine Sq.d ?_ _ | refine Sq.e ?_ | refine Sq.f ?_ _)); exact BK135.out)) : gb140 ≠ gb135)); have n8_ := Sq.l ((by rw [hg]; exact Nat.ne_of_lt (blk_lt (g := gb136) (o := .cells #[.slice (some ad139) l1_0.length c1_0, .string a1_1, .slice A1_2 l1_2.length c1_2] 90 (0, 0)) (by (with_reducible repeat (first | refine Sq.d ?_ _ | refine Sq.e ?_ | refine Sq.f ?_ _)); exact BK136.out)) : gb136 ≠ gb140)); have n9_ := Sq.l ((by rw [hg]; exact Nat.ne_of_gt (blk_lt (g := gb136) (o := .cells #[.slice (some ad139) l1_0.length c1_0, .string a1_1, .slice A1_2 l1_2.length c1_2] 90 (0, 0)) (by (with_reducible repeat (first | refine Sq.d ?_ _ | refine Sq.e ?_ | refine Sq.f ?_ _)); exact BK136.out)) : gb140 ≠ gb136)); clear BK135; clear BK136; clear HB; have BK135 := n0_; have BK136 := n1_; have HB := n2_; have BK140 := n3_; have GW140 := n4_; have GE140 := n5_; have NB135_140 := n6_; have NB140_135 := n7_; have NB136_140 := n8_; have NB140_136 := n9_; clear n0_ n1_ n2_ n3_ n4_ n5_ n6_ n7_ n8_ n9_; clear hb hbox hg; have hnb28 := NB140_135.out; have hnc28 := NB135_140.out; have hnb29 := NB140_136.out; have hnc29 := NB136_140.out; have hcz30_0 : w27.cell? ⟨gb140, 0, none⟩ = some (.int .i64 0) := (Sq.o BK140.out 0).trans rfl; have hcz30_1 : w27.cell? ⟨gb140, 1, none⟩ = some (.int .i64 0) := (Sq.o BK140.out 1).trans rfl; have hcz30_2 : w27.cell? ⟨gb140, 2, none⟩ = some (.int .i64 0) := (Sq.o BK140.out 2).trans rfl; have hfz30_0 := Sq.r BK140.out 0; have hfz30_1 := Sq.r BK140.out 1; have hfz30_2 := Sq.r BK140.out 2; have hcz31_0 : w27.cell? ⟨gb135, 0, none⟩ = some (.slice A0_0 l0_0.length c0_0) := (Sq.o BK135.out 0).trans rfl; have hcz31_1 : w27.cell? ⟨gb135, 1, none⟩ = some (.slice A0_1 l0_1.length c0_1) := (Sq.o BK135.out 1).trans rfl; have hcz31_2 : w27.cell? ⟨gb135, 2, none⟩ = some (.slice A0_2 l0_2.length c0_2) := (Sq.o BK135.out 2).trans rfl; have hcz31_3 : w27.cell? ⟨gb135, 3, none⟩ = some (.int .i64 a0_3) := (Sq.o BK135.out 3).trans rfl; have hfz31_0 := Sq.r BK135.out 0; have hfz31_1 := Sq.r BK135.out 1; have hfz31_2 := Sq.r BK135.out 2; have hfz31_3 := Sq.r BK135.out 3) | ((with_reducible refine gate_callee (f := 101) rfl ?_); refine goesL_ (some 47) rfl rfl Try.func101 (by kernel_rfl) rfl #[.agg #[.slice A0_0 l0_0.length c0_0, .slice A0_1 l0_1.length c0_1, .slice A0_2 l0_2.length c0_2, .int .i64 a0_3], .agg #[.int .i64 ((rd_T97 l1_0 x5_2).f0), .int .i64 ((rd_T97 l1_0 x5_2).f1), .int .i64 ((rd_T97 l1_0 x5_2).f2)]] rfl (by (try simp only [List.map_toArray, List.map_cons, List.map_nil]); first | done | rfl | (simp only [List.length_drop, List.length_take]; rfl)) ?_; (with_reducible refine (spec_l12Leads.calls _ _ l0_0 _ _ l0_1 _ _ l0_2 a0_3 ((rd_T97 l1_0 x5_2).f0) ((rd_T97 l1_0 x5_2).f1) ((rd_T97 l1_0 x5_2).f2) true _ ?side1 ?side2 ?side3 ?side4 ?side5 ?side6 A22.out).mono ?_); (case side1 => exact Sq.a1 HR0_0.out (by repeat (first | (with_reducible first | exact HB.out | apply Sq.i | apply Sq.j | apply Sq.k | refine Sq.h ?_ GE135.out | refine Sq.h ?_ GE136.out | refine Sq.h ?_ GE140.out) | exact HB.out))); (case side2 => exact HC0_0.out); (case side3 => exact Sq.a1 HR0_1.out (by repeat (first | (with_reducible first | exact HB.out | apply Sq.i | apply Sq.j | apply Sq.k | refine Sq.h ?_ GE135.out | refine Sq.h ?_ GE136.out | refine Sq.h ?_ GE140.out) | exact HB.out))); (case side4 => exact HC0_1.out); (case side5 => exact Sq.a1 HR0_2.out (by repeat (first | (with_reducible first | exact HB.out | apply Sq.i | apply Sq.j | apply Sq.k | refine Sq.h ?_ GE135.out | refine Sq.h ?_ GE136.out | refine Sq.h ?_ GE140.out) | exact HB.out))); (case side6 => exact HC0_2.out); rintro e w32 ⟨rfl, hb⟩; refine ⟨_, rfl, ?_⟩; have n0_ := Sq.l (Sq.m (g := gb135) (o := .cells #[.slice A0_0 l0_0.length c0_0, .slice A0_1 l0_1.length c0_1, .slice A0_2 l0_2.length c0_2, .int .i64 a0_3] 30 (0, 0)) (by (with_reducible repeat (first | refine Sq.d ?_ _ | refine Sq.e ?_ | refine Sq.f ?_ _)); refine Sq.B3 ?_ NB135_140.out; (with_reducible repeat (first | refine Sq.d ?_ _ | refine Sq.e ?_ | refine Sq.f ?_ _)); exact BK135.out) hb); have n1_ := Sq.l (Sq.m (g := gb136) (o := .cells #[.slice (some ad139) l1_0.length c1_0, .string a1_1, .slice A1_2 l1_2.length c1_2] 90 (0, 0)) (by (with_reducible repeat (first | refine Sq.d ?_ _ | refine Sq.e ?_ | refine Sq.f ?_ _)); refine Sq.B3 ?_ NB136_140.out; (with_reducible repeat (first | refine Sq.d ?_ _ | refine Sq.e ?_ | refine Sq.f ?_ _)); exact BK136.out) hb); have n2_ := Sq.l (Sq.m (g := gb140) (o := .cells #[.int .i64 ((rd_T97 l1_0 x5_2).f0), .int .i64 ((rd_T97 l1_0 x5_2).f1), .int .i64 ((rd_T97 l1_0 x5_2).f2)] 97 (0, 0)) (by (with_reducible repeat (first | refine Sq.d ?_ _ | refine Sq.e ?_ | refine Sq.f ?_ _)); refine Sq.v (cs := #[.int .i64 ((rd_T97 l1_0 x5_2).f0), .int .i64 ((rd_T97 l1_0 x5_2).f1), .int .i64 0]) ?_ 2 _ rfl; (with_reducible repeat (first | refine Sq.d ?_ _ | refine Sq.e ?_ | refine Sq.f ?_ _)); refine Sq.v (cs := #[.int .i64 ((rd_T97 l1_0 x5_2).f0), .int .i64 0, .int .i64 0]) ?_ 1 _ rfl; (with_reducible repeat (first | refine Sq.d ?_ _ | refine Sq.e ?_ | refine Sq.f ?_ _)); refine Sq.v (cs := #[.int .i64 0, .int .i64 0, .int .i64 0]) ?_ 0 _ rfl; (with_reducible repeat (first | refine Sq.d ?_ _ | refine Sq.e ?_ | refine Sq.f ?_ _)); exact BK140.out) hb); have n3_ := Sq.l (Sq.a4 (by repeat (first | (with_reducible first | exact HB.out | apply Sq.i | apply Sq.j | apply Sq.k | refine Sq.h ?_ GE135.out | refine Sq.h ?_ GE136.out | refine Sq.h ?_ GE140.out) | exact HB.out)) hb); clear BK135; clear BK136; clear BK140; clear HB; have BK135 := n0_; have BK136 := n1_; have BK140 := n2_; have HB := n3_; clear n0_ n1_ n2_ n3_; (try clear hb); (try clear hb2); (try clear hk); (try clear hi); have hcz33_0 : w32.cell? ⟨gb140, 0, none⟩ = some (.int .i64 ((rd_T97 l1_0 x5_2).f0)) := (Sq.o BK140.out 0).trans rfl; have hcz33_1 : w32.cell? ⟨gb140, 1, none⟩ = some (.int .i64 ((rd_T97 l1_0 x5_2).f1)) := (Sq.o BK140.out 1).trans rfl; have hcz33_2 : w32.cell? ⟨gb140, 2, none⟩ = some (.int .i64 ((rd_T97 l1_0 x5_2).f2)) := (Sq.o BK140.out 2).trans rfl; have hfz33_0 := Sq.r BK140.out 0; have hfz33_1 := Sq.r BK140.out 1; have hfz33_2 := Sq.r BK140.out 2))
          go_ret
          exact ⟨by first | rfl | (simp [errW_none, errW_some] <;> rfl) | (simp [*, errW_none, errW_some] <;> rfl), by repeat (first | (with_reducible first | exact HB.out | apply Sq.i | apply Sq.j | apply Sq.k | refine Sq.h ?_ GE135.out | refine Sq.h ?_ GE136.out | refine Sq.h ?_ GE140.out) | exact HB.out)⟩
         ·rw [if_neg c24] at H
          have c24b0 : decide (((rd_T97 l1_0 x5_2).f2) < 0) = false := decide_eq_false c24
          clear c24
          by_cases c34 : ((rd_T97 l1_0 x5_2).f2) > a0_3
          ·rw [if_pos c34] at H
           have c34b0 : decide (a0_3 < ((rd_T97 l1_0 x5_2).f2)) = true := decide_eq_true c34
           clear c34
           obtain rfl := Option.some.inj H
           have hnb35 := NB136_135.out; have hnc35 := NB135_136.out
           have hcz36_0 : wr.cell? ⟨gb136, 0, none⟩ = some (.slice A1_0 l1_0.length c1_0) := (Sq.o BK136.out 0).trans rfl
           have hcz36_1 : wr.cell? ⟨gb136, 1, none⟩ = some (.string a1_1) := (Sq.o BK136.out 1).trans rfl
           have hcz36_2 : wr.cell? ⟨gb136, 2, none⟩ = some (.slice A1_2 l1_2.length c1_2) := (Sq.o BK136.out 2).trans rfl
           have hfz36_0 := Sq.r BK136.out 0
           have hfz36_1 := Sq.r BK136.out 1
           have hfz36_2 := Sq.r BK136.out 2
           have p139 : 0 ≤ (x5_2 : Int) := of_decide_eq_true (by first | (with_reducible assumption) | assumption)
           have q139 : x5_2 < (l1_0.length : Int) := of_decide_eq_true (by first | (with_reducible assumption) | assumption)
           obtain ⟨ad139, e139, hx139_0, hx139_1, hx139_2⟩ := at_T97 HR1_0.out x5_2 p139 q139
           cases e139
           replace hx139_0 := (HB.out.cell (World.block_lt_of_cell? w _ hx139_0)).trans hx139_0
           replace hx139_1 := (HB.out.cell (World.block_lt_of_cell? w _ hx139_1)).trans hx139_1
           replace hx139_2 := (HB.out.cell (World.block_lt_of_cell? w _ hx139_2)).trans hx139_2
           replace p139 := eq_true p139; replace q139 := eq_true q139
           go_wp2_with (first | ((with_reducible refine gate_dst (N := 6) rfl ?_); (try (refine gate_guard (by rfl) ?_; dsimp only)); refine box_event ?hg (N := 6) ?hd (cs := #[.int .i64 0, .int .i64 0, .int .i64 0]) (t := 97) ?hr ?_; (case hd => rfl); (case hg => rfl); (case hr => first | (go_simp; done) | (go_simp; rfl)); intro gb140 hg w37 hbox hb; have n0_ := Sq.l (Sq.m (g := gb135) (o := .cells #[.slice A0_0 l0_0.length c0_0, .slice A0_1 l0_1.length c0_1, .slice A0_2 l0_2.length c0_2, .int .i64 a0_3] 30 (0, 0)) (by (with_reducible repeat (first | refine Sq.d ?_ _ | refine Sq.e ?_ | refine Sq.f ?_ _)); exact BK135.out) hb); have n1_ := Sq.l (Sq.m (g := gb136) (o := .cells #[.slice (some ad139) l1_0.length c1_0, .string a1_1, .slice A1_2 l1_2.length c1_2] 90 (0, 0)) (by (with_reducible repeat (first | refine Sq.d ?_ _ | refine Sq.e ?_ | refine Sq.f ?_ _)); exact BK136.out) hb); have n2_ := Sq.l (Sq.a4 (by repeat (first | (with_reducible first | exact HB.out | apply Sq.i | apply Sq.j | apply Sq.k | refine Sq.h ?_ GE135.out | refine Sq.h ?_ GE136.out) | exact HB.out)) hb); have n3_ := Sq.l (hbox); have n4_ := Sq.l ((by rw [hg]; exact (Sq.a5 (by repeat (first | (with_reducible first | exact HB.out | apply Sq.i | apply Sq.j | apply Sq.k | refine Sq.h ?_ GE135.out | refine Sq.h ?_ GE136.out) | exact HB.out))) : w.heap.size ≤ gb140)); have n5_ := Sq.l ((by rw [hg]; exact (Sq.a5 (by repeat (first | (with_reducible first | exact HB.out | apply Sq.i | apply Sq.j | apply Sq.k | refine Sq.h ?_ GE135.out | refine Sq.h ?_ GE136.out) | exact HB.out))) : w.heap.size ≤ gb140)); have n6_ := Sq.l ((by rw [hg]; exact Nat.ne_of_lt (blk_lt (g := gb135) (o := .cells #[.slice A0_0 l0_0.length c0_0, .slice A0_1 l0_1.length c0_1, .slice A0_2 l0_2.length c0_2, .int .i64 a0_3] 30 (0, 0)) (by (with_reducible repeat (first | refine Sq.d ?_ _ | refine Sq.e ?_ | refine Sq.f ?_ _)); exact BK135.out)) : gb135 ≠ gb140)); have n7_ := Sq.l ((by rw [hg]; exact Nat.ne_of_gt (blk_lt (g := gb135) (o := .cells #[.slice A0_0 l0_0.length c0_0, .slice A0_1 l0_1.length c0_1, .slice A0_2 l0_2.length c0_2, .int .i64 a0_3] 30 (0, 0)) (by (with_reducible repeat (first | refine Sq.d ?_ _ | refine Sq.e ?_ | refine Sq.f ?_ _)); exact BK135.out)) : gb140 ≠ gb135)); have n8_ := Sq.l ((by rw [hg]; exact Nat.ne_of_lt (blk_lt (g := gb136) (o := .cells #[.slice (some ad139) l1_0.length c1_0, .string a1_1, .slice A1_2 l1_2.length c1_2] 90 (0, 0)) (by (with_reducible repeat (first | refine Sq.d ?_ _ | refine Sq.e ?_ | refine Sq.f ?_ _)); exact BK136.out)) : gb136 ≠ gb140)); have n9_ := Sq.l ((by rw [hg]; exact Nat.ne_of_gt (blk_lt (g := gb136) (o := .cells #[.slice (some ad139) l1_0.length c1_0, .string a1_1, .slice A1_2 l1_2.length c1_2] 90 (0, 0)) (by (with_reducible repeat (first | refine Sq.d ?_ _ | refine Sq.e ?_ | refine Sq.f ?_ _)); exact BK136.out)) : gb140 ≠ gb136)); clear BK135; clear BK136; clear HB; have BK135 := n0_; have BK136 := n1_; have HB := n2_; have BK140 := n3_; have GW140 := n4_; have GE140 := n5_; have NB135_140 := n6_; have NB140_135 := n7_; have NB136_140 := n8_; have NB140_136 := n9_; clear n0_ n1_ n2_ n3_ n4_ n5_ n6_ n7_ n8_ n9_; clear hb hbox hg; have hnb38 := NB140_135.out; have hnc38 := NB135_140.out; have hnb39 := NB140_136.out; have hnc39 := NB136_140.out; have hcz40_0 : w37.cell? ⟨gb140, 0, none⟩ = some (.int .i64 0) := (Sq.o BK140.out 0).trans rfl; have hcz40_1 : w37.cell? ⟨gb140, 1, none⟩ = some (.int .i64 0) := (Sq.o BK140.out 1).trans rfl; have hcz40_2 : w37.cell? ⟨gb140, 2, none⟩ = some (.int .i64 0) := (Sq.o BK140.out 2).trans rfl; have hfz40_0 := Sq.r BK140.out 0; have hfz40_1 := Sq.r BK140.out 1; have hfz40_2 := Sq.r BK140.out 2; have hcz41_0 : w37.cell? ⟨gb135, 0, none⟩ = some (.slice A0_0 l0_0.length c0_0) := (Sq.o BK135.out 0).trans rfl; have hcz41_1 : w37.cell? ⟨gb135, 1, none⟩ = some (.slice A0_1 l0_1.length c0_1) := (Sq.o BK135.out 1).trans rfl; have hcz41_2 : w37.cell? ⟨gb135, 2, none⟩ = some (.slice A0_2 l0_2.length c0_2) := (Sq.o BK135.out 2).trans rfl; have hcz41_3 : w37.cell? ⟨gb135, 3, none⟩ = some (.int .i64 a0_3) := (Sq.o BK135.out 3).trans rfl; have hfz41_0 := Sq.r BK135.out 0; have hfz41_1 := Sq.r BK135.out 1; have hfz41_2 := Sq.r BK135.out 2; have hfz41_3 := Sq.r BK135.out 3) | ((with_reducible refine gate_callee (f := 101) rfl ?_); refine goesL_ (some 47) rfl rfl Try.func101 (by kernel_rfl) rfl #[.agg #[.slice A0_0 l0_0.length c0_0, .slice A0_1 l0_1.length c0_1, .slice A0_2 l0_2.length c0_2, .int .i64 a0_3], .agg #[.int .i64 ((rd_T97 l1_0 x5_2).f0), .int .i64 ((rd_T97 l1_0 x5_2).f1), .int .i64 ((rd_T97 l1_0 x5_2).f2)]] rfl (by (try simp only [List.map_toArray, List.map_cons, List.map_nil]); first | done | rfl | (simp only [List.length_drop, List.length_take]; rfl)) ?_; (with_reducible refine (spec_l12Leads.calls _ _ l0_0 _ _ l0_1 _ _ l0_2 a0_3 ((rd_T97 l1_0 x5_2).f0) ((rd_T97 l1_0 x5_2).f1) ((rd_T97 l1_0 x5_2).f2) true _ ?side1 ?side2 ?side3 ?side4 ?side5 ?side6 A22.out).mono ?_); (case side1 => exact Sq.a1 HR0_0.out (by repeat (first | (with_reducible first | exact HB.out | apply Sq.i | apply Sq.j | apply Sq.k | refine Sq.h ?_ GE135.out | refine Sq.h ?_ GE136.out | refine Sq.h ?_ GE140.out) | exact HB.out))); (case side2 => exact HC0_0.out); (case side3 => exact Sq.a1 HR0_1.out (by repeat (first | (with_reducible first | exact HB.out | apply Sq.i | apply Sq.j | apply Sq.k | refine Sq.h ?_ GE135.out | refine Sq.h ?_ GE136.out | refine Sq.h ?_ GE140.out) | exact HB.out))); (case side4 => exact HC0_1.out); (case side5 => exact Sq.a1 HR0_2.out (by repeat (first | (with_reducible first | exact HB.out | apply Sq.i | apply Sq.j | apply Sq.k | refine Sq.h ?_ GE135.out | refine Sq.h ?_ GE136.out | refine Sq.h ?_ GE140.out) | exact HB.out))); (case side6 => exact HC0_2.out); rintro e w42 ⟨rfl, hb⟩; refine ⟨_, rfl, ?_⟩; have n0_ := Sq.l (Sq.m (g := gb135) (o := .cells #[.slice A0_0 l0_0.length c0_0, .slice A0_1 l0_1.length c0_1, .slice A0_2 l0_2.length c0_2, .int .i64 a0_3] 30 (0, 0)) (by (with_reducible repeat (first | refine Sq.d ?_ _ | refine Sq.e ?_ | refine Sq.f ?_ _)); refine Sq.B3 ?_ NB135_140.out; (with_reducible repeat (first | refine Sq.d ?_ _ | refine Sq.e ?_ | refine Sq.f ?_ _)); exact BK135.out) hb); have n1_ := Sq.l (Sq.m (g := gb136) (o := .cells #[.slice (some ad139) l1_0.length c1_0, .string a1_1, .slice A1_2 l1_2.length c1_2] 90 (0, 0)) (by (with_reducible repeat (first | refine Sq.d ?_ _ | refine Sq.e ?_ | refine Sq.f ?_ _)); refine Sq.B3 ?_ NB136_140.out; (with_reducible repeat (first | refine Sq.d ?_ _ | refine Sq.e ?_ | refine Sq.f ?_ _)); exact BK136.out) hb); have n2_ := Sq.l (Sq.m (g := gb140) (o := .cells #[.int .i64 ((rd_T97 l1_0 x5_2).f0), .int .i64 ((rd_T97 l1_0 x5_2).f1), .int .i64 ((rd_T97 l1_0 x5_2).f2)] 97 (0, 0)) (by (with_reducible repeat (first | refine Sq.d ?_ _ | refine Sq.e ?_ | refine Sq.f ?_ _)); refine Sq.v (cs := #[.int .i64 ((rd_T97 l1_0 x5_2).f0), .int .i64 ((rd_T97 l1_0 x5_2).f1), .int .i64 0]) ?_ 2 _ rfl; (with_reducible repeat (first | refine Sq.d ?_ _ | refine Sq.e ?_ | refine Sq.f ?_ _)); refine Sq.v (cs := #[.int .i64 ((rd_T97 l1_0 x5_2).f0), .int .i64 0, .int .i64 0]) ?_ 1 _ rfl; (with_reducible repeat (first | refine Sq.d ?_ _ | refine Sq.e ?_ | refine Sq.f ?_ _)); refine Sq.v (cs := #[.int .i64 0, .int .i64 0, .int .i64 0]) ?_ 0 _ rfl; (with_reducible repeat (first | refine Sq.d ?_ _ | refine Sq.e ?_ | refine Sq.f ?_ _)); exact BK140.out) hb); have n3_ := Sq.l (Sq.a4 (by repeat (first | (with_reducible first | exact HB.out | apply Sq.i | apply Sq.j | apply Sq.k | refine Sq.h ?_ GE135.out | refine Sq.h ?_ GE136.out | refine Sq.h ?_ GE140.out) | exact HB.out)) hb); clear BK135; clear BK136; clear BK140; clear HB; have BK135 := n0_; have BK136 := n1_; have BK140 := n2_; have HB := n3_; clear n0_ n1_ n2_ n3_; (try clear hb); (try clear hb2); (try clear hk); (try clear hi); have hcz43_0 : w42.cell? ⟨gb140, 0, none⟩ = some (.int .i64 ((rd_T97 l1_0 x5_2).f0)) := (Sq.o BK140.out 0).trans rfl; have hcz43_1 : w42.cell? ⟨gb140, 1, none⟩ = some (.int .i64 ((rd_T97 l1_0 x5_2).f1)) := (Sq.o BK140.out 1).trans rfl; have hcz43_2 : w42.cell? ⟨gb140, 2, none⟩ = some (.int .i64 ((rd_T97 l1_0 x5_2).f2)) := (Sq.o BK140.out 2).trans rfl; have hfz43_0 := Sq.r BK140.out 0; have hfz43_1 := Sq.r BK140.out 1; have hfz43_2 := Sq.r BK140.out 2; have hcz44_0 : w42.cell? ⟨gb135, 0, none⟩ = some (.slice A0_0 l0_0.length c0_0) := (Sq.o BK135.out 0).trans rfl; have hcz44_1 : w42.cell? ⟨gb135, 1, none⟩ = some (.slice A0_1 l0_1.length c0_1) := (Sq.o BK135.out 1).trans rfl; have hcz44_2 : w42.cell? ⟨gb135, 2, none⟩ = some (.slice A0_2 l0_2.length c0_2) := (Sq.o BK135.out 2).trans rfl; have hcz44_3 : w42.cell? ⟨gb135, 3, none⟩ = some (.int .i64 a0_3) := (Sq.o BK135.out 3).trans rfl; have hfz44_0 := Sq.r BK135.out 0; have hfz44_1 := Sq.r BK135.out 1; have hfz44_2 := Sq.r BK135.out 2; have hfz44_3 := Sq.r BK135.out 3))
           go_ret
           exact ⟨by first | rfl | (simp [errW_none, errW_some] <;> rfl) | (simp [*, errW_none, errW_some] <;> rfl), by repeat (first | (with_reducible first | exact HB.out | apply Sq.i | apply Sq.j | apply Sq.k | refine Sq.h ?_ GE135.out | refine Sq.h ?_ GE136.out | refine Sq.h ?_ GE140.out) | exact HB.out)⟩
          ·rw [if_neg c34] at H
           have c34b0 : decide (a0_3 < ((rd_T97 l1_0 x5_2).f2)) = false := decide_eq_false c34
           clear c34
           have H' := Sq.l H
           clear H; have hnb45 := NB136_135.out; have hnc45 := NB135_136.out
           have hcz46_0 : wr.cell? ⟨gb136, 0, none⟩ = some (.slice A1_0 l1_0.length c1_0) := (Sq.o BK136.out 0).trans rfl
           have hcz46_1 : wr.cell? ⟨gb136, 1, none⟩ = some (.string a1_1) := (Sq.o BK136.out 1).trans rfl
           have hcz46_2 : wr.cell? ⟨gb136, 2, none⟩ = some (.slice A1_2 l1_2.length c1_2) := (Sq.o BK136.out 2).trans rfl
           have hfz46_0 := Sq.r BK136.out 0
           have hfz46_1 := Sq.r BK136.out 1
           have hfz46_2 := Sq.r BK136.out 2
           have p139 : 0 ≤ (x5_2 : Int) := of_decide_eq_true (by first | (with_reducible assumption) | assumption)
           have q139 : x5_2 < (l1_0.length : Int) := of_decide_eq_true (by first | (with_reducible assumption) | assumption)
           obtain ⟨ad139, e139, hx139_0, hx139_1, hx139_2⟩ := at_T97 HR1_0.out x5_2 p139 q139
           cases e139
           replace hx139_0 := (HB.out.cell (World.block_lt_of_cell? w _ hx139_0)).trans hx139_0
           replace hx139_1 := (HB.out.cell (World.block_lt_of_cell? w _ hx139_1)).trans hx139_1
           replace hx139_2 := (HB.out.cell (World.block_lt_of_cell? w _ hx139_2)).trans hx139_2
           replace p139 := eq_true p139; replace q139 := eq_true q139
           go_wp2_with (first | ((with_reducible refine gate_dst (N := 6) rfl ?_); (try (refine gate_guard (by rfl) ?_; dsimp only)); refine box_event ?hg (N := 6) ?hd (cs := #[.int .i64 0, .int .i64 0, .int .i64 0]) (t := 97) ?hr ?_; (case hd => rfl); (case hg => rfl); (case hr => first | (go_simp; done) | (go_simp; rfl)); intro gb140 hg w47 hbox hb; have n0_ := Sq.l (Sq.m (g := gb135) (o := .cells #[.slice A0_0 l0_0.length c0_0, .slice A0_1 l0_1.length c0_1, .slice A0_2 l0_2.length c0_2, .int .i64 a0_3] 30 (0, 0)) (by (with_reducible repeat (first | refine Sq.d ?_ _ | refine Sq.e ?_ | refine Sq.f ?_ _)); exact BK135.out) hb); have n1_ := Sq.l (Sq.m (g := gb136) (o := .cells #[.slice (some ad139) l1_0.length c1_0, .string a1_1, .slice A1_2 l1_2.length c1_2] 90 (0, 0)) (by (with_reducible repeat (first | refine Sq.d ?_ _ | refine Sq.e ?_ | refine Sq.f ?_ _)); exact BK136.out) hb); have n2_ := Sq.l (Sq.a4 (by repeat (first | (with_reducible first | exact HB.out | apply Sq.i | apply Sq.j | apply Sq.k | refine Sq.h ?_ GE135.out | refine Sq.h ?_ GE136.out) | exact HB.out)) hb); have n3_ := Sq.l (hbox); have n4_ := Sq.l ((by rw [hg]; exact (Sq.a5 (by repeat (first | (with_reducible first | exact HB.out | apply Sq.i | apply Sq.j | apply Sq.k | refine Sq.h ?_ GE135.out | refine Sq.h ?_ GE136.out) | exact HB.out))) : w.heap.size ≤ gb140)); have n5_ := Sq.l ((by rw [hg]; exact (Sq.a5 (by repeat (first | (with_reducible first | exact HB.out | apply Sq.i | apply Sq.j | apply Sq.k | refine Sq.h ?_ GE135.out | refine Sq.h ?_ GE136.out) | exact HB.out))) : w.heap.size ≤ gb140)); have n6_ := Sq.l ((by rw [hg]; exact Nat.ne_of_lt (blk_lt (g := gb135) (o := .cells #[.slice A0_0 l0_0.length c0_0, .slice A0_1 l0_1.length c0_1, .slice A0_2 l0_2.length c0_2, .int .i64 a0_3] 30 (0, 0)) (by (with_reducible repeat (first | refine Sq.d ?_ _ | refine Sq.e ?_ | refine Sq.f ?_ _)); exact BK135.out)) : gb135 ≠ gb140)); have n7_ := Sq.l ((by rw [hg]; exact Nat.ne_of_gt (blk_lt (g := gb135) (o := .cells #[.slice A0_0 l0_0.length c0_0, .slice A0_1 l0_1.length c0_1, .slice A0_2 l0_2.length c0_2, .int .i64 a0_3] 30 (0, 0)) (by (with_reducible repeat (first | refine Sq.d ?_ _ | refine Sq.e ?_ | refine Sq.f ?_ _)); exact BK135.out)) : gb140 ≠ gb135)); have n8_ := Sq.l ((by rw [hg]; exact Nat.ne_of_lt (blk_lt (g := gb136) (o := .cells #[.slice (some ad139) l1_0.length c1_0, .string a1_1, .slice A1_2 l1_2.length c1_2] 90 (0, 0)) (by (with_reducible repeat (first | refine Sq.d ?_ _ | refine Sq.e ?_ | refine Sq.f ?_ _)); exact BK136.out)) : gb136 ≠ gb140)); have n9_ := Sq.l ((by rw [hg]; exact Nat.ne_of_gt (blk_lt (g := gb136) (o := .cells #[.slice (some ad139) l1_0.length c1_0, .string a1_1, .slice A1_2 l1_2.length c1_2] 90 (0, 0)) (by (with_reducible repeat (first | refine Sq.d ?_ _ | refine Sq.e ?_ | refine Sq.f ?_ _)); exact BK136.out)) : gb140 ≠ gb136)); clear BK135; clear BK136; clear HB; have BK135 := n0_; have BK136 := n1_; have HB := n2_; have BK140 := n3_; have GW140 := n4_; have GE140 := n5_; have NB135_140 := n6_; have NB140_135 := n7_; have NB136_140 := n8_; have NB140_136 := n9_; clear n0_ n1_ n2_ n3_ n4_ n5_ n6_ n7_ n8_ n9_; clear hb hbox hg; have hnb48 := NB140_135.out; have hnc48 := NB135_140.out; have hnb49 := NB140_136.out; have hnc49 := NB136_140.out; have hcz50_0 : w47.cell? ⟨gb140, 0, none⟩ = some (.int .i64 0) := (Sq.o BK140.out 0).trans rfl; have hcz50_1 : w47.cell? ⟨gb140, 1, none⟩ = some (.int .i64 0) := (Sq.o BK140.out 1).trans rfl; have hcz50_2 : w47.cell? ⟨gb140, 2, none⟩ = some (.int .i64 0) := (Sq.o BK140.out 2).trans rfl; have hfz50_0 := Sq.r BK140.out 0; have hfz50_1 := Sq.r BK140.out 1; have hfz50_2 := Sq.r BK140.out 2; have hcz51_0 : w47.cell? ⟨gb135, 0, none⟩ = some (.slice A0_0 l0_0.length c0_0) := (Sq.o BK135.out 0).trans rfl; have hcz51_1 : w47.cell? ⟨gb135, 1, none⟩ = some (.slice A0_1 l0_1.length c0_1) := (Sq.o BK135.out 1).trans rfl; have hcz51_2 : w47.cell? ⟨gb135, 2, none⟩ = some (.slice A0_2 l0_2.length c0_2) := (Sq.o BK135.out 2).trans rfl; have hcz51_3 : w47.cell? ⟨gb135, 3, none⟩ = some (.int .i64 a0_3) := (Sq.o BK135.out 3).trans rfl; have hfz51_0 := Sq.r BK135.out 0; have hfz51_1 := Sq.r BK135.out 1; have hfz51_2 := Sq.r BK135.out 2; have hfz51_3 := Sq.r BK135.out 3) | ((with_reducible refine gate_callee (f := 101) rfl ?_); refine goesL_ (some 47) rfl rfl Try.func101 (by kernel_rfl) rfl #[.agg #[.slice A0_0 l0_0.length c0_0, .slice A0_1 l0_1.length c0_1, .slice A0_2 l0_2.length c0_2, .int .i64 a0_3], .agg #[.int .i64 ((rd_T97 l1_0 x5_2).f0), .int .i64 ((rd_T97 l1_0 x5_2).f1), .int .i64 ((rd_T97 l1_0 x5_2).f2)]] rfl (by (try simp only [List.map_toArray, List.map_cons, List.map_nil]); first | done | rfl | (simp only [List.length_drop, List.length_take]; rfl)) ?_; (with_reducible refine (spec_l12Leads.calls _ _ l0_0 _ _ l0_1 _ _ l0_2 a0_3 ((rd_T97 l1_0 x5_2).f0) ((rd_T97 l1_0 x5_2).f1) ((rd_T97 l1_0 x5_2).f2) true _ ?side1 ?side2 ?side3 ?side4 ?side5 ?side6 A22.out).mono ?_); (case side1 => exact Sq.a1 HR0_0.out (by repeat (first | (with_reducible first | exact HB.out | apply Sq.i | apply Sq.j | apply Sq.k | refine Sq.h ?_ GE135.out | refine Sq.h ?_ GE136.out | refine Sq.h ?_ GE140.out) | exact HB.out))); (case side2 => exact HC0_0.out); (case side3 => exact Sq.a1 HR0_1.out (by repeat (first | (with_reducible first | exact HB.out | apply Sq.i | apply Sq.j | apply Sq.k | refine Sq.h ?_ GE135.out | refine Sq.h ?_ GE136.out | refine Sq.h ?_ GE140.out) | exact HB.out))); (case side4 => exact HC0_1.out); (case side5 => exact Sq.a1 HR0_2.out (by repeat (first | (with_reducible first | exact HB.out | apply Sq.i | apply Sq.j | apply Sq.k | refine Sq.h ?_ GE135.out | refine Sq.h ?_ GE136.out | refine Sq.h ?_ GE140.out) | exact HB.out))); (case side6 => exact HC0_2.out); rintro e w52 ⟨rfl, hb⟩; refine ⟨_, rfl, ?_⟩; have n0_ := Sq.l (Sq.m (g := gb135) (o := .cells #[.slice A0_0 l0_0.length c0_0, .slice A0_1 l0_1.length c0_1, .slice A0_2 l0_2.length c0_2, .int .i64 a0_3] 30 (0, 0)) (by (with_reducible repeat (first | refine Sq.d ?_ _ | refine Sq.e ?_ | refine Sq.f ?_ _)); refine Sq.B3 ?_ NB135_140.out; (with_reducible repeat (first | refine Sq.d ?_ _ | refine Sq.e ?_ | refine Sq.f ?_ _)); exact BK135.out) hb); have n1_ := Sq.l (Sq.m (g := gb136) (o := .cells #[.slice (some ad139) l1_0.length c1_0, .string a1_1, .slice A1_2 l1_2.length c1_2] 90 (0, 0)) (by (with_reducible repeat (first | refine Sq.d ?_ _ | refine Sq.e ?_ | refine Sq.f ?_ _)); refine Sq.B3 ?_ NB136_140.out; (with_reducible repeat (first | refine Sq.d ?_ _ | refine Sq.e ?_ | refine Sq.f ?_ _)); exact BK136.out) hb); have n2_ := Sq.l (Sq.m (g := gb140) (o := .cells #[.int .i64 ((rd_T97 l1_0 x5_2).f0), .int .i64 ((rd_T97 l1_0 x5_2).f1), .int .i64 ((rd_T97 l1_0 x5_2).f2)] 97 (0, 0)) (by (with_reducible repeat (first | refine Sq.d ?_ _ | refine Sq.e ?_ | refine Sq.f ?_ _)); refine Sq.v (cs := #[.int .i64 ((rd_T97 l1_0 x5_2).f0), .int .i64 ((rd_T97 l1_0 x5_2).f1), .int .i64 0]) ?_ 2 _ rfl; (with_reducible repeat (first | refine Sq.d ?_ _ | refine Sq.e ?_ | refine Sq.f ?_ _)); refine Sq.v (cs := #[.int .i64 ((rd_T97 l1_0 x5_2).f0), .int .i64 0, .int .i64 0]) ?_ 1 _ rfl; (with_reducible repeat (first | refine Sq.d ?_ _ | refine Sq.e ?_ | refine Sq.f ?_ _)); refine Sq.v (cs := #[.int .i64 0, .int .i64 0, .int .i64 0]) ?_ 0 _ rfl; (with_reducible repeat (first | refine Sq.d ?_ _ | refine Sq.e ?_ | refine Sq.f ?_ _)); exact BK140.out) hb); have n3_ := Sq.l (Sq.a4 (by repeat (first | (with_reducible first | exact HB.out | apply Sq.i | apply Sq.j | apply Sq.k | refine Sq.h ?_ GE135.out | refine Sq.h ?_ GE136.out | refine Sq.h ?_ GE140.out) | exact HB.out)) hb); clear BK135; clear BK136; clear BK140; clear HB; have BK135 := n0_; have BK136 := n1_; have BK140 := n2_; have HB := n3_; clear n0_ n1_ n2_ n3_; (try clear hb); (try clear hb2); (try clear hk); (try clear hi); have hcz53_0 : w52.cell? ⟨gb140, 0, none⟩ = some (.int .i64 ((rd_T97 l1_0 x5_2).f0)) := (Sq.o BK140.out 0).trans rfl; have hcz53_1 : w52.cell? ⟨gb140, 1, none⟩ = some (.int .i64 ((rd_T97 l1_0 x5_2).f1)) := (Sq.o BK140.out 1).trans rfl; have hcz53_2 : w52.cell? ⟨gb140, 2, none⟩ = some (.int .i64 ((rd_T97 l1_0 x5_2).f2)) := (Sq.o BK140.out 2).trans rfl; have hfz53_0 := Sq.r BK140.out 0; have hfz53_1 := Sq.r BK140.out 1; have hfz53_2 := Sq.r BK140.out 2; have hcz54_0 : w52.cell? ⟨gb135, 0, none⟩ = some (.slice A0_0 l0_0.length c0_0) := (Sq.o BK135.out 0).trans rfl; have hcz54_1 : w52.cell? ⟨gb135, 1, none⟩ = some (.slice A0_1 l0_1.length c0_1) := (Sq.o BK135.out 1).trans rfl; have hcz54_2 : w52.cell? ⟨gb135, 2, none⟩ = some (.slice A0_2 l0_2.length c0_2) := (Sq.o BK135.out 2).trans rfl; have hcz54_3 : w52.cell? ⟨gb135, 3, none⟩ = some (.int .i64 a0_3) := (Sq.o BK135.out 3).trans rfl; have hfz54_0 := Sq.r BK135.out 0; have hfz54_1 := Sq.r BK135.out 1; have hfz54_2 := Sq.r BK135.out 2; have hfz54_3 := Sq.r BK135.out 3))
           go_roundg k2
           case measure => have := HJ2.out; have := HK2.out; omega
           case rel => exact ⟨(wrap64 (x5_2 + 1)), (by first | rfl | (simp; done) | (simp [*]; done)), H', ⟨by have := HJ2.out; have := HK2.out; omega⟩, ⟨by (with_reducible repeat (first | refine Sq.d ?_ _ | refine Sq.e ?_ | refine Sq.f ?_ _)); exact BK135.out⟩, ⟨by (with_reducible repeat (first | refine Sq.d ?_ _ | refine Sq.e ?_ | refine Sq.f ?_ _)); exact BK136.out⟩, ⟨by repeat (first | (with_reducible first | exact HB.out | apply Sq.i | apply Sq.j | apply Sq.k | refine Sq.h ?_ GE135.out | refine Sq.h ?_ GE136.out | refine Sq.h ?_ GE140.out) | exact HB.out)⟩⟩
        ·replace c23 := Bool.eq_false_iff.mpr c23
         subst c23
         rw [if_neg (show ¬ (false = true) by decide)] at H
         obtain rfl := Option.some.inj H
         have hnb55 := NB136_135.out; have hnc55 := NB135_136.out
         have hcz56_0 : wr.cell? ⟨gb136, 0, none⟩ = some (.slice A1_0 l1_0.length c1_0) := (Sq.o BK136.out 0).trans rfl
         have hcz56_1 : wr.cell? ⟨gb136, 1, none⟩ = some (.string a1_1) := (Sq.o BK136.out 1).trans rfl
         have hcz56_2 : wr.cell? ⟨gb136, 2, none⟩ = some (.slice A1_2 l1_2.length c1_2) := (Sq.o BK136.out 2).trans rfl
         have hfz56_0 := Sq.r BK136.out 0
         have hfz56_1 := Sq.r BK136.out 1
         have hfz56_2 := Sq.r BK136.out 2
         have p139 : 0 ≤ (x5_2 : Int) := of_decide_eq_true (by first | (with_reducible assumption) | assumption)
         have q139 : x5_2 < (l1_0.length : Int) := of_decide_eq_true (by first | (with_reducible assumption) | assumption)
         obtain ⟨ad139, e139, hx139_0, hx139_1, hx139_2⟩ := at_T97 HR1_0.out x5_2 p139 q139
         cases e139
         replace hx139_0 := (HB.out.cell (World.block_lt_of_cell? w _ hx139_0)).trans hx139_0
         replace hx139_1 := (HB.out.cell (World.block_lt_of_cell? w _ hx139_1)).trans hx139_1
         replace hx139_2 := (HB.out.cell (World.block_lt_of_cell? w _ hx139_2)).trans hx139_2
         replace p139 := eq_true p139; replace q139 := eq_true q139
         go_wp2_with (first | ((with_reducible refine gate_dst (N := 6) rfl ?_); (try (refine gate_guard (by rfl) ?_; dsimp only)); refine box_event ?hg (N := 6) ?hd (cs := #[.int .i64 0, .int .i64 0, .int .i64 0]) (t := 97) ?hr ?_; (case hd => rfl); (case hg => rfl); (case hr => first | (go_simp; done) | (go_simp; rfl)); intro gb140 hg w57 hbox hb; have n0_ := Sq.l (Sq.m (g := gb135) (o := .cells #[.slice A0_0 l0_0.length c0_0, .slice A0_1 l0_1.length c0_1, .slice A0_2 l0_2.length c0_2, .int .i64 a0_3] 30 (0, 0)) (by (with_reducible repeat (first | refine Sq.d ?_ _ | refine Sq.e ?_ | refine Sq.f ?_ _)); exact BK135.out) hb); have n1_ := Sq.l (Sq.m (g := gb136) (o := .cells #[.slice (some ad139) l1_0.length c1_0, .string a1_1, .slice A1_2 l1_2.length c1_2] 90 (0, 0)) (by (with_reducible repeat (first | refine Sq.d ?_ _ | refine Sq.e ?_ | refine Sq.f ?_ _)); exact BK136.out) hb); have n2_ := Sq.l (Sq.a4 (by repeat (first | (with_reducible first | exact HB.out | apply Sq.i | apply Sq.j | apply Sq.k | refine Sq.h ?_ GE135.out | refine Sq.h ?_ GE136.out) | exact HB.out)) hb); have n3_ := Sq.l (hbox); have n4_ := Sq.l ((by rw [hg]; exact (Sq.a5 (by repeat (first | (with_reducible first | exact HB.out | apply Sq.i | apply Sq.j | apply Sq.k | refine Sq.h ?_ GE135.out | refine Sq.h ?_ GE136.out) | exact HB.out))) : w.heap.size ≤ gb140)); have n5_ := Sq.l ((by rw [hg]; exact (Sq.a5 (by repeat (first | (with_reducible first | exact HB.out | apply Sq.i | apply Sq.j | apply Sq.k | refine Sq.h ?_ GE135.out | refine Sq.h ?_ GE136.out) | exact HB.out))) : w.heap.size ≤ gb140)); have n6_ := Sq.l ((by rw [hg]; exact Nat.ne_of_lt (blk_lt (g := gb135) (o := .cells #[.slice A0_0 l0_0.length c0_0, .slice A0_1 l0_1.length c0_1, .slice A0_2 l0_2.length c0_2, .int .i64 a0_3] 30 (0, 0)) (by (with_reducible repeat (first | refine Sq.d ?_ _ | refine Sq.e ?_ | refine Sq.f ?_ _)); exact BK135.out)) : gb135 ≠ gb140)); have n7_ := Sq.l ((by rw [hg]; exact Nat.ne_of_gt (blk_lt (g := gb135) (o := .cells #[.slice A0_0 l0_0.length c0_0, .slice A0_1 l0_1.length c0_1, .slice A0_2 l0_2.length c0_2, .int .i64 a0_3] 30 (0, 0)) (by (with_reducible repeat (first | refine Sq.d ?_ _ | refine Sq.e ?_ | refine Sq.f ?_ _)); exact BK135.out)) : gb140 ≠ gb135)); have n8_ := Sq.l ((by rw [hg]; exact Nat.ne_of_lt (blk_lt (g := gb136) (o := .cells #[.slice (some ad139) l1_0.length c1_0, .string a1_1, .slice A1_2 l1_2.length c1_2] 90 (0, 0)) (by (with_reducible repeat (first | refine Sq.d ?_ _ | refine Sq.e ?_ | refine Sq.f ?_ _)); exact BK136.out)) : gb136 ≠ gb140)); have n9_ := Sq.l ((by rw [hg]; exact Nat.ne_of_gt (blk_lt (g := gb136) (o := .cells #[.slice (some ad139) l1_0.length c1_0, .string a1_1, .slice A1_2 l1_2.length c1_2] 90 (0, 0)) (by (with_reducible repeat (first | refine Sq.d ?_ _ | refine Sq.e ?_ | refine Sq.f ?_ _)); exact BK136.out)) : gb140 ≠ gb136)); clear BK135; clear BK136; clear HB; have BK135 := n0_; have BK136 := n1_; have HB := n2_; have BK140 := n3_; have GW140 := n4_; have GE140 := n5_; have NB135_140 := n6_; have NB140_135 := n7_; have NB136_140 := n8_; have NB140_136 := n9_; clear n0_ n1_ n2_ n3_ n4_ n5_ n6_ n7_ n8_ n9_; clear hb hbox hg; have hnb58 := NB140_135.out; have hnc58 := NB135_140.out; have hnb59 := NB140_136.out; have hnc59 := NB136_140.out; have hcz60_0 : w57.cell? ⟨gb140, 0, none⟩ = some (.int .i64 0) := (Sq.o BK140.out 0).trans rfl; have hcz60_1 : w57.cell? ⟨gb140, 1, none⟩ = some (.int .i64 0) := (Sq.o BK140.out 1).trans rfl; have hcz60_2 : w57.cell? ⟨gb140, 2, none⟩ = some (.int .i64 0) := (Sq.o BK140.out 2).trans rfl; have hfz60_0 := Sq.r BK140.out 0; have hfz60_1 := Sq.r BK140.out 1; have hfz60_2 := Sq.r BK140.out 2; have hcz61_0 : w57.cell? ⟨gb135, 0, none⟩ = some (.slice A0_0 l0_0.length c0_0) := (Sq.o BK135.out 0).trans rfl; have hcz61_1 : w57.cell? ⟨gb135, 1, none⟩ = some (.slice A0_1 l0_1.length c0_1) := (Sq.o BK135.out 1).trans rfl; have hcz61_2 : w57.cell? ⟨gb135, 2, none⟩ = some (.slice A0_2 l0_2.length c0_2) := (Sq.o BK135.out 2).trans rfl; have hcz61_3 : w57.cell? ⟨gb135, 3, none⟩ = some (.int .i64 a0_3) := (Sq.o BK135.out 3).trans rfl; have hfz61_0 := Sq.r BK135.out 0; have hfz61_1 := Sq.r BK135.out 1; have hfz61_2 := Sq.r BK135.out 2; have hfz61_3 := Sq.r BK135.out 3) | ((with_reducible refine gate_callee (f := 101) rfl ?_); refine goesL_ (some 47) rfl rfl Try.func101 (by kernel_rfl) rfl #[.agg #[.slice A0_0 l0_0.length c0_0, .slice A0_1 l0_1.length c0_1, .slice A0_2 l0_2.length c0_2, .int .i64 a0_3], .agg #[.int .i64 ((rd_T97 l1_0 x5_2).f0), .int .i64 ((rd_T97 l1_0 x5_2).f1), .int .i64 ((rd_T97 l1_0 x5_2).f2)]] rfl (by (try simp only [List.map_toArray, List.map_cons, List.map_nil]); first | done | rfl | (simp only [List.length_drop, List.length_take]; rfl)) ?_; (with_reducible refine (spec_l12Leads.calls _ _ l0_0 _ _ l0_1 _ _ l0_2 a0_3 ((rd_T97 l1_0 x5_2).f0) ((rd_T97 l1_0 x5_2).f1) ((rd_T97 l1_0 x5_2).f2) false _ ?side1 ?side2 ?side3 ?side4 ?side5 ?side6 A22.out).mono ?_); (case side1 => exact Sq.a1 HR0_0.out (by repeat (first | (with_reducible first | exact HB.out | apply Sq.i | apply Sq.j | apply Sq.k | refine Sq.h ?_ GE135.out | refine Sq.h ?_ GE136.out | refine Sq.h ?_ GE140.out) | exact HB.out))); (case side2 => exact HC0_0.out); (case side3 => exact Sq.a1 HR0_1.out (by repeat (first | (with_reducible first | exact HB.out | apply Sq.i | apply Sq.j | apply Sq.k | refine Sq.h ?_ GE135.out | refine Sq.h ?_ GE136.out | refine Sq.h ?_ GE140.out) | exact HB.out))); (case side4 => exact HC0_1.out); (case side5 => exact Sq.a1 HR0_2.out (by repeat (first | (with_reducible first | exact HB.out | apply Sq.i | apply Sq.j | apply Sq.k | refine Sq.h ?_ GE135.out | refine Sq.h ?_ GE136.out | refine Sq.h ?_ GE140.out) | exact HB.out))); (case side6 => exact HC0_2.out); rintro e w62 ⟨rfl, hb⟩; refine ⟨_, rfl, ?_⟩; have n0_ := Sq.l (Sq.m (g := gb135) (o := .cells #[.slice A0_0 l0_0.length c0_0, .slice A0_1 l0_1.length c0_1, .slice A0_2 l0_2.length c0_2, .int .i64 a0_3] 30 (0, 0)) (by (with_reducible repeat (first | refine Sq.d ?_ _ | refine Sq.e ?_ | refine Sq.f ?_ _)); refine Sq.B3 ?_ NB135_140.out; (with_reducible repeat (first | refine Sq.d ?_ _ | refine Sq.e ?_ | refine Sq.f ?_ _)); exact BK135.out) hb); have n1_ := Sq.l (Sq.m (g := gb136) (o := .cells #[.slice (some ad139) l1_0.length c1_0, .string a1_1, .slice A1_2 l1_2.length c1_2] 90 (0, 0)) (by (with_reducible repeat (first | refine Sq.d ?_ _ | refine Sq.e ?_ | refine Sq.f ?_ _)); refine Sq.B3 ?_ NB136_140.out; (with_reducible repeat (first | refine Sq.d ?_ _ | refine Sq.e ?_ | refine Sq.f ?_ _)); exact BK136.out) hb); have n2_ := Sq.l (Sq.m (g := gb140) (o := .cells #[.int .i64 ((rd_T97 l1_0 x5_2).f0), .int .i64 ((rd_T97 l1_0 x5_2).f1), .int .i64 ((rd_T97 l1_0 x5_2).f2)] 97 (0, 0)) (by (with_reducible repeat (first | refine Sq.d ?_ _ | refine Sq.e ?_ | refine Sq.f ?_ _)); refine Sq.v (cs := #[.int .i64 ((rd_T97 l1_0 x5_2).f0), .int .i64 ((rd_T97 l1_0 x5_2).f1), .int .i64 0]) ?_ 2 _ rfl; (with_reducible repeat (first | refine Sq.d ?_ _ | refine Sq.e ?_ | refine Sq.f ?_ _)); refine Sq.v (cs := #[.int .i64 ((rd_T97 l1_0 x5_2).f0), .int .i64 0, .int .i64 0]) ?_ 1 _ rfl; (with_reducible repeat (first | refine Sq.d ?_ _ | refine Sq.e ?_ | refine Sq.f ?_ _)); refine Sq.v (cs := #[.int .i64 0, .int .i64 0, .int .i64 0]) ?_ 0 _ rfl; (with_reducible repeat (first | refine Sq.d ?_ _ | refine Sq.e ?_ | refine Sq.f ?_ _)); exact BK140.out) hb); have n3_ := Sq.l (Sq.a4 (by repeat (first | (with_reducible first | exact HB.out | apply Sq.i | apply Sq.j | apply Sq.k | refine Sq.h ?_ GE135.out | refine Sq.h ?_ GE136.out | refine Sq.h ?_ GE140.out) | exact HB.out)) hb); clear BK135; clear BK136; clear BK140; clear HB; have BK135 := n0_; have BK136 := n1_; have BK140 := n2_; have HB := n3_; clear n0_ n1_ n2_ n3_; (try clear hb); (try clear hb2); (try clear hk); (try clear hi)))
         go_ret
         exact ⟨by first | rfl | (simp [errW_none, errW_some] <;> rfl) | (simp [*, errW_none, errW_some] <;> rfl), by repeat (first | (with_reducible first | exact HB.out | apply Sq.i | apply Sq.j | apply Sq.k | refine Sq.h ?_ GE135.out | refine Sq.h ?_ GE136.out | refine Sq.h ?_ GE140.out) | exact HB.out)⟩
       ·rw [if_neg c21] at H
        exact absurd H (by simp)
      ·rw [if_neg c20] at H
       have c20b0 : decide (x5_2 < (l1_0.length : Int)) = false := decide_eq_false c20
       clear c20
       have H' := Sq.l H
       clear H; have hnb63 := NB136_135.out; have hnc63 := NB135_136.out
       have hcz64_0 : wr.cell? ⟨gb136, 0, none⟩ = some (.slice A1_0 l1_0.length c1_0) := (Sq.o BK136.out 0).trans rfl
       have hcz64_1 : wr.cell? ⟨gb136, 1, none⟩ = some (.string a1_1) := (Sq.o BK136.out 1).trans rfl
       have hcz64_2 : wr.cell? ⟨gb136, 2, none⟩ = some (.slice A1_2 l1_2.length c1_2) := (Sq.o BK136.out 2).trans rfl
       have hfz64_0 := Sq.r BK136.out 0
       have hfz64_1 := Sq.r BK136.out 1
       have hfz64_2 := Sq.r BK136.out 2
       go_wp2
       go_loopg [7] k2 (fun kq v7 w' => ∃ (x7_3 : Int), v7 = .int .i64 x7_3 ∧ Aside0 (spec_l12Guest.l1 kq x7_3 l0_0 l0_1 l0_2 a0_3 l1_0 a1_1 l1_2 = some r) ∧ Aside0 (kq ≤ k2) ∧ Aside0 (w'.heap[gb135]? = some (.cells #[(.slice A0_0 l0_0.length c0_0), (.slice A0_1 l0_1.length c0_1), (.slice A0_2 l0_2.length c0_2), .int .i64 a0_3] 30 (0, 0))) ∧ Aside0 (w'.heap[gb136]? = some (.cells #[(.slice A1_0 l1_0.length c1_0), .string a1_1, (.slice A1_2 l1_2.length c1_2)] 90 (0, 0))) ∧ Aside0 (Below w.heap.size w w'))
       case atStart => exact ⟨(0), (by first | rfl | (simp; done) | (simp [*]; done)), H', ⟨Nat.le_refl _⟩, ⟨by (with_reducible repeat (first | refine Sq.d ?_ _ | refine Sq.e ?_ | refine Sq.f ?_ _)); exact BK135.out⟩, ⟨by (with_reducible repeat (first | refine Sq.d ?_ _ | refine Sq.e ?_ | refine Sq.f ?_ _)); exact BK136.out⟩, ⟨by repeat (first | (with_reducible first | exact HB.out | apply Sq.i | apply Sq.j | apply Sq.k | refine Sq.h ?_ GE135.out | refine Sq.h ?_ GE136.out) | exact HB.out)⟩⟩
       case round =>
        clear H'
        try clear c1; try clear p1; try clear q1; try clear hx1; try clear c2; try clear p2; try clear c3; try clear c4; try clear c5; try clear c6; try clear c6b0; try clear c6b1; try clear p6; try clear c7; try clear c9; try clear c9b0; try clear c9b1; try clear c10; try clear c13; try clear p13; try clear q13; try clear hx13; try clear c15; try clear c17; try clear c19; try clear c20; try clear c20b0; try clear c21; try clear c21b0; try clear c23; try clear c24; try clear c24b0; try clear c25; try clear c28; try clear c29; try clear c34; try clear c34b0; try clear c35; try clear c38; try clear c39; try clear c45; try clear c48; try clear c49; try clear c55; try clear c58; try clear c59; try clear c63; try clear p64; try clear hcz11_0; try clear hcz11_1; try clear hcz11_2; try clear hcz16_0; try clear hcz16_1; try clear hcz16_2; try clear hcz18_0; try clear hcz18_1; try clear hcz18_2; try clear hcz26_0; try clear hcz26_1; try clear hcz26_2; try clear hcz30_0; try clear hcz30_1; try clear hcz30_2; try clear hcz31_0; try clear hcz31_1; try clear hcz31_2; try clear hcz31_3; try clear hcz33_0; try clear hcz33_1; try clear hcz33_2; try clear hcz36_0; try clear hcz36_1; try clear hcz36_2; try clear hcz40_0; try clear hcz40_1; try clear hcz40_2; try clear hcz41_0; try clear hcz41_1; try clear hcz41_2; try clear hcz41_3; try clear hcz43_0; try clear hcz43_1; try clear hcz43_2; try clear hcz44_0; try clear hcz44_1; try clear hcz44_2; try clear hcz44_3; try clear hcz46_0; try clear hcz46_1; try clear hcz46_2; try clear hcz50_0; try clear hcz50_1; try clear hcz50_2; try clear hcz51_0; try clear hcz51_1; try clear hcz51_2; try clear hcz51_3; try clear hcz53_0; try clear hcz53_1; try clear hcz53_2; try clear hcz54_0; try clear hcz54_1; try clear hcz54_2; try clear hcz54_3; try clear hcz56_0; try clear hcz56_1; try clear hcz56_2; try clear hcz60_0; try clear hcz60_1; try clear hcz60_2; try clear hcz61_0; try clear hcz61_1; try clear hcz61_2; try clear hcz61_3; try clear hcz64_0; try clear hcz64_1; try clear hcz64_2; try clear hcz8_0; try clear hcz8_1; try clear hcz8_2; try clear hfz11_0; try clear hfz11_1; try clear hfz11_2; try clear hfz16_0; try clear hfz16_1; try clear hfz16_2; try clear hfz18_0; try clear hfz18_1; try clear hfz18_2; try clear hfz26_0; try clear hfz26_1; try clear hfz26_2; try clear hfz30_0; try clear hfz30_1; try clear hfz30_2; try clear hfz31_0; try clear hfz31_1; try clear hfz31_2; try clear hfz31_3; try clear hfz33_0; try clear hfz33_1; try clear hfz33_2; try clear hfz36_0; try clear hfz36_1; try clear hfz36_2; try clear hfz40_0; try clear hfz40_1; try clear hfz40_2; try clear hfz41_0; try clear hfz41_1; try clear hfz41_2; try clear hfz41_3; try clear hfz43_0; try clear hfz43_1; try clear hfz43_2; try clear hfz44_0; try clear hfz44_1; try clear hfz44_2; try clear hfz44_3; try clear hfz46_0; try clear hfz46_1; try clear hfz46_2; try clear hfz50_0; try clear hfz50_1; try clear hfz50_2; try clear hfz51_0; try clear hfz51_1; try clear hfz51_2; try clear hfz51_3; try clear hfz53_0; try clear hfz53_1; try clear hfz53_2; try clear hfz54_0; try clear hfz54_1; try clear hfz54_2; try clear hfz54_3; try clear hfz56_0; try clear hfz56_1; try clear hfz56_2; try clear hfz60_0; try clear hfz60_1; try clear hfz60_2; try clear hfz61_0; try clear hfz61_1; try clear hfz61_2; try clear hfz61_3; try clear hfz64_0; try clear hfz64_1; try clear hfz64_2; try clear hfz8_0; try clear hfz8_1; try clear hfz8_2; try clear hx139_0; try clear hx139_1; try clear hx139_2; try clear p139; try clear p2; try clear q139
        obtain ⟨x7_3, rfl, HA, HK3, BK135, BK136, HB⟩ := hrel
        cases gk with
        | zero => exact absurd HA.out (by simp [spec_l12Guest.l1])
        | succ k3 =>
         have H := HA.out
         clear HA
         simp only [spec_l12Guest.l1] at H
         by_cases c65 : x7_3 < (l1_2.length : Int)
         ·rw [if_pos c65] at H
          have c65b0 : decide (x7_3 < (l1_2.length : Int)) = true := decide_eq_true c65
          clear c65
          by_cases c66 : 0 ≤ x7_3
          ·rw [if_pos c66] at H
           have c66b0 : decide (0 ≤ x7_3) = true := decide_eq_true c66
           clear c66
           replace H := Option.bind_eq_some_iff.mp H
           obtain ⟨t143, A670, H⟩ := H
           (try dsimp only at H)
           have A67 := Sq.l A670
           clear A670
           by_cases c68 : t143 = true
           ·subst c68
            rw [if_pos rfl] at H
            have H' := Sq.l H
            clear H; have hnb69 := NB136_135.out; have hnc69 := NB135_136.out
            have hcz70_0 : wr.cell? ⟨gb136, 0, none⟩ = some (.slice A1_0 l1_0.length c1_0) := (Sq.o BK136.out 0).trans rfl
            have hcz70_1 : wr.cell? ⟨gb136, 1, none⟩ = some (.string a1_1) := (Sq.o BK136.out 1).trans rfl
            have hcz70_2 : wr.cell? ⟨gb136, 2, none⟩ = some (.slice A1_2 l1_2.length c1_2) := (Sq.o BK136.out 2).trans rfl
            have hfz70_0 := Sq.r BK136.out 0
            have hfz70_1 := Sq.r BK136.out 1
            have hfz70_2 := Sq.r BK136.out 2
            try go_wp2
            have n0_ := Sq.l (Sq.e BK135.out)
            have n1_ := Sq.l (Sq.e BK136.out)
            have n2_ := Sq.l (Sq.k HB.out)
            clear BK135 BK136 HB; have BK135 := n0_; have BK136 := n1_; have HB := n2_; clear n0_ n1_ n2_
            have p142 : 0 ≤ (x7_3 : Int) := of_decide_eq_true (by first | (with_reducible assumption) | assumption)
            have q142 : x7_3 < (l1_2.length : Int) := of_decide_eq_true (by first | (with_reducible assumption) | assumption)
            obtain ⟨ad142, e142, hx142_0⟩ := Kd.at_int HR1_2.out x7_3 p142 q142
            have hw142_0 := hx142_0
            cases e142
            replace hx142_0 := (HB.out.cell (World.block_lt_of_cell? w _ hx142_0)).trans hx142_0
            replace p142 := eq_true p142; replace q142 := eq_true q142
            refine start_ (n := 9) (S := fun w' => w'.cell? ⟨gb135, 0, none⟩ = some (.slice A0_0 l0_0.length c0_0) ∧ w'.cell? ⟨gb135, 1, none⟩ = some (.slice A0_1 l0_1.length c0_1) ∧ w'.cell? ⟨gb135, 2, none⟩ = some (.slice A0_2 l0_2.length c0_2) ∧ w'.cell? ⟨gb135, 3, none⟩ = some (.int .i64 a0_3) ∧ w'.cell? ⟨gb136, 0, none⟩ = some (.slice A1_0 l1_0.length c1_0) ∧ w'.cell? ⟨gb136, 1, none⟩ = some (.string a1_1) ∧ w'.cell? ⟨gb136, 2, none⟩ = some (.slice (some ad142) l1_2.length c1_2) ∧ w'.cell? (ad142.add (x7_3).toNat) = some (.int .i64 (rd l1_2 x7_3))) (ds := []) #[false, false, false, false, false, false, false, false, false] (by kernel_rfl) rfl rfl ⟨(Sq.o BK135.out 0).trans rfl, (Sq.o BK135.out 1).trans rfl, (Sq.o BK135.out 2).trans rfl, (Sq.o BK135.out 3).trans rfl, (Sq.o BK136.out 0).trans rfl, (Sq.o BK136.out 1).trans rfl, (Sq.o BK136.out 2).trans rfl, ((HB.out.cell (World.block_lt_of_cell? w _ hw142_0)).trans hw142_0)⟩ (fun hHeld => ?_); refine with_tabW spec_l12Guest.tab12 spec_l12Guest.bits12 (fun HT_ HW_ => ?_)
            generalize wr.drew = w71 at BK135 BK136 HB hx142_0 hHeld ⊢
            refine pure_ (i := 2) (N := some 70) (v := ?_) (a' := ?_) #[false, false, true, false, false, false, false, false, false] rfl rfl (any_of HT_.out (by kernel_rfl)) (fun _ _ _ h => h) (Or.inl ⟨by rfl, ?_⟩) ?_ ?_
            rotate_left
            ·intro w'
             go_simp
             with_reducible rfl
            rotate_left
            ·simp only [Act.put, List.setIfInBounds_toArray, List.set_cons_zero, List.set_cons_succ, i64_w, i32_w]
             rfl
            refine pure_ (i := 4) (N := some 72) (v := ?_) (a' := ?_) #[false, false, true, false, true, false, false, false, false] rfl rfl (any_of HT_.out (by kernel_rfl)) (fun _ _ _ h => h) (Or.inl ⟨by rfl, ?_⟩) ?_ ?_
            rotate_left
            ·intro w'
             go_simp
             with_reducible rfl
            rotate_left
            ·simp only [Act.put, List.setIfInBounds_toArray, List.set_cons_zero, List.set_cons_succ, i64_w, i32_w]
             rfl
            refine take_ (i := 0) (N := some 68) (v := ?_) (a' := ?_) #[true, false, true, false, true, false, false, false, false] rfl rfl (take_ofW HT_.out HW_.out (by kernel_rfl)) (fun _ _ _ h => h) (Or.inl ⟨by rfl, ?_⟩) hHeld ?_ ?_
            rotate_left
            ·rintro w' ⟨s0, s1, s2, s3, s4, s5, s6, s7⟩
             go_simp
             with_reducible rfl
            rotate_left
            ·simp only [Act.put, List.setIfInBounds_toArray, List.set_cons_zero, List.set_cons_succ, i64_w, i32_w]
             rfl
            refine take_ (i := 1) (N := some 69) (v := ?_) (a' := ?_) #[true, true, true, false, true, false, false, false, false] rfl rfl (take_ofW HT_.out HW_.out (by kernel_rfl)) (fun _ _ _ h => h) (Or.inl ⟨by rfl, ?_⟩) hHeld ?_ ?_
            rotate_left
            ·rintro w' ⟨s0, s1, s2, s3, s4, s5, s6, s7⟩
             go_simp
             with_reducible rfl
            rotate_left
            ·simp only [Act.put, List.setIfInBounds_toArray, List.set_cons_zero, List.set_cons_succ, i64_w, i32_w]
             rfl
            refine take_ (i := 3) (N := some 71) (v := ?_) (a' := ?_) #[true, true, true, true, true, false, false, false, false] rfl rfl (take_ofW HT_.out HW_.out (by kernel_rfl)) (fun _ _ _ h => h) (Or.inl ⟨by rfl, ?_⟩) hHeld ?_ ?_
            rotate_left
            ·rintro w' ⟨s0, s1, s2, s3, s4, s5, s6, s7⟩
             go_simp
             with_reducible rfl
            rotate_left
            ·simp only [Act.put, List.setIfInBounds_toArray, List.set_cons_zero, List.set_cons_succ, i64_w, i32_w]
             rfl
            refine pure_ (i := 5) (N := some 73) (v := ?_) (a' := ?_) #[true, true, true, true, true, true, false, false, false] rfl rfl (any_of HT_.out (by kernel_rfl)) (fun _ _ _ h => h) (Or.inl ⟨by rfl, ?_⟩) ?_ ?_
            rotate_left
            ·intro w'
             go_simp
             with_reducible rfl
            rotate_left
            ·simp only [Act.put, List.setIfInBounds_toArray, List.set_cons_zero, List.set_cons_succ, i64_w, i32_w]
             rfl
            refine take_ (i := 6) (N := some 74) (v := ?_) (a' := ?_) #[true, true, true, true, true, true, true, false, false] rfl rfl (take_ofW HT_.out HW_.out (by kernel_rfl)) (fun _ _ _ h => h) (Or.inl ⟨by rfl, ?_⟩) hHeld ?_ ?_
            rotate_left
            ·rintro w' ⟨s0, s1, s2, s3, s4, s5, s6, s7⟩
             go_simp
             with_reducible rfl
            rotate_left
            ·simp only [Act.put, List.setIfInBounds_toArray, List.set_cons_zero, List.set_cons_succ, i64_w, i32_w]
             rfl
            refine one_ (i := 7) (N := some 75) #[true, true, true, true, true, true, true, true, false] rfl rfl (one_of HT_.out (by kernel_rfl)) (by decide) (fun K hK => ?_)
            refine goes_ Try.func102 (by kernel_rfl) rfl #[.agg #[.slice A0_0 l0_0.length c0_0, .slice A0_1 l0_1.length c0_1, .slice A0_2 l0_2.length c0_2, .int .i64 a0_3], .agg #[.slice A1_0 l1_0.length c1_0, .string a1_1, .slice (some ad142) l1_2.length c1_2], .int .i64 (rd l1_2 x7_3)] (by rfl) rfl rfl (by (try simp only [List.map_toArray, List.map_cons, List.map_nil]); first | done | rfl | (simp only [List.length_drop, List.length_take]; rfl)) ?_
            with_reducible refine (spec_l12Group.calls k3 _ _ l0_0 _ _ l0_1 _ _ l0_2 a0_3 _ _ l1_0 a1_1 _ _ l1_2 (rd l1_2 x7_3) true _ ?side1 ?side2 ?side3 ?side4 ?side5 ?side6 ?side7 ?side8 ?side9 ?side10 A67.out).mono ?_
            (case side1 => repeat (first | exact (Sq.a1 HR0_0.out HB.out) | (with_reducible refine Sq.s ?_ _) | (with_reducible refine Sq.t ?_ _) | (with_reducible refine Sq.u ?_)))
            (case side2 => exact HC0_0.out)
            (case side3 => repeat (first | exact (Sq.a1 HR0_1.out HB.out) | (with_reducible refine Sq.s ?_ _) | (with_reducible refine Sq.t ?_ _) | (with_reducible refine Sq.u ?_)))
            (case side4 => exact HC0_1.out)
            (case side5 => repeat (first | exact (Sq.a1 HR0_2.out HB.out) | (with_reducible refine Sq.s ?_ _) | (with_reducible refine Sq.t ?_ _) | (with_reducible refine Sq.u ?_)))
            (case side6 => exact HC0_2.out)
            (case side7 => repeat (first | exact (Sq.a1 HR1_0.out HB.out) | (with_reducible refine Sq.s ?_ _) | (with_reducible refine Sq.t ?_ _) | (with_reducible refine Sq.u ?_)))
            (case side8 => exact HC1_0.out)
            (case side9 => repeat (first | exact (Sq.a1 HR1_2.out HB.out) | (with_reducible refine Sq.s ?_ _) | (with_reducible refine Sq.t ?_ _) | (with_reducible refine Sq.u ?_)))
            (case side10 => exact HC1_2.out)
            rintro e w72 ⟨rfl, hb⟩
            refine ⟨_, rfl, ?_⟩
            have n0_ := Sq.l (Sq.m (g := gb135) (o := .cells #[.slice A0_0 l0_0.length c0_0, .slice A0_1 l0_1.length c0_1, .slice A0_2 l0_2.length c0_2, .int .i64 a0_3] 30 (0, 0)) (by (with_reducible repeat (first | refine Sq.d ?_ _ | refine Sq.e ?_ | refine Sq.f ?_ _)); exact BK135.out) hb)
            have n1_ := Sq.l (Sq.m (g := gb136) (o := .cells #[.slice A1_0 l1_0.length c1_0, .string a1_1, .slice (some ad142) l1_2.length c1_2] 90 (0, 0)) (by (with_reducible repeat (first | refine Sq.d ?_ _ | refine Sq.e ?_ | refine Sq.f ?_ _)); exact BK136.out) hb)
            have n2_ := Sq.l (Sq.a4 (by repeat (first | (with_reducible first | exact HB.out | apply Sq.i | apply Sq.j | apply Sq.k | refine Sq.h ?_ GE135.out | refine Sq.h ?_ GE136.out) | exact HB.out)) hb)
            clear BK135 BK136 HB; have BK135 := n0_; have BK136 := n1_; have HB := n2_; clear n0_ n1_ n2_; (try clear hb); (try clear hb2); (try clear hk); (try clear hi)
            refine hK.out _ _ ⟨(Sq.o BK135.out 0).trans rfl, (Sq.o BK135.out 1).trans rfl, (Sq.o BK135.out 2).trans rfl, (Sq.o BK135.out 3).trans rfl, (Sq.o BK136.out 0).trans rfl, (Sq.o BK136.out 1).trans rfl, (Sq.o BK136.out 2).trans rfl, ((HB.out.cell (World.block_lt_of_cell? w _ hw142_0)).trans hw142_0)⟩ (fun hHeld => ?_)
            clear hK K
            refine norm_ (a' := ?_) ?_ ?_
            rotate_left
            ·show Act.put _ (some 75) _ = _
             simp only [Act.put, List.setIfInBounds_toArray, List.set_cons_zero, List.set_cons_succ, i64_w, i32_w]
             rfl
            refine pure_ (i := 8) (N := some 76) (v := ?_) (a' := ?_) #[true, true, true, true, true, true, true, true, true] rfl rfl (any_of HT_.out (by kernel_rfl)) (fun _ _ _ h => h) (Or.inl ⟨by rfl, ?_⟩) ?_ ?_
            rotate_left
            ·intro w'
             go_simp
             with_reducible rfl
            rotate_left
            ·simp only [Act.put, List.setIfInBounds_toArray, List.set_cons_zero, List.set_cons_succ, i64_w, i32_w]
             rfl
            refine done_ (done_of HT_.out (by kernel_rfl)) ?_
            try go_wp2
            go_roundg k3
            case measure => have := HJ2.out; have := HK2.out; have := HK3.out; omega
            case rel => exact ⟨(wrap64 (x7_3 + 1)), (by first | rfl | (simp; done) | (simp [*]; done)), H', ⟨by have := HJ2.out; have := HK2.out; have := HK3.out; omega⟩, ⟨by (with_reducible repeat (first | refine Sq.d ?_ _ | refine Sq.e ?_ | refine Sq.f ?_ _)); exact BK135.out⟩, ⟨by (with_reducible repeat (first | refine Sq.d ?_ _ | refine Sq.e ?_ | refine Sq.f ?_ _)); exact BK136.out⟩, ⟨by repeat (first | (with_reducible first | exact HB.out | apply Sq.i | apply Sq.j | apply Sq.k | refine Sq.h ?_ GE135.out | refine Sq.h ?_ GE136.out) | exact HB.out)⟩⟩
           ·replace c68 := Bool.eq_false_iff.mpr c68
            subst c68
            rw [if_neg (show ¬ (false = true) by decide)] at H
            obtain rfl := Option.some.inj H
            have hnb73 := NB136_135.out; have hnc73 := NB135_136.out
            have hcz74_0 : wr.cell? ⟨gb136, 0, none⟩ = some (.slice A1_0 l1_0.length c1_0) := (Sq.o BK136.out 0).trans rfl
            have hcz74_1 : wr.cell? ⟨gb136, 1, none⟩ = some (.string a1_1) := (Sq.o BK136.out 1).trans rfl
            have hcz74_2 : wr.cell? ⟨gb136, 2, none⟩ = some (.slice A1_2 l1_2.length c1_2) := (Sq.o BK136.out 2).trans rfl
            have hfz74_0 := Sq.r BK136.out 0
            have hfz74_1 := Sq.r BK136.out 1
            have hfz74_2 := Sq.r BK136.out 2
            try go_wp2
            have n0_ := Sq.l (Sq.e BK135.out)
            have n1_ := Sq.l (Sq.e BK136.out)
            have n2_ := Sq.l (Sq.k HB.out)
            clear BK135 BK136 HB; have BK135 := n0_; have BK136 := n1_; have HB := n2_; clear n0_ n1_ n2_
            have p142 : 0 ≤ (x7_3 : Int) := of_decide_eq_true (by first | (with_reducible assumption) | assumption)
            have q142 : x7_3 < (l1_2.length : Int) := of_decide_eq_true (by first | (with_reducible assumption) | assumption)
            obtain ⟨ad142, e142, hx142_0⟩ := Kd.at_int HR1_2.out x7_3 p142 q142
            have hw142_0 := hx142_0
            cases e142
            replace hx142_0 := (HB.out.cell (World.block_lt_of_cell? w _ hx142_0)).trans hx142_0
            replace p142 := eq_true p142; replace q142 := eq_true q142
            refine start_ (n := 9) (S := fun w' => w'.cell? ⟨gb135, 0, none⟩ = some (.slice A0_0 l0_0.length c0_0) ∧ w'.cell? ⟨gb135, 1, none⟩ = some (.slice A0_1 l0_1.length c0_1) ∧ w'.cell? ⟨gb135, 2, none⟩ = some (.slice A0_2 l0_2.length c0_2) ∧ w'.cell? ⟨gb135, 3, none⟩ = some (.int .i64 a0_3) ∧ w'.cell? ⟨gb136, 0, none⟩ = some (.slice A1_0 l1_0.length c1_0) ∧ w'.cell? ⟨gb136, 1, none⟩ = some (.string a1_1) ∧ w'.cell? ⟨gb136, 2, none⟩ = some (.slice (some ad142) l1_2.length c1_2) ∧ w'.cell? (ad142.add (x7_3).toNat) = some (.int .i64 (rd l1_2 x7_3))) (ds := []) #[false, false, false, false, false, false, false, false, false] (by kernel_rfl) rfl rfl ⟨(Sq.o BK135.out 0).trans rfl, (Sq.o BK135.out 1).trans rfl, (Sq.o BK135.out 2).trans rfl, (Sq.o BK135.out 3).trans rfl, (Sq.o BK136.out 0).trans rfl, (Sq.o BK136.out 1).trans rfl, (Sq.o BK136.out 2).trans rfl, ((HB.out.cell (World.block_lt_of_cell? w _ hw142_0)).trans hw142_0)⟩ (fun hHeld => ?_); refine with_tabW spec_l12Guest.tab12 spec_l12Guest.bits12 (fun HT_ HW_ => ?_)
            generalize wr.drew = w75 at BK135 BK136 HB hx142_0 hHeld ⊢
            refine pure_ (i := 2) (N := some 70) (v := ?_) (a' := ?_) #[false, false, true, false, false, false, false, false, false] rfl rfl (any_of HT_.out (by kernel_rfl)) (fun _ _ _ h => h) (Or.inl ⟨by rfl, ?_⟩) ?_ ?_
            rotate_left
            ·intro w'
             go_simp
             with_reducible rfl
            rotate_left
            ·simp only [Act.put, List.setIfInBounds_toArray, List.set_cons_zero, List.set_cons_succ, i64_w, i32_w]
             rfl
            refine pure_ (i := 4) (N := some 72) (v := ?_) (a' := ?_) #[false, false, true, false, true, false, false, false, false] rfl rfl (any_of HT_.out (by kernel_rfl)) (fun _ _ _ h => h) (Or.inl ⟨by rfl, ?_⟩) ?_ ?_
            rotate_left
            ·intro w'
             go_simp
             with_reducible rfl
            rotate_left
            ·simp only [Act.put, List.setIfInBounds_toArray, List.set_cons_zero, List.set_cons_succ, i64_w, i32_w]
             rfl
            refine take_ (i := 0) (N := some 68) (v := ?_) (a' := ?_) #[true, false, true, false, true, false, false, false, false] rfl rfl (take_ofW HT_.out HW_.out (by kernel_rfl)) (fun _ _ _ h => h) (Or.inl ⟨by rfl, ?_⟩) hHeld ?_ ?_
            rotate_left
            ·rintro w' ⟨s0, s1, s2, s3, s4, s5, s6, s7⟩
             go_simp
             with_reducible rfl
            rotate_left
            ·simp only [Act.put, List.setIfInBounds_toArray, List.set_cons_zero, List.set_cons_succ, i64_w, i32_w]
             rfl
            refine take_ (i := 1) (N := some 69) (v := ?_) (a' := ?_) #[true, true, true, false, true, false, false, false, false] rfl rfl (take_ofW HT_.out HW_.out (by kernel_rfl)) (fun _ _ _ h => h) (Or.inl ⟨by rfl, ?_⟩) hHeld ?_ ?_
            rotate_left
            ·rintro w' ⟨s0, s1, s2, s3, s4, s5, s6, s7⟩
             go_simp
             with_reducible rfl
            rotate_left
            ·simp only [Act.put, List.setIfInBounds_toArray, List.set_cons_zero, List.set_cons_succ, i64_w, i32_w]
             rfl
            refine take_ (i := 3) (N := some 71) (v := ?_) (a' := ?_) #[true, true, true, true, true, false, false, false, false] rfl rfl (take_ofW HT_.out HW_.out (by kernel_rfl)) (fun _ _ _ h => h) (Or.inl ⟨by rfl, ?_⟩) hHeld ?_ ?_
            rotate_left
            ·rintro w' ⟨s0, s1, s2, s3, s4, s5, s6, s7⟩
             go_simp
             with_reducible rfl
            rotate_left
            ·simp only [Act.put, List.setIfInBounds_toArray, List.set_cons_zero, List.set_cons_succ, i64_w, i32_w]
             rfl
            refine pure_ (i := 5) (N := some 73) (v := ?_) (a' := ?_) #[true, true, true, true, true, true, false, false, false] rfl rfl (any_of HT_.out (by kernel_rfl)) (fun _ _ _ h => h) (Or.inl ⟨by rfl, ?_⟩) ?_ ?_
            rotate_left
            ·intro w'
             go_simp
             with_reducible rfl
            rotate_left
            ·simp only [Act.put, List.setIfInBounds_toArray, List.set_cons_zero, List.set_cons_succ, i64_w, i32_w]
             rfl
            refine take_ (i := 6) (N := some 74) (v := ?_) (a' := ?_) #[true, true, true, true, true, true, true, false, false] rfl rfl (take_ofW HT_.out HW_.out (by kernel_rfl)) (fun _ _ _ h => h) (Or.inl ⟨by rfl, ?_⟩) hHeld ?_ ?_
            rotate_left
            ·rintro w' ⟨s0, s1, s2, s3, s4, s5, s6, s7⟩
             go_simp
             with_reducible rfl
            rotate_left
            ·simp only [Act.put, List.setIfInBounds_toArray, List.set_cons_zero, List.set_cons_succ, i64_w, i32_w]
             rfl
            refine one_ (i := 7) (N := some 75) #[true, true, true, true, true, true, true, true, false] rfl rfl (one_of HT_.out (by kernel_rfl)) (by decide) (fun K hK => ?_)
            refine goes_ Try.func102 (by kernel_rfl) rfl #[.agg #[.slice A0_0 l0_0.length c0_0, .slice A0_1 l0_1.length c0_1, .slice A0_2 l0_2.length c0_2, .int .i64 a0_3], .agg #[.slice A1_0 l1_0.length c1_0, .string a1_1, .slice (some ad142) l1_2.length c1_2], .int .i64 (rd l1_2 x7_3)] (by rfl) rfl rfl (by (try simp only [List.map_toArray, List.map_cons, List.map_nil]); first | done | rfl | (simp only [List.length_drop, List.length_take]; rfl)) ?_
            with_reducible refine (spec_l12Group.calls k3 _ _ l0_0 _ _ l0_1 _ _ l0_2 a0_3 _ _ l1_0 a1_1 _ _ l1_2 (rd l1_2 x7_3) false _ ?side1 ?side2 ?side3 ?side4 ?side5 ?side6 ?side7 ?side8 ?side9 ?side10 A67.out).mono ?_
            (case side1 => repeat (first | exact (Sq.a1 HR0_0.out HB.out) | (with_reducible refine Sq.s ?_ _) | (with_reducible refine Sq.t ?_ _) | (with_reducible refine Sq.u ?_)))
            (case side2 => exact HC0_0.out)
            (case side3 => repeat (first | exact (Sq.a1 HR0_1.out HB.out) | (with_reducible refine Sq.s ?_ _) | (with_reducible refine Sq.t ?_ _) | (with_reducible refine Sq.u ?_)))
            (case side4 => exact HC0_1.out)
            (case side5 => repeat (first | exact (Sq.a1 HR0_2.out HB.out) | (with_reducible refine Sq.s ?_ _) | (with_reducible refine Sq.t ?_ _) | (with_reducible refine Sq.u ?_)))
            (case side6 => exact HC0_2.out)
            (case side7 => repeat (first | exact (Sq.a1 HR1_0.out HB.out) | (with_reducible refine Sq.s ?_ _) | (with_reducible refine Sq.t ?_ _) | (with_reducible refine Sq.u ?_)))
            (case side8 => exact HC1_0.out)
            (case side9 => repeat (first | exact (Sq.a1 HR1_2.out HB.out) | (with_reducible refine Sq.s ?_ _) | (with_reducible refine Sq.t ?_ _) | (with_reducible refine Sq.u ?_)))
            (case side10 => exact HC1_2.out)
            rintro e w76 ⟨rfl, hb⟩
            refine ⟨_, rfl, ?_⟩
            have n0_ := Sq.l (Sq.m (g := gb135) (o := .cells #[.slice A0_0 l0_0.length c0_0, .slice A0_1 l0_1.length c0_1, .slice A0_2 l0_2.length c0_2, .int .i64 a0_3] 30 (0, 0)) (by (with_reducible repeat (first | refine Sq.d ?_ _ | refine Sq.e ?_ | refine Sq.f ?_ _)); exact BK135.out) hb)
            have n1_ := Sq.l (Sq.m (g := gb136) (o := .cells #[.slice A1_0 l1_0.length c1_0, .string a1_1, .slice (some ad142) l1_2.length c1_2] 90 (0, 0)) (by (with_reducible repeat (first | refine Sq.d ?_ _ | refine Sq.e ?_ | refine Sq.f ?_ _)); exact BK136.out) hb)
            have n2_ := Sq.l (Sq.a4 (by repeat (first | (with_reducible first | exact HB.out | apply Sq.i | apply Sq.j | apply Sq.k | refine Sq.h ?_ GE135.out | refine Sq.h ?_ GE136.out) | exact HB.out)) hb)
            clear BK135 BK136 HB; have BK135 := n0_; have BK136 := n1_; have HB := n2_; clear n0_ n1_ n2_; (try clear hb); (try clear hb2); (try clear hk); (try clear hi)
            refine hK.out _ _ ⟨(Sq.o BK135.out 0).trans rfl, (Sq.o BK135.out 1).trans rfl, (Sq.o BK135.out 2).trans rfl, (Sq.o BK135.out 3).trans rfl, (Sq.o BK136.out 0).trans rfl, (Sq.o BK136.out 1).trans rfl, (Sq.o BK136.out 2).trans rfl, ((HB.out.cell (World.block_lt_of_cell? w _ hw142_0)).trans hw142_0)⟩ (fun hHeld => ?_)
            clear hK K
            refine norm_ (a' := ?_) ?_ ?_
            rotate_left
            ·show Act.put _ (some 75) _ = _
             simp only [Act.put, List.setIfInBounds_toArray, List.set_cons_zero, List.set_cons_succ, i64_w, i32_w]
             rfl
            refine pure_ (i := 8) (N := some 76) (v := ?_) (a' := ?_) #[true, true, true, true, true, true, true, true, true] rfl rfl (any_of HT_.out (by kernel_rfl)) (fun _ _ _ h => h) (Or.inl ⟨by rfl, ?_⟩) ?_ ?_
            rotate_left
            ·intro w'
             go_simp
             with_reducible rfl
            rotate_left
            ·simp only [Act.put, List.setIfInBounds_toArray, List.set_cons_zero, List.set_cons_succ, i64_w, i32_w]
             rfl
            refine done_ (done_of HT_.out (by kernel_rfl)) ?_
            try go_wp2
            go_ret
            exact ⟨by first | rfl | (simp [errW_none, errW_some] <;> rfl) | (simp [*, errW_none, errW_some] <;> rfl), by repeat (first | (with_reducible first | exact HB.out | apply Sq.i | apply Sq.j | apply Sq.k | refine Sq.h ?_ GE135.out | refine Sq.h ?_ GE136.out) | exact HB.out)⟩
          ·rw [if_neg c66] at H
           exact absurd H (by simp)
         ·rw [if_neg c65] at H
          have c65b0 : decide (x7_3 < (l1_2.length : Int)) = false := decide_eq_false c65
          clear c65
          obtain rfl := Option.some.inj H
          have hnb77 := NB136_135.out; have hnc77 := NB135_136.out
          have hcz78_0 : wr.cell? ⟨gb136, 0, none⟩ = some (.slice A1_0 l1_0.length c1_0) := (Sq.o BK136.out 0).trans rfl
          have hcz78_1 : wr.cell? ⟨gb136, 1, none⟩ = some (.string a1_1) := (Sq.o BK136.out 1).trans rfl
          have hcz78_2 : wr.cell? ⟨gb136, 2, none⟩ = some (.slice A1_2 l1_2.length c1_2) := (Sq.o BK136.out 2).trans rfl
          have hfz78_0 := Sq.r BK136.out 0
          have hfz78_1 := Sq.r BK136.out 1
          have hfz78_2 := Sq.r BK136.out 2
          go_wp2
          go_ret
          exact ⟨by first | rfl | (simp [errW_none, errW_some] <;> rfl) | (simp [*, errW_none, errW_some] <;> rfl), by repeat (first | (with_reducible first | exact HB.out | apply Sq.i | apply Sq.j | apply Sq.k | refine Sq.h ?_ GE135.out | refine Sq.h ?_ GE136.out) | exact HB.out)⟩

end Go.Proofs.Ytmajbehafgajmaa.QFnExactMemHostFault
