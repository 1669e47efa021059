-- Written for this claim by this session's own driver (wip/xprint.py).
import Derived.Test.YtmajbehafgajmaaQFnExactRouterFaultx0
import Derived.Test.YtmajbehafgajmaaQFnExactRouterFaultx7
import Derived.Test.YtmajbehafgajmaaQFnExactRouterFaultx8
namespace Go.Proofs.Ytmajbehafgajmaa.QFnExactRouterFault
open Go.RowKit Go.Proofs.YtmajbehafgajmaaW.PrintWords Go.Proofs.YtmajbehafgajmaaW.PrintLast Go.Proofs.YtmajbehafgajmaaW.PrintMore
attribute [local go_sem] max2_int min2_int max_two min_two max_three min_three max_four min_four   -- for this text's walks alone
set_option linter.unusedVariables false
set_option linter.unusedSimpArgs false

/-! ### spec_l08Cpu: function 59 -/
mutual
def spec_l08Cpu.j0 : Nat → Bool → Int → List Int → List Int → Option (Bool)
 | 0, _, _, _, _ => none
 | k + 1, x24, x113000, x113001, x113002 => if x24 = true then (some false) else (spec_l08Cpu.l0 k 0 x113000 x113001 x113002)
def spec_l08Cpu.l0 : Nat → Int → Int → List Int → List Int → Option (Bool)
 | 0, _, _, _, _ => none
 | k + 1, x3, x113000, x113001, x113002 => if x3 < (x113001.length : Int) then (if 0 ≤ x3 then ((spec_l08Vector.f (rd x113001 x3)).bind fun t115 => (if t115 = true then (spec_l08Cpu.l0 k (wrap64 (x3 + 1)) x113000 x113001 x113002) else (some false))) else (none)) else (spec_l08Cpu.l1 k 0 x113000 x113001 x113002)
def spec_l08Cpu.l1 : Nat → Int → Int → List Int → List Int → Option (Bool)
 | 0, _, _, _, _ => none
 | k + 1, x4, x113000, x113001, x113002 => if x4 < (x113002.length : Int) then (if 0 ≤ x4 then ((spec_l08Vector.f (rd x113002 x4)).bind fun t117 => (if t117 = true then (if x4 > 0 then (if 0 ≤ (wrap64 (x4 - 1)) then (if (wrap64 (x4 - 1)) < (x113002.length : Int) then (if (wrap64 (Int.tdiv (rd x113002 (wrap64 (x4 - 1))) 4)) ≥ (wrap64 (Int.tdiv (rd x113002 x4) 4)) then (some false) else (spec_l08Cpu.l1 k (wrap64 (x4 + 1)) x113000 x113001 x113002)) else (none)) else (none)) else (spec_l08Cpu.l1 k (wrap64 (x4 + 1)) x113000 x113001 x113002)) else (some false))) else (none)) else (some true)
end
def spec_l08Cpu.f (k : Nat) (a0_0 : Int) (l0_1 : List Int) (l0_2 : List Int) : Option (Bool) := if a0_0 < 0 then (spec_l08Cpu.j0 k true a0_0 l0_1 l0_2) else (if a0_0 > 16 then (spec_l08Cpu.j0 k true a0_0 l0_1 l0_2) else ((spec_l08Rising.f k l0_1).bind fun t113 => (if t113 = true then (spec_l08Cpu.j0 k (decide ((l0_2.length : Int) > 16)) a0_0 l0_1 l0_2) else (spec_l08Cpu.j0 k true a0_0 l0_1 l0_2))))
theorem spec_l08Cpu.mono_l : ∀ k, (∀ y0 y1 y2 y3, LeO (spec_l08Cpu.j0 k y0 y1 y2 y3) (spec_l08Cpu.j0 (k + 1) y0 y1 y2 y3)) ∧ (∀ y0 y1 y2 y3, LeO (spec_l08Cpu.l0 k y0 y1 y2 y3) (spec_l08Cpu.l0 (k + 1) y0 y1 y2 y3)) ∧ (∀ y0 y1 y2 y3, LeO (spec_l08Cpu.l1 k y0 y1 y2 y3) (spec_l08Cpu.l1 (k + 1) y0 y1 y2 y3))
 | 0 => ⟨fun _ _ _ _ r h => by simp [spec_l08Cpu.j0] at h, fun _ _ _ _ r h => by simp [spec_l08Cpu.l0] at h, fun _ _ _ _ r h => by simp [spec_l08Cpu.l1] at h⟩
 | k + 1 => by
  obtain ⟨ih0, ih1, ih2⟩ := spec_l08Cpu.mono_l k
  refine ⟨?_, ?_, ?_⟩
  ·intro y0 y1 y2 y3
   unfold spec_l08Cpu.j0
   repeat' first
   | (with_reducible exact ih0 _ _ _ _)
   | (with_reducible exact ih1 _ _ _ _)
   | (with_reducible exact ih2 _ _ _ _)
   | (with_reducible exact spec_l08Rising.mono _ _)
   | (with_reducible exact LeO.refl _)
   | (with_reducible exact LeO.none _)
   | (with_reducible refine LeO.ite ?_ ?_)
   | (with_reducible refine LeO.bind ?_ (fun _ => ?_))
   | exact ih0 _ _ _ _
   | exact ih1 _ _ _ _
   | exact ih2 _ _ _ _
   | exact spec_l08Rising.mono _ _
   | exact LeO.none _
   | refine LeO.ite ?_ ?_
   | refine LeO.bind ?_ (fun _ => ?_)
  ·intro y0 y1 y2 y3
   unfold spec_l08Cpu.l0
   repeat' first
   | (with_reducible exact ih0 _ _ _ _)
   | (with_reducible exact ih1 _ _ _ _)
   | (with_reducible exact ih2 _ _ _ _)
   | (with_reducible exact spec_l08Rising.mono _ _)
   | (with_reducible exact LeO.refl _)
   | (with_reducible exact LeO.none _)
   | (with_reducible refine LeO.ite ?_ ?_)
   | (with_reducible refine LeO.bind ?_ (fun _ => ?_))
   | exact ih0 _ _ _ _
   | exact ih1 _ _ _ _
   | exact ih2 _ _ _ _
   | exact spec_l08Rising.mono _ _
   | exact LeO.none _
   | refine LeO.ite ?_ ?_
   | refine LeO.bind ?_ (fun _ => ?_)
  ·intro y0 y1 y2 y3
   unfold spec_l08Cpu.l1
   repeat' first
   | (with_reducible exact ih0 _ _ _ _)
   | (with_reducible exact ih1 _ _ _ _)
   | (with_reducible exact ih2 _ _ _ _)
   | (with_reducible exact spec_l08Rising.mono _ _)
   | (with_reducible exact LeO.refl _)
   | (with_reducible exact LeO.none _)
   | (with_reducible refine LeO.ite ?_ ?_)
   | (with_reducible refine LeO.bind ?_ (fun _ => ?_))
   | exact ih0 _ _ _ _
   | exact ih1 _ _ _ _
   | exact ih2 _ _ _ _
   | exact spec_l08Rising.mono _ _
   | exact LeO.none _
   | refine LeO.ite ?_ ?_
   | refine LeO.bind ?_ (fun _ => ?_)
theorem spec_l08Cpu.mono : ∀ a0 a1 a2 k, LeO (spec_l08Cpu.f k a0 a1 a2) (spec_l08Cpu.f (k + 1) a0 a1 a2) := by
 intro a0 a1 a2 k
 obtain ⟨ih0, ih1, ih2⟩ := spec_l08Cpu.mono_l k
 unfold spec_l08Cpu.f
 repeat' first
   | (with_reducible exact ih0 _ _ _ _)
   | (with_reducible exact ih1 _ _ _ _)
   | (with_reducible exact ih2 _ _ _ _)
   | (with_reducible exact spec_l08Rising.mono _ _)
   | (with_reducible exact LeO.refl _)
   | (with_reducible exact LeO.none _)
   | (with_reducible refine LeO.ite ?_ ?_)
   | (with_reducible refine LeO.bind ?_ (fun _ => ?_))
   | exact ih0 _ _ _ _
   | exact ih1 _ _ _ _
   | exact ih2 _ _ _ _
   | exact spec_l08Rising.mono _ _
   | exact LeO.none _
   | refine LeO.ite ?_ ?_
   | refine LeO.bind ?_ (fun _ => ?_)
set_option maxHeartbeats 8000000 in
set_option maxRecDepth 100000 in
theorem spec_l08Cpu.calls (k : Nat) (a0_0 : Int) (A0_1 : Option Addr) (c0_1 : Nat) (l0_1 : List Int) (A0_2 : Option Addr) (c0_2 : Nat) (l0_2 : List Int) (r : Bool) (w : World) (hr0_1 : Kd.C (Kd.int .i64) w A0_1 l0_1.length l0_1) (hc0_1 : l0_1.length ≤ c0_1) (hr0_2 : Kd.C (Kd.int .i64) w A0_2 l0_2.length l0_2) (hc0_2 : l0_2.length ≤ c0_2) (h : spec_l08Cpu.f k a0_0 l0_1 l0_2 = some r) :
  Calls Try.prog 59 #[.agg #[.int .i64 a0_0, .slice A0_1 l0_1.length c0_1, .slice A0_2 l0_2.length c0_2]] w fun e w' => e = .returned (.bool r) ∧ Below w.heap.size w w' := by
 have hu111 := Try.underlying111
 have HR0_1 := Sq.l hr0_1
 have HC0_1 := Sq.l hc0_1
 clear hr0_1 hc0_1
 have HR0_2 := Sq.l hr0_2
 have HC0_2 := Sq.l hc0_2
 clear hr0_2 hc0_2
 have HB := Sq.l (Below.refl w.heap.size w)
 have H : (if a0_0 < 0 then (spec_l08Cpu.j0 k true a0_0 l0_1 l0_2) else (if a0_0 > 16 then (spec_l08Cpu.j0 k true a0_0 l0_1 l0_2) else ((spec_l08Rising.f k l0_1).bind fun t113 => (if t113 = true then (spec_l08Cpu.j0 k (decide ((l0_2.length : Int) > 16)) a0_0 l0_1 l0_2) else (spec_l08Cpu.j0 k true a0_0 l0_1 l0_2))))) = some r := h
 clear h
 have HC2 := Sq.l H
 clear H
 go_enter Try.func59, Try.ntmps59
 go_upto_region 1 with (first | ((with_reducible refine gate_dst (N := 1) rfl ?_); (try (refine gate_guard (by rfl) ?_; dsimp only)); refine box_event ?hg (N := 1) ?hd (cs := #[.int .i64 a0_0, .slice A0_1 l0_1.length c0_1, .slice A0_2 l0_2.length c0_2]) (t := 111) ?hr ?_; (case hd => rfl); (case hg => rfl); (case hr => first | (go_simp; done) | (go_simp; rfl)); intro gb112 hg w3 hbox hb; have n0_ := Sq.l (Sq.a4 (by repeat (first | (with_reducible first | exact HB.out | apply Sq.i | apply Sq.j | apply Sq.k) | exact HB.out)) hb); have n1_ := Sq.l (hbox); have n2_ := Sq.l ((by rw [hg]; exact (Sq.a5 (by repeat (first | (with_reducible first | exact HB.out | apply Sq.i | apply Sq.j | apply Sq.k) | exact HB.out))) : w.heap.size ≤ gb112)); have n3_ := Sq.l ((by rw [hg]; exact (Sq.a5 (by repeat (first | (with_reducible first | exact HB.out | apply Sq.i | apply Sq.j | apply Sq.k) | exact HB.out))) : w.heap.size ≤ gb112)); clear HB; have HB := n0_; have BK112 := n1_; have GW112 := n2_; have GE112 := n3_; clear n0_ n1_ n2_ n3_; clear hb hbox hg))
 repeat (go_quiet (first | ((with_reducible refine gate_dst (N := 1) rfl ?_); (try (refine gate_guard (by rfl) ?_; dsimp only)); refine box_event ?hg (N := 1) ?hd (cs := #[.int .i64 a0_0, .slice A0_1 l0_1.length c0_1, .slice A0_2 l0_2.length c0_2]) (t := 111) ?hr ?_; (case hd => rfl); (case hg => rfl); (case hr => first | (go_simp; done) | (go_simp; rfl)); intro gb112 hg w3 hbox hb; have n0_ := Sq.l (Sq.a4 (by repeat (first | (with_reducible first | exact HB.out | apply Sq.i | apply Sq.j | apply Sq.k) | exact HB.out)) hb); have n1_ := Sq.l (hbox); have n2_ := Sq.l ((by rw [hg]; exact (Sq.a5 (by repeat (first | (with_reducible first | exact HB.out | apply Sq.i | apply Sq.j | apply Sq.k) | exact HB.out))) : w.heap.size ≤ gb112)); have n3_ := Sq.l ((by rw [hg]; exact (Sq.a5 (by repeat (first | (with_reducible first | exact HB.out | apply Sq.i | apply Sq.j | apply Sq.k) | exact HB.out))) : w.heap.size ≤ gb112)); clear HB; have HB := n0_; have BK112 := n1_; have GW112 := n2_; have GE112 := n3_; clear n0_ n1_ n2_ n3_; clear hb hbox hg)); go_upto_region 1 with (first | ((with_reducible refine gate_dst (N := 1) rfl ?_); (try (refine gate_guard (by rfl) ?_; dsimp only)); refine box_event ?hg (N := 1) ?hd (cs := #[.int .i64 a0_0, .slice A0_1 l0_1.length c0_1, .slice A0_2 l0_2.length c0_2]) (t := 111) ?hr ?_; (case hd => rfl); (case hg => rfl); (case hr => first | (go_simp; done) | (go_simp; rfl)); intro gb112 hg w3 hbox hb; have n0_ := Sq.l (Sq.a4 (by repeat (first | (with_reducible first | exact HB.out | apply Sq.i | apply Sq.j | apply Sq.k) | exact HB.out)) hb); have n1_ := Sq.l (hbox); have n2_ := Sq.l ((by rw [hg]; exact (Sq.a5 (by repeat (first | (with_reducible first | exact HB.out | apply Sq.i | apply Sq.j | apply Sq.k) | exact HB.out))) : w.heap.size ≤ gb112)); have n3_ := Sq.l ((by rw [hg]; exact (Sq.a5 (by repeat (first | (with_reducible first | exact HB.out | apply Sq.i | apply Sq.j | apply Sq.k) | exact HB.out))) : w.heap.size ≤ gb112)); clear HB; have HB := n0_; have BK112 := n1_; have GW112 := n2_; have GE112 := n3_; clear n0_ n1_ n2_ n3_; clear hb hbox hg)))
 (try simp only [Act.put, List.setIfInBounds_toArray, List.set_cons_zero, List.set_cons_succ])
 go_cut [24] (fun v24 wc => ∃ (kq : Nat) (x24_1 : Bool), v24 = .bool x24_1 ∧ Aside0 (spec_l08Cpu.j0 kq x24_1 a0_0 l0_1 l0_2 = some r) ∧ Aside0 (kq ≤ k) ∧ Aside0 (wc.heap[gb112]? = some (.cells #[.int .i64 a0_0, (.slice A0_1 l0_1.length c0_1), (.slice A0_2 l0_2.length c0_2)] 111 (0, 0))) ∧ Aside0 (Below w.heap.size w wc))
 case first =>
  have H := HC2.out
  clear HC2
  by_cases c4 : a0_0 < 0
  ·rw [if_pos c4] at H
   have c4b0 : decide (a0_0 < 0) = true := decide_eq_true c4
   clear c4
   (first | rw [c4b0] | (simp only [i64_w, i32_w]; rw [c4b0]) | skip)
   have H' := Sq.l H
   clear H
   have hcz5_0 : w3.cell? ⟨gb112, 0, none⟩ = some (.int .i64 a0_0) := (Sq.o BK112.out 0).trans rfl
   have hcz5_1 : w3.cell? ⟨gb112, 1, none⟩ = some (.slice A0_1 l0_1.length c0_1) := (Sq.o BK112.out 1).trans rfl
   have hcz5_2 : w3.cell? ⟨gb112, 2, none⟩ = some (.slice A0_2 l0_2.length c0_2) := (Sq.o BK112.out 2).trans rfl
   have hfz5_0 := Sq.r BK112.out 0
   have hfz5_1 := Sq.r BK112.out 1
   have hfz5_2 := Sq.r BK112.out 2
   go_wp2
   repeat (go_quiet (fail); try go_wp2)
   go_meet
   case rel => exact ⟨_, (true), (by first | rfl | (simp; done) | (simp [*]; done)), H', ⟨by first | omega | exact Nat.le_refl _⟩, ⟨by (with_reducible repeat (first | refine Sq.d ?_ _ | refine Sq.e ?_ | refine Sq.f ?_ _)); exact BK112.out⟩, ⟨by repeat (first | (with_reducible first | exact HB.out | apply Sq.i | apply Sq.j | apply Sq.k | refine Sq.h ?_ GE112.out) | exact HB.out)⟩⟩
  ·rw [if_neg c4] at H
   have c4b0 : decide (a0_0 < 0) = false := decide_eq_false c4
   clear c4
   (first | rw [c4b0] | (simp only [i64_w, i32_w]; rw [c4b0]) | skip)
   by_cases c6 : a0_0 > 16
   ·rw [if_pos c6] at H
    have c6b0 : decide (16 < a0_0) = true := decide_eq_true c6
    clear c6
    have H' := Sq.l H
    clear H
    have hcz7_0 : w3.cell? ⟨gb112, 0, none⟩ = some (.int .i64 a0_0) := (Sq.o BK112.out 0).trans rfl
    have hcz7_1 : w3.cell? ⟨gb112, 1, none⟩ = some (.slice A0_1 l0_1.length c0_1) := (Sq.o BK112.out 1).trans rfl
    have hcz7_2 : w3.cell? ⟨gb112, 2, none⟩ = some (.slice A0_2 l0_2.length c0_2) := (Sq.o BK112.out 2).trans rfl
    have hfz7_0 := Sq.r BK112.out 0
    have hfz7_1 := Sq.r BK112.out 1
    have hfz7_2 := Sq.r BK112.out 2
    go_wp2
    repeat (go_quiet (fail); try go_wp2)
    go_meet
    case rel => exact ⟨_, (true), (by first | rfl | (simp; done) | (simp [*]; done)), H', ⟨by first | omega | exact Nat.le_refl _⟩, ⟨by (with_reducible repeat (first | refine Sq.d ?_ _ | refine Sq.e ?_ | refine Sq.f ?_ _)); exact BK112.out⟩, ⟨by repeat (first | (with_reducible first | exact HB.out | apply Sq.i | apply Sq.j | apply Sq.k | refine Sq.h ?_ GE112.out) | exact HB.out)⟩⟩
   ·rw [if_neg c6] at H
    have c6b0 : decide (16 < a0_0) = false := decide_eq_false c6
    clear c6
    replace H := Option.bind_eq_some_iff.mp H
    obtain ⟨t113, A80, H⟩ := H
    (try dsimp only at H)
    have A8 := Sq.l A80
    clear A80
    by_cases c9 : t113 = true
    ·subst c9
     rw [if_pos rfl] at H
     have H' := Sq.l H
     clear H
     have hcz10_0 : w3.cell? ⟨gb112, 0, none⟩ = some (.int .i64 a0_0) := (Sq.o BK112.out 0).trans rfl
     have hcz10_1 : w3.cell? ⟨gb112, 1, none⟩ = some (.slice A0_1 l0_1.length c0_1) := (Sq.o BK112.out 1).trans rfl
     have hcz10_2 : w3.cell? ⟨gb112, 2, none⟩ = some (.slice A0_2 l0_2.length c0_2) := (Sq.o BK112.out 2).trans rfl
     have hfz10_0 := Sq.r BK112.out 0
     have hfz10_1 := Sq.r BK112.out 1
     have hfz10_2 := Sq.r BK112.out 2
     go_wp2_with (first | (go_at_call 99; (with_reducible refine (spec_l08Rising.calls k _ _ l0_1 true _ ?side1 ?side2 A8.out).mono ?_); (case side1 => repeat (first | exact (Sq.a1 HR0_1.out HB.out) | (with_reducible refine Sq.s ?_ _) | (with_reducible refine Sq.t ?_ _) | (with_reducible refine Sq.u ?_))); (case side2 => exact HC0_1.out); rintro e w' ⟨rfl, ⟨nd, rfl⟩⟩; (try first | exact ⟨rfl, _, World.drewN_drewN _ _ _⟩ | exact ⟨rfl, _, Eq.trans (World.drewN_drewN _ _ _) (congrArg (World.drewN _) (Nat.add_assoc _ _ _))⟩)))
     repeat (go_quiet (first | (go_at_call 99; (with_reducible refine (spec_l08Rising.calls k _ _ l0_1 true _ ?side1 ?side2 A8.out).mono ?_); (case side1 => repeat (first | exact (Sq.a1 HR0_1.out HB.out) | (with_reducible refine Sq.s ?_ _) | (with_reducible refine Sq.t ?_ _) | (with_reducible refine Sq.u ?_))); (case side2 => exact HC0_1.out); rintro e w' ⟨rfl, ⟨nd, rfl⟩⟩; (try first | exact ⟨rfl, _, World.drewN_drewN _ _ _⟩ | exact ⟨rfl, _, Eq.trans (World.drewN_drewN _ _ _) (congrArg (World.drewN _) (Nat.add_assoc _ _ _))⟩))); try go_wp2_with (first | (go_at_call 99; (with_reducible refine (spec_l08Rising.calls k _ _ l0_1 true _ ?side1 ?side2 A8.out).mono ?_); (case side1 => repeat (first | exact (Sq.a1 HR0_1.out HB.out) | (with_reducible refine Sq.s ?_ _) | (with_reducible refine Sq.t ?_ _) | (with_reducible refine Sq.u ?_))); (case side2 => exact HC0_1.out); rintro e w' ⟨rfl, ⟨nd, rfl⟩⟩; (try first | exact ⟨rfl, _, World.drewN_drewN _ _ _⟩ | exact ⟨rfl, _, Eq.trans (World.drewN_drewN _ _ _) (congrArg (World.drewN _) (Nat.add_assoc _ _ _))⟩))))
     go_meet
     case rel => exact ⟨_, (decide ((l0_2.length : Int) > 16)), (by first | rfl | (simp; done) | (simp [*]; done)), H', ⟨by first | omega | exact Nat.le_refl _⟩, ⟨by (with_reducible repeat (first | refine Sq.d ?_ _ | refine Sq.e ?_ | refine Sq.f ?_ _)); exact BK112.out⟩, ⟨by repeat (first | (with_reducible first | exact HB.out | apply Sq.i | apply Sq.j | apply Sq.k | refine Sq.h ?_ GE112.out) | exact HB.out)⟩⟩
    ·replace c9 := Bool.eq_false_iff.mpr c9
     subst c9
     rw [if_neg (show ¬ (false = true) by decide)] at H
     have H' := Sq.l H
     clear H
     have hcz11_0 : w3.cell? ⟨gb112, 0, none⟩ = some (.int .i64 a0_0) := (Sq.o BK112.out 0).trans rfl
     have hcz11_1 : w3.cell? ⟨gb112, 1, none⟩ = some (.slice A0_1 l0_1.length c0_1) := (Sq.o BK112.out 1).trans rfl
     have hcz11_2 : w3.cell? ⟨gb112, 2, none⟩ = some (.slice A0_2 l0_2.length c0_2) := (Sq.o BK112.out 2).trans rfl
     have hfz11_0 := Sq.r BK112.out 0
     have hfz11_1 := Sq.r BK112.out 1
     have hfz11_2 := Sq.r BK112.out 2
     go_wp2_with (first | (go_at_call 99; (with_reducible refine (spec_l08Rising.calls k _ _ l0_1 false _ ?side1 ?side2 A8.out).mono ?_); (case side1 => repeat (first | exact (Sq.a1 HR0_1.out HB.out) | (with_reducible refine Sq.s ?_ _) | (with_reducible refine Sq.t ?_ _) | (with_reducible refine Sq.u ?_))); (case side2 => exact HC0_1.out); rintro e w' ⟨rfl, ⟨nd, rfl⟩⟩; (try first | exact ⟨rfl, _, World.drewN_drewN _ _ _⟩ | exact ⟨rfl, _, Eq.trans (World.drewN_drewN _ _ _) (congrArg (World.drewN _) (Nat.add_assoc _ _ _))⟩)))
     repeat (go_quiet (first | (go_at_call 99; (with_reducible refine (spec_l08Rising.calls k _ _ l0_1 false _ ?side1 ?side2 A8.out).mono ?_); (case side1 => repeat (first | exact (Sq.a1 HR0_1.out HB.out) | (with_reducible refine Sq.s ?_ _) | (with_reducible refine Sq.t ?_ _) | (with_reducible refine Sq.u ?_))); (case side2 => exact HC0_1.out); rintro e w' ⟨rfl, ⟨nd, rfl⟩⟩; (try first | exact ⟨rfl, _, World.drewN_drewN _ _ _⟩ | exact ⟨rfl, _, Eq.trans (World.drewN_drewN _ _ _) (congrArg (World.drewN _) (Nat.add_assoc _ _ _))⟩))); try go_wp2_with (first | (go_at_call 99; (with_reducible refine (spec_l08Rising.calls k _ _ l0_1 false _ ?side1 ?side2 A8.out).mono ?_); (case side1 => repeat (first | exact (Sq.a1 HR0_1.out HB.out) | (with_reducible refine Sq.s ?_ _) | (with_reducible refine Sq.t ?_ _) | (with_reducible refine Sq.u ?_))); (case side2 => exact HC0_1.out); rintro e w' ⟨rfl, ⟨nd, rfl⟩⟩; (try first | exact ⟨rfl, _, World.drewN_drewN _ _ _⟩ | exact ⟨rfl, _, Eq.trans (World.drewN_drewN _ _ _) (congrArg (World.drewN _) (Nat.add_assoc _ _ _))⟩))))
     go_meet
     case rel => exact ⟨_, (true), (by first | rfl | (simp; done) | (simp [*]; done)), H', ⟨by first | omega | exact Nat.le_refl _⟩, ⟨by (with_reducible repeat (first | refine Sq.d ?_ _ | refine Sq.e ?_ | refine Sq.f ?_ _)); exact BK112.out⟩, ⟨by repeat (first | (with_reducible first | exact HB.out | apply Sq.i | apply Sq.j | apply Sq.k | refine Sq.h ?_ GE112.out) | exact HB.out)⟩⟩
 case rest =>
  clear HC2; try clear p2; try clear c4; try clear c4b0; try clear c5; try clear c6; try clear c6b0; try clear c9; try clear hcz10_0; try clear hcz10_1; try clear hcz10_2; try clear hcz11_0; try clear hcz11_1; try clear hcz11_2; try clear hcz5_0; try clear hcz5_1; try clear hcz5_2; try clear hcz7_0; try clear hcz7_1; try clear hcz7_2; try clear hfz10_0; try clear hfz10_1; try clear hfz10_2; try clear hfz11_0; try clear hfz11_1; try clear hfz11_2; try clear hfz5_0; try clear hfz5_1; try clear hfz5_2; try clear hfz7_0; try clear hfz7_1; try clear hfz7_2
  obtain ⟨kq, x24_1, rfl, HA, HJ1, BK112, HB⟩ := hcut
  cases kq with
  | zero => exact absurd HA.out (by simp [spec_l08Cpu.j0])
  | succ kj1 =>
   have H := HA.out
   clear HA
   simp only [spec_l08Cpu.j0] at H
   have HC12 := Sq.l H
   clear H
   go_upto_if 24 with (fail)
   repeat (go_quiet (fail); go_upto_if 24 with (fail))
   have H := HC12.out
   clear HC12
   by_cases c13 : x24_1 = true
   ·subst c13
    rw [if_pos rfl] at H
    obtain rfl := Option.some.inj H
    go_wp2
    repeat (go_quiet (fail); try go_wp2)
    go_ret
    exact ⟨by first | rfl | (simp [errW_none, errW_some] <;> rfl) | (simp [*, errW_none, errW_some] <;> rfl), by repeat (first | (with_reducible first | exact HB.out | apply Sq.i | apply Sq.j | apply Sq.k | refine Sq.h ?_ GE112.out) | exact HB.out)⟩
   ·replace c13 := Bool.eq_false_iff.mpr c13
    subst c13
    rw [if_neg (show ¬ (false = true) by decide)] at H
    have H' := Sq.l H
    clear H
    go_wp2
    repeat (go_quiet (fail); try go_wp2)
    go_loopg [3] kj1 (fun kq v3 w' => ∃ (x3_2 : Int), v3 = .int .i64 x3_2 ∧ Aside0 (spec_l08Cpu.l0 kq x3_2 a0_0 l0_1 l0_2 = some r) ∧ Aside0 (kq ≤ kj1) ∧ Aside0 (w'.heap[gb112]? = some (.cells #[.int .i64 a0_0, (.slice A0_1 l0_1.length c0_1), (.slice A0_2 l0_2.length c0_2)] 111 (0, 0))) ∧ Aside0 (Below w.heap.size w w'))
    case atStart => exact ⟨(0), (by first | rfl | (simp; done) | (simp [*]; done)), H', ⟨Nat.le_refl _⟩, ⟨by (with_reducible repeat (first | refine Sq.d ?_ _ | refine Sq.e ?_ | refine Sq.f ?_ _)); exact BK112.out⟩, ⟨by repeat (first | (with_reducible first | exact HB.out | apply Sq.i | apply Sq.j | apply Sq.k | refine Sq.h ?_ GE112.out) | exact HB.out)⟩⟩
    case round =>
     clear H'
     try clear c1; try clear p2; try clear c4; try clear c4b0; try clear c5; try clear c6; try clear c6b0; try clear c9; try clear c13; try clear hcz10_0; try clear hcz10_1; try clear hcz10_2; try clear hcz11_0; try clear hcz11_1; try clear hcz11_2; try clear hcz5_0; try clear hcz5_1; try clear hcz5_2; try clear hcz7_0; try clear hcz7_1; try clear hcz7_2; try clear hfz10_0; try clear hfz10_1; try clear hfz10_2; try clear hfz11_0; try clear hfz11_1; try clear hfz11_2; try clear hfz5_0; try clear hfz5_1; try clear hfz5_2; try clear hfz7_0; try clear hfz7_1; try clear hfz7_2; try clear p2
     obtain ⟨x3_2, rfl, HA, HK2, BK112, HB⟩ := hrel
     cases gk with
     | zero => exact absurd HA.out (by simp [spec_l08Cpu.l0])
     | succ k2 =>
      have H := HA.out
      clear HA
      simp only [spec_l08Cpu.l0] at H
      have HC14 := Sq.l H
      clear H
      have hcz15_0 : wr.cell? ⟨gb112, 0, none⟩ = some (.int .i64 a0_0) := (Sq.o BK112.out 0).trans rfl
      have hcz15_1 : wr.cell? ⟨gb112, 1, none⟩ = some (.slice A0_1 l0_1.length c0_1) := (Sq.o BK112.out 1).trans rfl
      have hcz15_2 : wr.cell? ⟨gb112, 2, none⟩ = some (.slice A0_2 l0_2.length c0_2) := (Sq.o BK112.out 2).trans rfl
      have hfz15_0 := Sq.r BK112.out 0
      have hfz15_1 := Sq.r BK112.out 1
      have hfz15_2 := Sq.r BK112.out 2
      go_upto_if 29 with (fail)
      repeat (go_quiet (fail); go_upto_if 29 with (fail))
      have H := HC14.out
      clear HC14
      by_cases c16 : x3_2 < (l0_1.length : Int)
      ·rw [if_pos c16] at H
       have c16b0 : decide (x3_2 < (l0_1.length : Int)) = true := decide_eq_true c16
       clear c16
       (first | rw [c16b0] | (simp only [i64_w, i32_w]; rw [c16b0]) | skip)
       by_cases c17 : 0 ≤ x3_2
       ·rw [if_pos c17] at H
        have c17b0 : decide (0 ≤ x3_2) = true := decide_eq_true c17
        clear c17
        replace H := Option.bind_eq_some_iff.mp H
        obtain ⟨t115, A180, H⟩ := H
        (try dsimp only at H)
        have A18 := Sq.l A180
        clear A180
        have HC19 := Sq.l H
        clear H
        have hcz20_0 : wr.cell? ⟨gb112, 0, none⟩ = some (.int .i64 a0_0) := (Sq.o BK112.out 0).trans rfl
        have hcz20_1 : wr.cell? ⟨gb112, 1, none⟩ = some (.slice A0_1 l0_1.length c0_1) := (Sq.o BK112.out 1).trans rfl
        have hcz20_2 : wr.cell? ⟨gb112, 2, none⟩ = some (.slice A0_2 l0_2.length c0_2) := (Sq.o BK112.out 2).trans rfl
        have hfz20_0 := Sq.r BK112.out 0
        have hfz20_1 := Sq.r BK112.out 1
        have hfz20_2 := Sq.r BK112.out 2
        have p114 : 0 ≤ (x3_2 : Int) := of_decide_eq_true (by first | (with_reducible assumption) | assumption)
        have q114 : x3_2 < (l0_1.length : Int) := of_decide_eq_true (by first | (with_reducible assumption) | assumption)
        obtain ⟨ad114, e114, hx114_0⟩ := Kd.at_int HR0_1.out x3_2 p114 q114
        cases e114
        replace hx114_0 := (HB.out.cell (World.block_lt_of_cell? w _ hx114_0)).trans hx114_0
        replace p114 := eq_true p114; replace q114 := eq_true q114
        go_upto_if 38 with (first | (go_at_call 58; (with_reducible refine (spec_l08Vector.calls (rd l0_1 x3_2) t115 _ A18.out).mono ?_); rintro e w' ⟨rfl, ⟨nd, rfl⟩⟩; (try first | exact ⟨rfl, _, World.drewN_drewN _ _ _⟩ | exact ⟨rfl, _, Eq.trans (World.drewN_drewN _ _ _) (congrArg (World.drewN _) (Nat.add_assoc _ _ _))⟩)))
        repeat (go_quiet (first | (go_at_call 58; (with_reducible refine (spec_l08Vector.calls (rd l0_1 x3_2) t115 _ A18.out).mono ?_); rintro e w' ⟨rfl, ⟨nd, rfl⟩⟩; (try first | exact ⟨rfl, _, World.drewN_drewN _ _ _⟩ | exact ⟨rfl, _, Eq.trans (World.drewN_drewN _ _ _) (congrArg (World.drewN _) (Nat.add_assoc _ _ _))⟩))); go_upto_if 38 with (first | (go_at_call 58; (with_reducible refine (spec_l08Vector.calls (rd l0_1 x3_2) t115 _ A18.out).mono ?_); rintro e w' ⟨rfl, ⟨nd, rfl⟩⟩; (try first | exact ⟨rfl, _, World.drewN_drewN _ _ _⟩ | exact ⟨rfl, _, Eq.trans (World.drewN_drewN _ _ _) (congrArg (World.drewN _) (Nat.add_assoc _ _ _))⟩))))
        (try simp only [Act.put, List.setIfInBounds_toArray, List.set_cons_zero, List.set_cons_succ])
        have H := HC19.out
        clear HC19
        by_cases c21 : t115 = true
        ·subst c21
         rw [if_pos rfl] at H
         have H' := Sq.l H
         clear H
         go_wp2
         repeat (go_quiet (fail); try go_wp2)
         go_roundg k2
         case measure => have := HJ1.out; have := HK2.out; omega
         case rel => exact ⟨(wrap64 (x3_2 + 1)), (by first | rfl | (simp; done) | (simp [*]; done)), H', ⟨by have := HJ1.out; have := HK2.out; omega⟩, ⟨by (with_reducible repeat (first | refine Sq.d ?_ _ | refine Sq.e ?_ | refine Sq.f ?_ _)); exact BK112.out⟩, ⟨by repeat (first | (with_reducible first | exact HB.out | apply Sq.i | apply Sq.j | apply Sq.k | refine Sq.h ?_ GE112.out) | exact HB.out)⟩⟩
        ·replace c21 := Bool.eq_false_iff.mpr c21
         subst c21
         rw [if_neg (show ¬ (false = true) by decide)] at H
         obtain rfl := Option.some.inj H
         go_wp2
         repeat (go_quiet (fail); try go_wp2)
         go_ret
         exact ⟨by first | rfl | (simp [errW_none, errW_some] <;> rfl) | (simp [*, errW_none, errW_some] <;> rfl), by repeat (first | (with_reducible first | exact HB.out | apply Sq.i | apply Sq.j | apply Sq.k | refine Sq.h ?_ GE112.out) | exact HB.out)⟩
       ·rw [if_neg c17] at H
        exact absurd H (by simp)
      ·rw [if_neg c16] at H
       have c16b0 : decide (x3_2 < (l0_1.length : Int)) = false := decide_eq_false c16
       clear c16
       (first | rw [c16b0] | (simp only [i64_w, i32_w]; rw [c16b0]) | skip)
       have H' := Sq.l H
       clear H
       go_wp2
       repeat (go_quiet (fail); try go_wp2)
       go_loopg [4] k2 (fun kq v4 w' => ∃ (x4_3 : Int), v4 = .int .i64 x4_3 ∧ Aside0 (spec_l08Cpu.l1 kq x4_3 a0_0 l0_1 l0_2 = some r) ∧ Aside0 (kq ≤ k2) ∧ Aside0 (w'.heap[gb112]? = some (.cells #[.int .i64 a0_0, (.slice A0_1 l0_1.length c0_1), (.slice A0_2 l0_2.length c0_2)] 111 (0, 0))) ∧ Aside0 (Below w.heap.size w w'))
       case atStart => exact ⟨(0), (by first | rfl | (simp; done) | (simp [*]; done)), H', ⟨Nat.le_refl _⟩, ⟨by (with_reducible repeat (first | refine Sq.d ?_ _ | refine Sq.e ?_ | refine Sq.f ?_ _)); exact BK112.out⟩, ⟨by repeat (first | (with_reducible first | exact HB.out | apply Sq.i | apply Sq.j | apply Sq.k | refine Sq.h ?_ GE112.out) | exact HB.out)⟩⟩
       case round =>
        clear H'
        try clear c1; try clear p1; try clear q1; try clear hx1; try clear c2; try clear p2; try clear c4; try clear c4b0; try clear c5; try clear c6; try clear c6b0; try clear p6; try clear c9; try clear p11; try clear q11; try clear hx11; try clear c13; try clear c16; try clear c16b0; try clear c17; try clear c17b0; try clear c21; try clear hcz10_0; try clear hcz10_1; try clear hcz10_2; try clear hcz11_0; try clear hcz11_1; try clear hcz11_2; try clear hcz15_0; try clear hcz15_1; try clear hcz15_2; try clear hcz20_0; try clear hcz20_1; try clear hcz20_2; try clear hcz5_0; try clear hcz5_1; try clear hcz5_2; try clear hcz7_0; try clear hcz7_1; try clear hcz7_2; try clear hfz10_0; try clear hfz10_1; try clear hfz10_2; try clear hfz11_0; try clear hfz11_1; try clear hfz11_2; try clear hfz15_0; try clear hfz15_1; try clear hfz15_2; try clear hfz20_0; try clear hfz20_1; try clear hfz20_2; try clear hfz5_0; try clear hfz5_1; try clear hfz5_2; try clear hfz7_0; try clear hfz7_1; try clear hfz7_2; try clear hx114_0; try clear p114; try clear p2; try clear q114
        obtain ⟨x4_3, rfl, HA, HK3, BK112, HB⟩ := hrel
        cases gk with
        | zero => exact absurd HA.out (by simp [spec_l08Cpu.l1])
        | succ k3 =>
         have H := HA.out
         clear HA
         simp only [spec_l08Cpu.l1] at H
         have HC22 := Sq.l H
         clear H
         have hcz23_0 : wr.cell? ⟨gb112, 0, none⟩ = some (.int .i64 a0_0) := (Sq.o BK112.out 0).trans rfl
         have hcz23_1 : wr.cell? ⟨gb112, 1, none⟩ = some (.slice A0_1 l0_1.length c0_1) := (Sq.o BK112.out 1).trans rfl
         have hcz23_2 : wr.cell? ⟨gb112, 2, none⟩ = some (.slice A0_2 l0_2.length c0_2) := (Sq.o BK112.out 2).trans rfl
         have hfz23_0 := Sq.r BK112.out 0
         have hfz23_1 := Sq.r BK112.out 1
         have hfz23_2 := Sq.r BK112.out 2
         go_upto_if 43 with (fail)
         repeat (go_quiet (fail); go_upto_if 43 with (fail))
         have H := HC22.out
         clear HC22
         by_cases c24 : x4_3 < (l0_2.length : Int)
         ·rw [if_pos c24] at H
          have c24b0 : decide (x4_3 < (l0_2.length : Int)) = true := decide_eq_true c24
          clear c24
          (first | rw [c24b0] | (simp only [i64_w, i32_w]; rw [c24b0]) | skip)
          by_cases c25 : 0 ≤ x4_3
          ·rw [if_pos c25] at H
           have c25b0 : decide (0 ≤ x4_3) = true := decide_eq_true c25
           clear c25
           replace H := Option.bind_eq_some_iff.mp H
           obtain ⟨t117, A260, H⟩ := H
           (try dsimp only at H)
           have A26 := Sq.l A260
           clear A260
           by_cases c27 : t117 = true
           ·subst c27
            rw [if_pos rfl] at H
            by_cases c28 : x4_3 > 0
            ·rw [if_pos c28] at H
             have c28b0 : decide (0 < x4_3) = true := decide_eq_true c28
             clear c28
             obtain ⟨ji29, hji29⟩ : ∃ j_ : Int, (wrap64 (x4_3 - 1)) = j_ := ⟨_, rfl⟩
             replace H : (if 0 ≤ (ji29) then (if (ji29) < (l0_2.length : Int) then (if (wrap64 (Int.tdiv (rd l0_2 (ji29)) 4)) ≥ (wrap64 (Int.tdiv (rd l0_2 x4_3) 4)) then (some false) else (spec_l08Cpu.l1 k3 (wrap64 (x4_3 + 1)) a0_0 l0_1 l0_2)) else (none)) else (none)) = some r := by first | (rw [hji29] at H; exact H) | (simp only [hji29] at H ⊢; exact H)
             (try rw [hji29] at A26)
             have hji29w : (IntKind.i64.wrap (x4_3 - 1)) = ji29 := (i64_w _).trans hji29
             by_cases c30 : 0 ≤ (ji29)
             ·rw [if_pos c30] at H
              have c30b0 : decide (0 ≤ (ji29)) = true := decide_eq_true c30
              clear c30
              by_cases c31 : (ji29) < (l0_2.length : Int)
              ·rw [if_pos c31] at H
               have c31b0 : decide ((ji29) < (l0_2.length : Int)) = true := decide_eq_true c31
               clear c31
               have HC32 := Sq.l H
               clear H
               have hcz33_0 : wr.cell? ⟨gb112, 0, none⟩ = some (.int .i64 a0_0) := (Sq.o BK112.out 0).trans rfl
               have hcz33_1 : wr.cell? ⟨gb112, 1, none⟩ = some (.slice A0_1 l0_1.length c0_1) := (Sq.o BK112.out 1).trans rfl
               have hcz33_2 : wr.cell? ⟨gb112, 2, none⟩ = some (.slice A0_2 l0_2.length c0_2) := (Sq.o BK112.out 2).trans rfl
               have hfz33_0 := Sq.r BK112.out 0
               have hfz33_1 := Sq.r BK112.out 1
               have hfz33_2 := Sq.r BK112.out 2
               have p116 : 0 ≤ (x4_3 : Int) := of_decide_eq_true (by first | (with_reducible assumption) | assumption)
               have q116 : x4_3 < (l0_2.length : Int) := of_decide_eq_true (by first | (with_reducible assumption) | assumption)
               obtain ⟨ad116, e116, hx116_0⟩ := Kd.at_int HR0_2.out x4_3 p116 q116
               cases e116
               replace hx116_0 := (HB.out.cell (World.block_lt_of_cell? w _ hx116_0)).trans hx116_0
               replace p116 := eq_true p116; replace q116 := eq_true q116
               go_upto_if 72 with (first | (go_at_call 58; (with_reducible refine (spec_l08Vector.calls (rd l0_2 x4_3) true _ A26.out).mono ?_); rintro e w' ⟨rfl, ⟨nd, rfl⟩⟩; (try first | exact ⟨rfl, _, World.drewN_drewN _ _ _⟩ | exact ⟨rfl, _, Eq.trans (World.drewN_drewN _ _ _) (congrArg (World.drewN _) (Nat.add_assoc _ _ _))⟩); have p118 : 0 ≤ ((ji29) : Int) := of_decide_eq_true (by first | (with_reducible assumption) | assumption); have q118 : (ji29) < (l0_2.length : Int) := of_decide_eq_true (by first | (with_reducible assumption) | assumption); obtain ⟨ad118, e118, hx118_0⟩ := Kd.at_int HR0_2.out (ji29) p118 q118; obtain rfl : ad116 = ad118 := (by injection e118); replace hx118_0 := (HB.out.cell (World.block_lt_of_cell? w _ hx118_0)).trans hx118_0; replace p118 := eq_true p118; replace q118 := eq_true q118; have p119 : 0 ≤ (x4_3 : Int) := of_decide_eq_true (by first | (with_reducible assumption) | assumption); have q119 : x4_3 < (l0_2.length : Int) := of_decide_eq_true (by first | (with_reducible assumption) | assumption); obtain ⟨ad119, e119, hx119_0⟩ := Kd.at_int HR0_2.out x4_3 p119 q119; obtain rfl : ad116 = ad119 := (by injection e119); replace hx119_0 := (HB.out.cell (World.block_lt_of_cell? w _ hx119_0)).trans hx119_0; replace p119 := eq_true p119; replace q119 := eq_true q119))
               repeat (go_quiet (first | (go_at_call 58; (with_reducible refine (spec_l08Vector.calls (rd l0_2 x4_3) true _ A26.out).mono ?_); rintro e w' ⟨rfl, ⟨nd, rfl⟩⟩; (try first | exact ⟨rfl, _, World.drewN_drewN _ _ _⟩ | exact ⟨rfl, _, Eq.trans (World.drewN_drewN _ _ _) (congrArg (World.drewN _) (Nat.add_assoc _ _ _))⟩); have p118 : 0 ≤ ((ji29) : Int) := of_decide_eq_true (by first | (with_reducible assumption) | assumption); have q118 : (ji29) < (l0_2.length : Int) := of_decide_eq_true (by first | (with_reducible assumption) | assumption); obtain ⟨ad118, e118, hx118_0⟩ := Kd.at_int HR0_2.out (ji29) p118 q118; obtain rfl : ad116 = ad118 := (by injection e118); replace hx118_0 := (HB.out.cell (World.block_lt_of_cell? w _ hx118_0)).trans hx118_0; replace p118 := eq_true p118; replace q118 := eq_true q118; have p119 : 0 ≤ (x4_3 : Int) := of_decide_eq_true (by first | (with_reducible assumption) | assumption); have q119 : x4_3 < (l0_2.length : Int) := of_decide_eq_true (by first | (with_reducible assumption) | assumption); obtain ⟨ad119, e119, hx119_0⟩ := Kd.at_int HR0_2.out x4_3 p119 q119; obtain rfl : ad116 = ad119 := (by injection e119); replace hx119_0 := (HB.out.cell (World.block_lt_of_cell? w _ hx119_0)).trans hx119_0; replace p119 := eq_true p119; replace q119 := eq_true q119)); go_upto_if 72 with (first | (go_at_call 58; (with_reducible refine (spec_l08Vector.calls (rd l0_2 x4_3) true _ A26.out).mono ?_); rintro e w' ⟨rfl, ⟨nd, rfl⟩⟩; (try first | exact ⟨rfl, _, World.drewN_drewN _ _ _⟩ | exact ⟨rfl, _, Eq.trans (World.drewN_drewN _ _ _) (congrArg (World.drewN _) (Nat.add_assoc _ _ _))⟩); have p118 : 0 ≤ ((ji29) : Int) := of_decide_eq_true (by first | (with_reducible assumption) | assumption); have q118 : (ji29) < (l0_2.length : Int) := of_decide_eq_true (by first | (with_reducible assumption) | assumption); obtain ⟨ad118, e118, hx118_0⟩ := Kd.at_int HR0_2.out (ji29) p118 q118; obtain rfl : ad116 = ad118 := (by injection e118); replace hx118_0 := (HB.out.cell (World.block_lt_of_cell? w _ hx118_0)).trans hx118_0; replace p118 := eq_true p118; replace q118 := eq_true q118; have p119 : 0 ≤ (x4_3 : Int) := of_decide_eq_true (by first | (with_reducible assumption) | assumption); have q119 : x4_3 < (l0_2.length : Int) := of_decide_eq_true (by first | (with_reducible assumption) | assumption); obtain ⟨ad119, e119, hx119_0⟩ := Kd.at_int HR0_2.out x4_3 p119 q119; obtain rfl : ad116 = ad119 := (by injection e119); replace hx119_0 := (HB.out.cell (World.block_lt_of_cell? w _ hx119_0)).trans hx119_0; replace p119 := eq_true p119; replace q119 := eq_true q119)))
               (try simp only [Act.put, List.setIfInBounds_toArray, List.set_cons_zero, List.set_cons_succ])
               have H := HC32.out
               clear HC32
               by_cases c34 : (wrap64 (Int.tdiv (rd l0_2 (ji29)) 4)) ≥ (wrap64 (Int.tdiv (rd l0_2 x4_3) 4))
               ·rw [if_pos c34] at H
                have c34b0 : decide ((wrap64 (Int.tdiv (rd l0_2 x4_3) 4)) ≤ (wrap64 (Int.tdiv (rd l0_2 (ji29)) 4))) = true := decide_eq_true c34
                clear c34
                (first | rw [c34b0] | (simp only [i64_w, i32_w]; rw [c34b0]) | skip)
                obtain rfl := Option.some.inj H
                go_wp2
                repeat (go_quiet (fail); try go_wp2)
                go_ret
                exact ⟨by first | rfl | (simp [errW_none, errW_some] <;> rfl) | (simp only [← hji29]; first | rfl | (simp [errW_none, errW_some] <;> rfl)) | (simp [*, errW_none, errW_some] <;> rfl), by repeat (first | (with_reducible first | exact HB.out | apply Sq.i | apply Sq.j | apply Sq.k | refine Sq.h ?_ GE112.out) | exact HB.out)⟩
               ·rw [if_neg c34] at H
                have c34b0 : decide ((wrap64 (Int.tdiv (rd l0_2 x4_3) 4)) ≤ (wrap64 (Int.tdiv (rd l0_2 (ji29)) 4))) = false := decide_eq_false c34
                clear c34
                (first | rw [c34b0] | (simp only [i64_w, i32_w]; rw [c34b0]) | skip)
                have H' := Sq.l H
                clear H
                go_wp2
                repeat (go_quiet (fail); try go_wp2)
                go_roundg k3
                case measure => have := HJ1.out; have := HK2.out; have := HK3.out; omega
                case rel => exact ⟨(wrap64 (x4_3 + 1)), (by first | rfl | (simp; done) | (simp [*]; done)), H', ⟨by have := HJ1.out; have := HK2.out; have := HK3.out; omega⟩, ⟨by (with_reducible repeat (first | refine Sq.d ?_ _ | refine Sq.e ?_ | refine Sq.f ?_ _)); exact BK112.out⟩, ⟨by repeat (first | (with_reducible first | exact HB.out | apply Sq.i | apply Sq.j | apply Sq.k | refine Sq.h ?_ GE112.out) | exact HB.out)⟩⟩
              ·rw [if_neg c31] at H
               exact absurd H (by simp)
             ·rw [if_neg c30] at H
              exact absurd H (by simp)
            ·rw [if_neg c28] at H
             have c28b0 : decide (0 < x4_3) = false := decide_eq_false c28
             clear c28
             have H' := Sq.l H
             clear H
             have hcz35_0 : wr.cell? ⟨gb112, 0, none⟩ = some (.int .i64 a0_0) := (Sq.o BK112.out 0).trans rfl
             have hcz35_1 : wr.cell? ⟨gb112, 1, none⟩ = some (.slice A0_1 l0_1.length c0_1) := (Sq.o BK112.out 1).trans rfl
             have hcz35_2 : wr.cell? ⟨gb112, 2, none⟩ = some (.slice A0_2 l0_2.length c0_2) := (Sq.o BK112.out 2).trans rfl
             have hfz35_0 := Sq.r BK112.out 0
             have hfz35_1 := Sq.r BK112.out 1
             have hfz35_2 := Sq.r BK112.out 2
             have p116 : 0 ≤ (x4_3 : Int) := of_decide_eq_true (by first | (with_reducible assumption) | assumption)
             have q116 : x4_3 < (l0_2.length : Int) := of_decide_eq_true (by first | (with_reducible assumption) | assumption)
             obtain ⟨ad116, e116, hx116_0⟩ := Kd.at_int HR0_2.out x4_3 p116 q116
             cases e116
             replace hx116_0 := (HB.out.cell (World.block_lt_of_cell? w _ hx116_0)).trans hx116_0
             replace p116 := eq_true p116; replace q116 := eq_true q116
             go_wp2_with (first | (go_at_call 58; (with_reducible refine (spec_l08Vector.calls (rd l0_2 x4_3) true _ A26.out).mono ?_); rintro e w' ⟨rfl, ⟨nd, rfl⟩⟩; (try first | exact ⟨rfl, _, World.drewN_drewN _ _ _⟩ | exact ⟨rfl, _, Eq.trans (World.drewN_drewN _ _ _) (congrArg (World.drewN _) (Nat.add_assoc _ _ _))⟩)))
             repeat (go_quiet (first | (go_at_call 58; (with_reducible refine (spec_l08Vector.calls (rd l0_2 x4_3) true _ A26.out).mono ?_); rintro e w' ⟨rfl, ⟨nd, rfl⟩⟩; (try first | exact ⟨rfl, _, World.drewN_drewN _ _ _⟩ | exact ⟨rfl, _, Eq.trans (World.drewN_drewN _ _ _) (congrArg (World.drewN _) (Nat.add_assoc _ _ _))⟩))); try go_wp2_with (first | (go_at_call 58; (with_reducible refine (spec_l08Vector.calls (rd l0_2 x4_3) true _ A26.out).mono ?_); rintro e w' ⟨rfl, ⟨nd, rfl⟩⟩; (try first | exact ⟨rfl, _, World.drewN_drewN _ _ _⟩ | exact ⟨rfl, _, Eq.trans (World.drewN_drewN _ _ _) (congrArg (World.drewN _) (Nat.add_assoc _ _ _))⟩))))
             go_roundg k3
             case measure => have := HJ1.out; have := HK2.out; have := HK3.out; omega
             case rel => exact ⟨(wrap64 (x4_3 + 1)), (by first | rfl | (simp; done) | (simp [*]; done)), H', ⟨by have := HJ1.out; have := HK2.out; have := HK3.out; omega⟩, ⟨by (with_reducible repeat (first | refine Sq.d ?_ _ | refine Sq.e ?_ | refine Sq.f ?_ _)); exact BK112.out⟩, ⟨by repeat (first | (with_reducible first | exact HB.out | apply Sq.i | apply Sq.j | apply Sq.k | refine Sq.h ?_ GE112.out) | exact HB.out)⟩⟩
           ·replace c27 := Bool.eq_false_iff.mpr c27
            subst c27
            rw [if_neg (show ¬ (false = true) by decide)] at H
            obtain rfl := Option.some.inj H
            have hcz36_0 : wr.cell? ⟨gb112, 0, none⟩ = some (.int .i64 a0_0) := (Sq.o BK112.out 0).trans rfl
            have hcz36_1 : wr.cell? ⟨gb112, 1, none⟩ = some (.slice A0_1 l0_1.length c0_1) := (Sq.o BK112.out 1).trans rfl
            have hcz36_2 : wr.cell? ⟨gb112, 2, none⟩ = some (.slice A0_2 l0_2.length c0_2) := (Sq.o BK112.out 2).trans rfl
            have hfz36_0 := Sq.r BK112.out 0
            have hfz36_1 := Sq.r BK112.out 1
            have hfz36_2 := Sq.r BK112.out 2
            have p116 : 0 ≤ (x4_3 : Int) := of_decide_eq_true (by first | (with_reducible assumption) | assumption)
            have q116 : x4_3 < (l0_2.length : Int) := of_decide_eq_true (by first | (with_reducible assumption) | assumption)
            obtain ⟨ad116, e116, hx116_0⟩ := Kd.at_int HR0_2.out x4_3 p116 q116
            cases e116
            replace hx116_0 := (HB.out.cell (World.block_lt_of_cell? w _ hx116_0)).trans hx116_0
            replace p116 := eq_true p116; replace q116 := eq_true q116
            go_wp2_with (first | (go_at_call 58; (with_reducible refine (spec_l08Vector.calls (rd l0_2 x4_3) false _ A26.out).mono ?_); rintro e w' ⟨rfl, ⟨nd, rfl⟩⟩; (try first | exact ⟨rfl, _, World.drewN_drewN _ _ _⟩ | exact ⟨rfl, _, Eq.trans (World.drewN_drewN _ _ _) (congrArg (World.drewN _) (Nat.add_assoc _ _ _))⟩)))
            repeat (go_quiet (first | (go_at_call 58; (with_reducible refine (spec_l08Vector.calls (rd l0_2 x4_3) false _ A26.out).mono ?_); rintro e w' ⟨rfl, ⟨nd, rfl⟩⟩; (try first | exact ⟨rfl, _, World.drewN_drewN _ _ _⟩ | exact ⟨rfl, _, Eq.trans (World.drewN_drewN _ _ _) (congrArg (World.drewN _) (Nat.add_assoc _ _ _))⟩))); try go_wp2_with (first | (go_at_call 58; (with_reducible refine (spec_l08Vector.calls (rd l0_2 x4_3) false _ A26.out).mono ?_); rintro e w' ⟨rfl, ⟨nd, rfl⟩⟩; (try first | exact ⟨rfl, _, World.drewN_drewN _ _ _⟩ | exact ⟨rfl, _, Eq.trans (World.drewN_drewN _ _ _) (congrArg (World.drewN _) (Nat.add_assoc _ _ _))⟩))))
            go_ret
            exact ⟨by first | rfl | (simp [errW_none, errW_some] <;> rfl) | (simp [*, errW_none, errW_some] <;> rfl), by repeat (first | (with_reducible first | exact HB.out | apply Sq.i | apply Sq.j | apply Sq.k | refine Sq.h ?_ GE112.out) | exact HB.out)⟩
          ·rw [if_neg c25] at H
           exact absurd H (by simp)
         ·rw [if_neg c24] at H
          have c24b0 : decide (x4_3 < (l0_2.length : Int)) = false := decide_eq_false c24
          clear c24
          (first | rw [c24b0] | (simp only [i64_w, i32_w]; rw [c24b0]) | skip)
          obtain rfl := Option.some.inj H
          go_wp2
          repeat (go_quiet (fail); try go_wp2)
          go_ret
          exact ⟨by first | rfl | (simp [errW_none, errW_some] <;> rfl) | (simp [*, errW_none, errW_some] <;> rfl), by repeat (first | (with_reducible first | exact HB.out | apply Sq.i | apply Sq.j | apply Sq.k | refine Sq.h ?_ GE112.out) | exact HB.out)⟩

end Go.Proofs.Ytmajbehafgajmaa.QFnExactRouterFault
