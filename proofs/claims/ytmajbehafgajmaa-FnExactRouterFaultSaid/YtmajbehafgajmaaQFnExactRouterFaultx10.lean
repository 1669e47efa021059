-- Written for this claim by this session's own driver (wip/xprint.py).
import Derived.Test.YtmajbehafgajmaaQFnExactRouterFaultx0
import Derived.Test.YtmajbehafgajmaaQFnExactRouterFaultx7
import Derived.Test.YtmajbehafgajmaaQFnExactRouterFaultx9
namespace Go.Proofs.Ytmajbehafgajmaa.QFnExactRouterFault
open Go.RowKit Go.Proofs.YtmajbehafgajmaaW.PrintWords Go.Proofs.YtmajbehafgajmaaW.PrintLast Go.Proofs.YtmajbehafgajmaaW.PrintMore
attribute [local go_sem] max2_int min2_int max_two min_two max_three min_three max_four min_four   -- for this text's walks alone
set_option linter.unusedVariables false
set_option linter.unusedSimpArgs false

/-! ### spec_RouterFault: function 14 -/
mutual
def spec_RouterFault.j0 : Nat → Bool → List (S107) → List (S111) → List (S113) → Option (Int)
 | 0, _, _, _, _ => none
 | k + 1, x29, x121000, x121001, x121002 => if x29 = true then (some 1) else (spec_RouterFault.l0 k (x121001.length : Int) 0 x121000 x121001 x121002)
def spec_RouterFault.l0 : Nat → Int → Int → List (S107) → List (S111) → List (S113) → Option (Int)
 | 0, _, _, _, _, _ => none
 | k + 1, x3, x4, x121000, x121001, x121002 => if x4 < (x121000.length : Int) then (if 0 ≤ x4 then (if ((rd_T107 x121000 x4).f0) < 0 then (some 1) else (if ((rd_T107 x121000 x4).f0) ≥ x3 then (some 1) else ((spec_l08Vector.f ((rd_T107 x121000 x4).f1)).bind fun t124 => (if t124 = true then (spec_RouterFault.l0 k x3 (wrap64 (x4 + 1)) x121000 x121001 x121002) else (some 1))))) else (none)) else (spec_RouterFault.l1 k x3 0 x121000 x121001 x121002)
def spec_RouterFault.l1 : Nat → Int → Int → List (S107) → List (S111) → List (S113) → Option (Int)
 | 0, _, _, _, _, _ => none
 | k + 1, x3, x5, x121000, x121001, x121002 => if x5 < (x121001.length : Int) then (if 0 ≤ x5 then ((spec_l08Cpu.f k ((rd_T111 x121001 x5).f0) ((rd_T111 x121001 x5).f1) ((rd_T111 x121001 x5).f2)).bind fun t126 => (if t126 = true then (spec_RouterFault.l1 k x3 (wrap64 (x5 + 1)) x121000 x121001 x121002) else (some 1))) else (none)) else (spec_RouterFault.l2 k x3 0 x121000 x121001 x121002)
def spec_RouterFault.l2 : Nat → Int → Int → List (S107) → List (S111) → List (S113) → Option (Int)
 | 0, _, _, _, _, _ => none
 | k + 1, x3, x6, x121000, x121001, x121002 => if x6 < (x121002.length : Int) then (if 0 ≤ x6 then (if ((rd_T113 x121002 x6).f0) < 0 then (spec_RouterFault.j4 k x3 x6 true x121000 x121001 x121002 ((rd_T113 x121002 x6).f0) ((rd_T113 x121002 x6).f1) ((rd_T113 x121002 x6).f2) ((rd_T113 x121002 x6).f3)) else (if ((rd_T113 x121002 x6).f0) > 255 then (spec_RouterFault.j4 k x3 x6 true x121000 x121001 x121002 ((rd_T113 x121002 x6).f0) ((rd_T113 x121002 x6).f1) ((rd_T113 x121002 x6).f2) ((rd_T113 x121002 x6).f3)) else (if ((rd_T113 x121002 x6).f1) < 0 then (spec_RouterFault.j4 k x3 x6 true x121000 x121001 x121002 ((rd_T113 x121002 x6).f0) ((rd_T113 x121002 x6).f1) ((rd_T113 x121002 x6).f2) ((rd_T113 x121002 x6).f3)) else (if ((rd_T113 x121002 x6).f1) > 255 then (spec_RouterFault.j4 k x3 x6 true x121000 x121001 x121002 ((rd_T113 x121002 x6).f0) ((rd_T113 x121002 x6).f1) ((rd_T113 x121002 x6).f2) ((rd_T113 x121002 x6).f3)) else (if ((rd_T113 x121002 x6).f2) < 0 then (spec_RouterFault.j4 k x3 x6 true x121000 x121001 x121002 ((rd_T113 x121002 x6).f0) ((rd_T113 x121002 x6).f1) ((rd_T113 x121002 x6).f2) ((rd_T113 x121002 x6).f3)) else (if ((rd_T113 x121002 x6).f2) ≥ x3 then (spec_RouterFault.j4 k x3 x6 true x121000 x121001 x121002 ((rd_T113 x121002 x6).f0) ((rd_T113 x121002 x6).f1) ((rd_T113 x121002 x6).f2) ((rd_T113 x121002 x6).f3)) else ((spec_l08Vector.f ((rd_T113 x121002 x6).f3)).bind fun t129 => (spec_RouterFault.j4 k x3 x6 (!t129) x121000 x121001 x121002 ((rd_T113 x121002 x6).f0) ((rd_T113 x121002 x6).f1) ((rd_T113 x121002 x6).f2) ((rd_T113 x121002 x6).f3))))))))) else (none)) else (some 0)
def spec_RouterFault.j4 : Nat → Int → Int → Bool → List (S107) → List (S111) → List (S113) → Int → Int → Int → Int → Option (Int)
 | 0, _, _, _, _, _, _, _, _, _, _ => none
 | k + 1, x3, x6, x127, x121000, x121001, x121002, x129000, x129001, x129002, x129003 => if x127 = true then (some 1) else (if x6 > 0 then (if 0 ≤ (wrap64 (x6 - 1)) then (if (wrap64 (x6 - 1)) < (x121002.length : Int) then (if (wrap64 ((wrap64 (((rd_T113 x121002 (wrap64 (x6 - 1))).f0) * 256)) + ((rd_T113 x121002 (wrap64 (x6 - 1))).f1))) ≥ (wrap64 ((wrap64 (x129000 * 256)) + x129001)) then (some 1) else (spec_RouterFault.l2 k x3 (wrap64 (x6 + 1)) x121000 x121001 x121002)) else (none)) else (none)) else (spec_RouterFault.l2 k x3 (wrap64 (x6 + 1)) x121000 x121001 x121002))
end
def spec_RouterFault.f (k : Nat) (l0_0 : List (S107)) (l0_1 : List (S111)) (l0_2 : List (S113)) : Option (Int) := if (l0_0.length : Int) > 64 then (spec_RouterFault.j0 k true l0_0 l0_1 l0_2) else (if (l0_1.length : Int) < 1 then (spec_RouterFault.j0 k true l0_0 l0_1 l0_2) else (if (l0_1.length : Int) > 8 then (spec_RouterFault.j0 k true l0_0 l0_1 l0_2) else (spec_RouterFault.j0 k (decide ((l0_2.length : Int) > 1000)) l0_0 l0_1 l0_2)))
theorem spec_RouterFault.mono_l : ∀ k, (∀ y0 y1 y2 y3, LeO (spec_RouterFault.j0 k y0 y1 y2 y3) (spec_RouterFault.j0 (k + 1) y0 y1 y2 y3)) ∧ (∀ y0 y1 y2 y3 y4, LeO (spec_RouterFault.l0 k y0 y1 y2 y3 y4) (spec_RouterFault.l0 (k + 1) y0 y1 y2 y3 y4)) ∧ (∀ y0 y1 y2 y3 y4, LeO (spec_RouterFault.l1 k y0 y1 y2 y3 y4) (spec_RouterFault.l1 (k + 1) y0 y1 y2 y3 y4)) ∧ (∀ y0 y1 y2 y3 y4, LeO (spec_RouterFault.l2 k y0 y1 y2 y3 y4) (spec_RouterFault.l2 (k + 1) y0 y1 y2 y3 y4)) ∧ (∀ y0 y1 y2 y3 y4 y5 y6 y7 y8 y9, LeO (spec_RouterFault.j4 k y0 y1 y2 y3 y4 y5 y6 y7 y8 y9) (spec_RouterFault.j4 (k + 1) y0 y1 y2 y3 y4 y5 y6 y7 y8 y9))
 | 0 => ⟨fun _ _ _ _ r h => by simp [spec_RouterFault.j0] at h, fun _ _ _ _ _ r h => by simp [spec_RouterFault.l0] at h, fun _ _ _ _ _ r h => by simp [spec_RouterFault.l1] at h, fun _ _ _ _ _ r h => by simp [spec_RouterFault.l2] at h, fun _ _ _ _ _ _ _ _ _ _ r h => by simp [spec_RouterFault.j4] at h⟩
 | k + 1 => by
  obtain ⟨ih0, ih1, ih2, ih3, ih4⟩ := spec_RouterFault.mono_l k
  refine ⟨?_, ?_, ?_, ?_, ?_⟩
  ·intro y0 y1 y2 y3
   unfold spec_RouterFault.j0
   repeat' first
   | (with_reducible exact ih0 _ _ _ _)
   | (with_reducible exact ih1 _ _ _ _ _)
   | (with_reducible exact ih2 _ _ _ _ _)
   | (with_reducible exact ih3 _ _ _ _ _)
   | (with_reducible exact ih4 _ _ _ _ _ _ _ _ _ _)
   | (with_reducible exact spec_l08Cpu.mono _ _ _ _)
   | (with_reducible exact LeO.refl _)
   | (with_reducible exact LeO.none _)
   | (with_reducible refine LeO.ite ?_ ?_)
   | (with_reducible refine LeO.bind ?_ (fun _ => ?_))
   | exact ih0 _ _ _ _
   | exact ih1 _ _ _ _ _
   | exact ih2 _ _ _ _ _
   | exact ih3 _ _ _ _ _
   | exact ih4 _ _ _ _ _ _ _ _ _ _
   | exact spec_l08Cpu.mono _ _ _ _
   | exact LeO.none _
   | refine LeO.ite ?_ ?_
   | refine LeO.bind ?_ (fun _ => ?_)
  ·intro y0 y1 y2 y3 y4
   unfold spec_RouterFault.l0
   repeat' first
   | (with_reducible exact ih0 _ _ _ _)
   | (with_reducible exact ih1 _ _ _ _ _)
   | (with_reducible exact ih2 _ _ _ _ _)
   | (with_reducible exact ih3 _ _ _ _ _)
   | (with_reducible exact ih4 _ _ _ _ _ _ _ _ _ _)
   | (with_reducible exact spec_l08Cpu.mono _ _ _ _)
   | (with_reducible exact LeO.refl _)
   | (with_reducible exact LeO.none _)
   | (with_reducible refine LeO.ite ?_ ?_)
   | (with_reducible refine LeO.bind ?_ (fun _ => ?_))
   | exact ih0 _ _ _ _
   | exact ih1 _ _ _ _ _
   | exact ih2 _ _ _ _ _
   | exact ih3 _ _ _ _ _
   | exact ih4 _ _ _ _ _ _ _ _ _ _
   | exact spec_l08Cpu.mono _ _ _ _
   | exact LeO.none _
   | refine LeO.ite ?_ ?_
   | refine LeO.bind ?_ (fun _ => ?_)
  ·intro y0 y1 y2 y3 y4
   unfold spec_RouterFault.l1
   repeat' first
   | (with_reducible exact ih0 _ _ _ _)
   | (with_reducible exact ih1 _ _ _ _ _)
   | (with_reducible exact ih2 _ _ _ _ _)
   | (with_reducible exact ih3 _ _ _ _ _)
   | (with_reducible exact ih4 _ _ _ _ _ _ _ _ _ _)
   | (with_reducible exact spec_l08Cpu.mono _ _ _ _)
   | (with_reducible exact LeO.refl _)
   | (with_reducible exact LeO.none _)
   | (with_reducible refine LeO.ite ?_ ?_)
   | (with_reducible refine LeO.bind ?_ (fun _ => ?_))
   | exact ih0 _ _ _ _
   | exact ih1 _ _ _ _ _
   | exact ih2 _ _ _ _ _
   | exact ih3 _ _ _ _ _
   | exact ih4 _ _ _ _ _ _ _ _ _ _
   | exact spec_l08Cpu.mono _ _ _ _
   | exact LeO.none _
   | refine LeO.ite ?_ ?_
   | refine LeO.bind ?_ (fun _ => ?_)
  ·intro y0 y1 y2 y3 y4
   unfold spec_RouterFault.l2
   repeat' first
   | (with_reducible exact ih0 _ _ _ _)
   | (with_reducible exact ih1 _ _ _ _ _)
   | (with_reducible exact ih2 _ _ _ _ _)
   | (with_reducible exact ih3 _ _ _ _ _)
   | (with_reducible exact ih4 _ _ _ _ _ _ _ _ _ _)
   | (with_reducible exact spec_l08Cpu.mono _ _ _ _)
   | (with_reducible exact LeO.refl _)
   | (with_reducible exact LeO.none _)
   | (with_reducible refine LeO.ite ?_ ?_)
   | (with_reducible refine LeO.bind ?_ (fun _ => ?_))
   | exact ih0 _ _ _ _
   | exact ih1 _ _ _ _ _
   | exact ih2 _ _ _ _ _
   | exact ih3 _ _ _ _ _
   | exact ih4 _ _ _ _ _ _ _ _ _ _
   | exact spec_l08Cpu.mono _ _ _ _
   | exact LeO.none _
   | refine LeO.ite ?_ ?_
   | refine LeO.bind ?_ (fun _ => ?_)
  ·intro y0 y1 y2 y3 y4 y5 y6 y7 y8 y9
   unfold spec_RouterFault.j4
   repeat' first
   | (with_reducible exact ih0 _ _ _ _)
   | (with_reducible exact ih1 _ _ _ _ _)
   | (with_reducible exact ih2 _ _ _ _ _)
   | (with_reducible exact ih3 _ _ _ _ _)
   | (with_reducible exact ih4 _ _ _ _ _ _ _ _ _ _)
   | (with_reducible exact spec_l08Cpu.mono _ _ _ _)
   | (with_reducible exact LeO.refl _)
   | (with_reducible exact LeO.none _)
   | (with_reducible refine LeO.ite ?_ ?_)
   | (with_reducible refine LeO.bind ?_ (fun _ => ?_))
   | exact ih0 _ _ _ _
   | exact ih1 _ _ _ _ _
   | exact ih2 _ _ _ _ _
   | exact ih3 _ _ _ _ _
   | exact ih4 _ _ _ _ _ _ _ _ _ _
   | exact spec_l08Cpu.mono _ _ _ _
   | exact LeO.none _
   | refine LeO.ite ?_ ?_
   | refine LeO.bind ?_ (fun _ => ?_)
theorem spec_RouterFault.mono : ∀ a0 a1 a2 k, LeO (spec_RouterFault.f k a0 a1 a2) (spec_RouterFault.f (k + 1) a0 a1 a2) := by
 intro a0 a1 a2 k
 obtain ⟨ih0, ih1, ih2, ih3, ih4⟩ := spec_RouterFault.mono_l k
 unfold spec_RouterFault.f
 repeat' first
   | (with_reducible exact ih0 _ _ _ _)
   | (with_reducible exact ih1 _ _ _ _ _)
   | (with_reducible exact ih2 _ _ _ _ _)
   | (with_reducible exact ih3 _ _ _ _ _)
   | (with_reducible exact ih4 _ _ _ _ _ _ _ _ _ _)
   | (with_reducible exact spec_l08Cpu.mono _ _ _ _)
   | (with_reducible exact LeO.refl _)
   | (with_reducible exact LeO.none _)
   | (with_reducible refine LeO.ite ?_ ?_)
   | (with_reducible refine LeO.bind ?_ (fun _ => ?_))
   | exact ih0 _ _ _ _
   | exact ih1 _ _ _ _ _
   | exact ih2 _ _ _ _ _
   | exact ih3 _ _ _ _ _
   | exact ih4 _ _ _ _ _ _ _ _ _ _
   | exact spec_l08Cpu.mono _ _ _ _
   | exact LeO.none _
   | refine LeO.ite ?_ ?_
   | refine LeO.bind ?_ (fun _ => ?_)
set_option maxHeartbeats 8000000 in
set_option maxRecDepth 100000 in
theorem spec_RouterFault.calls (k : Nat) (A0_0 : Option Addr) (c0_0 : Nat) (l0_0 : List (S107)) (A0_1 : Option Addr) (c0_1 : Nat) (l0_1 : List (S111)) (A0_2 : Option Addr) (c0_2 : Nat) (l0_2 : List (S113)) (r : Int) (w : World) (hr0_0 : Kd.C k107 w A0_0 l0_0.length l0_0) (hc0_0 : l0_0.length ≤ c0_0) (hr0_1 : Kd.C k111 w A0_1 l0_1.length l0_1) (hc0_1 : l0_1.length ≤ c0_1) (hr0_2 : Kd.C k113 w A0_2 l0_2.length l0_2) (hc0_2 : l0_2.length ≤ c0_2) (h : spec_RouterFault.f k l0_0 l0_1 l0_2 = some r) :
  Calls Try.prog 14 #[.agg #[.slice A0_0 l0_0.length c0_0, .slice A0_1 l0_1.length c0_1, .slice A0_2 l0_2.length c0_2]] w fun e w' => e = .returned (.int .i64 r) ∧ Below w.heap.size w w' := by
 have hu45 := Try.underlying45
 have hu111 := Try.underlying111
 have hu113 := Try.underlying113
 have HR0_0 := Sq.l hr0_0
 have HC0_0 := Sq.l hc0_0
 clear hr0_0 hc0_0
 have HR0_1 := Sq.l hr0_1
 have HC0_1 := Sq.l hc0_1
 clear hr0_1 hc0_1
 have HR0_2 := Sq.l hr0_2
 have HC0_2 := Sq.l hc0_2
 clear hr0_2 hc0_2
 have HB := Sq.l (Below.refl w.heap.size w)
 have H : (if (l0_0.length : Int) > 64 then (spec_RouterFault.j0 k true l0_0 l0_1 l0_2) else (if (l0_1.length : Int) < 1 then (spec_RouterFault.j0 k true l0_0 l0_1 l0_2) else (if (l0_1.length : Int) > 8 then (spec_RouterFault.j0 k true l0_0 l0_1 l0_2) else (spec_RouterFault.j0 k (decide ((l0_2.length : Int) > 1000)) l0_0 l0_1 l0_2)))) = some r := h
 clear h
 have HC2 := Sq.l H
 clear H
 go_enter Try.func14, Try.ntmps14
 go_upto_region 1 with (first | ((with_reducible refine gate_dst (N := 1) rfl ?_); (try (refine gate_guard (by rfl) ?_; dsimp only)); refine box_event ?hg (N := 1) ?hd (cs := #[.slice A0_0 l0_0.length c0_0, .slice A0_1 l0_1.length c0_1, .slice A0_2 l0_2.length c0_2]) (t := 45) ?hr ?_; (case hd => rfl); (case hg => rfl); (case hr => first | (go_simp; done) | (go_simp; rfl)); intro gb120 hg w3 hbox hb; have n0_ := Sq.l (Sq.a4 (by repeat (first | (with_reducible first | exact HB.out | apply Sq.i | apply Sq.j | apply Sq.k) | exact HB.out)) hb); have n1_ := Sq.l (hbox); have n2_ := Sq.l ((by rw [hg]; exact (Sq.a5 (by repeat (first | (with_reducible first | exact HB.out | apply Sq.i | apply Sq.j | apply Sq.k) | exact HB.out))) : w.heap.size ≤ gb120)); have n3_ := Sq.l ((by rw [hg]; exact (Sq.a5 (by repeat (first | (with_reducible first | exact HB.out | apply Sq.i | apply Sq.j | apply Sq.k) | exact HB.out))) : w.heap.size ≤ gb120)); clear HB; have HB := n0_; have BK120 := n1_; have GW120 := n2_; have GE120 := n3_; clear n0_ n1_ n2_ n3_; clear hb hbox hg))
 repeat (go_quiet (first | ((with_reducible refine gate_dst (N := 1) rfl ?_); (try (refine gate_guard (by rfl) ?_; dsimp only)); refine box_event ?hg (N := 1) ?hd (cs := #[.slice A0_0 l0_0.length c0_0, .slice A0_1 l0_1.length c0_1, .slice A0_2 l0_2.length c0_2]) (t := 45) ?hr ?_; (case hd => rfl); (case hg => rfl); (case hr => first | (go_simp; done) | (go_simp; rfl)); intro gb120 hg w3 hbox hb; have n0_ := Sq.l (Sq.a4 (by repeat (first | (with_reducible first | exact HB.out | apply Sq.i | apply Sq.j | apply Sq.k) | exact HB.out)) hb); have n1_ := Sq.l (hbox); have n2_ := Sq.l ((by rw [hg]; exact (Sq.a5 (by repeat (first | (with_reducible first | exact HB.out | apply Sq.i | apply Sq.j | apply Sq.k) | exact HB.out))) : w.heap.size ≤ gb120)); have n3_ := Sq.l ((by rw [hg]; exact (Sq.a5 (by repeat (first | (with_reducible first | exact HB.out | apply Sq.i | apply Sq.j | apply Sq.k) | exact HB.out))) : w.heap.size ≤ gb120)); clear HB; have HB := n0_; have BK120 := n1_; have GW120 := n2_; have GE120 := n3_; clear n0_ n1_ n2_ n3_; clear hb hbox hg)); go_upto_region 1 with (first | ((with_reducible refine gate_dst (N := 1) rfl ?_); (try (refine gate_guard (by rfl) ?_; dsimp only)); refine box_event ?hg (N := 1) ?hd (cs := #[.slice A0_0 l0_0.length c0_0, .slice A0_1 l0_1.length c0_1, .slice A0_2 l0_2.length c0_2]) (t := 45) ?hr ?_; (case hd => rfl); (case hg => rfl); (case hr => first | (go_simp; done) | (go_simp; rfl)); intro gb120 hg w3 hbox hb; have n0_ := Sq.l (Sq.a4 (by repeat (first | (with_reducible first | exact HB.out | apply Sq.i | apply Sq.j | apply Sq.k) | exact HB.out)) hb); have n1_ := Sq.l (hbox); have n2_ := Sq.l ((by rw [hg]; exact (Sq.a5 (by repeat (first | (with_reducible first | exact HB.out | apply Sq.i | apply Sq.j | apply Sq.k) | exact HB.out))) : w.heap.size ≤ gb120)); have n3_ := Sq.l ((by rw [hg]; exact (Sq.a5 (by repeat (first | (with_reducible first | exact HB.out | apply Sq.i | apply Sq.j | apply Sq.k) | exact HB.out))) : w.heap.size ≤ gb120)); clear HB; have HB := n0_; have BK120 := n1_; have GW120 := n2_; have GE120 := n3_; clear n0_ n1_ n2_ n3_; clear hb hbox hg)))
 (try simp only [Act.put, List.setIfInBounds_toArray, List.set_cons_zero, List.set_cons_succ])
 go_cut [29] (fun v29 wc => ∃ (kq : Nat) (x29_1 : Bool), v29 = .bool x29_1 ∧ Aside0 (spec_RouterFault.j0 kq x29_1 l0_0 l0_1 l0_2 = some r) ∧ Aside0 (kq ≤ k) ∧ Aside0 (wc.heap[gb120]? = some (.cells #[(.slice A0_0 l0_0.length c0_0), (.slice A0_1 l0_1.length c0_1), (.slice A0_2 l0_2.length c0_2)] 45 (0, 0))) ∧ Aside0 (Below w.heap.size w wc))
 case first =>
  have H := HC2.out
  clear HC2
  by_cases c4 : (l0_0.length : Int) > 64
  ·rw [if_pos c4] at H
   have c4b0 : decide (64 < (l0_0.length : Int)) = true := decide_eq_true c4
   have c4b1 : decide (64 < l0_0.length) = true := decide_eq_true (by omega)
   clear c4
   (first | rw [c4b0] | (simp only [i64_w, i32_w]; rw [c4b0]) | skip)
   have H' := Sq.l H
   clear H
   have hcz5_0 : w3.cell? ⟨gb120, 0, none⟩ = some (.slice A0_0 l0_0.length c0_0) := (Sq.o BK120.out 0).trans rfl
   have hcz5_1 : w3.cell? ⟨gb120, 1, none⟩ = some (.slice A0_1 l0_1.length c0_1) := (Sq.o BK120.out 1).trans rfl
   have hcz5_2 : w3.cell? ⟨gb120, 2, none⟩ = some (.slice A0_2 l0_2.length c0_2) := (Sq.o BK120.out 2).trans rfl
   have hfz5_0 := Sq.r BK120.out 0
   have hfz5_1 := Sq.r BK120.out 1
   have hfz5_2 := Sq.r BK120.out 2
   go_wp2
   repeat (go_quiet (fail); try go_wp2)
   go_meet
   case rel => exact ⟨_, (true), (by first | rfl | (simp; done) | (simp [*]; done)), H', ⟨by first | omega | exact Nat.le_refl _⟩, ⟨by (with_reducible repeat (first | refine Sq.d ?_ _ | refine Sq.e ?_ | refine Sq.f ?_ _)); exact BK120.out⟩, ⟨by repeat (first | (with_reducible first | exact HB.out | apply Sq.i | apply Sq.j | apply Sq.k | refine Sq.h ?_ GE120.out) | exact HB.out)⟩⟩
  ·rw [if_neg c4] at H
   have c4b0 : decide (64 < (l0_0.length : Int)) = false := decide_eq_false c4
   have c4b1 : decide (64 < l0_0.length) = false := decide_eq_false (by omega)
   clear c4
   (first | rw [c4b0] | (simp only [i64_w, i32_w]; rw [c4b0]) | skip)
   by_cases c6 : (l0_1.length : Int) < 1
   ·rw [if_pos c6] at H
    have c6b0 : decide ((l0_1.length : Int) < 1) = true := decide_eq_true c6
    have c6b1 : decide (l0_1.length < 1) = true := decide_eq_true (by omega)
    clear c6
    have H' := Sq.l H
    clear H
    have hcz7_0 : w3.cell? ⟨gb120, 0, none⟩ = some (.slice A0_0 l0_0.length c0_0) := (Sq.o BK120.out 0).trans rfl
    have hcz7_1 : w3.cell? ⟨gb120, 1, none⟩ = some (.slice A0_1 l0_1.length c0_1) := (Sq.o BK120.out 1).trans rfl
    have hcz7_2 : w3.cell? ⟨gb120, 2, none⟩ = some (.slice A0_2 l0_2.length c0_2) := (Sq.o BK120.out 2).trans rfl
    have hfz7_0 := Sq.r BK120.out 0
    have hfz7_1 := Sq.r BK120.out 1
    have hfz7_2 := Sq.r BK120.out 2
    go_wp2
    repeat (go_quiet (fail); try go_wp2)
    go_meet
    case rel => exact ⟨_, (true), (by first | rfl | (simp; done) | (simp [*]; done)), H', ⟨by first | omega | exact Nat.le_refl _⟩, ⟨by (with_reducible repeat (first | refine Sq.d ?_ _ | refine Sq.e ?_ | refine Sq.f ?_ _)); exact BK120.out⟩, ⟨by repeat (first | (with_reducible first | exact HB.out | apply Sq.i | apply Sq.j | apply Sq.k | refine Sq.h ?_ GE120.out) | exact HB.out)⟩⟩
   ·rw [if_neg c6] at H
    have c6b0 : decide ((l0_1.length : Int) < 1) = false := decide_eq_false c6
    have c6b1 : decide (l0_1.length < 1) = false := decide_eq_false (by omega)
    clear c6
    by_cases c8 : (l0_1.length : Int) > 8
    ·rw [if_pos c8] at H
     have c8b0 : decide (8 < (l0_1.length : Int)) = true := decide_eq_true c8
     have c8b1 : decide (8 < l0_1.length) = true := decide_eq_true (by omega)
     clear c8
     have H' := Sq.l H
     clear H
     have hcz9_0 : w3.cell? ⟨gb120, 0, none⟩ = some (.slice A0_0 l0_0.length c0_0) := (Sq.o BK120.out 0).trans rfl
     have hcz9_1 : w3.cell? ⟨gb120, 1, none⟩ = some (.slice A0_1 l0_1.length c0_1) := (Sq.o BK120.out 1).trans rfl
     have hcz9_2 : w3.cell? ⟨gb120, 2, none⟩ = some (.slice A0_2 l0_2.length c0_2) := (Sq.o BK120.out 2).trans rfl
     have hfz9_0 := Sq.r BK120.out 0
     have hfz9_1 := Sq.r BK120.out 1
     have hfz9_2 := Sq.r BK120.out 2
     go_wp2
     repeat (go_quiet (fail); try go_wp2)
     go_meet
     case rel => exact ⟨_, (true), (by first | rfl | (simp; done) | (simp [*]; done)), H', ⟨by first | omega | exact Nat.le_refl _⟩, ⟨by (with_reducible repeat (first | refine Sq.d ?_ _ | refine Sq.e ?_ | refine Sq.f ?_ _)); exact BK120.out⟩, ⟨by repeat (first | (with_reducible first | exact HB.out | apply Sq.i | apply Sq.j | apply Sq.k | refine Sq.h ?_ GE120.out) | exact HB.out)⟩⟩
    ·rw [if_neg c8] at H
     have c8b0 : decide (8 < (l0_1.length : Int)) = false := decide_eq_false c8
     have c8b1 : decide (8 < l0_1.length) = false := decide_eq_false (by omega)
     clear c8
     have H' := Sq.l H
     clear H
     have hcz10_0 : w3.cell? ⟨gb120, 0, none⟩ = some (.slice A0_0 l0_0.length c0_0) := (Sq.o BK120.out 0).trans rfl
     have hcz10_1 : w3.cell? ⟨gb120, 1, none⟩ = some (.slice A0_1 l0_1.length c0_1) := (Sq.o BK120.out 1).trans rfl
     have hcz10_2 : w3.cell? ⟨gb120, 2, none⟩ = some (.slice A0_2 l0_2.length c0_2) := (Sq.o BK120.out 2).trans rfl
     have hfz10_0 := Sq.r BK120.out 0
     have hfz10_1 := Sq.r BK120.out 1
     have hfz10_2 := Sq.r BK120.out 2
     go_wp2
     repeat (go_quiet (fail); try go_wp2)
     go_meet
     case rel => exact ⟨_, (decide ((l0_2.length : Int) > 1000)), (by first | rfl | (simp; done) | (simp [*]; done)), H', ⟨by first | omega | exact Nat.le_refl _⟩, ⟨by (with_reducible repeat (first | refine Sq.d ?_ _ | refine Sq.e ?_ | refine Sq.f ?_ _)); exact BK120.out⟩, ⟨by repeat (first | (with_reducible first | exact HB.out | apply Sq.i | apply Sq.j | apply Sq.k | refine Sq.h ?_ GE120.out) | exact HB.out)⟩⟩
 case rest =>
  clear HC2; try clear c1; try clear p2; try clear c4; try clear c4b0; try clear c4b1; try clear c6; try clear c6b0; try clear c6b1; try clear c8; try clear c8b0; try clear c8b1; try clear hcz10_0; try clear hcz10_1; try clear hcz10_2; try clear hcz5_0; try clear hcz5_1; try clear hcz5_2; try clear hcz7_0; try clear hcz7_1; try clear hcz7_2; try clear hcz9_0; try clear hcz9_1; try clear hcz9_2; try clear hfz10_0; try clear hfz10_1; try clear hfz10_2; try clear hfz5_0; try clear hfz5_1; try clear hfz5_2; try clear hfz7_0; try clear hfz7_1; try clear hfz7_2; try clear hfz9_0; try clear hfz9_1; try clear hfz9_2
  obtain ⟨kq, x29_1, rfl, HA, HJ1, BK120, HB⟩ := hcut
  cases kq with
  | zero => exact absurd HA.out (by simp [spec_RouterFault.j0])
  | succ kj1 =>
   have H := HA.out
   clear HA
   simp only [spec_RouterFault.j0] at H
   by_cases c11 : x29_1 = true
   ·subst c11
    rw [if_pos rfl] at H
    obtain rfl := Option.some.inj H
    go_wp2
    repeat (go_quiet (fail); try go_wp2)
    go_ret
    exact ⟨by first | rfl | (simp [errW_none, errW_some] <;> rfl) | (simp [*, errW_none, errW_some] <;> rfl), by repeat (first | (with_reducible first | exact HB.out | apply Sq.i | apply Sq.j | apply Sq.k | refine Sq.h ?_ GE120.out) | exact HB.out)⟩
   ·replace c11 := Bool.eq_false_iff.mpr c11
    subst c11
    rw [if_neg (show ¬ (false = true) by decide)] at H
    have H' := Sq.l H
    clear H
    have hcz12_0 : wc.cell? ⟨gb120, 0, none⟩ = some (.slice A0_0 l0_0.length c0_0) := (Sq.o BK120.out 0).trans rfl
    have hcz12_1 : wc.cell? ⟨gb120, 1, none⟩ = some (.slice A0_1 l0_1.length c0_1) := (Sq.o BK120.out 1).trans rfl
    have hcz12_2 : wc.cell? ⟨gb120, 2, none⟩ = some (.slice A0_2 l0_2.length c0_2) := (Sq.o BK120.out 2).trans rfl
    have hfz12_0 := Sq.r BK120.out 0
    have hfz12_1 := Sq.r BK120.out 1
    have hfz12_2 := Sq.r BK120.out 2
    go_wp2
    repeat (go_quiet (fail); try go_wp2)
    go_loopg [4] kj1 (fun kq v4 w' => ∃ (x4_2 : Int), v4 = .int .i64 x4_2 ∧ Aside0 (spec_RouterFault.l0 kq (l0_1.length : Int) x4_2 l0_0 l0_1 l0_2 = some r) ∧ Aside0 (kq ≤ kj1) ∧ Aside0 (w'.heap[gb120]? = some (.cells #[(.slice A0_0 l0_0.length c0_0), (.slice A0_1 l0_1.length c0_1), (.slice A0_2 l0_2.length c0_2)] 45 (0, 0))) ∧ Aside0 (Below w.heap.size w w'))
    case atStart => exact ⟨(0), (by first | rfl | (simp; done) | (simp [*]; done)), H', ⟨Nat.le_refl _⟩, ⟨by (with_reducible repeat (first | refine Sq.d ?_ _ | refine Sq.e ?_ | refine Sq.f ?_ _)); exact BK120.out⟩, ⟨by repeat (first | (with_reducible first | exact HB.out | apply Sq.i | apply Sq.j | apply Sq.k | refine Sq.h ?_ GE120.out) | exact HB.out)⟩⟩
    case round =>
     clear H'
     try clear c1; try clear p2; try clear c4; try clear c4b0; try clear c4b1; try clear c6; try clear c6b0; try clear c6b1; try clear c8; try clear c8b0; try clear c8b1; try clear c11; try clear hcz10_0; try clear hcz10_1; try clear hcz10_2; try clear hcz12_0; try clear hcz12_1; try clear hcz12_2; try clear hcz5_0; try clear hcz5_1; try clear hcz5_2; try clear hcz7_0; try clear hcz7_1; try clear hcz7_2; try clear hcz9_0; try clear hcz9_1; try clear hcz9_2; try clear hfz10_0; try clear hfz10_1; try clear hfz10_2; try clear hfz12_0; try clear hfz12_1; try clear hfz12_2; try clear hfz5_0; try clear hfz5_1; try clear hfz5_2; try clear hfz7_0; try clear hfz7_1; try clear hfz7_2; try clear hfz9_0; try clear hfz9_1; try clear hfz9_2; try clear p2
     obtain ⟨x4_2, rfl, HA, HK2, BK120, HB⟩ := hrel
     cases gk with
     | zero => exact absurd HA.out (by simp [spec_RouterFault.l0])
     | succ k2 =>
      have H := HA.out
      clear HA
      simp only [spec_RouterFault.l0] at H
      by_cases c13 : x4_2 < (l0_0.length : Int)
      ·rw [if_pos c13] at H
       have c13b0 : decide (x4_2 < (l0_0.length : Int)) = true := decide_eq_true c13
       clear c13
       by_cases c14 : 0 ≤ x4_2
       ·rw [if_pos c14] at H
        have c14b0 : decide (0 ≤ x4_2) = true := decide_eq_true c14
        clear c14
        by_cases c15 : ((rd_T107 l0_0 x4_2).f0) < 0
        ·rw [if_pos c15] at H
         have c15b0 : decide (((rd_T107 l0_0 x4_2).f0) < 0) = true := decide_eq_true c15
         clear c15
         obtain rfl := Option.some.inj H
         have hcz16_0 : wr.cell? ⟨gb120, 0, none⟩ = some (.slice A0_0 l0_0.length c0_0) := (Sq.o BK120.out 0).trans rfl
         have hcz16_1 : wr.cell? ⟨gb120, 1, none⟩ = some (.slice A0_1 l0_1.length c0_1) := (Sq.o BK120.out 1).trans rfl
         have hcz16_2 : wr.cell? ⟨gb120, 2, none⟩ = some (.slice A0_2 l0_2.length c0_2) := (Sq.o BK120.out 2).trans rfl
         have hfz16_0 := Sq.r BK120.out 0
         have hfz16_1 := Sq.r BK120.out 1
         have hfz16_2 := Sq.r BK120.out 2
         have p121 : 0 ≤ (x4_2 : Int) := of_decide_eq_true (by first | (with_reducible assumption) | assumption)
         have q121 : x4_2 < (l0_0.length : Int) := of_decide_eq_true (by first | (with_reducible assumption) | assumption)
         obtain ⟨ad121, e121, hx121_0, hx121_1, hx121_2, hx121_3, hx121_4⟩ := at_T107 HR0_0.out x4_2 p121 q121
         cases e121
         replace hx121_0 := (HB.out.cell (World.block_lt_of_cell? w _ hx121_0)).trans hx121_0
         replace hx121_1 := (HB.out.cell (World.block_lt_of_cell? w _ hx121_1)).trans hx121_1
         replace hx121_2 := (HB.out.cell (World.block_lt_of_cell? w _ hx121_2)).trans hx121_2
         replace hx121_3 := (HB.out.cell (World.block_lt_of_cell? w _ hx121_3)).trans hx121_3
         replace hx121_4 := (HB.out.cell (World.block_lt_of_cell? w _ hx121_4)).trans hx121_4
         replace p121 := eq_true p121; replace q121 := eq_true q121
         go_wp2
         repeat (go_quiet (fail); try go_wp2)
         go_ret
         exact ⟨by first | rfl | (simp [errW_none, errW_some] <;> rfl) | (simp [*, errW_none, errW_some] <;> rfl), by repeat (first | (with_reducible first | exact HB.out | apply Sq.i | apply Sq.j | apply Sq.k | refine Sq.h ?_ GE120.out) | exact HB.out)⟩
        ·rw [if_neg c15] at H
         have c15b0 : decide (((rd_T107 l0_0 x4_2).f0) < 0) = false := decide_eq_false c15
         clear c15
         by_cases c17 : ((rd_T107 l0_0 x4_2).f0) ≥ (l0_1.length : Int)
         ·rw [if_pos c17] at H
          have c17b0 : decide ((l0_1.length : Int) ≤ ((rd_T107 l0_0 x4_2).f0)) = true := decide_eq_true c17
          clear c17
          obtain rfl := Option.some.inj H
          have hcz18_0 : wr.cell? ⟨gb120, 0, none⟩ = some (.slice A0_0 l0_0.length c0_0) := (Sq.o BK120.out 0).trans rfl
          have hcz18_1 : wr.cell? ⟨gb120, 1, none⟩ = some (.slice A0_1 l0_1.length c0_1) := (Sq.o BK120.out 1).trans rfl
          have hcz18_2 : wr.cell? ⟨gb120, 2, none⟩ = some (.slice A0_2 l0_2.length c0_2) := (Sq.o BK120.out 2).trans rfl
          have hfz18_0 := Sq.r BK120.out 0
          have hfz18_1 := Sq.r BK120.out 1
          have hfz18_2 := Sq.r BK120.out 2
          have p121 : 0 ≤ (x4_2 : Int) := of_decide_eq_true (by first | (with_reducible assumption) | assumption)
          have q121 : x4_2 < (l0_0.length : Int) := of_decide_eq_true (by first | (with_reducible assumption) | assumption)
          obtain ⟨ad121, e121, hx121_0, hx121_1, hx121_2, hx121_3, hx121_4⟩ := at_T107 HR0_0.out x4_2 p121 q121
          cases e121
          replace hx121_0 := (HB.out.cell (World.block_lt_of_cell? w _ hx121_0)).trans hx121_0
          replace hx121_1 := (HB.out.cell (World.block_lt_of_cell? w _ hx121_1)).trans hx121_1
          replace hx121_2 := (HB.out.cell (World.block_lt_of_cell? w _ hx121_2)).trans hx121_2
          replace hx121_3 := (HB.out.cell (World.block_lt_of_cell? w _ hx121_3)).trans hx121_3
          replace hx121_4 := (HB.out.cell (World.block_lt_of_cell? w _ hx121_4)).trans hx121_4
          replace p121 := eq_true p121; replace q121 := eq_true q121
          have p122 : 0 ≤ (x4_2 : Int) := of_decide_eq_true (by first | (with_reducible assumption) | assumption)
          have q122 : x4_2 < (l0_0.length : Int) := of_decide_eq_true (by first | (with_reducible assumption) | assumption)
          obtain ⟨ad122, e122, hx122_0, hx122_1, hx122_2, hx122_3, hx122_4⟩ := at_T107 HR0_0.out x4_2 p122 q122
          obtain rfl : ad121 = ad122 := (by injection e122)
          replace hx122_0 := (HB.out.cell (World.block_lt_of_cell? w _ hx122_0)).trans hx122_0
          replace hx122_1 := (HB.out.cell (World.block_lt_of_cell? w _ hx122_1)).trans hx122_1
          replace hx122_2 := (HB.out.cell (World.block_lt_of_cell? w _ hx122_2)).trans hx122_2
          replace hx122_3 := (HB.out.cell (World.block_lt_of_cell? w _ hx122_3)).trans hx122_3
          replace hx122_4 := (HB.out.cell (World.block_lt_of_cell? w _ hx122_4)).trans hx122_4
          replace p122 := eq_true p122; replace q122 := eq_true q122
          go_wp2
          repeat (go_quiet (fail); try go_wp2)
          go_ret
          exact ⟨by first | rfl | (simp [errW_none, errW_some] <;> rfl) | (simp [*, errW_none, errW_some] <;> rfl), by repeat (first | (with_reducible first | exact HB.out | apply Sq.i | apply Sq.j | apply Sq.k | refine Sq.h ?_ GE120.out) | exact HB.out)⟩
         ·rw [if_neg c17] at H
          have c17b0 : decide ((l0_1.length : Int) ≤ ((rd_T107 l0_0 x4_2).f0)) = false := decide_eq_false c17
          clear c17
          replace H := Option.bind_eq_some_iff.mp H
          obtain ⟨t124, A190, H⟩ := H
          (try dsimp only at H)
          have A19 := Sq.l A190
          clear A190
          by_cases c20 : t124 = true
          ·subst c20
           rw [if_pos rfl] at H
           have H' := Sq.l H
           clear H
           have hcz21_0 : wr.cell? ⟨gb120, 0, none⟩ = some (.slice A0_0 l0_0.length c0_0) := (Sq.o BK120.out 0).trans rfl
           have hcz21_1 : wr.cell? ⟨gb120, 1, none⟩ = some (.slice A0_1 l0_1.length c0_1) := (Sq.o BK120.out 1).trans rfl
           have hcz21_2 : wr.cell? ⟨gb120, 2, none⟩ = some (.slice A0_2 l0_2.length c0_2) := (Sq.o BK120.out 2).trans rfl
           have hfz21_0 := Sq.r BK120.out 0
           have hfz21_1 := Sq.r BK120.out 1
           have hfz21_2 := Sq.r BK120.out 2
           have p121 : 0 ≤ (x4_2 : Int) := of_decide_eq_true (by first | (with_reducible assumption) | assumption)
           have q121 : x4_2 < (l0_0.length : Int) := of_decide_eq_true (by first | (with_reducible assumption) | assumption)
           obtain ⟨ad121, e121, hx121_0, hx121_1, hx121_2, hx121_3, hx121_4⟩ := at_T107 HR0_0.out x4_2 p121 q121
           cases e121
           replace hx121_0 := (HB.out.cell (World.block_lt_of_cell? w _ hx121_0)).trans hx121_0
           replace hx121_1 := (HB.out.cell (World.block_lt_of_cell? w _ hx121_1)).trans hx121_1
           replace hx121_2 := (HB.out.cell (World.block_lt_of_cell? w _ hx121_2)).trans hx121_2
           replace hx121_3 := (HB.out.cell (World.block_lt_of_cell? w _ hx121_3)).trans hx121_3
           replace hx121_4 := (HB.out.cell (World.block_lt_of_cell? w _ hx121_4)).trans hx121_4
           replace p121 := eq_true p121; replace q121 := eq_true q121
           have p122 : 0 ≤ (x4_2 : Int) := of_decide_eq_true (by first | (with_reducible assumption) | assumption)
           have q122 : x4_2 < (l0_0.length : Int) := of_decide_eq_true (by first | (with_reducible assumption) | assumption)
           obtain ⟨ad122, e122, hx122_0, hx122_1, hx122_2, hx122_3, hx122_4⟩ := at_T107 HR0_0.out x4_2 p122 q122
           obtain rfl : ad121 = ad122 := (by injection e122)
           replace hx122_0 := (HB.out.cell (World.block_lt_of_cell? w _ hx122_0)).trans hx122_0
           replace hx122_1 := (HB.out.cell (World.block_lt_of_cell? w _ hx122_1)).trans hx122_1
           replace hx122_2 := (HB.out.cell (World.block_lt_of_cell? w _ hx122_2)).trans hx122_2
           replace hx122_3 := (HB.out.cell (World.block_lt_of_cell? w _ hx122_3)).trans hx122_3
           replace hx122_4 := (HB.out.cell (World.block_lt_of_cell? w _ hx122_4)).trans hx122_4
           replace p122 := eq_true p122; replace q122 := eq_true q122
           have p123 : 0 ≤ (x4_2 : Int) := of_decide_eq_true (by first | (with_reducible assumption) | assumption)
           have q123 : x4_2 < (l0_0.length : Int) := of_decide_eq_true (by first | (with_reducible assumption) | assumption)
           obtain ⟨ad123, e123, hx123_0, hx123_1, hx123_2, hx123_3, hx123_4⟩ := at_T107 HR0_0.out x4_2 p123 q123
           obtain rfl : ad121 = ad123 := (by injection e123)
           replace hx123_0 := (HB.out.cell (World.block_lt_of_cell? w _ hx123_0)).trans hx123_0
           replace hx123_1 := (HB.out.cell (World.block_lt_of_cell? w _ hx123_1)).trans hx123_1
           replace hx123_2 := (HB.out.cell (World.block_lt_of_cell? w _ hx123_2)).trans hx123_2
           replace hx123_3 := (HB.out.cell (World.block_lt_of_cell? w _ hx123_3)).trans hx123_3
           replace hx123_4 := (HB.out.cell (World.block_lt_of_cell? w _ hx123_4)).trans hx123_4
           replace p123 := eq_true p123; replace q123 := eq_true q123
           go_wp2_with (first | (go_at_call 58; (with_reducible refine (spec_l08Vector.calls ((rd_T107 l0_0 x4_2).f1) true _ A19.out).mono ?_); rintro e w' ⟨rfl, ⟨nd, rfl⟩⟩; (try first | exact ⟨rfl, _, World.drewN_drewN _ _ _⟩ | exact ⟨rfl, _, Eq.trans (World.drewN_drewN _ _ _) (congrArg (World.drewN _) (Nat.add_assoc _ _ _))⟩)))
           repeat (go_quiet (first | (go_at_call 58; (with_reducible refine (spec_l08Vector.calls ((rd_T107 l0_0 x4_2).f1) true _ A19.out).mono ?_); rintro e w' ⟨rfl, ⟨nd, rfl⟩⟩; (try first | exact ⟨rfl, _, World.drewN_drewN _ _ _⟩ | exact ⟨rfl, _, Eq.trans (World.drewN_drewN _ _ _) (congrArg (World.drewN _) (Nat.add_assoc _ _ _))⟩))); try go_wp2_with (first | (go_at_call 58; (with_reducible refine (spec_l08Vector.calls ((rd_T107 l0_0 x4_2).f1) true _ A19.out).mono ?_); rintro e w' ⟨rfl, ⟨nd, rfl⟩⟩; (try first | exact ⟨rfl, _, World.drewN_drewN _ _ _⟩ | exact ⟨rfl, _, Eq.trans (World.drewN_drewN _ _ _) (congrArg (World.drewN _) (Nat.add_assoc _ _ _))⟩))))
           go_roundg k2
           case measure => have := HJ1.out; have := HK2.out; omega
           case rel => exact ⟨(wrap64 (x4_2 + 1)), (by first | rfl | (simp; done) | (simp [*]; done)), H', ⟨by have := HJ1.out; have := HK2.out; omega⟩, ⟨by (with_reducible repeat (first | refine Sq.d ?_ _ | refine Sq.e ?_ | refine Sq.f ?_ _)); exact BK120.out⟩, ⟨by repeat (first | (with_reducible first | exact HB.out | apply Sq.i | apply Sq.j | apply Sq.k | refine Sq.h ?_ GE120.out) | exact HB.out)⟩⟩
          ·replace c20 := Bool.eq_false_iff.mpr c20
           subst c20
           rw [if_neg (show ¬ (false = true) by decide)] at H
           obtain rfl := Option.some.inj H
           have hcz22_0 : wr.cell? ⟨gb120, 0, none⟩ = some (.slice A0_0 l0_0.length c0_0) := (Sq.o BK120.out 0).trans rfl
           have hcz22_1 : wr.cell? ⟨gb120, 1, none⟩ = some (.slice A0_1 l0_1.length c0_1) := (Sq.o BK120.out 1).trans rfl
           have hcz22_2 : wr.cell? ⟨gb120, 2, none⟩ = some (.slice A0_2 l0_2.length c0_2) := (Sq.o BK120.out 2).trans rfl
           have hfz22_0 := Sq.r BK120.out 0
           have hfz22_1 := Sq.r BK120.out 1
           have hfz22_2 := Sq.r BK120.out 2
           have p121 : 0 ≤ (x4_2 : Int) := of_decide_eq_true (by first | (with_reducible assumption) | assumption)
           have q121 : x4_2 < (l0_0.length : Int) := of_decide_eq_true (by first | (with_reducible assumption) | assumption)
           obtain ⟨ad121, e121, hx121_0, hx121_1, hx121_2, hx121_3, hx121_4⟩ := at_T107 HR0_0.out x4_2 p121 q121
           cases e121
           replace hx121_0 := (HB.out.cell (World.block_lt_of_cell? w _ hx121_0)).trans hx121_0
           replace hx121_1 := (HB.out.cell (World.block_lt_of_cell? w _ hx121_1)).trans hx121_1
           replace hx121_2 := (HB.out.cell (World.block_lt_of_cell? w _ hx121_2)).trans hx121_2
           replace hx121_3 := (HB.out.cell (World.block_lt_of_cell? w _ hx121_3)).trans hx121_3
           replace hx121_4 := (HB.out.cell (World.block_lt_of_cell? w _ hx121_4)).trans hx121_4
           replace p121 := eq_true p121; replace q121 := eq_true q121
           have p122 : 0 ≤ (x4_2 : Int) := of_decide_eq_true (by first | (with_reducible assumption) | assumption)
           have q122 : x4_2 < (l0_0.length : Int) := of_decide_eq_true (by first | (with_reducible assumption) | assumption)
           obtain ⟨ad122, e122, hx122_0, hx122_1, hx122_2, hx122_3, hx122_4⟩ := at_T107 HR0_0.out x4_2 p122 q122
           obtain rfl : ad121 = ad122 := (by injection e122)
           replace hx122_0 := (HB.out.cell (World.block_lt_of_cell? w _ hx122_0)).trans hx122_0
           replace hx122_1 := (HB.out.cell (World.block_lt_of_cell? w _ hx122_1)).trans hx122_1
           replace hx122_2 := (HB.out.cell (World.block_lt_of_cell? w _ hx122_2)).trans hx122_2
           replace hx122_3 := (HB.out.cell (World.block_lt_of_cell? w _ hx122_3)).trans hx122_3
           replace hx122_4 := (HB.out.cell (World.block_lt_of_cell? w _ hx122_4)).trans hx122_4
           replace p122 := eq_true p122; replace q122 := eq_true q122
           have p123 : 0 ≤ (x4_2 : Int) := of_decide_eq_true (by first | (with_reducible assumption) | assumption)
           have q123 : x4_2 < (l0_0.length : Int) := of_decide_eq_true (by first | (with_reducible assumption) | assumption)
           obtain ⟨ad123, e123, hx123_0, hx123_1, hx123_2, hx123_3, hx123_4⟩ := at_T107 HR0_0.out x4_2 p123 q123
           obtain rfl : ad121 = ad123 := (by injection e123)
           replace hx123_0 := (HB.out.cell (World.block_lt_of_cell? w _ hx123_0)).trans hx123_0
           replace hx123_1 := (HB.out.cell (World.block_lt_of_cell? w _ hx123_1)).trans hx123_1
           replace hx123_2 := (HB.out.cell (World.block_lt_of_cell? w _ hx123_2)).trans hx123_2
           replace hx123_3 := (HB.out.cell (World.block_lt_of_cell? w _ hx123_3)).trans hx123_3
           replace hx123_4 := (HB.out.cell (World.block_lt_of_cell? w _ hx123_4)).trans hx123_4
           replace p123 := eq_true p123; replace q123 := eq_true q123
           go_wp2_with (first | (go_at_call 58; (with_reducible refine (spec_l08Vector.calls ((rd_T107 l0_0 x4_2).f1) false _ A19.out).mono ?_); rintro e w' ⟨rfl, ⟨nd, rfl⟩⟩; (try first | exact ⟨rfl, _, World.drewN_drewN _ _ _⟩ | exact ⟨rfl, _, Eq.trans (World.drewN_drewN _ _ _) (congrArg (World.drewN _) (Nat.add_assoc _ _ _))⟩)))
           repeat (go_quiet (first | (go_at_call 58; (with_reducible refine (spec_l08Vector.calls ((rd_T107 l0_0 x4_2).f1) false _ A19.out).mono ?_); rintro e w' ⟨rfl, ⟨nd, rfl⟩⟩; (try first | exact ⟨rfl, _, World.drewN_drewN _ _ _⟩ | exact ⟨rfl, _, Eq.trans (World.drewN_drewN _ _ _) (congrArg (World.drewN _) (Nat.add_assoc _ _ _))⟩))); try go_wp2_with (first | (go_at_call 58; (with_reducible refine (spec_l08Vector.calls ((rd_T107 l0_0 x4_2).f1) false _ A19.out).mono ?_); rintro e w' ⟨rfl, ⟨nd, rfl⟩⟩; (try first | exact ⟨rfl, _, World.drewN_drewN _ _ _⟩ | exact ⟨rfl, _, Eq.trans (World.drewN_drewN _ _ _) (congrArg (World.drewN _) (Nat.add_assoc _ _ _))⟩))))
           go_ret
           exact ⟨by first | rfl | (simp [errW_none, errW_some] <;> rfl) | (simp [*, errW_none, errW_some] <;> rfl), by repeat (first | (with_reducible first | exact HB.out | apply Sq.i | apply Sq.j | apply Sq.k | refine Sq.h ?_ GE120.out) | exact HB.out)⟩
       ·rw [if_neg c14] at H
        exact absurd H (by simp)
      ·rw [if_neg c13] at H
       have c13b0 : decide (x4_2 < (l0_0.length : Int)) = false := decide_eq_false c13
       clear c13
       have H' := Sq.l H
       clear H
       have hcz23_0 : wr.cell? ⟨gb120, 0, none⟩ = some (.slice A0_0 l0_0.length c0_0) := (Sq.o BK120.out 0).trans rfl
       have hcz23_1 : wr.cell? ⟨gb120, 1, none⟩ = some (.slice A0_1 l0_1.length c0_1) := (Sq.o BK120.out 1).trans rfl
       have hcz23_2 : wr.cell? ⟨gb120, 2, none⟩ = some (.slice A0_2 l0_2.length c0_2) := (Sq.o BK120.out 2).trans rfl
       have hfz23_0 := Sq.r BK120.out 0
       have hfz23_1 := Sq.r BK120.out 1
       have hfz23_2 := Sq.r BK120.out 2
       go_wp2
       repeat (go_quiet (fail); try go_wp2)
       go_loopg [5] k2 (fun kq v5 w' => ∃ (x5_3 : Int), v5 = .int .i64 x5_3 ∧ Aside0 (spec_RouterFault.l1 kq (l0_1.length : Int) x5_3 l0_0 l0_1 l0_2 = some r) ∧ Aside0 (kq ≤ k2) ∧ Aside0 (w'.heap[gb120]? = some (.cells #[(.slice A0_0 l0_0.length c0_0), (.slice A0_1 l0_1.length c0_1), (.slice A0_2 l0_2.length c0_2)] 45 (0, 0))) ∧ Aside0 (Below w.heap.size w w'))
       case atStart => exact ⟨(0), (by first | rfl | (simp; done) | (simp [*]; done)), H', ⟨Nat.le_refl _⟩, ⟨by (with_reducible repeat (first | refine Sq.d ?_ _ | refine Sq.e ?_ | refine Sq.f ?_ _)); exact BK120.out⟩, ⟨by repeat (first | (with_reducible first | exact HB.out | apply Sq.i | apply Sq.j | apply Sq.k | refine Sq.h ?_ GE120.out) | exact HB.out)⟩⟩
       case round =>
        clear H'
        try clear c1; try clear p1; try clear q1; try clear hx1; try clear c2; try clear p2; try clear c4; try clear c4b0; try clear c4b1; try clear c6; try clear c6b0; try clear c6b1; try clear p6; try clear c8; try clear c8b0; try clear c8b1; try clear c11; try clear p12; try clear q12; try clear hx12; try clear c13; try clear c13b0; try clear c14; try clear c14b0; try clear c15; try clear c15b0; try clear c17; try clear c17b0; try clear c20; try clear hcz10_0; try clear hcz10_1; try clear hcz10_2; try clear hcz12_0; try clear hcz12_1; try clear hcz12_2; try clear hcz16_0; try clear hcz16_1; try clear hcz16_2; try clear hcz18_0; try clear hcz18_1; try clear hcz18_2; try clear hcz21_0; try clear hcz21_1; try clear hcz21_2; try clear hcz22_0; try clear hcz22_1; try clear hcz22_2; try clear hcz23_0; try clear hcz23_1; try clear hcz23_2; try clear hcz5_0; try clear hcz5_1; try clear hcz5_2; try clear hcz7_0; try clear hcz7_1; try clear hcz7_2; try clear hcz9_0; try clear hcz9_1; try clear hcz9_2; try clear hfz10_0; try clear hfz10_1; try clear hfz10_2; try clear hfz12_0; try clear hfz12_1; try clear hfz12_2; try clear hfz16_0; try clear hfz16_1; try clear hfz16_2; try clear hfz18_0; try clear hfz18_1; try clear hfz18_2; try clear hfz21_0; try clear hfz21_1; try clear hfz21_2; try clear hfz22_0; try clear hfz22_1; try clear hfz22_2; try clear hfz23_0; try clear hfz23_1; try clear hfz23_2; try clear hfz5_0; try clear hfz5_1; try clear hfz5_2; try clear hfz7_0; try clear hfz7_1; try clear hfz7_2; try clear hfz9_0; try clear hfz9_1; try clear hfz9_2; try clear hx121_0; try clear hx121_1; try clear hx121_2; try clear hx121_3; try clear hx121_4; try clear hx122_0; try clear hx122_1; try clear hx122_2; try clear hx122_3; try clear hx122_4; try clear hx123_0; try clear hx123_1; try clear hx123_2; try clear hx123_3; try clear hx123_4; try clear p121; try clear p122; try clear p123; try clear p2; try clear q121; try clear q122; try clear q123
        obtain ⟨x5_3, rfl, HA, HK3, BK120, HB⟩ := hrel
        cases gk with
        | zero => exact absurd HA.out (by simp [spec_RouterFault.l1])
        | succ k3 =>
         have H := HA.out
         clear HA
         simp only [spec_RouterFault.l1] at H
         by_cases c24 : x5_3 < (l0_1.length : Int)
         ·rw [if_pos c24] at H
          have c24b0 : decide (x5_3 < (l0_1.length : Int)) = true := decide_eq_true c24
          clear c24
          by_cases c25 : 0 ≤ x5_3
          ·rw [if_pos c25] at H
           have c25b0 : decide (0 ≤ x5_3) = true := decide_eq_true c25
           clear c25
           replace H := Option.bind_eq_some_iff.mp H
           obtain ⟨t126, A260, H⟩ := H
           (try dsimp only at H)
           have A26 := Sq.l A260
           clear A260
           by_cases c27 : t126 = true
           ·subst c27
            rw [if_pos rfl] at H
            have H' := Sq.l H
            clear H
            have hcz28_0 : wr.cell? ⟨gb120, 0, none⟩ = some (.slice A0_0 l0_0.length c0_0) := (Sq.o BK120.out 0).trans rfl
            have hcz28_1 : wr.cell? ⟨gb120, 1, none⟩ = some (.slice A0_1 l0_1.length c0_1) := (Sq.o BK120.out 1).trans rfl
            have hcz28_2 : wr.cell? ⟨gb120, 2, none⟩ = some (.slice A0_2 l0_2.length c0_2) := (Sq.o BK120.out 2).trans rfl
            have hfz28_0 := Sq.r BK120.out 0
            have hfz28_1 := Sq.r BK120.out 1
            have hfz28_2 := Sq.r BK120.out 2
            have p125 : 0 ≤ (x5_3 : Int) := of_decide_eq_true (by first | (with_reducible assumption) | assumption)
            have q125 : x5_3 < (l0_1.length : Int) := of_decide_eq_true (by first | (with_reducible assumption) | assumption)
            obtain ⟨ad125, A125_1, c125_1, A125_2, c125_2, e125, hx125_0, hx125_1, hx125_2, hl125_1, hi125_1, hl125_2, hi125_2⟩ := at_T111 HR0_1.out x5_3 p125 q125
            cases e125
            replace hx125_0 := (HB.out.cell (World.block_lt_of_cell? w _ hx125_0)).trans hx125_0
            replace hx125_1 := (HB.out.cell (World.block_lt_of_cell? w _ hx125_1)).trans hx125_1
            replace hx125_2 := (HB.out.cell (World.block_lt_of_cell? w _ hx125_2)).trans hx125_2
            have HR125_1 := Sq.l hi125_1
            have HC125_1 := Sq.l hl125_1
            clear hi125_1 hl125_1
            have HR125_2 := Sq.l hi125_2
            have HC125_2 := Sq.l hl125_2
            clear hi125_2 hl125_2; replace p125 := eq_true p125; replace q125 := eq_true q125
            go_wp2_with (first | (go_at_call 59; (with_reducible refine (spec_l08Cpu.calls k3 ((rd_T111 l0_1 x5_3).f0) _ _ ((rd_T111 l0_1 x5_3).f1) _ _ ((rd_T111 l0_1 x5_3).f2) true _ ?side1 ?side2 ?side3 ?side4 A26.out).mono ?_); (case side1 => repeat (first | exact (Sq.a1 HR125_1.out HB.out) | (with_reducible refine Sq.s ?_ _) | (with_reducible refine Sq.t ?_ _) | (with_reducible refine Sq.u ?_))); (case side2 => exact HC125_1.out); (case side3 => repeat (first | exact (Sq.a1 HR125_2.out HB.out) | (with_reducible refine Sq.s ?_ _) | (with_reducible refine Sq.t ?_ _) | (with_reducible refine Sq.u ?_))); (case side4 => exact HC125_2.out); rintro e w29 ⟨rfl, hb⟩; have n0_ := Sq.l (Sq.m (g := gb120) (o := .cells #[.slice A0_0 l0_0.length c0_0, .slice (some ad125) l0_1.length c0_1, .slice A0_2 l0_2.length c0_2] 45 (0, 0)) (by (with_reducible repeat (first | refine Sq.d ?_ _ | refine Sq.e ?_ | refine Sq.f ?_ _)); exact BK120.out) hb); have n1_ := Sq.l (Sq.a4 (by repeat (first | (with_reducible first | exact HB.out | apply Sq.i | apply Sq.j | apply Sq.k | refine Sq.h ?_ GE120.out) | exact HB.out)) hb); clear BK120; clear HB; have BK120 := n0_; have HB := n1_; clear n0_ n1_; (try clear hb); (try clear hb2); (try clear hk); (try clear hi)))
            repeat (go_quiet (first | (go_at_call 59; (with_reducible refine (spec_l08Cpu.calls k3 ((rd_T111 l0_1 x5_3).f0) _ _ ((rd_T111 l0_1 x5_3).f1) _ _ ((rd_T111 l0_1 x5_3).f2) true _ ?side1 ?side2 ?side3 ?side4 A26.out).mono ?_); (case side1 => repeat (first | exact (Sq.a1 HR125_1.out HB.out) | (with_reducible refine Sq.s ?_ _) | (with_reducible refine Sq.t ?_ _) | (with_reducible refine Sq.u ?_))); (case side2 => exact HC125_1.out); (case side3 => repeat (first | exact (Sq.a1 HR125_2.out HB.out) | (with_reducible refine Sq.s ?_ _) | (with_reducible refine Sq.t ?_ _) | (with_reducible refine Sq.u ?_))); (case side4 => exact HC125_2.out); rintro e w29 ⟨rfl, hb⟩; have n0_ := Sq.l (Sq.m (g := gb120) (o := .cells #[.slice A0_0 l0_0.length c0_0, .slice (some ad125) l0_1.length c0_1, .slice A0_2 l0_2.length c0_2] 45 (0, 0)) (by (with_reducible repeat (first | refine Sq.d ?_ _ | refine Sq.e ?_ | refine Sq.f ?_ _)); exact BK120.out) hb); have n1_ := Sq.l (Sq.a4 (by repeat (first | (with_reducible first | exact HB.out | apply Sq.i | apply Sq.j | apply Sq.k | refine Sq.h ?_ GE120.out) | exact HB.out)) hb); clear BK120; clear HB; have BK120 := n0_; have HB := n1_; clear n0_ n1_; (try clear hb); (try clear hb2); (try clear hk); (try clear hi))); try go_wp2_with (first | (go_at_call 59; (with_reducible refine (spec_l08Cpu.calls k3 ((rd_T111 l0_1 x5_3).f0) _ _ ((rd_T111 l0_1 x5_3).f1) _ _ ((rd_T111 l0_1 x5_3).f2) true _ ?side1 ?side2 ?side3 ?side4 A26.out).mono ?_); (case side1 => repeat (first | exact (Sq.a1 HR125_1.out HB.out) | (with_reducible refine Sq.s ?_ _) | (with_reducible refine Sq.t ?_ _) | (with_reducible refine Sq.u ?_))); (case side2 => exact HC125_1.out); (case side3 => repeat (first | exact (Sq.a1 HR125_2.out HB.out) | (with_reducible refine Sq.s ?_ _) | (with_reducible refine Sq.t ?_ _) | (with_reducible refine Sq.u ?_))); (case side4 => exact HC125_2.out); rintro e w29 ⟨rfl, hb⟩; have n0_ := Sq.l (Sq.m (g := gb120) (o := .cells #[.slice A0_0 l0_0.length c0_0, .slice (some ad125) l0_1.length c0_1, .slice A0_2 l0_2.length c0_2] 45 (0, 0)) (by (with_reducible repeat (first | refine Sq.d ?_ _ | refine Sq.e ?_ | refine Sq.f ?_ _)); exact BK120.out) hb); have n1_ := Sq.l (Sq.a4 (by repeat (first | (with_reducible first | exact HB.out | apply Sq.i | apply Sq.j | apply Sq.k | refine Sq.h ?_ GE120.out) | exact HB.out)) hb); clear BK120; clear HB; have BK120 := n0_; have HB := n1_; clear n0_ n1_; (try clear hb); (try clear hb2); (try clear hk); (try clear hi))))
            go_roundg k3
            case measure => have := HJ1.out; have := HK2.out; have := HK3.out; omega
            case rel => exact ⟨(wrap64 (x5_3 + 1)), (by first | rfl | (simp; done) | (simp [*]; done)), H', ⟨by have := HJ1.out; have := HK2.out; have := HK3.out; omega⟩, ⟨by (with_reducible repeat (first | refine Sq.d ?_ _ | refine Sq.e ?_ | refine Sq.f ?_ _)); exact BK120.out⟩, ⟨by repeat (first | (with_reducible first | exact HB.out | apply Sq.i | apply Sq.j | apply Sq.k | refine Sq.h ?_ GE120.out) | exact HB.out)⟩⟩
           ·replace c27 := Bool.eq_false_iff.mpr c27
            subst c27
            rw [if_neg (show ¬ (false = true) by decide)] at H
            obtain rfl := Option.some.inj H
            have hcz30_0 : wr.cell? ⟨gb120, 0, none⟩ = some (.slice A0_0 l0_0.length c0_0) := (Sq.o BK120.out 0).trans rfl
            have hcz30_1 : wr.cell? ⟨gb120, 1, none⟩ = some (.slice A0_1 l0_1.length c0_1) := (Sq.o BK120.out 1).trans rfl
            have hcz30_2 : wr.cell? ⟨gb120, 2, none⟩ = some (.slice A0_2 l0_2.length c0_2) := (Sq.o BK120.out 2).trans rfl
            have hfz30_0 := Sq.r BK120.out 0
            have hfz30_1 := Sq.r BK120.out 1
            have hfz30_2 := Sq.r BK120.out 2
            have p125 : 0 ≤ (x5_3 : Int) := of_decide_eq_true (by first | (with_reducible assumption) | assumption)
            have q125 : x5_3 < (l0_1.length : Int) := of_decide_eq_true (by first | (with_reducible assumption) | assumption)
            obtain ⟨ad125, A125_1, c125_1, A125_2, c125_2, e125, hx125_0, hx125_1, hx125_2, hl125_1, hi125_1, hl125_2, hi125_2⟩ := at_T111 HR0_1.out x5_3 p125 q125
            cases e125
            replace hx125_0 := (HB.out.cell (World.block_lt_of_cell? w _ hx125_0)).trans hx125_0
            replace hx125_1 := (HB.out.cell (World.block_lt_of_cell? w _ hx125_1)).trans hx125_1
            replace hx125_2 := (HB.out.cell (World.block_lt_of_cell? w _ hx125_2)).trans hx125_2
            have HR125_1 := Sq.l hi125_1
            have HC125_1 := Sq.l hl125_1
            clear hi125_1 hl125_1
            have HR125_2 := Sq.l hi125_2
            have HC125_2 := Sq.l hl125_2
            clear hi125_2 hl125_2; replace p125 := eq_true p125; replace q125 := eq_true q125
            go_wp2_with (first | (go_at_call 59; (with_reducible refine (spec_l08Cpu.calls k3 ((rd_T111 l0_1 x5_3).f0) _ _ ((rd_T111 l0_1 x5_3).f1) _ _ ((rd_T111 l0_1 x5_3).f2) false _ ?side1 ?side2 ?side3 ?side4 A26.out).mono ?_); (case side1 => repeat (first | exact (Sq.a1 HR125_1.out HB.out) | (with_reducible refine Sq.s ?_ _) | (with_reducible refine Sq.t ?_ _) | (with_reducible refine Sq.u ?_))); (case side2 => exact HC125_1.out); (case side3 => repeat (first | exact (Sq.a1 HR125_2.out HB.out) | (with_reducible refine Sq.s ?_ _) | (with_reducible refine Sq.t ?_ _) | (with_reducible refine Sq.u ?_))); (case side4 => exact HC125_2.out); rintro e w31 ⟨rfl, hb⟩; have n0_ := Sq.l (Sq.m (g := gb120) (o := .cells #[.slice A0_0 l0_0.length c0_0, .slice (some ad125) l0_1.length c0_1, .slice A0_2 l0_2.length c0_2] 45 (0, 0)) (by (with_reducible repeat (first | refine Sq.d ?_ _ | refine Sq.e ?_ | refine Sq.f ?_ _)); exact BK120.out) hb); have n1_ := Sq.l (Sq.a4 (by repeat (first | (with_reducible first | exact HB.out | apply Sq.i | apply Sq.j | apply Sq.k | refine Sq.h ?_ GE120.out) | exact HB.out)) hb); clear BK120; clear HB; have BK120 := n0_; have HB := n1_; clear n0_ n1_; (try clear hb); (try clear hb2); (try clear hk); (try clear hi)))
            repeat (go_quiet (first | (go_at_call 59; (with_reducible refine (spec_l08Cpu.calls k3 ((rd_T111 l0_1 x5_3).f0) _ _ ((rd_T111 l0_1 x5_3).f1) _ _ ((rd_T111 l0_1 x5_3).f2) false _ ?side1 ?side2 ?side3 ?side4 A26.out).mono ?_); (case side1 => repeat (first | exact (Sq.a1 HR125_1.out HB.out) | (with_reducible refine Sq.s ?_ _) | (with_reducible refine Sq.t ?_ _) | (with_reducible refine Sq.u ?_))); (case side2 => exact HC125_1.out); (case side3 => repeat (first | exact (Sq.a1 HR125_2.out HB.out) | (with_reducible refine Sq.s ?_ _) | (with_reducible refine Sq.t ?_ _) | (with_reducible refine Sq.u ?_))); (case side4 => exact HC125_2.out); rintro e w31 ⟨rfl, hb⟩; have n0_ := Sq.l (Sq.m (g := gb120) (o := .cells #[.slice A0_0 l0_0.length c0_0, .slice (some ad125) l0_1.length c0_1, .slice A0_2 l0_2.length c0_2] 45 (0, 0)) (by (with_reducible repeat (first | refine Sq.d ?_ _ | refine Sq.e ?_ | refine Sq.f ?_ _)); exact BK120.out) hb); have n1_ := Sq.l (Sq.a4 (by repeat (first | (with_reducible first | exact HB.out | apply Sq.i | apply Sq.j | apply Sq.k | refine Sq.h ?_ GE120.out) | exact HB.out)) hb); clear BK120; clear HB; have BK120 := n0_; have HB := n1_; clear n0_ n1_; (try clear hb); (try clear hb2); (try clear hk); (try clear hi))); try go_wp2_with (first | (go_at_call 59; (with_reducible refine (spec_l08Cpu.calls k3 ((rd_T111 l0_1 x5_3).f0) _ _ ((rd_T111 l0_1 x5_3).f1) _ _ ((rd_T111 l0_1 x5_3).f2) false _ ?side1 ?side2 ?side3 ?side4 A26.out).mono ?_); (case side1 => repeat (first | exact (Sq.a1 HR125_1.out HB.out) | (with_reducible refine Sq.s ?_ _) | (with_reducible refine Sq.t ?_ _) | (with_reducible refine Sq.u ?_))); (case side2 => exact HC125_1.out); (case side3 => repeat (first | exact (Sq.a1 HR125_2.out HB.out) | (with_reducible refine Sq.s ?_ _) | (with_reducible refine Sq.t ?_ _) | (with_reducible refine Sq.u ?_))); (case side4 => exact HC125_2.out); rintro e w31 ⟨rfl, hb⟩; have n0_ := Sq.l (Sq.m (g := gb120) (o := .cells #[.slice A0_0 l0_0.length c0_0, .slice (some ad125) l0_1.length c0_1, .slice A0_2 l0_2.length c0_2] 45 (0, 0)) (by (with_reducible repeat (first | refine Sq.d ?_ _ | refine Sq.e ?_ | refine Sq.f ?_ _)); exact BK120.out) hb); have n1_ := Sq.l (Sq.a4 (by repeat (first | (with_reducible first | exact HB.out | apply Sq.i | apply Sq.j | apply Sq.k | refine Sq.h ?_ GE120.out) | exact HB.out)) hb); clear BK120; clear HB; have BK120 := n0_; have HB := n1_; clear n0_ n1_; (try clear hb); (try clear hb2); (try clear hk); (try clear hi))))
            go_ret
            exact ⟨by first | rfl | (simp [errW_none, errW_some] <;> rfl) | (simp [*, errW_none, errW_some] <;> rfl), by repeat (first | (with_reducible first | exact HB.out | apply Sq.i | apply Sq.j | apply Sq.k | refine Sq.h ?_ GE120.out) | exact HB.out)⟩
          ·rw [if_neg c25] at H
           exact absurd H (by simp)
         ·rw [if_neg c24] at H
          have c24b0 : decide (x5_3 < (l0_1.length : Int)) = false := decide_eq_false c24
          clear c24
          have H' := Sq.l H
          clear H
          have hcz32_0 : wr.cell? ⟨gb120, 0, none⟩ = some (.slice A0_0 l0_0.length c0_0) := (Sq.o BK120.out 0).trans rfl
          have hcz32_1 : wr.cell? ⟨gb120, 1, none⟩ = some (.slice A0_1 l0_1.length c0_1) := (Sq.o BK120.out 1).trans rfl
          have hcz32_2 : wr.cell? ⟨gb120, 2, none⟩ = some (.slice A0_2 l0_2.length c0_2) := (Sq.o BK120.out 2).trans rfl
          have hfz32_0 := Sq.r BK120.out 0
          have hfz32_1 := Sq.r BK120.out 1
          have hfz32_2 := Sq.r BK120.out 2
          go_wp2
          repeat (go_quiet (fail); try go_wp2)
          go_loopg [6] k3 (fun kq v6 w' => ∃ (x6_4 : Int), v6 = .int .i64 x6_4 ∧ Aside0 (spec_RouterFault.l2 kq (l0_1.length : Int) x6_4 l0_0 l0_1 l0_2 = some r) ∧ Aside0 (kq ≤ k3) ∧ Aside0 (w'.heap[gb120]? = some (.cells #[(.slice A0_0 l0_0.length c0_0), (.slice A0_1 l0_1.length c0_1), (.slice A0_2 l0_2.length c0_2)] 45 (0, 0))) ∧ Aside0 (Below w.heap.size w w'))
          case atStart => exact ⟨(0), (by first | rfl | (simp; done) | (simp [*]; done)), H', ⟨Nat.le_refl _⟩, ⟨by (with_reducible repeat (first | refine Sq.d ?_ _ | refine Sq.e ?_ | refine Sq.f ?_ _)); exact BK120.out⟩, ⟨by repeat (first | (with_reducible first | exact HB.out | apply Sq.i | apply Sq.j | apply Sq.k | refine Sq.h ?_ GE120.out) | exact HB.out)⟩⟩
          case round =>
           clear H'
           try clear c1; try clear p1; try clear q1; try clear hx1; try clear c2; try clear p2; try clear c4; try clear c4b0; try clear c4b1; try clear c6; try clear c6b0; try clear c6b1; try clear p6; try clear c8; try clear c8b0; try clear c8b1; try clear c11; try clear c12; try clear p12; try clear q12; try clear hx12; try clear c13; try clear c13b0; try clear c14; try clear c14b0; try clear c15; try clear c15b0; try clear c17; try clear c17b0; try clear c20; try clear c24; try clear c24b0; try clear c25; try clear c25b0; try clear c27; try clear hcz10_0; try clear hcz10_1; try clear hcz10_2; try clear hcz12_0; try clear hcz12_1; try clear hcz12_2; try clear hcz16_0; try clear hcz16_1; try clear hcz16_2; try clear hcz18_0; try clear hcz18_1; try clear hcz18_2; try clear hcz21_0; try clear hcz21_1; try clear hcz21_2; try clear hcz22_0; try clear hcz22_1; try clear hcz22_2; try clear hcz23_0; try clear hcz23_1; try clear hcz23_2; try clear hcz28_0; try clear hcz28_1; try clear hcz28_2; try clear hcz30_0; try clear hcz30_1; try clear hcz30_2; try clear hcz32_0; try clear hcz32_1; try clear hcz32_2; try clear hcz5_0; try clear hcz5_1; try clear hcz5_2; try clear hcz7_0; try clear hcz7_1; try clear hcz7_2; try clear hcz9_0; try clear hcz9_1; try clear hcz9_2; try clear hfz10_0; try clear hfz10_1; try clear hfz10_2; try clear hfz12_0; try clear hfz12_1; try clear hfz12_2; try clear hfz16_0; try clear hfz16_1; try clear hfz16_2; try clear hfz18_0; try clear hfz18_1; try clear hfz18_2; try clear hfz21_0; try clear hfz21_1; try clear hfz21_2; try clear hfz22_0; try clear hfz22_1; try clear hfz22_2; try clear hfz23_0; try clear hfz23_1; try clear hfz23_2; try clear hfz28_0; try clear hfz28_1; try clear hfz28_2; try clear hfz30_0; try clear hfz30_1; try clear hfz30_2; try clear hfz32_0; try clear hfz32_1; try clear hfz32_2; try clear hfz5_0; try clear hfz5_1; try clear hfz5_2; try clear hfz7_0; try clear hfz7_1; try clear hfz7_2; try clear hfz9_0; try clear hfz9_1; try clear hfz9_2; try clear hx121_0; try clear hx121_1; try clear hx121_2; try clear hx121_3; try clear hx121_4; try clear hx122_0; try clear hx122_1; try clear hx122_2; try clear hx122_3; try clear hx122_4; try clear hx123_0; try clear hx123_1; try clear hx123_2; try clear hx123_3; try clear hx123_4; try clear hx125_0; try clear hx125_1; try clear hx125_2; try clear p1; try clear p12; try clear p121; try clear p122; try clear p123; try clear p125; try clear p2; try clear p6; try clear q1; try clear q12; try clear q121; try clear q122; try clear q123; try clear q125
           obtain ⟨x6_4, rfl, HA, HK4, BK120, HB⟩ := hrel
           cases gk with
           | zero => exact absurd HA.out (by simp [spec_RouterFault.l2])
           | succ k4 =>
            have H := HA.out
            clear HA
            simp only [spec_RouterFault.l2] at H
            by_cases c33 : x6_4 < (l0_2.length : Int)
            ·rw [if_pos c33] at H
             have c33b0 : decide (x6_4 < (l0_2.length : Int)) = true := decide_eq_true c33
             clear c33
             by_cases c34 : 0 ≤ x6_4
             ·rw [if_pos c34] at H
              have c34b0 : decide (0 ≤ x6_4) = true := decide_eq_true c34
              clear c34
              have HC35 := Sq.l H
              clear H
              have hcz36_0 : wr.cell? ⟨gb120, 0, none⟩ = some (.slice A0_0 l0_0.length c0_0) := (Sq.o BK120.out 0).trans rfl
              have hcz36_1 : wr.cell? ⟨gb120, 1, none⟩ = some (.slice A0_1 l0_1.length c0_1) := (Sq.o BK120.out 1).trans rfl
              have hcz36_2 : wr.cell? ⟨gb120, 2, none⟩ = some (.slice A0_2 l0_2.length c0_2) := (Sq.o BK120.out 2).trans rfl
              have hfz36_0 := Sq.r BK120.out 0
              have hfz36_1 := Sq.r BK120.out 1
              have hfz36_2 := Sq.r BK120.out 2
              have p127 : 0 ≤ (x6_4 : Int) := of_decide_eq_true (by first | (with_reducible assumption) | assumption)
              have q127 : x6_4 < (l0_2.length : Int) := of_decide_eq_true (by first | (with_reducible assumption) | assumption)
              obtain ⟨ad127, e127, hx127_0, hx127_1, hx127_2, hx127_3⟩ := at_T113 HR0_2.out x6_4 p127 q127
              cases e127
              replace hx127_0 := (HB.out.cell (World.block_lt_of_cell? w _ hx127_0)).trans hx127_0
              replace hx127_1 := (HB.out.cell (World.block_lt_of_cell? w _ hx127_1)).trans hx127_1
              replace hx127_2 := (HB.out.cell (World.block_lt_of_cell? w _ hx127_2)).trans hx127_2
              replace hx127_3 := (HB.out.cell (World.block_lt_of_cell? w _ hx127_3)).trans hx127_3
              replace p127 := eq_true p127; replace q127 := eq_true q127
              go_upto_region 18 with (first | ((with_reducible refine gate_dst (N := 7) rfl ?_); (try (refine gate_guard (by rfl) ?_; dsimp only)); refine box_event ?hg (N := 7) ?hd (cs := #[.int .i64 0, .int .i64 0, .int .i64 0, .int .i64 0]) (t := 113) ?hr ?_; (case hd => rfl); (case hg => rfl); (case hr => first | (go_simp; done) | (go_simp; rfl)); intro gb128 hg w37 hbox hb; have n0_ := Sq.l (Sq.m (g := gb120) (o := .cells #[.slice A0_0 l0_0.length c0_0, .slice A0_1 l0_1.length c0_1, .slice (some ad127) l0_2.length c0_2] 45 (0, 0)) (by (with_reducible repeat (first | refine Sq.d ?_ _ | refine Sq.e ?_ | refine Sq.f ?_ _)); exact BK120.out) hb); have n1_ := Sq.l (Sq.a4 (by repeat (first | (with_reducible first | exact HB.out | apply Sq.i | apply Sq.j | apply Sq.k | refine Sq.h ?_ GE120.out) | exact HB.out)) hb); have n2_ := Sq.l (hbox); have n3_ := Sq.l ((by rw [hg]; exact (Sq.a5 (by repeat (first | (with_reducible first | exact HB.out | apply Sq.i | apply Sq.j | apply Sq.k | refine Sq.h ?_ GE120.out) | exact HB.out))) : w.heap.size ≤ gb128)); have n4_ := Sq.l ((by rw [hg]; exact (Sq.a5 (by repeat (first | (with_reducible first | exact HB.out | apply Sq.i | apply Sq.j | apply Sq.k | refine Sq.h ?_ GE120.out) | exact HB.out))) : w.heap.size ≤ gb128)); have n5_ := Sq.l ((by rw [hg]; exact Nat.ne_of_lt (blk_lt (g := gb120) (o := .cells #[.slice A0_0 l0_0.length c0_0, .slice A0_1 l0_1.length c0_1, .slice (some ad127) l0_2.length c0_2] 45 (0, 0)) (by (with_reducible repeat (first | refine Sq.d ?_ _ | refine Sq.e ?_ | refine Sq.f ?_ _)); exact BK120.out)) : gb120 ≠ gb128)); have n6_ := Sq.l ((by rw [hg]; exact Nat.ne_of_gt (blk_lt (g := gb120) (o := .cells #[.slice A0_0 l0_0.length c0_0, .slice A0_1 l0_1.length c0_1, .slice (some ad127) l0_2.length c0_2] 45 (0, 0)) (by (with_reducible repeat (first | refine Sq.d ?_ _ | refine Sq.e ?_ | refine Sq.f ?_ _)); exact BK120.out)) : gb128 ≠ gb120)); clear BK120; clear HB; have BK120 := n0_; have HB := n1_; have BK128 := n2_; have GW128 := n3_; have GE128 := n4_; have NB120_128 := n5_; have NB128_120 := n6_; clear n0_ n1_ n2_ n3_ n4_ n5_ n6_; clear hb hbox hg; have hnb38 := NB128_120.out; have hnc38 := NB120_128.out; have hcz39_0 : w37.cell? ⟨gb128, 0, none⟩ = some (.int .i64 0) := (Sq.o BK128.out 0).trans rfl; have hcz39_1 : w37.cell? ⟨gb128, 1, none⟩ = some (.int .i64 0) := (Sq.o BK128.out 1).trans rfl; have hcz39_2 : w37.cell? ⟨gb128, 2, none⟩ = some (.int .i64 0) := (Sq.o BK128.out 2).trans rfl; have hcz39_3 : w37.cell? ⟨gb128, 3, none⟩ = some (.int .i64 0) := (Sq.o BK128.out 3).trans rfl; have hfz39_0 := Sq.r BK128.out 0; have hfz39_1 := Sq.r BK128.out 1; have hfz39_2 := Sq.r BK128.out 2; have hfz39_3 := Sq.r BK128.out 3))
              repeat (go_quiet (first | ((with_reducible refine gate_dst (N := 7) rfl ?_); (try (refine gate_guard (by rfl) ?_; dsimp only)); refine box_event ?hg (N := 7) ?hd (cs := #[.int .i64 0, .int .i64 0, .int .i64 0, .int .i64 0]) (t := 113) ?hr ?_; (case hd => rfl); (case hg => rfl); (case hr => first | (go_simp; done) | (go_simp; rfl)); intro gb128 hg w37 hbox hb; have n0_ := Sq.l (Sq.m (g := gb120) (o := .cells #[.slice A0_0 l0_0.length c0_0, .slice A0_1 l0_1.length c0_1, .slice (some ad127) l0_2.length c0_2] 45 (0, 0)) (by (with_reducible repeat (first | refine Sq.d ?_ _ | refine Sq.e ?_ | refine Sq.f ?_ _)); exact BK120.out) hb); have n1_ := Sq.l (Sq.a4 (by repeat (first | (with_reducible first | exact HB.out | apply Sq.i | apply Sq.j | apply Sq.k | refine Sq.h ?_ GE120.out) | exact HB.out)) hb); have n2_ := Sq.l (hbox); have n3_ := Sq.l ((by rw [hg]; exact (Sq.a5 (by repeat (first | (with_reducible first | exact HB.out | apply Sq.i | apply Sq.j | apply Sq.k | refine Sq.h ?_ GE120.out) | exact HB.out))) : w.heap.size ≤ gb128)); have n4_ := Sq.l ((by rw [hg]; exact (Sq.a5 (by repeat (first | (with_reducible first | exact HB.out | apply Sq.i | apply Sq.j | apply Sq.k | refine Sq.h ?_ GE120.out) | exact HB.out))) : w.heap.size ≤ gb128)); have n5_ := Sq.l ((by rw [hg]; exact Nat.ne_of_lt (blk_lt (g := gb120) (o := .cells #[.slice A0_0 l0_0.length c0_0, .slice A0_1 l0_1.length c0_1, .slice (some ad127) l0_2.length c0_2] 45 (0, 0)) (by (with_reducible repeat (first | refine Sq.d ?_ _ | refine Sq.e ?_ | refine Sq.f ?_ _)); exact BK120.out)) : gb120 ≠ gb128)); have n6_ := Sq.l ((by rw [hg]; exact Nat.ne_of_gt (blk_lt (g := gb120) (o := .cells #[.slice A0_0 l0_0.length c0_0, .slice A0_1 l0_1.length c0_1, .slice (some ad127) l0_2.length c0_2] 45 (0, 0)) (by (with_reducible repeat (first | refine Sq.d ?_ _ | refine Sq.e ?_ | refine Sq.f ?_ _)); exact BK120.out)) : gb128 ≠ gb120)); clear BK120; clear HB; have BK120 := n0_; have HB := n1_; have BK128 := n2_; have GW128 := n3_; have GE128 := n4_; have NB120_128 := n5_; have NB128_120 := n6_; clear n0_ n1_ n2_ n3_ n4_ n5_ n6_; clear hb hbox hg; have hnb38 := NB128_120.out; have hnc38 := NB120_128.out; have hcz39_0 : w37.cell? ⟨gb128, 0, none⟩ = some (.int .i64 0) := (Sq.o BK128.out 0).trans rfl; have hcz39_1 : w37.cell? ⟨gb128, 1, none⟩ = some (.int .i64 0) := (Sq.o BK128.out 1).trans rfl; have hcz39_2 : w37.cell? ⟨gb128, 2, none⟩ = some (.int .i64 0) := (Sq.o BK128.out 2).trans rfl; have hcz39_3 : w37.cell? ⟨gb128, 3, none⟩ = some (.int .i64 0) := (Sq.o BK128.out 3).trans rfl; have hfz39_0 := Sq.r BK128.out 0; have hfz39_1 := Sq.r BK128.out 1; have hfz39_2 := Sq.r BK128.out 2; have hfz39_3 := Sq.r BK128.out 3)); go_upto_region 18 with (first | ((with_reducible refine gate_dst (N := 7) rfl ?_); (try (refine gate_guard (by rfl) ?_; dsimp only)); refine box_event ?hg (N := 7) ?hd (cs := #[.int .i64 0, .int .i64 0, .int .i64 0, .int .i64 0]) (t := 113) ?hr ?_; (case hd => rfl); (case hg => rfl); (case hr => first | (go_simp; done) | (go_simp; rfl)); intro gb128 hg w37 hbox hb; have n0_ := Sq.l (Sq.m (g := gb120) (o := .cells #[.slice A0_0 l0_0.length c0_0, .slice A0_1 l0_1.length c0_1, .slice (some ad127) l0_2.length c0_2] 45 (0, 0)) (by (with_reducible repeat (first | refine Sq.d ?_ _ | refine Sq.e ?_ | refine Sq.f ?_ _)); exact BK120.out) hb); have n1_ := Sq.l (Sq.a4 (by repeat (first | (with_reducible first | exact HB.out | apply Sq.i | apply Sq.j | apply Sq.k | refine Sq.h ?_ GE120.out) | exact HB.out)) hb); have n2_ := Sq.l (hbox); have n3_ := Sq.l ((by rw [hg]; exact (Sq.a5 (by repeat (first | (with_reducible first | exact HB.out | apply Sq.i | apply Sq.j | apply Sq.k | refine Sq.h ?_ GE120.out) | exact HB.out))) : w.heap.size ≤ gb128)); have n4_ := Sq.l ((by rw [hg]; exact (Sq.a5 (by repeat (first | (with_reducible first | exact HB.out | apply Sq.i | apply Sq.j | apply Sq.k | refine Sq.h ?_ GE120.out) | exact HB.out))) : w.heap.size ≤ gb128)); have n5_ := Sq.l ((by rw [hg]; exact Nat.ne_of_lt (blk_lt (g := gb120) (o := .cells #[.slice A0_0 l0_0.length c0_0, .slice A0_1 l0_1.length c0_1, .slice (some ad127) l0_2.length c0_2] 45 (0, 0)) (by (with_reducible repeat (first | refine Sq.d ?_ _ | refine Sq.e ?_ | refine Sq.f ?_ _)); exact BK120.out)) : gb120 ≠ gb128)); have n6_ := Sq.l ((by rw [hg]; exact Nat.ne_of_gt (blk_lt (g := gb120) (o := .cells #[.slice A0_0 l0_0.length c0_0, .slice A0_1 l0_1.length c0_1, .slice (some ad127) l0_2.length c0_2] 45 (0, 0)) (by (with_reducible repeat (first | refine Sq.d ?_ _ | refine Sq.e ?_ | refine Sq.f ?_ _)); exact BK120.out)) : gb128 ≠ gb120)); clear BK120; clear HB; have BK120 := n0_; have HB := n1_; have BK128 := n2_; have GW128 := n3_; have GE128 := n4_; have NB120_128 := n5_; have NB128_120 := n6_; clear n0_ n1_ n2_ n3_ n4_ n5_ n6_; clear hb hbox hg; have hnb38 := NB128_120.out; have hnc38 := NB120_128.out; have hcz39_0 : w37.cell? ⟨gb128, 0, none⟩ = some (.int .i64 0) := (Sq.o BK128.out 0).trans rfl; have hcz39_1 : w37.cell? ⟨gb128, 1, none⟩ = some (.int .i64 0) := (Sq.o BK128.out 1).trans rfl; have hcz39_2 : w37.cell? ⟨gb128, 2, none⟩ = some (.int .i64 0) := (Sq.o BK128.out 2).trans rfl; have hcz39_3 : w37.cell? ⟨gb128, 3, none⟩ = some (.int .i64 0) := (Sq.o BK128.out 3).trans rfl; have hfz39_0 := Sq.r BK128.out 0; have hfz39_1 := Sq.r BK128.out 1; have hfz39_2 := Sq.r BK128.out 2; have hfz39_3 := Sq.r BK128.out 3)))
              (try simp only [Act.put, List.setIfInBounds_toArray, List.set_cons_zero, List.set_cons_succ])
              go_cut [127] (fun v127 wc => ∃ (kq : Nat) (x127_34 : Bool), v127 = .bool x127_34 ∧ Aside0 (spec_RouterFault.j4 kq (l0_1.length : Int) x6_4 x127_34 l0_0 l0_1 l0_2 ((rd_T113 l0_2 x6_4).f0) ((rd_T113 l0_2 x6_4).f1) ((rd_T113 l0_2 x6_4).f2) ((rd_T113 l0_2 x6_4).f3) = some r) ∧ Aside0 (kq ≤ k4) ∧ Aside0 (wc.heap[gb120]? = some (.cells #[(.slice A0_0 l0_0.length c0_0), (.slice A0_1 l0_1.length c0_1), (.slice (some ad127) l0_2.length c0_2)] 45 (0, 0))) ∧ Aside0 (wc.heap[gb128]? = some (.cells #[.int .i64 ((rd_T113 l0_2 x6_4).f0), .int .i64 ((rd_T113 l0_2 x6_4).f1), .int .i64 ((rd_T113 l0_2 x6_4).f2), .int .i64 ((rd_T113 l0_2 x6_4).f3)] 113 (0, 0))) ∧ Aside0 (Below w.heap.size w wc))
              case first =>
               have H := HC35.out
               clear HC35
               by_cases c40 : ((rd_T113 l0_2 x6_4).f0) < 0
               ·rw [if_pos c40] at H
                have c40b0 : decide (((rd_T113 l0_2 x6_4).f0) < 0) = true := decide_eq_true c40
                clear c40
                (first | rw [c40b0] | (simp only [i64_w, i32_w]; rw [c40b0]) | skip)
                have H' := Sq.l H
                clear H; have hnb41 := NB128_120.out; have hnc41 := NB120_128.out
                have hcz42_0 : w37.cell? ⟨gb128, 0, none⟩ = some (.int .i64 0) := (Sq.o BK128.out 0).trans rfl
                have hcz42_1 : w37.cell? ⟨gb128, 1, none⟩ = some (.int .i64 0) := (Sq.o BK128.out 1).trans rfl
                have hcz42_2 : w37.cell? ⟨gb128, 2, none⟩ = some (.int .i64 0) := (Sq.o BK128.out 2).trans rfl
                have hcz42_3 : w37.cell? ⟨gb128, 3, none⟩ = some (.int .i64 0) := (Sq.o BK128.out 3).trans rfl
                have hfz42_0 := Sq.r BK128.out 0
                have hfz42_1 := Sq.r BK128.out 1
                have hfz42_2 := Sq.r BK128.out 2
                have hfz42_3 := Sq.r BK128.out 3
                go_wp2
                repeat (go_quiet (fail); try go_wp2)
                go_meet
                case rel => exact ⟨_, (true), (by first | rfl | (simp; done) | (simp [*]; done)), H', ⟨by have := HJ1.out; have := HK2.out; have := HK3.out; have := HK4.out; first | omega | exact Nat.le_refl _⟩, ⟨by (with_reducible repeat (first | refine Sq.d ?_ _ | refine Sq.e ?_ | refine Sq.f ?_ _)); refine Sq.B4 ?_ NB120_128.out; (with_reducible repeat (first | refine Sq.d ?_ _ | refine Sq.e ?_ | refine Sq.f ?_ _)); exact BK120.out⟩, ⟨by (with_reducible repeat (first | refine Sq.d ?_ _ | refine Sq.e ?_ | refine Sq.f ?_ _)); refine Sq.v (cs := #[.int .i64 ((rd_T113 l0_2 x6_4).f0), .int .i64 ((rd_T113 l0_2 x6_4).f1), .int .i64 ((rd_T113 l0_2 x6_4).f2), .int .i64 0]) ?_ 3 _ rfl; (with_reducible repeat (first | refine Sq.d ?_ _ | refine Sq.e ?_ | refine Sq.f ?_ _)); refine Sq.v (cs := #[.int .i64 ((rd_T113 l0_2 x6_4).f0), .int .i64 ((rd_T113 l0_2 x6_4).f1), .int .i64 0, .int .i64 0]) ?_ 2 _ rfl; (with_reducible repeat (first | refine Sq.d ?_ _ | refine Sq.e ?_ | refine Sq.f ?_ _)); refine Sq.v (cs := #[.int .i64 ((rd_T113 l0_2 x6_4).f0), .int .i64 0, .int .i64 0, .int .i64 0]) ?_ 1 _ rfl; (with_reducible repeat (first | refine Sq.d ?_ _ | refine Sq.e ?_ | refine Sq.f ?_ _)); refine Sq.v (cs := #[.int .i64 0, .int .i64 0, .int .i64 0, .int .i64 0]) ?_ 0 _ rfl; (with_reducible repeat (first | refine Sq.d ?_ _ | refine Sq.e ?_ | refine Sq.f ?_ _)); exact BK128.out⟩, ⟨by repeat (first | (with_reducible first | exact HB.out | apply Sq.i | apply Sq.j | apply Sq.k | refine Sq.h ?_ GE120.out | refine Sq.h ?_ GE128.out) | exact HB.out)⟩⟩
               ·rw [if_neg c40] at H
                have c40b0 : decide (((rd_T113 l0_2 x6_4).f0) < 0) = false := decide_eq_false c40
                clear c40
                (first | rw [c40b0] | (simp only [i64_w, i32_w]; rw [c40b0]) | skip)
                by_cases c43 : ((rd_T113 l0_2 x6_4).f0) > 255
                ·rw [if_pos c43] at H
                 have c43b0 : decide (255 < ((rd_T113 l0_2 x6_4).f0)) = true := decide_eq_true c43
                 clear c43
                 have H' := Sq.l H
                 clear H; have hnb44 := NB128_120.out; have hnc44 := NB120_128.out
                 have hcz45_0 : w37.cell? ⟨gb128, 0, none⟩ = some (.int .i64 0) := (Sq.o BK128.out 0).trans rfl
                 have hcz45_1 : w37.cell? ⟨gb128, 1, none⟩ = some (.int .i64 0) := (Sq.o BK128.out 1).trans rfl
                 have hcz45_2 : w37.cell? ⟨gb128, 2, none⟩ = some (.int .i64 0) := (Sq.o BK128.out 2).trans rfl
                 have hcz45_3 : w37.cell? ⟨gb128, 3, none⟩ = some (.int .i64 0) := (Sq.o BK128.out 3).trans rfl
                 have hfz45_0 := Sq.r BK128.out 0
                 have hfz45_1 := Sq.r BK128.out 1
                 have hfz45_2 := Sq.r BK128.out 2
                 have hfz45_3 := Sq.r BK128.out 3
                 go_wp2
                 repeat (go_quiet (fail); try go_wp2)
                 go_meet
                 case rel => exact ⟨_, (true), (by first | rfl | (simp; done) | (simp [*]; done)), H', ⟨by have := HJ1.out; have := HK2.out; have := HK3.out; have := HK4.out; first | omega | exact Nat.le_refl _⟩, ⟨by (with_reducible repeat (first | refine Sq.d ?_ _ | refine Sq.e ?_ | refine Sq.f ?_ _)); refine Sq.B4 ?_ NB120_128.out; (with_reducible repeat (first | refine Sq.d ?_ _ | refine Sq.e ?_ | refine Sq.f ?_ _)); exact BK120.out⟩, ⟨by (with_reducible repeat (first | refine Sq.d ?_ _ | refine Sq.e ?_ | refine Sq.f ?_ _)); refine Sq.v (cs := #[.int .i64 ((rd_T113 l0_2 x6_4).f0), .int .i64 ((rd_T113 l0_2 x6_4).f1), .int .i64 ((rd_T113 l0_2 x6_4).f2), .int .i64 0]) ?_ 3 _ rfl; (with_reducible repeat (first | refine Sq.d ?_ _ | refine Sq.e ?_ | refine Sq.f ?_ _)); refine Sq.v (cs := #[.int .i64 ((rd_T113 l0_2 x6_4).f0), .int .i64 ((rd_T113 l0_2 x6_4).f1), .int .i64 0, .int .i64 0]) ?_ 2 _ rfl; (with_reducible repeat (first | refine Sq.d ?_ _ | refine Sq.e ?_ | refine Sq.f ?_ _)); refine Sq.v (cs := #[.int .i64 ((rd_T113 l0_2 x6_4).f0), .int .i64 0, .int .i64 0, .int .i64 0]) ?_ 1 _ rfl; (with_reducible repeat (first | refine Sq.d ?_ _ | refine Sq.e ?_ | refine Sq.f ?_ _)); refine Sq.v (cs := #[.int .i64 0, .int .i64 0, .int .i64 0, .int .i64 0]) ?_ 0 _ rfl; (with_reducible repeat (first | refine Sq.d ?_ _ | refine Sq.e ?_ | refine Sq.f ?_ _)); exact BK128.out⟩, ⟨by repeat (first | (with_reducible first | exact HB.out | apply Sq.i | apply Sq.j | apply Sq.k | refine Sq.h ?_ GE120.out | refine Sq.h ?_ GE128.out) | exact HB.out)⟩⟩
                ·rw [if_neg c43] at H
                 have c43b0 : decide (255 < ((rd_T113 l0_2 x6_4).f0)) = false := decide_eq_false c43
                 clear c43
                 by_cases c46 : ((rd_T113 l0_2 x6_4).f1) < 0
                 ·rw [if_pos c46] at H
                  have c46b0 : decide (((rd_T113 l0_2 x6_4).f1) < 0) = true := decide_eq_true c46
                  clear c46
                  have H' := Sq.l H
                  clear H; have hnb47 := NB128_120.out; have hnc47 := NB120_128.out
                  have hcz48_0 : w37.cell? ⟨gb128, 0, none⟩ = some (.int .i64 0) := (Sq.o BK128.out 0).trans rfl
                  have hcz48_1 : w37.cell? ⟨gb128, 1, none⟩ = some (.int .i64 0) := (Sq.o BK128.out 1).trans rfl
                  have hcz48_2 : w37.cell? ⟨gb128, 2, none⟩ = some (.int .i64 0) := (Sq.o BK128.out 2).trans rfl
                  have hcz48_3 : w37.cell? ⟨gb128, 3, none⟩ = some (.int .i64 0) := (Sq.o BK128.out 3).trans rfl
                  have hfz48_0 := Sq.r BK128.out 0
                  have hfz48_1 := Sq.r BK128.out 1
                  have hfz48_2 := Sq.r BK128.out 2
                  have hfz48_3 := Sq.r BK128.out 3
                  go_wp2
                  repeat (go_quiet (fail); try go_wp2)
                  go_meet
                  case rel => exact ⟨_, (true), (by first | rfl | (simp; done) | (simp [*]; done)), H', ⟨by have := HJ1.out; have := HK2.out; have := HK3.out; have := HK4.out; first | omega | exact Nat.le_refl _⟩, ⟨by (with_reducible repeat (first | refine Sq.d ?_ _ | refine Sq.e ?_ | refine Sq.f ?_ _)); refine Sq.B4 ?_ NB120_128.out; (with_reducible repeat (first | refine Sq.d ?_ _ | refine Sq.e ?_ | refine Sq.f ?_ _)); exact BK120.out⟩, ⟨by (with_reducible repeat (first | refine Sq.d ?_ _ | refine Sq.e ?_ | refine Sq.f ?_ _)); refine Sq.v (cs := #[.int .i64 ((rd_T113 l0_2 x6_4).f0), .int .i64 ((rd_T113 l0_2 x6_4).f1), .int .i64 ((rd_T113 l0_2 x6_4).f2), .int .i64 0]) ?_ 3 _ rfl; (with_reducible repeat (first | refine Sq.d ?_ _ | refine Sq.e ?_ | refine Sq.f ?_ _)); refine Sq.v (cs := #[.int .i64 ((rd_T113 l0_2 x6_4).f0), .int .i64 ((rd_T113 l0_2 x6_4).f1), .int .i64 0, .int .i64 0]) ?_ 2 _ rfl; (with_reducible repeat (first | refine Sq.d ?_ _ | refine Sq.e ?_ | refine Sq.f ?_ _)); refine Sq.v (cs := #[.int .i64 ((rd_T113 l0_2 x6_4).f0), .int .i64 0, .int .i64 0, .int .i64 0]) ?_ 1 _ rfl; (with_reducible repeat (first | refine Sq.d ?_ _ | refine Sq.e ?_ | refine Sq.f ?_ _)); refine Sq.v (cs := #[.int .i64 0, .int .i64 0, .int .i64 0, .int .i64 0]) ?_ 0 _ rfl; (with_reducible repeat (first | refine Sq.d ?_ _ | refine Sq.e ?_ | refine Sq.f ?_ _)); exact BK128.out⟩, ⟨by repeat (first | (with_reducible first | exact HB.out | apply Sq.i | apply Sq.j | apply Sq.k | refine Sq.h ?_ GE120.out | refine Sq.h ?_ GE128.out) | exact HB.out)⟩⟩
                 ·rw [if_neg c46] at H
                  have c46b0 : decide (((rd_T113 l0_2 x6_4).f1) < 0) = false := decide_eq_false c46
                  clear c46
                  by_cases c49 : ((rd_T113 l0_2 x6_4).f1) > 255
                  ·rw [if_pos c49] at H
                   have c49b0 : decide (255 < ((rd_T113 l0_2 x6_4).f1)) = true := decide_eq_true c49
                   clear c49
                   have H' := Sq.l H
                   clear H; have hnb50 := NB128_120.out; have hnc50 := NB120_128.out
                   have hcz51_0 : w37.cell? ⟨gb128, 0, none⟩ = some (.int .i64 0) := (Sq.o BK128.out 0).trans rfl
                   have hcz51_1 : w37.cell? ⟨gb128, 1, none⟩ = some (.int .i64 0) := (Sq.o BK128.out 1).trans rfl
                   have hcz51_2 : w37.cell? ⟨gb128, 2, none⟩ = some (.int .i64 0) := (Sq.o BK128.out 2).trans rfl
                   have hcz51_3 : w37.cell? ⟨gb128, 3, none⟩ = some (.int .i64 0) := (Sq.o BK128.out 3).trans rfl
                   have hfz51_0 := Sq.r BK128.out 0
                   have hfz51_1 := Sq.r BK128.out 1
                   have hfz51_2 := Sq.r BK128.out 2
                   have hfz51_3 := Sq.r BK128.out 3
                   go_wp2
                   repeat (go_quiet (fail); try go_wp2)
                   go_meet
                   case rel => exact ⟨_, (true), (by first | rfl | (simp; done) | (simp [*]; done)), H', ⟨by have := HJ1.out; have := HK2.out; have := HK3.out; have := HK4.out; first | omega | exact Nat.le_refl _⟩, ⟨by (with_reducible repeat (first | refine Sq.d ?_ _ | refine Sq.e ?_ | refine Sq.f ?_ _)); refine Sq.B4 ?_ NB120_128.out; (with_reducible repeat (first | refine Sq.d ?_ _ | refine Sq.e ?_ | refine Sq.f ?_ _)); exact BK120.out⟩, ⟨by (with_reducible repeat (first | refine Sq.d ?_ _ | refine Sq.e ?_ | refine Sq.f ?_ _)); refine Sq.v (cs := #[.int .i64 ((rd_T113 l0_2 x6_4).f0), .int .i64 ((rd_T113 l0_2 x6_4).f1), .int .i64 ((rd_T113 l0_2 x6_4).f2), .int .i64 0]) ?_ 3 _ rfl; (with_reducible repeat (first | refine Sq.d ?_ _ | refine Sq.e ?_ | refine Sq.f ?_ _)); refine Sq.v (cs := #[.int .i64 ((rd_T113 l0_2 x6_4).f0), .int .i64 ((rd_T113 l0_2 x6_4).f1), .int .i64 0, .int .i64 0]) ?_ 2 _ rfl; (with_reducible repeat (first | refine Sq.d ?_ _ | refine Sq.e ?_ | refine Sq.f ?_ _)); refine Sq.v (cs := #[.int .i64 ((rd_T113 l0_2 x6_4).f0), .int .i64 0, .int .i64 0, .int .i64 0]) ?_ 1 _ rfl; (with_reducible repeat (first | refine Sq.d ?_ _ | refine Sq.e ?_ | refine Sq.f ?_ _)); refine Sq.v (cs := #[.int .i64 0, .int .i64 0, .int .i64 0, .int .i64 0]) ?_ 0 _ rfl; (with_reducible repeat (first | refine Sq.d ?_ _ | refine Sq.e ?_ | refine Sq.f ?_ _)); exact BK128.out⟩, ⟨by repeat (first | (with_reducible first | exact HB.out | apply Sq.i | apply Sq.j | apply Sq.k | refine Sq.h ?_ GE120.out | refine Sq.h ?_ GE128.out) | exact HB.out)⟩⟩
                  ·rw [if_neg c49] at H
                   have c49b0 : decide (255 < ((rd_T113 l0_2 x6_4).f1)) = false := decide_eq_false c49
                   clear c49
                   by_cases c52 : ((rd_T113 l0_2 x6_4).f2) < 0
                   ·rw [if_pos c52] at H
                    have c52b0 : decide (((rd_T113 l0_2 x6_4).f2) < 0) = true := decide_eq_true c52
                    clear c52
                    have H' := Sq.l H
                    clear H; have hnb53 := NB128_120.out; have hnc53 := NB120_128.out
                    have hcz54_0 : w37.cell? ⟨gb128, 0, none⟩ = some (.int .i64 0) := (Sq.o BK128.out 0).trans rfl
                    have hcz54_1 : w37.cell? ⟨gb128, 1, none⟩ = some (.int .i64 0) := (Sq.o BK128.out 1).trans rfl
                    have hcz54_2 : w37.cell? ⟨gb128, 2, none⟩ = some (.int .i64 0) := (Sq.o BK128.out 2).trans rfl
                    have hcz54_3 : w37.cell? ⟨gb128, 3, none⟩ = some (.int .i64 0) := (Sq.o BK128.out 3).trans rfl
                    have hfz54_0 := Sq.r BK128.out 0
                    have hfz54_1 := Sq.r BK128.out 1
                    have hfz54_2 := Sq.r BK128.out 2
                    have hfz54_3 := Sq.r BK128.out 3
                    go_wp2
                    repeat (go_quiet (fail); try go_wp2)
                    go_meet
                    case rel => exact ⟨_, (true), (by first | rfl | (simp; done) | (simp [*]; done)), H', ⟨by have := HJ1.out; have := HK2.out; have := HK3.out; have := HK4.out; first | omega | exact Nat.le_refl _⟩, ⟨by (with_reducible repeat (first | refine Sq.d ?_ _ | refine Sq.e ?_ | refine Sq.f ?_ _)); refine Sq.B4 ?_ NB120_128.out; (with_reducible repeat (first | refine Sq.d ?_ _ | refine Sq.e ?_ | refine Sq.f ?_ _)); exact BK120.out⟩, ⟨by (with_reducible repeat (first | refine Sq.d ?_ _ | refine Sq.e ?_ | refine Sq.f ?_ _)); refine Sq.v (cs := #[.int .i64 ((rd_T113 l0_2 x6_4).f0), .int .i64 ((rd_T113 l0_2 x6_4).f1), .int .i64 ((rd_T113 l0_2 x6_4).f2), .int .i64 0]) ?_ 3 _ rfl; (with_reducible repeat (first | refine Sq.d ?_ _ | refine Sq.e ?_ | refine Sq.f ?_ _)); refine Sq.v (cs := #[.int .i64 ((rd_T113 l0_2 x6_4).f0), .int .i64 ((rd_T113 l0_2 x6_4).f1), .int .i64 0, .int .i64 0]) ?_ 2 _ rfl; (with_reducible repeat (first | refine Sq.d ?_ _ | refine Sq.e ?_ | refine Sq.f ?_ _)); refine Sq.v (cs := #[.int .i64 ((rd_T113 l0_2 x6_4).f0), .int .i64 0, .int .i64 0, .int .i64 0]) ?_ 1 _ rfl; (with_reducible repeat (first | refine Sq.d ?_ _ | refine Sq.e ?_ | refine Sq.f ?_ _)); refine Sq.v (cs := #[.int .i64 0, .int .i64 0, .int .i64 0, .int .i64 0]) ?_ 0 _ rfl; (with_reducible repeat (first | refine Sq.d ?_ _ | refine Sq.e ?_ | refine Sq.f ?_ _)); exact BK128.out⟩, ⟨by repeat (first | (with_reducible first | exact HB.out | apply Sq.i | apply Sq.j | apply Sq.k | refine Sq.h ?_ GE120.out | refine Sq.h ?_ GE128.out) | exact HB.out)⟩⟩
                   ·rw [if_neg c52] at H
                    have c52b0 : decide (((rd_T113 l0_2 x6_4).f2) < 0) = false := decide_eq_false c52
                    clear c52
                    by_cases c55 : ((rd_T113 l0_2 x6_4).f2) ≥ (l0_1.length : Int)
                    ·rw [if_pos c55] at H
                     have c55b0 : decide ((l0_1.length : Int) ≤ ((rd_T113 l0_2 x6_4).f2)) = true := decide_eq_true c55
                     clear c55
                     have H' := Sq.l H
                     clear H; have hnb56 := NB128_120.out; have hnc56 := NB120_128.out
                     have hcz57_0 : w37.cell? ⟨gb128, 0, none⟩ = some (.int .i64 0) := (Sq.o BK128.out 0).trans rfl
                     have hcz57_1 : w37.cell? ⟨gb128, 1, none⟩ = some (.int .i64 0) := (Sq.o BK128.out 1).trans rfl
                     have hcz57_2 : w37.cell? ⟨gb128, 2, none⟩ = some (.int .i64 0) := (Sq.o BK128.out 2).trans rfl
                     have hcz57_3 : w37.cell? ⟨gb128, 3, none⟩ = some (.int .i64 0) := (Sq.o BK128.out 3).trans rfl
                     have hfz57_0 := Sq.r BK128.out 0
                     have hfz57_1 := Sq.r BK128.out 1
                     have hfz57_2 := Sq.r BK128.out 2
                     have hfz57_3 := Sq.r BK128.out 3
                     go_wp2
                     repeat (go_quiet (fail); try go_wp2)
                     go_meet
                     case rel => exact ⟨_, (true), (by first | rfl | (simp; done) | (simp [*]; done)), H', ⟨by have := HJ1.out; have := HK2.out; have := HK3.out; have := HK4.out; first | omega | exact Nat.le_refl _⟩, ⟨by (with_reducible repeat (first | refine Sq.d ?_ _ | refine Sq.e ?_ | refine Sq.f ?_ _)); refine Sq.B4 ?_ NB120_128.out; (with_reducible repeat (first | refine Sq.d ?_ _ | refine Sq.e ?_ | refine Sq.f ?_ _)); exact BK120.out⟩, ⟨by (with_reducible repeat (first | refine Sq.d ?_ _ | refine Sq.e ?_ | refine Sq.f ?_ _)); refine Sq.v (cs := #[.int .i64 ((rd_T113 l0_2 x6_4).f0), .int .i64 ((rd_T113 l0_2 x6_4).f1), .int .i64 ((rd_T113 l0_2 x6_4).f2), .int .i64 0]) ?_ 3 _ rfl; (with_reducible repeat (first | refine Sq.d ?_ _ | refine Sq.e ?_ | refine Sq.f ?_ _)); refine Sq.v (cs := #[.int .i64 ((rd_T113 l0_2 x6_4).f0), .int .i64 ((rd_T113 l0_2 x6_4).f1), .int .i64 0, .int .i64 0]) ?_ 2 _ rfl; (with_reducible repeat (first | refine Sq.d ?_ _ | refine Sq.e ?_ | refine Sq.f ?_ _)); refine Sq.v (cs := #[.int .i64 ((rd_T113 l0_2 x6_4).f0), .int .i64 0, .int .i64 0, .int .i64 0]) ?_ 1 _ rfl; (with_reducible repeat (first | refine Sq.d ?_ _ | refine Sq.e ?_ | refine Sq.f ?_ _)); refine Sq.v (cs := #[.int .i64 0, .int .i64 0, .int .i64 0, .int .i64 0]) ?_ 0 _ rfl; (with_reducible repeat (first | refine Sq.d ?_ _ | refine Sq.e ?_ | refine Sq.f ?_ _)); exact BK128.out⟩, ⟨by repeat (first | (with_reducible first | exact HB.out | apply Sq.i | apply Sq.j | apply Sq.k | refine Sq.h ?_ GE120.out | refine Sq.h ?_ GE128.out) | exact HB.out)⟩⟩
                    ·rw [if_neg c55] at H
                     have c55b0 : decide ((l0_1.length : Int) ≤ ((rd_T113 l0_2 x6_4).f2)) = false := decide_eq_false c55
                     clear c55
                     replace H := Option.bind_eq_some_iff.mp H
                     obtain ⟨t129, A580, H⟩ := H
                     (try dsimp only at H)
                     have A58 := Sq.l A580
                     clear A580
                     have H' := Sq.l H
                     clear H; have hnb59 := NB128_120.out; have hnc59 := NB120_128.out
                     have hcz60_0 : w37.cell? ⟨gb128, 0, none⟩ = some (.int .i64 0) := (Sq.o BK128.out 0).trans rfl
                     have hcz60_1 : w37.cell? ⟨gb128, 1, none⟩ = some (.int .i64 0) := (Sq.o BK128.out 1).trans rfl
                     have hcz60_2 : w37.cell? ⟨gb128, 2, none⟩ = some (.int .i64 0) := (Sq.o BK128.out 2).trans rfl
                     have hcz60_3 : w37.cell? ⟨gb128, 3, none⟩ = some (.int .i64 0) := (Sq.o BK128.out 3).trans rfl
                     have hfz60_0 := Sq.r BK128.out 0
                     have hfz60_1 := Sq.r BK128.out 1
                     have hfz60_2 := Sq.r BK128.out 2
                     have hfz60_3 := Sq.r BK128.out 3
                     go_wp2_with (first | (go_at_call 58; (with_reducible refine (spec_l08Vector.calls ((rd_T113 l0_2 x6_4).f3) t129 _ A58.out).mono ?_); rintro e w' ⟨rfl, ⟨nd, rfl⟩⟩; (try first | exact ⟨rfl, _, World.drewN_drewN _ _ _⟩ | exact ⟨rfl, _, Eq.trans (World.drewN_drewN _ _ _) (congrArg (World.drewN _) (Nat.add_assoc _ _ _))⟩)))
                     repeat (go_quiet (first | (go_at_call 58; (with_reducible refine (spec_l08Vector.calls ((rd_T113 l0_2 x6_4).f3) t129 _ A58.out).mono ?_); rintro e w' ⟨rfl, ⟨nd, rfl⟩⟩; (try first | exact ⟨rfl, _, World.drewN_drewN _ _ _⟩ | exact ⟨rfl, _, Eq.trans (World.drewN_drewN _ _ _) (congrArg (World.drewN _) (Nat.add_assoc _ _ _))⟩))); try go_wp2_with (first | (go_at_call 58; (with_reducible refine (spec_l08Vector.calls ((rd_T113 l0_2 x6_4).f3) t129 _ A58.out).mono ?_); rintro e w' ⟨rfl, ⟨nd, rfl⟩⟩; (try first | exact ⟨rfl, _, World.drewN_drewN _ _ _⟩ | exact ⟨rfl, _, Eq.trans (World.drewN_drewN _ _ _) (congrArg (World.drewN _) (Nat.add_assoc _ _ _))⟩))))
                     go_meet
                     case rel => exact ⟨_, (!t129), (by first | rfl | (simp; done) | (simp [*]; done)), H', ⟨by have := HJ1.out; have := HK2.out; have := HK3.out; have := HK4.out; first | omega | exact Nat.le_refl _⟩, ⟨by (with_reducible repeat (first | refine Sq.d ?_ _ | refine Sq.e ?_ | refine Sq.f ?_ _)); refine Sq.B4 ?_ NB120_128.out; (with_reducible repeat (first | refine Sq.d ?_ _ | refine Sq.e ?_ | refine Sq.f ?_ _)); exact BK120.out⟩, ⟨by (with_reducible repeat (first | refine Sq.d ?_ _ | refine Sq.e ?_ | refine Sq.f ?_ _)); refine Sq.v (cs := #[.int .i64 ((rd_T113 l0_2 x6_4).f0), .int .i64 ((rd_T113 l0_2 x6_4).f1), .int .i64 ((rd_T113 l0_2 x6_4).f2), .int .i64 0]) ?_ 3 _ rfl; (with_reducible repeat (first | refine Sq.d ?_ _ | refine Sq.e ?_ | refine Sq.f ?_ _)); refine Sq.v (cs := #[.int .i64 ((rd_T113 l0_2 x6_4).f0), .int .i64 ((rd_T113 l0_2 x6_4).f1), .int .i64 0, .int .i64 0]) ?_ 2 _ rfl; (with_reducible repeat (first | refine Sq.d ?_ _ | refine Sq.e ?_ | refine Sq.f ?_ _)); refine Sq.v (cs := #[.int .i64 ((rd_T113 l0_2 x6_4).f0), .int .i64 0, .int .i64 0, .int .i64 0]) ?_ 1 _ rfl; (with_reducible repeat (first | refine Sq.d ?_ _ | refine Sq.e ?_ | refine Sq.f ?_ _)); refine Sq.v (cs := #[.int .i64 0, .int .i64 0, .int .i64 0, .int .i64 0]) ?_ 0 _ rfl; (with_reducible repeat (first | refine Sq.d ?_ _ | refine Sq.e ?_ | refine Sq.f ?_ _)); exact BK128.out⟩, ⟨by repeat (first | (with_reducible first | exact HB.out | apply Sq.i | apply Sq.j | apply Sq.k | refine Sq.h ?_ GE120.out | refine Sq.h ?_ GE128.out) | exact HB.out)⟩⟩
              case rest =>
               clear HC35; try clear c1; try clear p1; try clear q1; try clear hx1; try clear c2; try clear p2; try clear c3; try clear c4; try clear c4b0; try clear c4b1; try clear c5; try clear c6; try clear c6b0; try clear c6b1; try clear p6; try clear c8; try clear c8b0; try clear c8b1; try clear c11; try clear c12; try clear p12; try clear q12; try clear hx12; try clear c13; try clear c13b0; try clear c14; try clear c14b0; try clear c15; try clear c15b0; try clear c17; try clear c17b0; try clear c20; try clear c24; try clear c24b0; try clear c25; try clear c25b0; try clear c27; try clear c33; try clear c33b0; try clear c34; try clear c34b0; try clear c38; try clear c40; try clear c40b0; try clear c41; try clear c43; try clear c43b0; try clear c44; try clear c46; try clear c46b0; try clear c47; try clear c49; try clear c49b0; try clear c50; try clear c52; try clear c52b0; try clear c53; try clear c55; try clear c55b0; try clear c56; try clear c59; try clear hcz10_0; try clear hcz10_1; try clear hcz10_2; try clear hcz12_0; try clear hcz12_1; try clear hcz12_2; try clear hcz16_0; try clear hcz16_1; try clear hcz16_2; try clear hcz18_0; try clear hcz18_1; try clear hcz18_2; try clear hcz21_0; try clear hcz21_1; try clear hcz21_2; try clear hcz22_0; try clear hcz22_1; try clear hcz22_2; try clear hcz23_0; try clear hcz23_1; try clear hcz23_2; try clear hcz28_0; try clear hcz28_1; try clear hcz28_2; try clear hcz30_0; try clear hcz30_1; try clear hcz30_2; try clear hcz32_0; try clear hcz32_1; try clear hcz32_2; try clear hcz36_0; try clear hcz36_1; try clear hcz36_2; try clear hcz39_0; try clear hcz39_1; try clear hcz39_2; try clear hcz39_3; try clear hcz42_0; try clear hcz42_1; try clear hcz42_2; try clear hcz42_3; try clear hcz45_0; try clear hcz45_1; try clear hcz45_2; try clear hcz45_3; try clear hcz48_0; try clear hcz48_1; try clear hcz48_2; try clear hcz48_3; try clear hcz51_0; try clear hcz51_1; try clear hcz51_2; try clear hcz51_3; try clear hcz54_0; try clear hcz54_1; try clear hcz54_2; try clear hcz54_3; try clear hcz57_0; try clear hcz57_1; try clear hcz57_2; try clear hcz57_3; try clear hcz5_0; try clear hcz5_1; try clear hcz5_2; try clear hcz60_0; try clear hcz60_1; try clear hcz60_2; try clear hcz60_3; try clear hcz7_0; try clear hcz7_1; try clear hcz7_2; try clear hcz9_0; try clear hcz9_1; try clear hcz9_2; try clear hfz10_0; try clear hfz10_1; try clear hfz10_2; try clear hfz12_0; try clear hfz12_1; try clear hfz12_2; try clear hfz16_0; try clear hfz16_1; try clear hfz16_2; try clear hfz18_0; try clear hfz18_1; try clear hfz18_2; try clear hfz21_0; try clear hfz21_1; try clear hfz21_2; try clear hfz22_0; try clear hfz22_1; try clear hfz22_2; try clear hfz23_0; try clear hfz23_1; try clear hfz23_2; try clear hfz28_0; try clear hfz28_1; try clear hfz28_2; try clear hfz30_0; try clear hfz30_1; try clear hfz30_2; try clear hfz32_0; try clear hfz32_1; try clear hfz32_2; try clear hfz36_0; try clear hfz36_1; try clear hfz36_2; try clear hfz39_0; try clear hfz39_1; try clear hfz39_2; try clear hfz39_3; try clear hfz42_0; try clear hfz42_1; try clear hfz42_2; try clear hfz42_3; try clear hfz45_0; try clear hfz45_1; try clear hfz45_2; try clear hfz45_3; try clear hfz48_0; try clear hfz48_1; try clear hfz48_2; try clear hfz48_3; try clear hfz51_0; try clear hfz51_1; try clear hfz51_2; try clear hfz51_3; try clear hfz54_0; try clear hfz54_1; try clear hfz54_2; try clear hfz54_3; try clear hfz57_0; try clear hfz57_1; try clear hfz57_2; try clear hfz57_3; try clear hfz5_0; try clear hfz5_1; try clear hfz5_2; try clear hfz60_0; try clear hfz60_1; try clear hfz60_2; try clear hfz60_3; try clear hfz7_0; try clear hfz7_1; try clear hfz7_2; try clear hfz9_0; try clear hfz9_1; try clear hfz9_2; try clear hx121_0; try clear hx121_1; try clear hx121_2; try clear hx121_3; try clear hx121_4; try clear hx122_0; try clear hx122_1; try clear hx122_2; try clear hx122_3; try clear hx122_4; try clear hx123_0; try clear hx123_1; try clear hx123_2; try clear hx123_3; try clear hx123_4; try clear hx125_0; try clear hx125_1; try clear hx125_2; try clear hx127_0; try clear hx127_1; try clear hx127_2; try clear hx127_3; try clear p1; try clear p12; try clear p121; try clear p122; try clear p123; try clear p125; try clear p127; try clear p2; try clear p6; try clear q1; try clear q12; try clear q121; try clear q122; try clear q123; try clear q125; try clear q127
               obtain ⟨kq, x127_34, rfl, HA, HJ34, BK120, BK128, HB⟩ := hcut
               cases kq with
               | zero => exact absurd HA.out (by simp [spec_RouterFault.j4])
               | succ kj34 =>
                have H := HA.out
                clear HA
                simp only [spec_RouterFault.j4] at H
                by_cases c61 : x127_34 = true
                ·subst c61
                 rw [if_pos rfl] at H
                 obtain rfl := Option.some.inj H
                 go_wp2
                 repeat (go_quiet (fail); try go_wp2)
                 go_ret
                 exact ⟨by first | rfl | (simp [errW_none, errW_some] <;> rfl) | (simp [*, errW_none, errW_some] <;> rfl), by repeat (first | (with_reducible first | exact HB.out | apply Sq.i | apply Sq.j | apply Sq.k | refine Sq.h ?_ GE120.out | refine Sq.h ?_ GE128.out) | exact HB.out)⟩
                ·replace c61 := Bool.eq_false_iff.mpr c61
                 subst c61
                 rw [if_neg (show ¬ (false = true) by decide)] at H
                 by_cases c62 : x6_4 > 0
                 ·rw [if_pos c62] at H
                  have c62b0 : decide (0 < x6_4) = true := decide_eq_true c62
                  clear c62
                  obtain ⟨ji63, hji63⟩ : ∃ j_ : Int, (wrap64 (x6_4 - 1)) = j_ := ⟨_, rfl⟩
                  replace H : (if 0 ≤ (ji63) then (if (ji63) < (l0_2.length : Int) then (if (wrap64 ((wrap64 (((rd_T113 l0_2 (ji63)).f0) * 256)) + ((rd_T113 l0_2 (ji63)).f1))) ≥ (wrap64 ((wrap64 (((rd_T113 l0_2 x6_4).f0) * 256)) + ((rd_T113 l0_2 x6_4).f1))) then (some 1) else (spec_RouterFault.l2 kj34 (l0_1.length : Int) (wrap64 (x6_4 + 1)) l0_0 l0_1 l0_2)) else (none)) else (none)) = some r := by first | (rw [hji63] at H; exact H) | (simp only [hji63] at H ⊢; exact H)
                  have hji63w : (IntKind.i64.wrap (x6_4 - 1)) = ji63 := (i64_w _).trans hji63
                  by_cases c64 : 0 ≤ (ji63)
                  ·rw [if_pos c64] at H
                   have c64b0 : decide (0 ≤ (ji63)) = true := decide_eq_true c64
                   clear c64
                   by_cases c65 : (ji63) < (l0_2.length : Int)
                   ·rw [if_pos c65] at H
                    have c65b0 : decide ((ji63) < (l0_2.length : Int)) = true := decide_eq_true c65
                    clear c65
                    by_cases c66 : (wrap64 ((wrap64 (((rd_T113 l0_2 (ji63)).f0) * 256)) + ((rd_T113 l0_2 (ji63)).f1))) ≥ (wrap64 ((wrap64 (((rd_T113 l0_2 x6_4).f0) * 256)) + ((rd_T113 l0_2 x6_4).f1)))
                    ·rw [if_pos c66] at H
                     have c66b0 : decide ((wrap64 ((wrap64 (((rd_T113 l0_2 x6_4).f0) * 256)) + ((rd_T113 l0_2 x6_4).f1))) ≤ (wrap64 ((wrap64 (((rd_T113 l0_2 (ji63)).f0) * 256)) + ((rd_T113 l0_2 (ji63)).f1)))) = true := decide_eq_true c66
                     clear c66
                     obtain rfl := Option.some.inj H
                     have hnb67 := NB120_128.out; have hnc67 := NB128_120.out
                     have hcz68_0 : wc.cell? ⟨gb120, 0, none⟩ = some (.slice A0_0 l0_0.length c0_0) := (Sq.o BK120.out 0).trans rfl
                     have hcz68_1 : wc.cell? ⟨gb120, 1, none⟩ = some (.slice A0_1 l0_1.length c0_1) := (Sq.o BK120.out 1).trans rfl
                     have hcz68_2 : wc.cell? ⟨gb120, 2, none⟩ = some (.slice (some ad127) l0_2.length c0_2) := (Sq.o BK120.out 2).trans rfl
                     have hfz68_0 := Sq.r BK120.out 0
                     have hfz68_1 := Sq.r BK120.out 1
                     have hfz68_2 := Sq.r BK120.out 2
                     have p130 : 0 ≤ ((ji63) : Int) := of_decide_eq_true (by first | (with_reducible assumption) | assumption)
                     have q130 : (ji63) < (l0_2.length : Int) := of_decide_eq_true (by first | (with_reducible assumption) | assumption)
                     obtain ⟨ad130, e130, hx130_0, hx130_1, hx130_2, hx130_3⟩ := at_T113 HR0_2.out (ji63) p130 q130
                     obtain rfl : ad127 = ad130 := (by injection e130)
                     replace hx130_0 := (HB.out.cell (World.block_lt_of_cell? w _ hx130_0)).trans hx130_0
                     replace hx130_1 := (HB.out.cell (World.block_lt_of_cell? w _ hx130_1)).trans hx130_1
                     replace hx130_2 := (HB.out.cell (World.block_lt_of_cell? w _ hx130_2)).trans hx130_2
                     replace hx130_3 := (HB.out.cell (World.block_lt_of_cell? w _ hx130_3)).trans hx130_3
                     replace p130 := eq_true p130; replace q130 := eq_true q130
                     have p131 : 0 ≤ ((ji63) : Int) := of_decide_eq_true (by first | (with_reducible assumption) | assumption)
                     have q131 : (ji63) < (l0_2.length : Int) := of_decide_eq_true (by first | (with_reducible assumption) | assumption)
                     obtain ⟨ad131, e131, hx131_0, hx131_1, hx131_2, hx131_3⟩ := at_T113 HR0_2.out (ji63) p131 q131
                     obtain rfl : ad127 = ad131 := (by injection e131)
                     replace hx131_0 := (HB.out.cell (World.block_lt_of_cell? w _ hx131_0)).trans hx131_0
                     replace hx131_1 := (HB.out.cell (World.block_lt_of_cell? w _ hx131_1)).trans hx131_1
                     replace hx131_2 := (HB.out.cell (World.block_lt_of_cell? w _ hx131_2)).trans hx131_2
                     replace hx131_3 := (HB.out.cell (World.block_lt_of_cell? w _ hx131_3)).trans hx131_3
                     replace p131 := eq_true p131; replace q131 := eq_true q131
                     have hcz69_0 : wc.cell? ⟨gb128, 0, none⟩ = some (.int .i64 ((rd_T113 l0_2 x6_4).f0)) := (Sq.o BK128.out 0).trans rfl
                     have hcz69_1 : wc.cell? ⟨gb128, 1, none⟩ = some (.int .i64 ((rd_T113 l0_2 x6_4).f1)) := (Sq.o BK128.out 1).trans rfl
                     have hcz69_2 : wc.cell? ⟨gb128, 2, none⟩ = some (.int .i64 ((rd_T113 l0_2 x6_4).f2)) := (Sq.o BK128.out 2).trans rfl
                     have hcz69_3 : wc.cell? ⟨gb128, 3, none⟩ = some (.int .i64 ((rd_T113 l0_2 x6_4).f3)) := (Sq.o BK128.out 3).trans rfl
                     have hfz69_0 := Sq.r BK128.out 0
                     have hfz69_1 := Sq.r BK128.out 1
                     have hfz69_2 := Sq.r BK128.out 2
                     have hfz69_3 := Sq.r BK128.out 3
                     go_wp2
                     repeat (go_quiet (fail); try go_wp2)
                     go_ret
                     exact ⟨by first | rfl | (simp [errW_none, errW_some] <;> rfl) | (simp only [← hji63]; first | rfl | (simp [errW_none, errW_some] <;> rfl)) | (simp [*, errW_none, errW_some] <;> rfl), by repeat (first | (with_reducible first | exact HB.out | apply Sq.i | apply Sq.j | apply Sq.k | refine Sq.h ?_ GE120.out | refine Sq.h ?_ GE128.out) | exact HB.out)⟩
                    ·rw [if_neg c66] at H
                     have c66b0 : decide ((wrap64 ((wrap64 (((rd_T113 l0_2 x6_4).f0) * 256)) + ((rd_T113 l0_2 x6_4).f1))) ≤ (wrap64 ((wrap64 (((rd_T113 l0_2 (ji63)).f0) * 256)) + ((rd_T113 l0_2 (ji63)).f1)))) = false := decide_eq_false c66
                     clear c66
                     have H' := Sq.l H
                     clear H; have hnb70 := NB120_128.out; have hnc70 := NB128_120.out
                     have hcz71_0 : wc.cell? ⟨gb120, 0, none⟩ = some (.slice A0_0 l0_0.length c0_0) := (Sq.o BK120.out 0).trans rfl
                     have hcz71_1 : wc.cell? ⟨gb120, 1, none⟩ = some (.slice A0_1 l0_1.length c0_1) := (Sq.o BK120.out 1).trans rfl
                     have hcz71_2 : wc.cell? ⟨gb120, 2, none⟩ = some (.slice (some ad127) l0_2.length c0_2) := (Sq.o BK120.out 2).trans rfl
                     have hfz71_0 := Sq.r BK120.out 0
                     have hfz71_1 := Sq.r BK120.out 1
                     have hfz71_2 := Sq.r BK120.out 2
                     have p130 : 0 ≤ ((ji63) : Int) := of_decide_eq_true (by first | (with_reducible assumption) | assumption)
                     have q130 : (ji63) < (l0_2.length : Int) := of_decide_eq_true (by first | (with_reducible assumption) | assumption)
                     obtain ⟨ad130, e130, hx130_0, hx130_1, hx130_2, hx130_3⟩ := at_T113 HR0_2.out (ji63) p130 q130
                     obtain rfl : ad127 = ad130 := (by injection e130)
                     replace hx130_0 := (HB.out.cell (World.block_lt_of_cell? w _ hx130_0)).trans hx130_0
                     replace hx130_1 := (HB.out.cell (World.block_lt_of_cell? w _ hx130_1)).trans hx130_1
                     replace hx130_2 := (HB.out.cell (World.block_lt_of_cell? w _ hx130_2)).trans hx130_2
                     replace hx130_3 := (HB.out.cell (World.block_lt_of_cell? w _ hx130_3)).trans hx130_3
                     replace p130 := eq_true p130; replace q130 := eq_true q130
                     have p131 : 0 ≤ ((ji63) : Int) := of_decide_eq_true (by first | (with_reducible assumption) | assumption)
                     have q131 : (ji63) < (l0_2.length : Int) := of_decide_eq_true (by first | (with_reducible assumption) | assumption)
                     obtain ⟨ad131, e131, hx131_0, hx131_1, hx131_2, hx131_3⟩ := at_T113 HR0_2.out (ji63) p131 q131
                     obtain rfl : ad127 = ad131 := (by injection e131)
                     replace hx131_0 := (HB.out.cell (World.block_lt_of_cell? w _ hx131_0)).trans hx131_0
                     replace hx131_1 := (HB.out.cell (World.block_lt_of_cell? w _ hx131_1)).trans hx131_1
                     replace hx131_2 := (HB.out.cell (World.block_lt_of_cell? w _ hx131_2)).trans hx131_2
                     replace hx131_3 := (HB.out.cell (World.block_lt_of_cell? w _ hx131_3)).trans hx131_3
                     replace p131 := eq_true p131; replace q131 := eq_true q131
                     have hcz72_0 : wc.cell? ⟨gb128, 0, none⟩ = some (.int .i64 ((rd_T113 l0_2 x6_4).f0)) := (Sq.o BK128.out 0).trans rfl
                     have hcz72_1 : wc.cell? ⟨gb128, 1, none⟩ = some (.int .i64 ((rd_T113 l0_2 x6_4).f1)) := (Sq.o BK128.out 1).trans rfl
                     have hcz72_2 : wc.cell? ⟨gb128, 2, none⟩ = some (.int .i64 ((rd_T113 l0_2 x6_4).f2)) := (Sq.o BK128.out 2).trans rfl
                     have hcz72_3 : wc.cell? ⟨gb128, 3, none⟩ = some (.int .i64 ((rd_T113 l0_2 x6_4).f3)) := (Sq.o BK128.out 3).trans rfl
                     have hfz72_0 := Sq.r BK128.out 0
                     have hfz72_1 := Sq.r BK128.out 1
                     have hfz72_2 := Sq.r BK128.out 2
                     have hfz72_3 := Sq.r BK128.out 3
                     go_wp2
                     repeat (go_quiet (fail); try go_wp2)
                     go_roundg kj34
                     case measure => have := HJ1.out; have := HK2.out; have := HK3.out; have := HK4.out; have := HJ34.out; omega
                     case rel => exact ⟨(wrap64 (x6_4 + 1)), (by first | rfl | (simp; done) | (simp [*]; done)), H', ⟨by have := HJ1.out; have := HK2.out; have := HK3.out; have := HK4.out; have := HJ34.out; omega⟩, ⟨by (with_reducible repeat (first | refine Sq.d ?_ _ | refine Sq.e ?_ | refine Sq.f ?_ _)); exact BK120.out⟩, ⟨by repeat (first | (with_reducible first | exact HB.out | apply Sq.i | apply Sq.j | apply Sq.k | refine Sq.h ?_ GE120.out | refine Sq.h ?_ GE128.out) | exact HB.out)⟩⟩
                   ·rw [if_neg c65] at H
                    exact absurd H (by simp)
                  ·rw [if_neg c64] at H
                   exact absurd H (by simp)
                 ·rw [if_neg c62] at H
                  have c62b0 : decide (0 < x6_4) = false := decide_eq_false c62
                  clear c62
                  have H' := Sq.l H
                  clear H
                  go_wp2
                  repeat (go_quiet (fail); try go_wp2)
                  go_roundg kj34
                  case measure => have := HJ1.out; have := HK2.out; have := HK3.out; have := HK4.out; have := HJ34.out; omega
                  case rel => exact ⟨(wrap64 (x6_4 + 1)), (by first | rfl | (simp; done) | (simp [*]; done)), H', ⟨by have := HJ1.out; have := HK2.out; have := HK3.out; have := HK4.out; have := HJ34.out; omega⟩, ⟨by (with_reducible repeat (first | refine Sq.d ?_ _ | refine Sq.e ?_ | refine Sq.f ?_ _)); exact BK120.out⟩, ⟨by repeat (first | (with_reducible first | exact HB.out | apply Sq.i | apply Sq.j | apply Sq.k | refine Sq.h ?_ GE120.out | refine Sq.h ?_ GE128.out) | exact HB.out)⟩⟩
             ·rw [if_neg c34] at H
              exact absurd H (by simp)
            ·rw [if_neg c33] at H
             have c33b0 : decide (x6_4 < (l0_2.length : Int)) = false := decide_eq_false c33
             clear c33
             obtain rfl := Option.some.inj H
             have hcz73_0 : wr.cell? ⟨gb120, 0, none⟩ = some (.slice A0_0 l0_0.length c0_0) := (Sq.o BK120.out 0).trans rfl
             have hcz73_1 : wr.cell? ⟨gb120, 1, none⟩ = some (.slice A0_1 l0_1.length c0_1) := (Sq.o BK120.out 1).trans rfl
             have hcz73_2 : wr.cell? ⟨gb120, 2, none⟩ = some (.slice A0_2 l0_2.length c0_2) := (Sq.o BK120.out 2).trans rfl
             have hfz73_0 := Sq.r BK120.out 0
             have hfz73_1 := Sq.r BK120.out 1
             have hfz73_2 := Sq.r BK120.out 2
             go_wp2
             repeat (go_quiet (fail); try go_wp2)
             go_ret
             exact ⟨by first | rfl | (simp [errW_none, errW_some] <;> rfl) | (simp [*, errW_none, errW_some] <;> rfl), by repeat (first | (with_reducible first | exact HB.out | apply Sq.i | apply Sq.j | apply Sq.k | refine Sq.h ?_ GE120.out) | exact HB.out)⟩

end Go.Proofs.Ytmajbehafgajmaa.QFnExactRouterFault
