-- Written for this claim by this session's own driver (wip/xprint.py).
import Derived.Test.YtmajbehafgajmaaQFnExactMemHostFaultx0
import Derived.Test.YtmajbehafgajmaaQFnExactMemHostFaultx1
import Derived.Test.YtmajbehafgajmaaQFnExactMemHostFaultx2
import Derived.Test.YtmajbehafgajmaaQFnExactMemHostFaultx4
namespace Go.Proofs.Ytmajbehafgajmaa.QFnExactMemHostFault
open Go.RowKit Go.Proofs.YtmajbehafgajmaaW.PrintWords Go.Proofs.YtmajbehafgajmaaW.PrintLast Go.Proofs.YtmajbehafgajmaaW.PrintMore
attribute [local go_sem] max2_int min2_int max_two min_two max_three min_three max_four min_four   -- for this text's walks alone
set_option linter.unusedVariables false
set_option linter.unusedSimpArgs false

/-! ### spec_MemHostFault: function 9 -/
mutual
def spec_MemHostFault.j0 : Nat → Bool → List ByteArray → List ByteArray → List (S90) → Int → Option (Int)
 | 0, _, _, _, _, _ => none
 | k + 1, x37, x145000, x145001, x145002, x145003 => if x37 = true then (some 1) else (spec_MemHostFault.l0 k 0 x145000 x145001 x145002 x145003)
def spec_MemHostFault.l0 : Nat → Int → List ByteArray → List ByteArray → List (S90) → Int → Option (Int)
 | 0, _, _, _, _, _ => none
 | k + 1, x3, x145000, x145001, x145002, x145003 => if x3 < (x145002.length : Int) then (if 0 ≤ x3 then ((spec_l12Guest.f k x145000 x145001 x145002 x145003 ((rd_T90 x145002 x3).f0) ((rd_T90 x145002 x3).f1) ((rd_T90 x145002 x3).f2)).bind fun t148 => (if t148 = true then (spec_MemHostFault.l0 k (wrap64 (x3 + 1)) x145000 x145001 x145002 x145003) else (some 1))) else (none)) else (spec_MemHostFault.l1 k 0 x145000 x145001 x145002 x145003)
def spec_MemHostFault.l1 : Nat → Int → List ByteArray → List ByteArray → List (S90) → Int → Option (Int)
 | 0, _, _, _, _, _ => none
 | k + 1, x4, x145000, x145001, x145002, x145003 => if x4 < (x145000.length : Int) then (if 0 ≤ x4 then (if (rdOf ByteArray.empty x145000 x4).toList = ([] : List UInt8) then (spec_MemHostFault.l1 k (wrap64 (x4 + 1)) x145000 x145001 x145002 x145003) else ((spec_l12Count.f k x145000 x145001 x145002 x145003 1 x4).bind fun t150 => (if t150 = 0 then (some 1) else (spec_MemHostFault.l1 k (wrap64 (x4 + 1)) x145000 x145001 x145002 x145003)))) else (none)) else (spec_MemHostFault.l2 k 0 x145000 x145001 x145002 x145003)
def spec_MemHostFault.l2 : Nat → Int → List ByteArray → List ByteArray → List (S90) → Int → Option (Int)
 | 0, _, _, _, _, _ => none
 | k + 1, x5, x145000, x145001, x145002, x145003 => if x5 < (x145001.length : Int) then (if 0 ≤ x5 then (if (rdOf ByteArray.empty x145001 x5).toList = ([] : List UInt8) then (spec_MemHostFault.l2 k (wrap64 (x5 + 1)) x145000 x145001 x145002 x145003) else ((spec_l12Count.f k x145000 x145001 x145002 x145003 2 x5).bind fun t152 => (if t152 = 1 then (spec_MemHostFault.l2 k (wrap64 (x5 + 1)) x145000 x145001 x145002 x145003) else (some 1)))) else (none)) else (some 0)
end
def spec_MemHostFault.f (k : Nat) (l0_0 : List ByteArray) (l0_1 : List ByteArray) (l0_2 : List (S90)) (a0_3 : Int) : Option (Int) := (spec_l12Texts.f k l0_0).bind fun t145 => (if t145 = true then ((spec_l12Texts.f k l0_1).bind fun t146 => (if t146 = true then (if (l0_2.length : Int) < 1 then (spec_MemHostFault.j0 k true l0_0 l0_1 l0_2 a0_3) else (if (l0_2.length : Int) > 8 then (spec_MemHostFault.j0 k true l0_0 l0_1 l0_2 a0_3) else (if a0_3 < 0 then (spec_MemHostFault.j0 k true l0_0 l0_1 l0_2 a0_3) else (spec_MemHostFault.j0 k (decide (a0_3 > 1099511627776)) l0_0 l0_1 l0_2 a0_3)))) else (spec_MemHostFault.j0 k true l0_0 l0_1 l0_2 a0_3))) else (spec_MemHostFault.j0 k true l0_0 l0_1 l0_2 a0_3))
theorem spec_MemHostFault.mono_l : ∀ k, (∀ y0 y1 y2 y3 y4, LeO (spec_MemHostFault.j0 k y0 y1 y2 y3 y4) (spec_MemHostFault.j0 (k + 1) y0 y1 y2 y3 y4)) ∧ (∀ y0 y1 y2 y3 y4, LeO (spec_MemHostFault.l0 k y0 y1 y2 y3 y4) (spec_MemHostFault.l0 (k + 1) y0 y1 y2 y3 y4)) ∧ (∀ y0 y1 y2 y3 y4, LeO (spec_MemHostFault.l1 k y0 y1 y2 y3 y4) (spec_MemHostFault.l1 (k + 1) y0 y1 y2 y3 y4)) ∧ (∀ y0 y1 y2 y3 y4, LeO (spec_MemHostFault.l2 k y0 y1 y2 y3 y4) (spec_MemHostFault.l2 (k + 1) y0 y1 y2 y3 y4))
 | 0 => ⟨fun _ _ _ _ _ r h => by simp [spec_MemHostFault.j0] at h, fun _ _ _ _ _ r h => by simp [spec_MemHostFault.l0] at h, fun _ _ _ _ _ r h => by simp [spec_MemHostFault.l1] at h, fun _ _ _ _ _ r h => by simp [spec_MemHostFault.l2] at h⟩
 | k + 1 => by
  obtain ⟨ih0, ih1, ih2, ih3⟩ := spec_MemHostFault.mono_l k
  refine ⟨?_, ?_, ?_, ?_⟩
  ·intro y0 y1 y2 y3 y4
   unfold spec_MemHostFault.j0
   repeat' first
   | (with_reducible exact ih0 _ _ _ _ _)
   | (with_reducible exact ih1 _ _ _ _ _)
   | (with_reducible exact ih2 _ _ _ _ _)
   | (with_reducible exact ih3 _ _ _ _ _)
   | (with_reducible exact spec_l12Count.mono _ _ _ _ _ _ _)
   | (with_reducible exact spec_l12Guest.mono _ _ _ _ _ _ _ _)
   | (with_reducible exact spec_l12Texts.mono _ _)
   | (with_reducible exact LeO.refl _)
   | (with_reducible exact LeO.none _)
   | (with_reducible refine LeO.ite ?_ ?_)
   | (with_reducible refine LeO.bind ?_ (fun _ => ?_))
   | exact ih0 _ _ _ _ _
   | exact ih1 _ _ _ _ _
   | exact ih2 _ _ _ _ _
   | exact ih3 _ _ _ _ _
   | exact spec_l12Count.mono _ _ _ _ _ _ _
   | exact spec_l12Guest.mono _ _ _ _ _ _ _ _
   | exact spec_l12Texts.mono _ _
   | exact LeO.none _
   | refine LeO.ite ?_ ?_
   | refine LeO.bind ?_ (fun _ => ?_)
  ·intro y0 y1 y2 y3 y4
   unfold spec_MemHostFault.l0
   repeat' first
   | (with_reducible exact ih0 _ _ _ _ _)
   | (with_reducible exact ih1 _ _ _ _ _)
   | (with_reducible exact ih2 _ _ _ _ _)
   | (with_reducible exact ih3 _ _ _ _ _)
   | (with_reducible exact spec_l12Count.mono _ _ _ _ _ _ _)
   | (with_reducible exact spec_l12Guest.mono _ _ _ _ _ _ _ _)
   | (with_reducible exact spec_l12Texts.mono _ _)
   | (with_reducible exact LeO.refl _)
   | (with_reducible exact LeO.none _)
   | (with_reducible refine LeO.ite ?_ ?_)
   | (with_reducible refine LeO.bind ?_ (fun _ => ?_))
   | exact ih0 _ _ _ _ _
   | exact ih1 _ _ _ _ _
   | exact ih2 _ _ _ _ _
   | exact ih3 _ _ _ _ _
   | exact spec_l12Count.mono _ _ _ _ _ _ _
   | exact spec_l12Guest.mono _ _ _ _ _ _ _ _
   | exact spec_l12Texts.mono _ _
   | exact LeO.none _
   | refine LeO.ite ?_ ?_
   | refine LeO.bind ?_ (fun _ => ?_)
  ·intro y0 y1 y2 y3 y4
   unfold spec_MemHostFault.l1
   repeat' first
   | (with_reducible exact ih0 _ _ _ _ _)
   | (with_reducible exact ih1 _ _ _ _ _)
   | (with_reducible exact ih2 _ _ _ _ _)
   | (with_reducible exact ih3 _ _ _ _ _)
   | (with_reducible exact spec_l12Count.mono _ _ _ _ _ _ _)
   | (with_reducible exact spec_l12Guest.mono _ _ _ _ _ _ _ _)
   | (with_reducible exact spec_l12Texts.mono _ _)
   | (with_reducible exact LeO.refl _)
   | (with_reducible exact LeO.none _)
   | (with_reducible refine LeO.ite ?_ ?_)
   | (with_reducible refine LeO.bind ?_ (fun _ => ?_))
   | exact ih0 _ _ _ _ _
   | exact ih1 _ _ _ _ _
   | exact ih2 _ _ _ _ _
   | exact ih3 _ _ _ _ _
   | exact spec_l12Count.mono _ _ _ _ _ _ _
   | exact spec_l12Guest.mono _ _ _ _ _ _ _ _
   | exact spec_l12Texts.mono _ _
   | exact LeO.none _
   | refine LeO.ite ?_ ?_
   | refine LeO.bind ?_ (fun _ => ?_)
  ·intro y0 y1 y2 y3 y4
   unfold spec_MemHostFault.l2
   repeat' first
   | (with_reducible exact ih0 _ _ _ _ _)
   | (with_reducible exact ih1 _ _ _ _ _)
   | (with_reducible exact ih2 _ _ _ _ _)
   | (with_reducible exact ih3 _ _ _ _ _)
   | (with_reducible exact spec_l12Count.mono _ _ _ _ _ _ _)
   | (with_reducible exact spec_l12Guest.mono _ _ _ _ _ _ _ _)
   | (with_reducible exact spec_l12Texts.mono _ _)
   | (with_reducible exact LeO.refl _)
   | (with_reducible exact LeO.none _)
   | (with_reducible refine LeO.ite ?_ ?_)
   | (with_reducible refine LeO.bind ?_ (fun _ => ?_))
   | exact ih0 _ _ _ _ _
   | exact ih1 _ _ _ _ _
   | exact ih2 _ _ _ _ _
   | exact ih3 _ _ _ _ _
   | exact spec_l12Count.mono _ _ _ _ _ _ _
   | exact spec_l12Guest.mono _ _ _ _ _ _ _ _
   | exact spec_l12Texts.mono _ _
   | exact LeO.none _
   | refine LeO.ite ?_ ?_
   | refine LeO.bind ?_ (fun _ => ?_)
theorem spec_MemHostFault.mono : ∀ a0 a1 a2 a3 k, LeO (spec_MemHostFault.f k a0 a1 a2 a3) (spec_MemHostFault.f (k + 1) a0 a1 a2 a3) := by
 intro a0 a1 a2 a3 k
 obtain ⟨ih0, ih1, ih2, ih3⟩ := spec_MemHostFault.mono_l k
 unfold spec_MemHostFault.f
 repeat' first
   | (with_reducible exact ih0 _ _ _ _ _)
   | (with_reducible exact ih1 _ _ _ _ _)
   | (with_reducible exact ih2 _ _ _ _ _)
   | (with_reducible exact ih3 _ _ _ _ _)
   | (with_reducible exact spec_l12Count.mono _ _ _ _ _ _ _)
   | (with_reducible exact spec_l12Guest.mono _ _ _ _ _ _ _ _)
   | (with_reducible exact spec_l12Texts.mono _ _)
   | (with_reducible exact LeO.refl _)
   | (with_reducible exact LeO.none _)
   | (with_reducible refine LeO.ite ?_ ?_)
   | (with_reducible refine LeO.bind ?_ (fun _ => ?_))
   | exact ih0 _ _ _ _ _
   | exact ih1 _ _ _ _ _
   | exact ih2 _ _ _ _ _
   | exact ih3 _ _ _ _ _
   | exact spec_l12Count.mono _ _ _ _ _ _ _
   | exact spec_l12Guest.mono _ _ _ _ _ _ _ _
   | exact spec_l12Texts.mono _ _
   | exact LeO.none _
   | refine LeO.ite ?_ ?_
   | refine LeO.bind ?_ (fun _ => ?_)
def spec_MemHostFault.T6 : Bool × List (List Nat × List Nat) := (true, [([], []), ([], []), ([1], [1]), ([], []), ([2, 3], [2, 3]), ([4], [4]), ([0, 5], [0, 5]), ([6], [6])])
def spec_MemHostFault.B6 : List Nat := [0, 0, 2, 0, 14, 30, 63, 127]
theorem spec_MemHostFault.tab6 : rtab .any (opsOf Try.f9 6) = spec_MemHostFault.T6 := by kernel_rfl
theorem spec_MemHostFault.bits6 : waitsOk spec_MemHostFault.T6.2 spec_MemHostFault.B6 = true := by kernel_rfl
set_option maxHeartbeats 8000000 in
set_option maxRecDepth 100000 in
theorem spec_MemHostFault.calls (k : Nat) (A0_0 : Option Addr) (c0_0 : Nat) (l0_0 : List ByteArray) (A0_1 : Option Addr) (c0_1 : Nat) (l0_1 : List ByteArray) (A0_2 : Option Addr) (c0_2 : Nat) (l0_2 : List (S90)) (a0_3 : Int) (r : Int) (w : World) (hr0_0 : Kd.C Kd.string w A0_0 l0_0.length l0_0) (hc0_0 : l0_0.length ≤ c0_0) (hr0_1 : Kd.C Kd.string w A0_1 l0_1.length l0_1) (hc0_1 : l0_1.length ≤ c0_1) (hr0_2 : Kd.C k90 w A0_2 l0_2.length l0_2) (hc0_2 : l0_2.length ≤ c0_2) (h : spec_MemHostFault.f k l0_0 l0_1 l0_2 a0_3 = some r) :
  Calls Try.prog 9 #[.agg #[.slice A0_0 l0_0.length c0_0, .slice A0_1 l0_1.length c0_1, .slice A0_2 l0_2.length c0_2, .int .i64 a0_3]] w fun e w' => e = .returned (.int .i64 r) ∧ Below w.heap.size w w' := by
 have hu30 := Try.underlying30
 have hu90 := Try.underlying90
 have HR0_0 := Sq.l hr0_0
 have HC0_0 := Sq.l hc0_0
 clear hr0_0 hc0_0
 have HR0_1 := Sq.l hr0_1
 have HC0_1 := Sq.l hc0_1
 clear hr0_1 hc0_1
 have HR0_2 := Sq.l hr0_2
 have HC0_2 := Sq.l hc0_2
 clear hr0_2 hc0_2
 have HB := Sq.l (Below.refl w.heap.size w)
 have H : ((spec_l12Texts.f k l0_0).bind fun t145 => (if t145 = true then ((spec_l12Texts.f k l0_1).bind fun t146 => (if t146 = true then (if (l0_2.length : Int) < 1 then (spec_MemHostFault.j0 k true l0_0 l0_1 l0_2 a0_3) else (if (l0_2.length : Int) > 8 then (spec_MemHostFault.j0 k true l0_0 l0_1 l0_2 a0_3) else (if a0_3 < 0 then (spec_MemHostFault.j0 k true l0_0 l0_1 l0_2 a0_3) else (spec_MemHostFault.j0 k (decide (a0_3 > 1099511627776)) l0_0 l0_1 l0_2 a0_3)))) else (spec_MemHostFault.j0 k true l0_0 l0_1 l0_2 a0_3))) else (spec_MemHostFault.j0 k true l0_0 l0_1 l0_2 a0_3))) = some r := h
 clear h
 have HC2 := Sq.l H
 clear H
 go_enter Try.func9, Try.ntmps9
 go_upto_region 1 with (first | ((with_reducible refine gate_dst (N := 1) rfl ?_); (try (refine gate_guard (by rfl) ?_; dsimp only)); refine box_event ?hg (N := 1) ?hd (cs := #[.slice A0_0 l0_0.length c0_0, .slice A0_1 l0_1.length c0_1, .slice A0_2 l0_2.length c0_2, .int .i64 a0_3]) (t := 30) ?hr ?_; (case hd => rfl); (case hg => rfl); (case hr => first | (go_simp; done) | (go_simp; rfl)); intro gb144 hg w3 hbox hb; have n0_ := Sq.l (Sq.a4 (by repeat (first | (with_reducible first | exact HB.out | apply Sq.i | apply Sq.j | apply Sq.k) | exact HB.out)) hb); have n1_ := Sq.l (hbox); have n2_ := Sq.l ((by rw [hg]; exact (Sq.a5 (by repeat (first | (with_reducible first | exact HB.out | apply Sq.i | apply Sq.j | apply Sq.k) | exact HB.out))) : w.heap.size ≤ gb144)); have n3_ := Sq.l ((by rw [hg]; exact (Sq.a5 (by repeat (first | (with_reducible first | exact HB.out | apply Sq.i | apply Sq.j | apply Sq.k) | exact HB.out))) : w.heap.size ≤ gb144)); clear HB; have HB := n0_; have BK144 := n1_; have GW144 := n2_; have GE144 := n3_; clear n0_ n1_ n2_ n3_; clear hb hbox hg))
 (try simp only [Act.put, List.setIfInBounds_toArray, List.set_cons_zero, List.set_cons_succ])
 go_cut [37] (fun v37 wc => ∃ (kq : Nat) (x37_1 : Bool), v37 = .bool x37_1 ∧ Aside0 (spec_MemHostFault.j0 kq x37_1 l0_0 l0_1 l0_2 a0_3 = some r) ∧ Aside0 (kq ≤ k) ∧ Aside0 (wc.heap[gb144]? = some (.cells #[(.slice A0_0 l0_0.length c0_0), (.slice A0_1 l0_1.length c0_1), (.slice A0_2 l0_2.length c0_2), .int .i64 a0_3] 30 (0, 0))) ∧ Aside0 (Below w.heap.size w wc))
 case first =>
  have H := HC2.out
  clear HC2
  replace H := Option.bind_eq_some_iff.mp H
  obtain ⟨t145, A40, H⟩ := H
  (try dsimp only at H)
  have A4 := Sq.l A40
  clear A40
  by_cases c5 : t145 = true
  ·subst c5
   rw [if_pos rfl] at H
   replace H := Option.bind_eq_some_iff.mp H
   obtain ⟨t146, A60, H⟩ := H
   (try dsimp only at H)
   have A6 := Sq.l A60
   clear A60
   by_cases c7 : t146 = true
   ·subst c7
    rw [if_pos rfl] at H
    by_cases c8 : (l0_2.length : Int) < 1
    ·rw [if_pos c8] at H
     have c8b0 : decide ((l0_2.length : Int) < 1) = true := decide_eq_true c8
     have c8b1 : decide (l0_2.length < 1) = true := decide_eq_true (by omega)
     clear c8
     (first | rw [c8b0] | (simp only [i64_w, i32_w]; rw [c8b0]) | skip)
     have H' := Sq.l H
     clear H
     have hcz9_0 : w3.cell? ⟨gb144, 0, none⟩ = some (.slice A0_0 l0_0.length c0_0) := (Sq.o BK144.out 0).trans rfl
     have hcz9_1 : w3.cell? ⟨gb144, 1, none⟩ = some (.slice A0_1 l0_1.length c0_1) := (Sq.o BK144.out 1).trans rfl
     have hcz9_2 : w3.cell? ⟨gb144, 2, none⟩ = some (.slice A0_2 l0_2.length c0_2) := (Sq.o BK144.out 2).trans rfl
     have hcz9_3 : w3.cell? ⟨gb144, 3, none⟩ = some (.int .i64 a0_3) := (Sq.o BK144.out 3).trans rfl
     have hfz9_0 := Sq.r BK144.out 0
     have hfz9_1 := Sq.r BK144.out 1
     have hfz9_2 := Sq.r BK144.out 2
     have hfz9_3 := Sq.r BK144.out 3
     go_wp2_with (first | ((with_reducible refine gate_callee (f := 44) rfl ?_); refine goesL_ (some 8) rfl rfl Try.func44 (by kernel_rfl) rfl #[.slice A0_0 l0_0.length c0_0] rfl (by (try simp only [List.map_toArray, List.map_cons, List.map_nil]); first | done | rfl | (simp only [List.length_drop, List.length_take]; rfl)) ?_; (with_reducible refine (spec_l12Texts.calls k _ _ l0_0 true _ ?side1 ?side2 A4.out).mono ?_); (case side1 => repeat (first | exact (Sq.a1 HR0_0.out HB.out) | (with_reducible refine Sq.s ?_ _) | (with_reducible refine Sq.t ?_ _) | (with_reducible refine Sq.u ?_))); (case side2 => exact HC0_0.out); rintro e w' ⟨rfl, ⟨nd, rfl⟩⟩; refine ⟨_, rfl, ?_⟩) | (go_at_call 44; (with_reducible refine (spec_l12Texts.calls k _ _ l0_1 true _ ?side1 ?side2 A6.out).mono ?_); (case side1 => repeat (first | exact (Sq.a1 HR0_1.out (by repeat (first | (with_reducible first | exact HB.out | apply Sq.i | apply Sq.j | apply Sq.k | refine Sq.h ?_ GE144.out) | exact HB.out))) | (with_reducible refine Sq.s ?_ _) | (with_reducible refine Sq.t ?_ _) | (with_reducible refine Sq.u ?_))); (case side2 => exact HC0_1.out); rintro e w' ⟨rfl, ⟨nd, rfl⟩⟩))
     go_meet
     case rel => exact ⟨_, (true), (by first | rfl | (simp; done) | (simp [*]; done)), H', ⟨by first | omega | exact Nat.le_refl _⟩, ⟨by (with_reducible repeat (first | refine Sq.d ?_ _ | refine Sq.e ?_ | refine Sq.f ?_ _)); exact BK144.out⟩, ⟨by repeat (first | (with_reducible first | exact HB.out | apply Sq.i | apply Sq.j | apply Sq.k | refine Sq.h ?_ GE144.out) | exact HB.out)⟩⟩
    ·rw [if_neg c8] at H
     have c8b0 : decide ((l0_2.length : Int) < 1) = false := decide_eq_false c8
     have c8b1 : decide (l0_2.length < 1) = false := decide_eq_false (by omega)
     clear c8
     (first | rw [c8b0] | (simp only [i64_w, i32_w]; rw [c8b0]) | skip)
     by_cases c10 : (l0_2.length : Int) > 8
     ·rw [if_pos c10] at H
      have c10b0 : decide (8 < (l0_2.length : Int)) = true := decide_eq_true c10
      have c10b1 : decide (8 < l0_2.length) = true := decide_eq_true (by omega)
      clear c10
      have H' := Sq.l H
      clear H
      have hcz11_0 : w3.cell? ⟨gb144, 0, none⟩ = some (.slice A0_0 l0_0.length c0_0) := (Sq.o BK144.out 0).trans rfl
      have hcz11_1 : w3.cell? ⟨gb144, 1, none⟩ = some (.slice A0_1 l0_1.length c0_1) := (Sq.o BK144.out 1).trans rfl
      have hcz11_2 : w3.cell? ⟨gb144, 2, none⟩ = some (.slice A0_2 l0_2.length c0_2) := (Sq.o BK144.out 2).trans rfl
      have hcz11_3 : w3.cell? ⟨gb144, 3, none⟩ = some (.int .i64 a0_3) := (Sq.o BK144.out 3).trans rfl
      have hfz11_0 := Sq.r BK144.out 0
      have hfz11_1 := Sq.r BK144.out 1
      have hfz11_2 := Sq.r BK144.out 2
      have hfz11_3 := Sq.r BK144.out 3
      go_wp2_with (first | ((with_reducible refine gate_callee (f := 44) rfl ?_); refine goesL_ (some 8) rfl rfl Try.func44 (by kernel_rfl) rfl #[.slice A0_0 l0_0.length c0_0] rfl (by (try simp only [List.map_toArray, List.map_cons, List.map_nil]); first | done | rfl | (simp only [List.length_drop, List.length_take]; rfl)) ?_; (with_reducible refine (spec_l12Texts.calls k _ _ l0_0 true _ ?side1 ?side2 A4.out).mono ?_); (case side1 => repeat (first | exact (Sq.a1 HR0_0.out HB.out) | (with_reducible refine Sq.s ?_ _) | (with_reducible refine Sq.t ?_ _) | (with_reducible refine Sq.u ?_))); (case side2 => exact HC0_0.out); rintro e w' ⟨rfl, ⟨nd, rfl⟩⟩; refine ⟨_, rfl, ?_⟩) | (go_at_call 44; (with_reducible refine (spec_l12Texts.calls k _ _ l0_1 true _ ?side1 ?side2 A6.out).mono ?_); (case side1 => repeat (first | exact (Sq.a1 HR0_1.out (by repeat (first | (with_reducible first | exact HB.out | apply Sq.i | apply Sq.j | apply Sq.k | refine Sq.h ?_ GE144.out) | exact HB.out))) | (with_reducible refine Sq.s ?_ _) | (with_reducible refine Sq.t ?_ _) | (with_reducible refine Sq.u ?_))); (case side2 => exact HC0_1.out); rintro e w' ⟨rfl, ⟨nd, rfl⟩⟩))
      go_meet
      case rel => exact ⟨_, (true), (by first | rfl | (simp; done) | (simp [*]; done)), H', ⟨by first | omega | exact Nat.le_refl _⟩, ⟨by (with_reducible repeat (first | refine Sq.d ?_ _ | refine Sq.e ?_ | refine Sq.f ?_ _)); exact BK144.out⟩, ⟨by repeat (first | (with_reducible first | exact HB.out | apply Sq.i | apply Sq.j | apply Sq.k | refine Sq.h ?_ GE144.out) | exact HB.out)⟩⟩
     ·rw [if_neg c10] at H
      have c10b0 : decide (8 < (l0_2.length : Int)) = false := decide_eq_false c10
      have c10b1 : decide (8 < l0_2.length) = false := decide_eq_false (by omega)
      clear c10
      by_cases c12 : a0_3 < 0
      ·rw [if_pos c12] at H
       have c12b0 : decide (a0_3 < 0) = true := decide_eq_true c12
       clear c12
       have H' := Sq.l H
       clear H
       have hcz13_0 : w3.cell? ⟨gb144, 0, none⟩ = some (.slice A0_0 l0_0.length c0_0) := (Sq.o BK144.out 0).trans rfl
       have hcz13_1 : w3.cell? ⟨gb144, 1, none⟩ = some (.slice A0_1 l0_1.length c0_1) := (Sq.o BK144.out 1).trans rfl
       have hcz13_2 : w3.cell? ⟨gb144, 2, none⟩ = some (.slice A0_2 l0_2.length c0_2) := (Sq.o BK144.out 2).trans rfl
       have hcz13_3 : w3.cell? ⟨gb144, 3, none⟩ = some (.int .i64 a0_3) := (Sq.o BK144.out 3).trans rfl
       have hfz13_0 := Sq.r BK144.out 0
       have hfz13_1 := Sq.r BK144.out 1
       have hfz13_2 := Sq.r BK144.out 2
       have hfz13_3 := Sq.r BK144.out 3
       go_wp2_with (first | ((with_reducible refine gate_callee (f := 44) rfl ?_); refine goesL_ (some 8) rfl rfl Try.func44 (by kernel_rfl) rfl #[.slice A0_0 l0_0.length c0_0] rfl (by (try simp only [List.map_toArray, List.map_cons, List.map_nil]); first | done | rfl | (simp only [List.length_drop, List.length_take]; rfl)) ?_; (with_reducible refine (spec_l12Texts.calls k _ _ l0_0 true _ ?side1 ?side2 A4.out).mono ?_); (case side1 => repeat (first | exact (Sq.a1 HR0_0.out HB.out) | (with_reducible refine Sq.s ?_ _) | (with_reducible refine Sq.t ?_ _) | (with_reducible refine Sq.u ?_))); (case side2 => exact HC0_0.out); rintro e w' ⟨rfl, ⟨nd, rfl⟩⟩; refine ⟨_, rfl, ?_⟩) | (go_at_call 44; (with_reducible refine (spec_l12Texts.calls k _ _ l0_1 true _ ?side1 ?side2 A6.out).mono ?_); (case side1 => repeat (first | exact (Sq.a1 HR0_1.out (by repeat (first | (with_reducible first | exact HB.out | apply Sq.i | apply Sq.j | apply Sq.k | refine Sq.h ?_ GE144.out) | exact HB.out))) | (with_reducible refine Sq.s ?_ _) | (with_reducible refine Sq.t ?_ _) | (with_reducible refine Sq.u ?_))); (case side2 => exact HC0_1.out); rintro e w' ⟨rfl, ⟨nd, rfl⟩⟩))
       go_meet
       case rel => exact ⟨_, (true), (by first | rfl | (simp; done) | (simp [*]; done)), H', ⟨by first | omega | exact Nat.le_refl _⟩, ⟨by (with_reducible repeat (first | refine Sq.d ?_ _ | refine Sq.e ?_ | refine Sq.f ?_ _)); exact BK144.out⟩, ⟨by repeat (first | (with_reducible first | exact HB.out | apply Sq.i | apply Sq.j | apply Sq.k | refine Sq.h ?_ GE144.out) | exact HB.out)⟩⟩
      ·rw [if_neg c12] at H
       have c12b0 : decide (a0_3 < 0) = false := decide_eq_false c12
       clear c12
       have H' := Sq.l H
       clear H
       have hcz14_0 : w3.cell? ⟨gb144, 0, none⟩ = some (.slice A0_0 l0_0.length c0_0) := (Sq.o BK144.out 0).trans rfl
       have hcz14_1 : w3.cell? ⟨gb144, 1, none⟩ = some (.slice A0_1 l0_1.length c0_1) := (Sq.o BK144.out 1).trans rfl
       have hcz14_2 : w3.cell? ⟨gb144, 2, none⟩ = some (.slice A0_2 l0_2.length c0_2) := (Sq.o BK144.out 2).trans rfl
       have hcz14_3 : w3.cell? ⟨gb144, 3, none⟩ = some (.int .i64 a0_3) := (Sq.o BK144.out 3).trans rfl
       have hfz14_0 := Sq.r BK144.out 0
       have hfz14_1 := Sq.r BK144.out 1
       have hfz14_2 := Sq.r BK144.out 2
       have hfz14_3 := Sq.r BK144.out 3
       go_wp2_with (first | ((with_reducible refine gate_callee (f := 44) rfl ?_); refine goesL_ (some 8) rfl rfl Try.func44 (by kernel_rfl) rfl #[.slice A0_0 l0_0.length c0_0] rfl (by (try simp only [List.map_toArray, List.map_cons, List.map_nil]); first | done | rfl | (simp only [List.length_drop, List.length_take]; rfl)) ?_; (with_reducible refine (spec_l12Texts.calls k _ _ l0_0 true _ ?side1 ?side2 A4.out).mono ?_); (case side1 => repeat (first | exact (Sq.a1 HR0_0.out HB.out) | (with_reducible refine Sq.s ?_ _) | (with_reducible refine Sq.t ?_ _) | (with_reducible refine Sq.u ?_))); (case side2 => exact HC0_0.out); rintro e w' ⟨rfl, ⟨nd, rfl⟩⟩; refine ⟨_, rfl, ?_⟩) | (go_at_call 44; (with_reducible refine (spec_l12Texts.calls k _ _ l0_1 true _ ?side1 ?side2 A6.out).mono ?_); (case side1 => repeat (first | exact (Sq.a1 HR0_1.out (by repeat (first | (with_reducible first | exact HB.out | apply Sq.i | apply Sq.j | apply Sq.k | refine Sq.h ?_ GE144.out) | exact HB.out))) | (with_reducible refine Sq.s ?_ _) | (with_reducible refine Sq.t ?_ _) | (with_reducible refine Sq.u ?_))); (case side2 => exact HC0_1.out); rintro e w' ⟨rfl, ⟨nd, rfl⟩⟩))
       go_meet
       case rel => exact ⟨_, (decide (a0_3 > 1099511627776)), (by first | rfl | (simp; done) | (simp [*]; done)), H', ⟨by first | omega | exact Nat.le_refl _⟩, ⟨by (with_reducible repeat (first | refine Sq.d ?_ _ | refine Sq.e ?_ | refine Sq.f ?_ _)); exact BK144.out⟩, ⟨by repeat (first | (with_reducible first | exact HB.out | apply Sq.i | apply Sq.j | apply Sq.k | refine Sq.h ?_ GE144.out) | exact HB.out)⟩⟩
   ·replace c7 := Bool.eq_false_iff.mpr c7
    subst c7
    rw [if_neg (show ¬ (false = true) by decide)] at H
    have H' := Sq.l H
    clear H
    have hcz15_0 : w3.cell? ⟨gb144, 0, none⟩ = some (.slice A0_0 l0_0.length c0_0) := (Sq.o BK144.out 0).trans rfl
    have hcz15_1 : w3.cell? ⟨gb144, 1, none⟩ = some (.slice A0_1 l0_1.length c0_1) := (Sq.o BK144.out 1).trans rfl
    have hcz15_2 : w3.cell? ⟨gb144, 2, none⟩ = some (.slice A0_2 l0_2.length c0_2) := (Sq.o BK144.out 2).trans rfl
    have hcz15_3 : w3.cell? ⟨gb144, 3, none⟩ = some (.int .i64 a0_3) := (Sq.o BK144.out 3).trans rfl
    have hfz15_0 := Sq.r BK144.out 0
    have hfz15_1 := Sq.r BK144.out 1
    have hfz15_2 := Sq.r BK144.out 2
    have hfz15_3 := Sq.r BK144.out 3
    go_wp2_with (first | ((with_reducible refine gate_callee (f := 44) rfl ?_); refine goesL_ (some 8) rfl rfl Try.func44 (by kernel_rfl) rfl #[.slice A0_0 l0_0.length c0_0] rfl (by (try simp only [List.map_toArray, List.map_cons, List.map_nil]); first | done | rfl | (simp only [List.length_drop, List.length_take]; rfl)) ?_; (with_reducible refine (spec_l12Texts.calls k _ _ l0_0 true _ ?side1 ?side2 A4.out).mono ?_); (case side1 => repeat (first | exact (Sq.a1 HR0_0.out HB.out) | (with_reducible refine Sq.s ?_ _) | (with_reducible refine Sq.t ?_ _) | (with_reducible refine Sq.u ?_))); (case side2 => exact HC0_0.out); rintro e w' ⟨rfl, ⟨nd, rfl⟩⟩; refine ⟨_, rfl, ?_⟩) | (go_at_call 44; (with_reducible refine (spec_l12Texts.calls k _ _ l0_1 false _ ?side1 ?side2 A6.out).mono ?_); (case side1 => repeat (first | exact (Sq.a1 HR0_1.out (by repeat (first | (with_reducible first | exact HB.out | apply Sq.i | apply Sq.j | apply Sq.k | refine Sq.h ?_ GE144.out) | exact HB.out))) | (with_reducible refine Sq.s ?_ _) | (with_reducible refine Sq.t ?_ _) | (with_reducible refine Sq.u ?_))); (case side2 => exact HC0_1.out); rintro e w' ⟨rfl, ⟨nd, rfl⟩⟩))
    go_meet
    case rel => exact ⟨_, (true), (by first | rfl | (simp; done) | (simp [*]; done)), H', ⟨by first | omega | exact Nat.le_refl _⟩, ⟨by (with_reducible repeat (first | refine Sq.d ?_ _ | refine Sq.e ?_ | refine Sq.f ?_ _)); exact BK144.out⟩, ⟨by repeat (first | (with_reducible first | exact HB.out | apply Sq.i | apply Sq.j | apply Sq.k | refine Sq.h ?_ GE144.out) | exact HB.out)⟩⟩
  ·replace c5 := Bool.eq_false_iff.mpr c5
   subst c5
   rw [if_neg (show ¬ (false = true) by decide)] at H
   have H' := Sq.l H
   clear H
   have hcz16_0 : w3.cell? ⟨gb144, 0, none⟩ = some (.slice A0_0 l0_0.length c0_0) := (Sq.o BK144.out 0).trans rfl
   have hcz16_1 : w3.cell? ⟨gb144, 1, none⟩ = some (.slice A0_1 l0_1.length c0_1) := (Sq.o BK144.out 1).trans rfl
   have hcz16_2 : w3.cell? ⟨gb144, 2, none⟩ = some (.slice A0_2 l0_2.length c0_2) := (Sq.o BK144.out 2).trans rfl
   have hcz16_3 : w3.cell? ⟨gb144, 3, none⟩ = some (.int .i64 a0_3) := (Sq.o BK144.out 3).trans rfl
   have hfz16_0 := Sq.r BK144.out 0
   have hfz16_1 := Sq.r BK144.out 1
   have hfz16_2 := Sq.r BK144.out 2
   have hfz16_3 := Sq.r BK144.out 3
   go_wp2_with (first | ((with_reducible refine gate_callee (f := 44) rfl ?_); refine goesL_ (some 8) rfl rfl Try.func44 (by kernel_rfl) rfl #[.slice A0_0 l0_0.length c0_0] rfl (by (try simp only [List.map_toArray, List.map_cons, List.map_nil]); first | done | rfl | (simp only [List.length_drop, List.length_take]; rfl)) ?_; (with_reducible refine (spec_l12Texts.calls k _ _ l0_0 false _ ?side1 ?side2 A4.out).mono ?_); (case side1 => repeat (first | exact (Sq.a1 HR0_0.out HB.out) | (with_reducible refine Sq.s ?_ _) | (with_reducible refine Sq.t ?_ _) | (with_reducible refine Sq.u ?_))); (case side2 => exact HC0_0.out); rintro e w' ⟨rfl, ⟨nd, rfl⟩⟩; refine ⟨_, rfl, ?_⟩))
   go_meet
   case rel => exact ⟨_, (true), (by first | rfl | (simp; done) | (simp [*]; done)), H', ⟨by first | omega | exact Nat.le_refl _⟩, ⟨by (with_reducible repeat (first | refine Sq.d ?_ _ | refine Sq.e ?_ | refine Sq.f ?_ _)); exact BK144.out⟩, ⟨by repeat (first | (with_reducible first | exact HB.out | apply Sq.i | apply Sq.j | apply Sq.k | refine Sq.h ?_ GE144.out) | exact HB.out)⟩⟩
 case rest =>
  clear HC2; try clear c1; try clear p2; try clear c4; try clear c5; try clear c7; try clear c8; try clear c8b0; try clear c8b1; try clear c9; try clear c10; try clear c10b0; try clear c10b1; try clear c12; try clear c12b0; try clear hcz11_0; try clear hcz11_1; try clear hcz11_2; try clear hcz11_3; try clear hcz13_0; try clear hcz13_1; try clear hcz13_2; try clear hcz13_3; try clear hcz14_0; try clear hcz14_1; try clear hcz14_2; try clear hcz14_3; try clear hcz15_0; try clear hcz15_1; try clear hcz15_2; try clear hcz15_3; try clear hcz16_0; try clear hcz16_1; try clear hcz16_2; try clear hcz16_3; try clear hcz9_0; try clear hcz9_1; try clear hcz9_2; try clear hcz9_3; try clear hfz11_0; try clear hfz11_1; try clear hfz11_2; try clear hfz11_3; try clear hfz13_0; try clear hfz13_1; try clear hfz13_2; try clear hfz13_3; try clear hfz14_0; try clear hfz14_1; try clear hfz14_2; try clear hfz14_3; try clear hfz15_0; try clear hfz15_1; try clear hfz15_2; try clear hfz15_3; try clear hfz16_0; try clear hfz16_1; try clear hfz16_2; try clear hfz16_3; try clear hfz9_0; try clear hfz9_1; try clear hfz9_2; try clear hfz9_3
  obtain ⟨kq, x37_1, rfl, HA, HJ1, BK144, HB⟩ := hcut
  cases kq with
  | zero => exact absurd HA.out (by simp [spec_MemHostFault.j0])
  | succ kj1 =>
   have H := HA.out
   clear HA
   simp only [spec_MemHostFault.j0] at H
   by_cases c17 : x37_1 = true
   ·subst c17
    rw [if_pos rfl] at H
    obtain rfl := Option.some.inj H
    go_wp2
    go_ret
    exact ⟨by first | rfl | (simp [errW_none, errW_some] <;> rfl) | (simp [*, errW_none, errW_some] <;> rfl), by repeat (first | (with_reducible first | exact HB.out | apply Sq.i | apply Sq.j | apply Sq.k | refine Sq.h ?_ GE144.out) | exact HB.out)⟩
   ·replace c17 := Bool.eq_false_iff.mpr c17
    subst c17
    rw [if_neg (show ¬ (false = true) by decide)] at H
    have H' := Sq.l H
    clear H
    go_wp2
    go_loopg [3] kj1 (fun kq v3 w' => ∃ (x3_2 : Int), v3 = .int .i64 x3_2 ∧ Aside0 (spec_MemHostFault.l0 kq x3_2 l0_0 l0_1 l0_2 a0_3 = some r) ∧ Aside0 (kq ≤ kj1) ∧ Aside0 (w'.heap[gb144]? = some (.cells #[(.slice A0_0 l0_0.length c0_0), (.slice A0_1 l0_1.length c0_1), (.slice A0_2 l0_2.length c0_2), .int .i64 a0_3] 30 (0, 0))) ∧ Aside0 (Below w.heap.size w w'))
    case atStart => exact ⟨(0), (by first | rfl | (simp; done) | (simp [*]; done)), H', ⟨Nat.le_refl _⟩, ⟨by (with_reducible repeat (first | refine Sq.d ?_ _ | refine Sq.e ?_ | refine Sq.f ?_ _)); exact BK144.out⟩, ⟨by repeat (first | (with_reducible first | exact HB.out | apply Sq.i | apply Sq.j | apply Sq.k | refine Sq.h ?_ GE144.out) | exact HB.out)⟩⟩
    case round =>
     clear H'
     try clear c1; try clear p2; try clear c4; try clear c5; try clear c7; try clear c8; try clear c8b0; try clear c8b1; try clear c9; try clear c10; try clear c10b0; try clear c10b1; try clear c12; try clear c12b0; try clear c17; try clear hcz11_0; try clear hcz11_1; try clear hcz11_2; try clear hcz11_3; try clear hcz13_0; try clear hcz13_1; try clear hcz13_2; try clear hcz13_3; try clear hcz14_0; try clear hcz14_1; try clear hcz14_2; try clear hcz14_3; try clear hcz15_0; try clear hcz15_1; try clear hcz15_2; try clear hcz15_3; try clear hcz16_0; try clear hcz16_1; try clear hcz16_2; try clear hcz16_3; try clear hcz9_0; try clear hcz9_1; try clear hcz9_2; try clear hcz9_3; try clear hfz11_0; try clear hfz11_1; try clear hfz11_2; try clear hfz11_3; try clear hfz13_0; try clear hfz13_1; try clear hfz13_2; try clear hfz13_3; try clear hfz14_0; try clear hfz14_1; try clear hfz14_2; try clear hfz14_3; try clear hfz15_0; try clear hfz15_1; try clear hfz15_2; try clear hfz15_3; try clear hfz16_0; try clear hfz16_1; try clear hfz16_2; try clear hfz16_3; try clear hfz9_0; try clear hfz9_1; try clear hfz9_2; try clear hfz9_3; try clear p2
     obtain ⟨x3_2, rfl, HA, HK2, BK144, HB⟩ := hrel
     cases gk with
     | zero => exact absurd HA.out (by simp [spec_MemHostFault.l0])
     | succ k2 =>
      have H := HA.out
      clear HA
      simp only [spec_MemHostFault.l0] at H
      by_cases c18 : x3_2 < (l0_2.length : Int)
      ·rw [if_pos c18] at H
       have c18b0 : decide (x3_2 < (l0_2.length : Int)) = true := decide_eq_true c18
       clear c18
       by_cases c19 : 0 ≤ x3_2
       ·rw [if_pos c19] at H
        have c19b0 : decide (0 ≤ x3_2) = true := decide_eq_true c19
        clear c19
        replace H := Option.bind_eq_some_iff.mp H
        obtain ⟨t148, A200, H⟩ := H
        (try dsimp only at H)
        have A20 := Sq.l A200
        clear A200
        by_cases c21 : t148 = true
        ·subst c21
         rw [if_pos rfl] at H
         have H' := Sq.l H
         clear H
         have hcz22_0 : wr.cell? ⟨gb144, 0, none⟩ = some (.slice A0_0 l0_0.length c0_0) := (Sq.o BK144.out 0).trans rfl
         have hcz22_1 : wr.cell? ⟨gb144, 1, none⟩ = some (.slice A0_1 l0_1.length c0_1) := (Sq.o BK144.out 1).trans rfl
         have hcz22_2 : wr.cell? ⟨gb144, 2, none⟩ = some (.slice A0_2 l0_2.length c0_2) := (Sq.o BK144.out 2).trans rfl
         have hcz22_3 : wr.cell? ⟨gb144, 3, none⟩ = some (.int .i64 a0_3) := (Sq.o BK144.out 3).trans rfl
         have hfz22_0 := Sq.r BK144.out 0
         have hfz22_1 := Sq.r BK144.out 1
         have hfz22_2 := Sq.r BK144.out 2
         have hfz22_3 := Sq.r BK144.out 3
         try go_wp2
         have n0_ := Sq.l (Sq.e BK144.out)
         have n1_ := Sq.l (Sq.k HB.out)
         clear BK144 HB; have BK144 := n0_; have HB := n1_; clear n0_ n1_
         have p147 : 0 ≤ (x3_2 : Int) := of_decide_eq_true (by first | (with_reducible assumption) | assumption)
         have q147 : x3_2 < (l0_2.length : Int) := of_decide_eq_true (by first | (with_reducible assumption) | assumption)
         obtain ⟨ad147, A147_0, c147_0, A147_2, c147_2, e147, hx147_0, hx147_1, hx147_2, hl147_0, hi147_0, hl147_2, hi147_2⟩ := at_T90 HR0_2.out x3_2 p147 q147
         have hw147_2 := hx147_2
         have hw147_1 := hx147_1
         have hw147_0 := hx147_0
         cases e147
         replace hx147_0 := (HB.out.cell (World.block_lt_of_cell? w _ hx147_0)).trans hx147_0
         replace hx147_1 := (HB.out.cell (World.block_lt_of_cell? w _ hx147_1)).trans hx147_1
         replace hx147_2 := (HB.out.cell (World.block_lt_of_cell? w _ hx147_2)).trans hx147_2
         have HR147_0 := Sq.l hi147_0
         have HC147_0 := Sq.l hl147_0
         clear hi147_0 hl147_0
         have HR147_2 := Sq.l hi147_2
         have HC147_2 := Sq.l hl147_2
         clear hi147_2 hl147_2; replace p147 := eq_true p147; replace q147 := eq_true q147
         refine start_ (n := 8) (S := fun w' => w'.cell? ⟨gb144, 0, none⟩ = some (.slice A0_0 l0_0.length c0_0) ∧ w'.cell? ⟨gb144, 1, none⟩ = some (.slice A0_1 l0_1.length c0_1) ∧ w'.cell? ⟨gb144, 2, none⟩ = some (.slice (some ad147) l0_2.length c0_2) ∧ w'.cell? ⟨gb144, 3, none⟩ = some (.int .i64 a0_3) ∧ w'.cell? (ad147.add ((x3_2).toNat * 3)) = some (.slice A147_0 ((rd_T90 l0_2 x3_2).f0).length c147_0) ∧ w'.cell? ⟨(ad147.add ((x3_2).toNat * 3)).block, (ad147.add ((x3_2).toNat * 3)).off + 1, none⟩ = some (.string ((rd_T90 l0_2 x3_2).f1)) ∧ w'.cell? ⟨(ad147.add ((x3_2).toNat * 3)).block, (ad147.add ((x3_2).toNat * 3)).off + 2, none⟩ = some (.slice A147_2 ((rd_T90 l0_2 x3_2).f2).length c147_2)) (ds := []) #[false, false, false, false, false, false, false, false] (by kernel_rfl) rfl rfl ⟨(Sq.o BK144.out 0).trans rfl, (Sq.o BK144.out 1).trans rfl, (Sq.o BK144.out 2).trans rfl, (Sq.o BK144.out 3).trans rfl, ((HB.out.cell (World.block_lt_of_cell? w _ hw147_0)).trans hw147_0), ((HB.out.cell (World.block_lt_of_cell? w _ hw147_1)).trans hw147_1), ((HB.out.cell (World.block_lt_of_cell? w _ hw147_2)).trans hw147_2)⟩ (fun hHeld => ?_); refine with_tabW spec_MemHostFault.tab6 spec_MemHostFault.bits6 (fun HT_ HW_ => ?_)
         generalize wr.drew = w23 at BK144 HB HR147_0 HR147_2 hx147_0 hx147_1 hx147_2 hHeld ⊢
         refine pure_ (i := 1) (N := some 46) (v := ?_) (a' := ?_) #[false, true, false, false, false, false, false, false] rfl rfl (any_of HT_.out (by kernel_rfl)) (fun _ _ _ h => h) (Or.inl ⟨by rfl, ?_⟩) ?_ ?_
         rotate_left
         ·intro w'
          go_simp
          with_reducible rfl
         rotate_left
         ·simp only [Act.put, List.setIfInBounds_toArray, List.set_cons_zero, List.set_cons_succ, i64_w, i32_w]
          rfl
         refine pure_ (i := 3) (N := some 48) (v := ?_) (a' := ?_) #[false, true, false, true, false, false, false, false] rfl rfl (any_of HT_.out (by kernel_rfl)) (fun _ _ _ h => h) (Or.inl ⟨by rfl, ?_⟩) ?_ ?_
         rotate_left
         ·intro w'
          go_simp
          with_reducible rfl
         rotate_left
         ·simp only [Act.put, List.setIfInBounds_toArray, List.set_cons_zero, List.set_cons_succ, i64_w, i32_w]
          rfl
         refine take_ (i := 0) (N := some 45) (v := ?_) (a' := ?_) #[true, true, false, true, false, false, false, false] rfl rfl (take_ofW HT_.out HW_.out (by kernel_rfl)) (fun _ _ _ h => h) (Or.inl ⟨by rfl, ?_⟩) hHeld ?_ ?_
         rotate_left
         ·rintro w' ⟨s0, s1, s2, s3, s4, s5, s6⟩
          go_simp
          with_reducible rfl
         rotate_left
         ·simp only [Act.put, List.setIfInBounds_toArray, List.set_cons_zero, List.set_cons_succ, i64_w, i32_w]
          rfl
         refine take_ (i := 2) (N := some 47) (v := ?_) (a' := ?_) #[true, true, true, true, false, false, false, false] rfl rfl (take_ofW HT_.out HW_.out (by kernel_rfl)) (fun _ _ _ h => h) (Or.inl ⟨by rfl, ?_⟩) hHeld ?_ ?_
         rotate_left
         ·rintro w' ⟨s0, s1, s2, s3, s4, s5, s6⟩
          go_simp
          with_reducible rfl
         rotate_left
         ·simp only [Act.put, List.setIfInBounds_toArray, List.set_cons_zero, List.set_cons_succ, i64_w, i32_w]
          rfl
         refine pure_ (i := 4) (N := some 49) (v := ?_) (a' := ?_) #[true, true, true, true, true, false, false, false] rfl rfl (any_of HT_.out (by kernel_rfl)) (fun _ _ _ h => h) (Or.inl ⟨by rfl, ?_⟩) ?_ ?_
         rotate_left
         ·intro w'
          go_simp
          with_reducible rfl
         rotate_left
         ·simp only [Act.put, List.setIfInBounds_toArray, List.set_cons_zero, List.set_cons_succ, i64_w, i32_w]
          rfl
         refine take_ (i := 5) (N := some 50) (v := ?_) (a' := ?_) #[true, true, true, true, true, true, false, false] rfl rfl (take_ofW HT_.out HW_.out (by kernel_rfl)) (fun _ _ _ h => h) (Or.inl ⟨by rfl, ?_⟩) hHeld ?_ ?_
         rotate_left
         ·rintro w' ⟨s0, s1, s2, s3, s4, s5, s6⟩
          go_simp
          with_reducible rfl
         rotate_left
         ·simp only [Act.put, List.setIfInBounds_toArray, List.set_cons_zero, List.set_cons_succ, i64_w, i32_w]
          rfl
         refine one_ (i := 6) (N := some 51) #[true, true, true, true, true, true, true, false] rfl rfl (one_of HT_.out (by kernel_rfl)) (by decide) (fun K hK => ?_)
         refine goes_ Try.func45 (by kernel_rfl) rfl #[.agg #[.slice A0_0 l0_0.length c0_0, .slice A0_1 l0_1.length c0_1, .slice (some ad147) l0_2.length c0_2, .int .i64 a0_3], .agg #[.slice A147_0 ((rd_T90 l0_2 x3_2).f0).length c147_0, .string ((rd_T90 l0_2 x3_2).f1), .slice A147_2 ((rd_T90 l0_2 x3_2).f2).length c147_2]] (by rfl) rfl rfl (by (try simp only [List.map_toArray, List.map_cons, List.map_nil]); first | done | rfl | (simp only [List.length_drop, List.length_take]; rfl)) ?_
         with_reducible refine (spec_l12Guest.calls k2 _ _ l0_0 _ _ l0_1 _ _ l0_2 a0_3 _ _ ((rd_T90 l0_2 x3_2).f0) ((rd_T90 l0_2 x3_2).f1) _ _ ((rd_T90 l0_2 x3_2).f2) true _ ?side1 ?side2 ?side3 ?side4 ?side5 ?side6 ?side7 ?side8 ?side9 ?side10 A20.out).mono ?_
         (case side1 => repeat (first | exact (Sq.a1 HR0_0.out HB.out) | (with_reducible refine Sq.s ?_ _) | (with_reducible refine Sq.t ?_ _) | (with_reducible refine Sq.u ?_)))
         (case side2 => exact HC0_0.out)
         (case side3 => repeat (first | exact (Sq.a1 HR0_1.out HB.out) | (with_reducible refine Sq.s ?_ _) | (with_reducible refine Sq.t ?_ _) | (with_reducible refine Sq.u ?_)))
         (case side4 => exact HC0_1.out)
         (case side5 => repeat (first | exact (Sq.a1 HR0_2.out HB.out) | (with_reducible refine Sq.s ?_ _) | (with_reducible refine Sq.t ?_ _) | (with_reducible refine Sq.u ?_)))
         (case side6 => exact HC0_2.out)
         (case side7 => repeat (first | exact (Sq.a1 HR147_0.out HB.out) | (with_reducible refine Sq.s ?_ _) | (with_reducible refine Sq.t ?_ _) | (with_reducible refine Sq.u ?_)))
         (case side8 => exact HC147_0.out)
         (case side9 => repeat (first | exact (Sq.a1 HR147_2.out HB.out) | (with_reducible refine Sq.s ?_ _) | (with_reducible refine Sq.t ?_ _) | (with_reducible refine Sq.u ?_)))
         (case side10 => exact HC147_2.out)
         rintro e w24 ⟨rfl, hb⟩
         refine ⟨_, rfl, ?_⟩
         have n0_ := Sq.l (Sq.m (g := gb144) (o := .cells #[.slice A0_0 l0_0.length c0_0, .slice A0_1 l0_1.length c0_1, .slice (some ad147) l0_2.length c0_2, .int .i64 a0_3] 30 (0, 0)) (by (with_reducible repeat (first | refine Sq.d ?_ _ | refine Sq.e ?_ | refine Sq.f ?_ _)); exact BK144.out) hb)
         have n1_ := Sq.l (Sq.a4 (by repeat (first | (with_reducible first | exact HB.out | apply Sq.i | apply Sq.j | apply Sq.k | refine Sq.h ?_ GE144.out) | exact HB.out)) hb)
         clear BK144 HB; have BK144 := n0_; have HB := n1_; clear n0_ n1_; (try clear hb); (try clear hb2); (try clear hk); (try clear hi)
         refine hK.out _ _ ⟨(Sq.o BK144.out 0).trans rfl, (Sq.o BK144.out 1).trans rfl, (Sq.o BK144.out 2).trans rfl, (Sq.o BK144.out 3).trans rfl, ((HB.out.cell (World.block_lt_of_cell? w _ hw147_0)).trans hw147_0), ((HB.out.cell (World.block_lt_of_cell? w _ hw147_1)).trans hw147_1), ((HB.out.cell (World.block_lt_of_cell? w _ hw147_2)).trans hw147_2)⟩ (fun hHeld => ?_)
         clear hK K
         refine norm_ (a' := ?_) ?_ ?_
         rotate_left
         ·show Act.put _ (some 51) _ = _
          simp only [Act.put, List.setIfInBounds_toArray, List.set_cons_zero, List.set_cons_succ, i64_w, i32_w]
          rfl
         refine pure_ (i := 7) (N := some 52) (v := ?_) (a' := ?_) #[true, true, true, true, true, true, true, true] rfl rfl (any_of HT_.out (by kernel_rfl)) (fun _ _ _ h => h) (Or.inl ⟨by rfl, ?_⟩) ?_ ?_
         rotate_left
         ·intro w'
          go_simp
          with_reducible rfl
         rotate_left
         ·simp only [Act.put, List.setIfInBounds_toArray, List.set_cons_zero, List.set_cons_succ, i64_w, i32_w]
          rfl
         refine done_ (done_of HT_.out (by kernel_rfl)) ?_
         try go_wp2
         go_roundg k2
         case measure => have := HJ1.out; have := HK2.out; omega
         case rel => exact ⟨(wrap64 (x3_2 + 1)), (by first | rfl | (simp; done) | (simp [*]; done)), H', ⟨by have := HJ1.out; have := HK2.out; omega⟩, ⟨by (with_reducible repeat (first | refine Sq.d ?_ _ | refine Sq.e ?_ | refine Sq.f ?_ _)); exact BK144.out⟩, ⟨by repeat (first | (with_reducible first | exact HB.out | apply Sq.i | apply Sq.j | apply Sq.k | refine Sq.h ?_ GE144.out) | exact HB.out)⟩⟩
        ·replace c21 := Bool.eq_false_iff.mpr c21
         subst c21
         rw [if_neg (show ¬ (false = true) by decide)] at H
         obtain rfl := Option.some.inj H
         have hcz25_0 : wr.cell? ⟨gb144, 0, none⟩ = some (.slice A0_0 l0_0.length c0_0) := (Sq.o BK144.out 0).trans rfl
         have hcz25_1 : wr.cell? ⟨gb144, 1, none⟩ = some (.slice A0_1 l0_1.length c0_1) := (Sq.o BK144.out 1).trans rfl
         have hcz25_2 : wr.cell? ⟨gb144, 2, none⟩ = some (.slice A0_2 l0_2.length c0_2) := (Sq.o BK144.out 2).trans rfl
         have hcz25_3 : wr.cell? ⟨gb144, 3, none⟩ = some (.int .i64 a0_3) := (Sq.o BK144.out 3).trans rfl
         have hfz25_0 := Sq.r BK144.out 0
         have hfz25_1 := Sq.r BK144.out 1
         have hfz25_2 := Sq.r BK144.out 2
         have hfz25_3 := Sq.r BK144.out 3
         try go_wp2
         have n0_ := Sq.l (Sq.e BK144.out)
         have n1_ := Sq.l (Sq.k HB.out)
         clear BK144 HB; have BK144 := n0_; have HB := n1_; clear n0_ n1_
         have p147 : 0 ≤ (x3_2 : Int) := of_decide_eq_true (by first | (with_reducible assumption) | assumption)
         have q147 : x3_2 < (l0_2.length : Int) := of_decide_eq_true (by first | (with_reducible assumption) | assumption)
         obtain ⟨ad147, A147_0, c147_0, A147_2, c147_2, e147, hx147_0, hx147_1, hx147_2, hl147_0, hi147_0, hl147_2, hi147_2⟩ := at_T90 HR0_2.out x3_2 p147 q147
         have hw147_2 := hx147_2
         have hw147_1 := hx147_1
         have hw147_0 := hx147_0
         cases e147
         replace hx147_0 := (HB.out.cell (World.block_lt_of_cell? w _ hx147_0)).trans hx147_0
         replace hx147_1 := (HB.out.cell (World.block_lt_of_cell? w _ hx147_1)).trans hx147_1
         replace hx147_2 := (HB.out.cell (World.block_lt_of_cell? w _ hx147_2)).trans hx147_2
         have HR147_0 := Sq.l hi147_0
         have HC147_0 := Sq.l hl147_0
         clear hi147_0 hl147_0
         have HR147_2 := Sq.l hi147_2
         have HC147_2 := Sq.l hl147_2
         clear hi147_2 hl147_2; replace p147 := eq_true p147; replace q147 := eq_true q147
         refine start_ (n := 8) (S := fun w' => w'.cell? ⟨gb144, 0, none⟩ = some (.slice A0_0 l0_0.length c0_0) ∧ w'.cell? ⟨gb144, 1, none⟩ = some (.slice A0_1 l0_1.length c0_1) ∧ w'.cell? ⟨gb144, 2, none⟩ = some (.slice (some ad147) l0_2.length c0_2) ∧ w'.cell? ⟨gb144, 3, none⟩ = some (.int .i64 a0_3) ∧ w'.cell? (ad147.add ((x3_2).toNat * 3)) = some (.slice A147_0 ((rd_T90 l0_2 x3_2).f0).length c147_0) ∧ w'.cell? ⟨(ad147.add ((x3_2).toNat * 3)).block, (ad147.add ((x3_2).toNat * 3)).off + 1, none⟩ = some (.string ((rd_T90 l0_2 x3_2).f1)) ∧ w'.cell? ⟨(ad147.add ((x3_2).toNat * 3)).block, (ad147.add ((x3_2).toNat * 3)).off + 2, none⟩ = some (.slice A147_2 ((rd_T90 l0_2 x3_2).f2).length c147_2)) (ds := []) #[false, false, false, false, false, false, false, false] (by kernel_rfl) rfl rfl ⟨(Sq.o BK144.out 0).trans rfl, (Sq.o BK144.out 1).trans rfl, (Sq.o BK144.out 2).trans rfl, (Sq.o BK144.out 3).trans rfl, ((HB.out.cell (World.block_lt_of_cell? w _ hw147_0)).trans hw147_0), ((HB.out.cell (World.block_lt_of_cell? w _ hw147_1)).trans hw147_1), ((HB.out.cell (World.block_lt_of_cell? w _ hw147_2)).trans hw147_2)⟩ (fun hHeld => ?_); refine with_tabW spec_MemHostFault.tab6 spec_MemHostFault.bits6 (fun HT_ HW_ => ?_)
         generalize wr.drew = w26 at BK144 HB HR147_0 HR147_2 hx147_0 hx147_1 hx147_2 hHeld ⊢
         refine pure_ (i := 1) (N := some 46) (v := ?_) (a' := ?_) #[false, true, false, false, false, false, false, false] rfl rfl (any_of HT_.out (by kernel_rfl)) (fun _ _ _ h => h) (Or.inl ⟨by rfl, ?_⟩) ?_ ?_
         rotate_left
         ·intro w'
          go_simp
          with_reducible rfl
         rotate_left
         ·simp only [Act.put, List.setIfInBounds_toArray, List.set_cons_zero, List.set_cons_succ, i64_w, i32_w]
          rfl
         refine pure_ (i := 3) (N := some 48) (v := ?_) (a' := ?_) #[false, true, false, true, false, false, false, false] rfl rfl (any_of HT_.out (by kernel_rfl)) (fun _ _ _ h => h) (Or.inl ⟨by rfl, ?_⟩) ?_ ?_
         rotate_left
         ·intro w'
          go_simp
          with_reducible rfl
         rotate_left
         ·simp only [Act.put, List.setIfInBounds_toArray, List.set_cons_zero, List.set_cons_succ, i64_w, i32_w]
          rfl
         refine take_ (i := 0) (N := some 45) (v := ?_) (a' := ?_) #[true, true, false, true, false, false, false, false] rfl rfl (take_ofW HT_.out HW_.out (by kernel_rfl)) (fun _ _ _ h => h) (Or.inl ⟨by rfl, ?_⟩) hHeld ?_ ?_
         rotate_left
         ·rintro w' ⟨s0, s1, s2, s3, s4, s5, s6⟩
          go_simp
          with_reducible rfl
         rotate_left
         ·simp only [Act.put, List.setIfInBounds_toArray, List.set_cons_zero, List.set_cons_succ, i64_w, i32_w]
          rfl
         refine take_ (i := 2) (N := some 47) (v := ?_) (a' := ?_) #[true, true, true, true, false, false, false, false] rfl rfl (take_ofW HT_.out HW_.out (by kernel_rfl)) (fun _ _ _ h => h) (Or.inl ⟨by rfl, ?_⟩) hHeld ?_ ?_
         rotate_left
         ·rintro w' ⟨s0, s1, s2, s3, s4, s5, s6⟩
          go_simp
          with_reducible rfl
         rotate_left
         ·simp only [Act.put, List.setIfInBounds_toArray, List.set_cons_zero, List.set_cons_succ, i64_w, i32_w]
          rfl
         refine pure_ (i := 4) (N := some 49) (v := ?_) (a' := ?_) #[true, true, true, true, true, false, false, false] rfl rfl (any_of HT_.out (by kernel_rfl)) (fun _ _ _ h => h) (Or.inl ⟨by rfl, ?_⟩) ?_ ?_
         rotate_left
         ·intro w'
          go_simp
          with_reducible rfl
         rotate_left
         ·simp only [Act.put, List.setIfInBounds_toArray, List.set_cons_zero, List.set_cons_succ, i64_w, i32_w]
          rfl
         refine take_ (i := 5) (N := some 50) (v := ?_) (a' := ?_) #[true, true, true, true, true, true, false, false] rfl rfl (take_ofW HT_.out HW_.out (by kernel_rfl)) (fun _ _ _ h => h) (Or.inl ⟨by rfl, ?_⟩) hHeld ?_ ?_
         rotate_left
         ·rintro w' ⟨s0, s1, s2, s3, s4, s5, s6⟩
          go_simp
          with_reducible rfl
         rotate_left
         ·simp only [Act.put, List.setIfInBounds_toArray, List.set_cons_zero, List.set_cons_succ, i64_w, i32_w]
          rfl
         refine one_ (i := 6) (N := some 51) #[true, true, true, true, true, true, true, false] rfl rfl (one_of HT_.out (by kernel_rfl)) (by decide) (fun K hK => ?_)
         refine goes_ Try.func45 (by kernel_rfl) rfl #[.agg #[.slice A0_0 l0_0.length c0_0, .slice A0_1 l0_1.length c0_1, .slice (some ad147) l0_2.length c0_2, .int .i64 a0_3], .agg #[.slice A147_0 ((rd_T90 l0_2 x3_2).f0).length c147_0, .string ((rd_T90 l0_2 x3_2).f1), .slice A147_2 ((rd_T90 l0_2 x3_2).f2).length c147_2]] (by rfl) rfl rfl (by (try simp only [List.map_toArray, List.map_cons, List.map_nil]); first | done | rfl | (simp only [List.length_drop, List.length_take]; rfl)) ?_
         with_reducible refine (spec_l12Guest.calls k2 _ _ l0_0 _ _ l0_1 _ _ l0_2 a0_3 _ _ ((rd_T90 l0_2 x3_2).f0) ((rd_T90 l0_2 x3_2).f1) _ _ ((rd_T90 l0_2 x3_2).f2) false _ ?side1 ?side2 ?side3 ?side4 ?side5 ?side6 ?side7 ?side8 ?side9 ?side10 A20.out).mono ?_
         (case side1 => repeat (first | exact (Sq.a1 HR0_0.out HB.out) | (with_reducible refine Sq.s ?_ _) | (with_reducible refine Sq.t ?_ _) | (with_reducible refine Sq.u ?_)))
         (case side2 => exact HC0_0.out)
         (case side3 => repeat (first | exact (Sq.a1 HR0_1.out HB.out) | (with_reducible refine Sq.s ?_ _) | (with_reducible refine Sq.t ?_ _) | (with_reducible refine Sq.u ?_)))
         (case side4 => exact HC0_1.out)
         (case side5 => repeat (first | exact (Sq.a1 HR0_2.out HB.out) | (with_reducible refine Sq.s ?_ _) | (with_reducible refine Sq.t ?_ _) | (with_reducible refine Sq.u ?_)))
         (case side6 => exact HC0_2.out)
         (case side7 => repeat (first | exact (Sq.a1 HR147_0.out HB.out) | (with_reducible refine Sq.s ?_ _) | (with_reducible refine Sq.t ?_ _) | (with_reducible refine Sq.u ?_)))
         (case side8 => exact HC147_0.out)
         (case side9 => repeat (first | exact (Sq.a1 HR147_2.out HB.out) | (with_reducible refine Sq.s ?_ _) | (with_reducible refine Sq.t ?_ _) | (with_reducible refine Sq.u ?_)))
         (case side10 => exact HC147_2.out)
         rintro e w27 ⟨rfl, hb⟩
         refine ⟨_, rfl, ?_⟩
         have n0_ := Sq.l (Sq.m (g := gb144) (o := .cells #[.slice A0_0 l0_0.length c0_0, .slice A0_1 l0_1.length c0_1, .slice (some ad147) l0_2.length c0_2, .int .i64 a0_3] 30 (0, 0)) (by (with_reducible repeat (first | refine Sq.d ?_ _ | refine Sq.e ?_ | refine Sq.f ?_ _)); exact BK144.out) hb)
         have n1_ := Sq.l (Sq.a4 (by repeat (first | (with_reducible first | exact HB.out | apply Sq.i | apply Sq.j | apply Sq.k | refine Sq.h ?_ GE144.out) | exact HB.out)) hb)
         clear BK144 HB; have BK144 := n0_; have HB := n1_; clear n0_ n1_; (try clear hb); (try clear hb2); (try clear hk); (try clear hi)
         refine hK.out _ _ ⟨(Sq.o BK144.out 0).trans rfl, (Sq.o BK144.out 1).trans rfl, (Sq.o BK144.out 2).trans rfl, (Sq.o BK144.out 3).trans rfl, ((HB.out.cell (World.block_lt_of_cell? w _ hw147_0)).trans hw147_0), ((HB.out.cell (World.block_lt_of_cell? w _ hw147_1)).trans hw147_1), ((HB.out.cell (World.block_lt_of_cell? w _ hw147_2)).trans hw147_2)⟩ (fun hHeld => ?_)
         clear hK K
         refine norm_ (a' := ?_) ?_ ?_
         rotate_left
         ·show Act.put _ (some 51) _ = _
          simp only [Act.put, List.setIfInBounds_toArray, List.set_cons_zero, List.set_cons_succ, i64_w, i32_w]
          rfl
         refine pure_ (i := 7) (N := some 52) (v := ?_) (a' := ?_) #[true, true, true, true, true, true, true, true] rfl rfl (any_of HT_.out (by kernel_rfl)) (fun _ _ _ h => h) (Or.inl ⟨by rfl, ?_⟩) ?_ ?_
         rotate_left
         ·intro w'
          go_simp
          with_reducible rfl
         rotate_left
         ·simp only [Act.put, List.setIfInBounds_toArray, List.set_cons_zero, List.set_cons_succ, i64_w, i32_w]
          rfl
         refine done_ (done_of HT_.out (by kernel_rfl)) ?_
         try go_wp2
         go_ret
         exact ⟨by first | rfl | (simp [errW_none, errW_some] <;> rfl) | (simp [*, errW_none, errW_some] <;> rfl), by repeat (first | (with_reducible first | exact HB.out | apply Sq.i | apply Sq.j | apply Sq.k | refine Sq.h ?_ GE144.out) | exact HB.out)⟩
       ·rw [if_neg c19] at H
        exact absurd H (by simp)
      ·rw [if_neg c18] at H
       have c18b0 : decide (x3_2 < (l0_2.length : Int)) = false := decide_eq_false c18
       clear c18
       have H' := Sq.l H
       clear H
       have hcz28_0 : wr.cell? ⟨gb144, 0, none⟩ = some (.slice A0_0 l0_0.length c0_0) := (Sq.o BK144.out 0).trans rfl
       have hcz28_1 : wr.cell? ⟨gb144, 1, none⟩ = some (.slice A0_1 l0_1.length c0_1) := (Sq.o BK144.out 1).trans rfl
       have hcz28_2 : wr.cell? ⟨gb144, 2, none⟩ = some (.slice A0_2 l0_2.length c0_2) := (Sq.o BK144.out 2).trans rfl
       have hcz28_3 : wr.cell? ⟨gb144, 3, none⟩ = some (.int .i64 a0_3) := (Sq.o BK144.out 3).trans rfl
       have hfz28_0 := Sq.r BK144.out 0
       have hfz28_1 := Sq.r BK144.out 1
       have hfz28_2 := Sq.r BK144.out 2
       have hfz28_3 := Sq.r BK144.out 3
       go_wp2
       go_loopg [4] k2 (fun kq v4 w' => ∃ (x4_3 : Int), v4 = .int .i64 x4_3 ∧ Aside0 (spec_MemHostFault.l1 kq x4_3 l0_0 l0_1 l0_2 a0_3 = some r) ∧ Aside0 (kq ≤ k2) ∧ Aside0 (w'.heap[gb144]? = some (.cells #[(.slice A0_0 l0_0.length c0_0), (.slice A0_1 l0_1.length c0_1), (.slice A0_2 l0_2.length c0_2), .int .i64 a0_3] 30 (0, 0))) ∧ Aside0 (Below w.heap.size w w'))
       case atStart => exact ⟨(0), (by first | rfl | (simp; done) | (simp [*]; done)), H', ⟨Nat.le_refl _⟩, ⟨by (with_reducible repeat (first | refine Sq.d ?_ _ | refine Sq.e ?_ | refine Sq.f ?_ _)); exact BK144.out⟩, ⟨by repeat (first | (with_reducible first | exact HB.out | apply Sq.i | apply Sq.j | apply Sq.k | refine Sq.h ?_ GE144.out) | exact HB.out)⟩⟩
       case round =>
        clear H'
        try clear c1; try clear p1; try clear q1; try clear hx1; try clear c2; try clear p2; try clear c4; try clear c5; try clear p6; try clear c7; try clear c8; try clear c8b0; try clear c8b1; try clear c9; try clear c10; try clear c10b0; try clear c10b1; try clear c12; try clear c12b0; try clear c14; try clear p14; try clear q14; try clear hx14; try clear c17; try clear c18; try clear c18b0; try clear c19; try clear c19b0; try clear c21; try clear hcz11_0; try clear hcz11_1; try clear hcz11_2; try clear hcz11_3; try clear hcz13_0; try clear hcz13_1; try clear hcz13_2; try clear hcz13_3; try clear hcz14_0; try clear hcz14_1; try clear hcz14_2; try clear hcz14_3; try clear hcz15_0; try clear hcz15_1; try clear hcz15_2; try clear hcz15_3; try clear hcz16_0; try clear hcz16_1; try clear hcz16_2; try clear hcz16_3; try clear hcz22_0; try clear hcz22_1; try clear hcz22_2; try clear hcz22_3; try clear hcz25_0; try clear hcz25_1; try clear hcz25_2; try clear hcz25_3; try clear hcz28_0; try clear hcz28_1; try clear hcz28_2; try clear hcz28_3; try clear hcz9_0; try clear hcz9_1; try clear hcz9_2; try clear hcz9_3; try clear hfz11_0; try clear hfz11_1; try clear hfz11_2; try clear hfz11_3; try clear hfz13_0; try clear hfz13_1; try clear hfz13_2; try clear hfz13_3; try clear hfz14_0; try clear hfz14_1; try clear hfz14_2; try clear hfz14_3; try clear hfz15_0; try clear hfz15_1; try clear hfz15_2; try clear hfz15_3; try clear hfz16_0; try clear hfz16_1; try clear hfz16_2; try clear hfz16_3; try clear hfz22_0; try clear hfz22_1; try clear hfz22_2; try clear hfz22_3; try clear hfz25_0; try clear hfz25_1; try clear hfz25_2; try clear hfz25_3; try clear hfz28_0; try clear hfz28_1; try clear hfz28_2; try clear hfz28_3; try clear hfz9_0; try clear hfz9_1; try clear hfz9_2; try clear hfz9_3; try clear hx147_0; try clear hx147_1; try clear hx147_2; try clear p147; try clear p2; try clear q147
        obtain ⟨x4_3, rfl, HA, HK3, BK144, HB⟩ := hrel
        cases gk with
        | zero => exact absurd HA.out (by simp [spec_MemHostFault.l1])
        | succ k3 =>
         have H := HA.out
         clear HA
         simp only [spec_MemHostFault.l1] at H
         by_cases c29 : x4_3 < (l0_0.length : Int)
         ·rw [if_pos c29] at H
          have c29b0 : decide (x4_3 < (l0_0.length : Int)) = true := decide_eq_true c29
          clear c29
          by_cases c30 : 0 ≤ x4_3
          ·rw [if_pos c30] at H
           have c30b0 : decide (0 ≤ x4_3) = true := decide_eq_true c30
           clear c30
           by_cases c31 : (rdOf ByteArray.empty l0_0 x4_3).toList = ([] : List UInt8)
           ·rw [if_pos c31] at H
            have c31b0 : ((rdOf ByteArray.empty l0_0 x4_3).toList == ([] : List UInt8)) = true := beq_iff_eq.mpr c31
            have c31b1 : ((rdOf ByteArray.empty l0_0 x4_3).toList != ([] : List UInt8)) = false := bne_eq_false_iff_eq.mpr c31
            (try (have c31b2 : ((rdOf ByteArray.empty l0_0 x4_3).toList.isEmpty) = true := Sq.it c31))
            clear c31
            have H' := Sq.l H
            clear H
            have hcz32_0 : wr.cell? ⟨gb144, 0, none⟩ = some (.slice A0_0 l0_0.length c0_0) := (Sq.o BK144.out 0).trans rfl
            have hcz32_1 : wr.cell? ⟨gb144, 1, none⟩ = some (.slice A0_1 l0_1.length c0_1) := (Sq.o BK144.out 1).trans rfl
            have hcz32_2 : wr.cell? ⟨gb144, 2, none⟩ = some (.slice A0_2 l0_2.length c0_2) := (Sq.o BK144.out 2).trans rfl
            have hcz32_3 : wr.cell? ⟨gb144, 3, none⟩ = some (.int .i64 a0_3) := (Sq.o BK144.out 3).trans rfl
            have hfz32_0 := Sq.r BK144.out 0
            have hfz32_1 := Sq.r BK144.out 1
            have hfz32_2 := Sq.r BK144.out 2
            have hfz32_3 := Sq.r BK144.out 3
            have p149 : 0 ≤ (x4_3 : Int) := of_decide_eq_true (by first | (with_reducible assumption) | assumption)
            have q149 : x4_3 < (l0_0.length : Int) := of_decide_eq_true (by first | (with_reducible assumption) | assumption)
            obtain ⟨ad149, e149, hx149_0⟩ := Kd.at_string HR0_0.out x4_3 p149 q149
            cases e149
            replace hx149_0 := (HB.out.cell (World.block_lt_of_cell? w _ hx149_0)).trans hx149_0
            replace p149 := eq_true p149; replace q149 := eq_true q149
            go_wp2
            go_roundg k3
            case measure => have := HJ1.out; have := HK2.out; have := HK3.out; omega
            case rel => exact ⟨(wrap64 (x4_3 + 1)), (by first | rfl | (simp; done) | (simp [*]; done)), H', ⟨by have := HJ1.out; have := HK2.out; have := HK3.out; omega⟩, ⟨by (with_reducible repeat (first | refine Sq.d ?_ _ | refine Sq.e ?_ | refine Sq.f ?_ _)); exact BK144.out⟩, ⟨by repeat (first | (with_reducible first | exact HB.out | apply Sq.i | apply Sq.j | apply Sq.k | refine Sq.h ?_ GE144.out) | exact HB.out)⟩⟩
           ·rw [if_neg c31] at H
            have c31b0 : ((rdOf ByteArray.empty l0_0 x4_3).toList == ([] : List UInt8)) = false := beq_eq_false_iff_ne.mpr c31
            have c31b1 : ((rdOf ByteArray.empty l0_0 x4_3).toList != ([] : List UInt8)) = true := bne_iff_ne.mpr c31
            (try (have c31b2 : ((rdOf ByteArray.empty l0_0 x4_3).toList.isEmpty) = false := Sq.ie c31))
            replace H := Option.bind_eq_some_iff.mp H
            obtain ⟨t150, A330, H⟩ := H
            (try dsimp only at H)
            have A33 := Sq.l A330
            clear A330
            by_cases c34 : t150 = 0
            ·rw [if_pos c34] at H
             have c34b0 : (t150 == 0) = true := beq_iff_eq.mpr c34
             have c34b1 : (t150 != 0) = false := bne_eq_false_iff_eq.mpr c34
             clear c34
             obtain rfl := Option.some.inj H
             have hcz35_0 : wr.cell? ⟨gb144, 0, none⟩ = some (.slice A0_0 l0_0.length c0_0) := (Sq.o BK144.out 0).trans rfl
             have hcz35_1 : wr.cell? ⟨gb144, 1, none⟩ = some (.slice A0_1 l0_1.length c0_1) := (Sq.o BK144.out 1).trans rfl
             have hcz35_2 : wr.cell? ⟨gb144, 2, none⟩ = some (.slice A0_2 l0_2.length c0_2) := (Sq.o BK144.out 2).trans rfl
             have hcz35_3 : wr.cell? ⟨gb144, 3, none⟩ = some (.int .i64 a0_3) := (Sq.o BK144.out 3).trans rfl
             have hfz35_0 := Sq.r BK144.out 0
             have hfz35_1 := Sq.r BK144.out 1
             have hfz35_2 := Sq.r BK144.out 2
             have hfz35_3 := Sq.r BK144.out 3
             have p149 : 0 ≤ (x4_3 : Int) := of_decide_eq_true (by first | (with_reducible assumption) | assumption)
             have q149 : x4_3 < (l0_0.length : Int) := of_decide_eq_true (by first | (with_reducible assumption) | assumption)
             obtain ⟨ad149, e149, hx149_0⟩ := Kd.at_string HR0_0.out x4_3 p149 q149
             cases e149
             replace hx149_0 := (HB.out.cell (World.block_lt_of_cell? w _ hx149_0)).trans hx149_0
             replace p149 := eq_true p149; replace q149 := eq_true q149
             go_wp2_with (first | (go_at_call 46; (with_reducible refine (spec_l12Count.calls k3 _ _ l0_0 _ _ l0_1 _ _ l0_2 a0_3 1 x4_3 t150 _ ?side1 ?side2 ?side3 ?side4 ?side5 ?side6 A33.out).mono ?_); (case side1 => repeat (first | exact (Sq.a1 HR0_0.out HB.out) | (with_reducible refine Sq.s ?_ _) | (with_reducible refine Sq.t ?_ _) | (with_reducible refine Sq.u ?_))); (case side2 => exact HC0_0.out); (case side3 => repeat (first | exact (Sq.a1 HR0_1.out HB.out) | (with_reducible refine Sq.s ?_ _) | (with_reducible refine Sq.t ?_ _) | (with_reducible refine Sq.u ?_))); (case side4 => exact HC0_1.out); (case side5 => repeat (first | exact (Sq.a1 HR0_2.out HB.out) | (with_reducible refine Sq.s ?_ _) | (with_reducible refine Sq.t ?_ _) | (with_reducible refine Sq.u ?_))); (case side6 => exact HC0_2.out); rintro e w36 ⟨rfl, hb⟩; have n0_ := Sq.l (Sq.m (g := gb144) (o := .cells #[.slice (some ad149) l0_0.length c0_0, .slice A0_1 l0_1.length c0_1, .slice A0_2 l0_2.length c0_2, .int .i64 a0_3] 30 (0, 0)) (by (with_reducible repeat (first | refine Sq.d ?_ _ | refine Sq.e ?_ | refine Sq.f ?_ _)); exact BK144.out) hb); have n1_ := Sq.l (Sq.a4 (by repeat (first | (with_reducible first | exact HB.out | apply Sq.i | apply Sq.j | apply Sq.k | refine Sq.h ?_ GE144.out) | exact HB.out)) hb); clear BK144; clear HB; have BK144 := n0_; have HB := n1_; clear n0_ n1_; (try clear hb); (try clear hb2); (try clear hk); (try clear hi)))
             go_ret
             exact ⟨by first | rfl | (simp [errW_none, errW_some] <;> rfl) | (simp [*, errW_none, errW_some] <;> rfl), by repeat (first | (with_reducible first | exact HB.out | apply Sq.i | apply Sq.j | apply Sq.k | refine Sq.h ?_ GE144.out) | exact HB.out)⟩
            ·rw [if_neg c34] at H
             have c34b0 : (t150 == 0) = false := beq_eq_false_iff_ne.mpr c34
             have c34b1 : (t150 != 0) = true := bne_iff_ne.mpr c34
             have H' := Sq.l H
             clear H
             have hcz37_0 : wr.cell? ⟨gb144, 0, none⟩ = some (.slice A0_0 l0_0.length c0_0) := (Sq.o BK144.out 0).trans rfl
             have hcz37_1 : wr.cell? ⟨gb144, 1, none⟩ = some (.slice A0_1 l0_1.length c0_1) := (Sq.o BK144.out 1).trans rfl
             have hcz37_2 : wr.cell? ⟨gb144, 2, none⟩ = some (.slice A0_2 l0_2.length c0_2) := (Sq.o BK144.out 2).trans rfl
             have hcz37_3 : wr.cell? ⟨gb144, 3, none⟩ = some (.int .i64 a0_3) := (Sq.o BK144.out 3).trans rfl
             have hfz37_0 := Sq.r BK144.out 0
             have hfz37_1 := Sq.r BK144.out 1
             have hfz37_2 := Sq.r BK144.out 2
             have hfz37_3 := Sq.r BK144.out 3
             have p149 : 0 ≤ (x4_3 : Int) := of_decide_eq_true (by first | (with_reducible assumption) | assumption)
             have q149 : x4_3 < (l0_0.length : Int) := of_decide_eq_true (by first | (with_reducible assumption) | assumption)
             obtain ⟨ad149, e149, hx149_0⟩ := Kd.at_string HR0_0.out x4_3 p149 q149
             cases e149
             replace hx149_0 := (HB.out.cell (World.block_lt_of_cell? w _ hx149_0)).trans hx149_0
             replace p149 := eq_true p149; replace q149 := eq_true q149
             go_wp2_with (first | (go_at_call 46; (with_reducible refine (spec_l12Count.calls k3 _ _ l0_0 _ _ l0_1 _ _ l0_2 a0_3 1 x4_3 t150 _ ?side1 ?side2 ?side3 ?side4 ?side5 ?side6 A33.out).mono ?_); (case side1 => repeat (first | exact (Sq.a1 HR0_0.out HB.out) | (with_reducible refine Sq.s ?_ _) | (with_reducible refine Sq.t ?_ _) | (with_reducible refine Sq.u ?_))); (case side2 => exact HC0_0.out); (case side3 => repeat (first | exact (Sq.a1 HR0_1.out HB.out) | (with_reducible refine Sq.s ?_ _) | (with_reducible refine Sq.t ?_ _) | (with_reducible refine Sq.u ?_))); (case side4 => exact HC0_1.out); (case side5 => repeat (first | exact (Sq.a1 HR0_2.out HB.out) | (with_reducible refine Sq.s ?_ _) | (with_reducible refine Sq.t ?_ _) | (with_reducible refine Sq.u ?_))); (case side6 => exact HC0_2.out); rintro e w38 ⟨rfl, hb⟩; have n0_ := Sq.l (Sq.m (g := gb144) (o := .cells #[.slice (some ad149) l0_0.length c0_0, .slice A0_1 l0_1.length c0_1, .slice A0_2 l0_2.length c0_2, .int .i64 a0_3] 30 (0, 0)) (by (with_reducible repeat (first | refine Sq.d ?_ _ | refine Sq.e ?_ | refine Sq.f ?_ _)); exact BK144.out) hb); have n1_ := Sq.l (Sq.a4 (by repeat (first | (with_reducible first | exact HB.out | apply Sq.i | apply Sq.j | apply Sq.k | refine Sq.h ?_ GE144.out) | exact HB.out)) hb); clear BK144; clear HB; have BK144 := n0_; have HB := n1_; clear n0_ n1_; (try clear hb); (try clear hb2); (try clear hk); (try clear hi)))
             go_roundg k3
             case measure => have := HJ1.out; have := HK2.out; have := HK3.out; omega
             case rel => exact ⟨(wrap64 (x4_3 + 1)), (by first | rfl | (simp; done) | (simp [*]; done)), H', ⟨by have := HJ1.out; have := HK2.out; have := HK3.out; omega⟩, ⟨by (with_reducible repeat (first | refine Sq.d ?_ _ | refine Sq.e ?_ | refine Sq.f ?_ _)); exact BK144.out⟩, ⟨by repeat (first | (with_reducible first | exact HB.out | apply Sq.i | apply Sq.j | apply Sq.k | refine Sq.h ?_ GE144.out) | exact HB.out)⟩⟩
          ·rw [if_neg c30] at H
           exact absurd H (by simp)
         ·rw [if_neg c29] at H
          have c29b0 : decide (x4_3 < (l0_0.length : Int)) = false := decide_eq_false c29
          clear c29
          have H' := Sq.l H
          clear H
          have hcz39_0 : wr.cell? ⟨gb144, 0, none⟩ = some (.slice A0_0 l0_0.length c0_0) := (Sq.o BK144.out 0).trans rfl
          have hcz39_1 : wr.cell? ⟨gb144, 1, none⟩ = some (.slice A0_1 l0_1.length c0_1) := (Sq.o BK144.out 1).trans rfl
          have hcz39_2 : wr.cell? ⟨gb144, 2, none⟩ = some (.slice A0_2 l0_2.length c0_2) := (Sq.o BK144.out 2).trans rfl
          have hcz39_3 : wr.cell? ⟨gb144, 3, none⟩ = some (.int .i64 a0_3) := (Sq.o BK144.out 3).trans rfl
          have hfz39_0 := Sq.r BK144.out 0
          have hfz39_1 := Sq.r BK144.out 1
          have hfz39_2 := Sq.r BK144.out 2
          have hfz39_3 := Sq.r BK144.out 3
          go_wp2
          go_loopg [5] k3 (fun kq v5 w' => ∃ (x5_4 : Int), v5 = .int .i64 x5_4 ∧ Aside0 (spec_MemHostFault.l2 kq x5_4 l0_0 l0_1 l0_2 a0_3 = some r) ∧ Aside0 (kq ≤ k3) ∧ Aside0 (w'.heap[gb144]? = some (.cells #[(.slice A0_0 l0_0.length c0_0), (.slice A0_1 l0_1.length c0_1), (.slice A0_2 l0_2.length c0_2), .int .i64 a0_3] 30 (0, 0))) ∧ Aside0 (Below w.heap.size w w'))
          case atStart => exact ⟨(0), (by first | rfl | (simp; done) | (simp [*]; done)), H', ⟨Nat.le_refl _⟩, ⟨by (with_reducible repeat (first | refine Sq.d ?_ _ | refine Sq.e ?_ | refine Sq.f ?_ _)); exact BK144.out⟩, ⟨by repeat (first | (with_reducible first | exact HB.out | apply Sq.i | apply Sq.j | apply Sq.k | refine Sq.h ?_ GE144.out) | exact HB.out)⟩⟩
          case round =>
           clear H'
           try clear c1; try clear p1; try clear q1; try clear hx1; try clear c2; try clear p2; try clear c3; try clear c4; try clear c5; try clear p6; try clear c7; try clear c8; try clear c8b0; try clear c8b1; try clear c9; try clear c10; try clear c10b0; try clear c10b1; try clear c12; try clear c12b0; try clear c14; try clear p14; try clear q14; try clear hx14; try clear c17; try clear c18; try clear c18b0; try clear c19; try clear c19b0; try clear c21; try clear c29; try clear c29b0; try clear c30; try clear c30b0; try clear c31; try clear c31b0; try clear c31b1; try clear c31b2; try clear c34; try clear c34b0; try clear c34b1; try clear hcz11_0; try clear hcz11_1; try clear hcz11_2; try clear hcz11_3; try clear hcz13_0; try clear hcz13_1; try clear hcz13_2; try clear hcz13_3; try clear hcz14_0; try clear hcz14_1; try clear hcz14_2; try clear hcz14_3; try clear hcz15_0; try clear hcz15_1; try clear hcz15_2; try clear hcz15_3; try clear hcz16_0; try clear hcz16_1; try clear hcz16_2; try clear hcz16_3; try clear hcz22_0; try clear hcz22_1; try clear hcz22_2; try clear hcz22_3; try clear hcz25_0; try clear hcz25_1; try clear hcz25_2; try clear hcz25_3; try clear hcz28_0; try clear hcz28_1; try clear hcz28_2; try clear hcz28_3; try clear hcz32_0; try clear hcz32_1; try clear hcz32_2; try clear hcz32_3; try clear hcz35_0; try clear hcz35_1; try clear hcz35_2; try clear hcz35_3; try clear hcz37_0; try clear hcz37_1; try clear hcz37_2; try clear hcz37_3; try clear hcz39_0; try clear hcz39_1; try clear hcz39_2; try clear hcz39_3; try clear hcz9_0; try clear hcz9_1; try clear hcz9_2; try clear hcz9_3; try clear hfz11_0; try clear hfz11_1; try clear hfz11_2; try clear hfz11_3; try clear hfz13_0; try clear hfz13_1; try clear hfz13_2; try clear hfz13_3; try clear hfz14_0; try clear hfz14_1; try clear hfz14_2; try clear hfz14_3; try clear hfz15_0; try clear hfz15_1; try clear hfz15_2; try clear hfz15_3; try clear hfz16_0; try clear hfz16_1; try clear hfz16_2; try clear hfz16_3; try clear hfz22_0; try clear hfz22_1; try clear hfz22_2; try clear hfz22_3; try clear hfz25_0; try clear hfz25_1; try clear hfz25_2; try clear hfz25_3; try clear hfz28_0; try clear hfz28_1; try clear hfz28_2; try clear hfz28_3; try clear hfz32_0; try clear hfz32_1; try clear hfz32_2; try clear hfz32_3; try clear hfz35_0; try clear hfz35_1; try clear hfz35_2; try clear hfz35_3; try clear hfz37_0; try clear hfz37_1; try clear hfz37_2; try clear hfz37_3; try clear hfz39_0; try clear hfz39_1; try clear hfz39_2; try clear hfz39_3; try clear hfz9_0; try clear hfz9_1; try clear hfz9_2; try clear hfz9_3; try clear hx147_0; try clear hx147_1; try clear hx147_2; try clear hx149_0; try clear p1; try clear p14; try clear p147; try clear p149; try clear p2; try clear p6; try clear q1; try clear q14; try clear q147; try clear q149
           obtain ⟨x5_4, rfl, HA, HK4, BK144, HB⟩ := hrel
           cases gk with
           | zero => exact absurd HA.out (by simp [spec_MemHostFault.l2])
           | succ k4 =>
            have H := HA.out
            clear HA
            simp only [spec_MemHostFault.l2] at H
            by_cases c40 : x5_4 < (l0_1.length : Int)
            ·rw [if_pos c40] at H
             have c40b0 : decide (x5_4 < (l0_1.length : Int)) = true := decide_eq_true c40
             clear c40
             by_cases c41 : 0 ≤ x5_4
             ·rw [if_pos c41] at H
              have c41b0 : decide (0 ≤ x5_4) = true := decide_eq_true c41
              clear c41
              by_cases c42 : (rdOf ByteArray.empty l0_1 x5_4).toList = ([] : List UInt8)
              ·rw [if_pos c42] at H
               have c42b0 : ((rdOf ByteArray.empty l0_1 x5_4).toList == ([] : List UInt8)) = true := beq_iff_eq.mpr c42
               have c42b1 : ((rdOf ByteArray.empty l0_1 x5_4).toList != ([] : List UInt8)) = false := bne_eq_false_iff_eq.mpr c42
               (try (have c42b2 : ((rdOf ByteArray.empty l0_1 x5_4).toList.isEmpty) = true := Sq.it c42))
               clear c42
               have H' := Sq.l H
               clear H
               have hcz43_0 : wr.cell? ⟨gb144, 0, none⟩ = some (.slice A0_0 l0_0.length c0_0) := (Sq.o BK144.out 0).trans rfl
               have hcz43_1 : wr.cell? ⟨gb144, 1, none⟩ = some (.slice A0_1 l0_1.length c0_1) := (Sq.o BK144.out 1).trans rfl
               have hcz43_2 : wr.cell? ⟨gb144, 2, none⟩ = some (.slice A0_2 l0_2.length c0_2) := (Sq.o BK144.out 2).trans rfl
               have hcz43_3 : wr.cell? ⟨gb144, 3, none⟩ = some (.int .i64 a0_3) := (Sq.o BK144.out 3).trans rfl
               have hfz43_0 := Sq.r BK144.out 0
               have hfz43_1 := Sq.r BK144.out 1
               have hfz43_2 := Sq.r BK144.out 2
               have hfz43_3 := Sq.r BK144.out 3
               have p151 : 0 ≤ (x5_4 : Int) := of_decide_eq_true (by first | (with_reducible assumption) | assumption)
               have q151 : x5_4 < (l0_1.length : Int) := of_decide_eq_true (by first | (with_reducible assumption) | assumption)
               obtain ⟨ad151, e151, hx151_0⟩ := Kd.at_string HR0_1.out x5_4 p151 q151
               cases e151
               replace hx151_0 := (HB.out.cell (World.block_lt_of_cell? w _ hx151_0)).trans hx151_0
               replace p151 := eq_true p151; replace q151 := eq_true q151
               go_wp2
               go_roundg k4
               case measure => have := HJ1.out; have := HK2.out; have := HK3.out; have := HK4.out; omega
               case rel => exact ⟨(wrap64 (x5_4 + 1)), (by first | rfl | (simp; done) | (simp [*]; done)), H', ⟨by have := HJ1.out; have := HK2.out; have := HK3.out; have := HK4.out; omega⟩, ⟨by (with_reducible repeat (first | refine Sq.d ?_ _ | refine Sq.e ?_ | refine Sq.f ?_ _)); exact BK144.out⟩, ⟨by repeat (first | (with_reducible first | exact HB.out | apply Sq.i | apply Sq.j | apply Sq.k | refine Sq.h ?_ GE144.out) | exact HB.out)⟩⟩
              ·rw [if_neg c42] at H
               have c42b0 : ((rdOf ByteArray.empty l0_1 x5_4).toList == ([] : List UInt8)) = false := beq_eq_false_iff_ne.mpr c42
               have c42b1 : ((rdOf ByteArray.empty l0_1 x5_4).toList != ([] : List UInt8)) = true := bne_iff_ne.mpr c42
               (try (have c42b2 : ((rdOf ByteArray.empty l0_1 x5_4).toList.isEmpty) = false := Sq.ie c42))
               replace H := Option.bind_eq_some_iff.mp H
               obtain ⟨t152, A440, H⟩ := H
               (try dsimp only at H)
               have A44 := Sq.l A440
               clear A440
               by_cases c45 : t152 = 1
               ·rw [if_pos c45] at H
                have c45b0 : (t152 == 1) = true := beq_iff_eq.mpr c45
                have c45b1 : (t152 != 1) = false := bne_eq_false_iff_eq.mpr c45
                clear c45
                have H' := Sq.l H
                clear H
                have hcz46_0 : wr.cell? ⟨gb144, 0, none⟩ = some (.slice A0_0 l0_0.length c0_0) := (Sq.o BK144.out 0).trans rfl
                have hcz46_1 : wr.cell? ⟨gb144, 1, none⟩ = some (.slice A0_1 l0_1.length c0_1) := (Sq.o BK144.out 1).trans rfl
                have hcz46_2 : wr.cell? ⟨gb144, 2, none⟩ = some (.slice A0_2 l0_2.length c0_2) := (Sq.o BK144.out 2).trans rfl
                have hcz46_3 : wr.cell? ⟨gb144, 3, none⟩ = some (.int .i64 a0_3) := (Sq.o BK144.out 3).trans rfl
                have hfz46_0 := Sq.r BK144.out 0
                have hfz46_1 := Sq.r BK144.out 1
                have hfz46_2 := Sq.r BK144.out 2
                have hfz46_3 := Sq.r BK144.out 3
                have p151 : 0 ≤ (x5_4 : Int) := of_decide_eq_true (by first | (with_reducible assumption) | assumption)
                have q151 : x5_4 < (l0_1.length : Int) := of_decide_eq_true (by first | (with_reducible assumption) | assumption)
                obtain ⟨ad151, e151, hx151_0⟩ := Kd.at_string HR0_1.out x5_4 p151 q151
                cases e151
                replace hx151_0 := (HB.out.cell (World.block_lt_of_cell? w _ hx151_0)).trans hx151_0
                replace p151 := eq_true p151; replace q151 := eq_true q151
                go_wp2_with (first | (go_at_call 46; (with_reducible refine (spec_l12Count.calls k4 _ _ l0_0 _ _ l0_1 _ _ l0_2 a0_3 2 x5_4 t152 _ ?side1 ?side2 ?side3 ?side4 ?side5 ?side6 A44.out).mono ?_); (case side1 => repeat (first | exact (Sq.a1 HR0_0.out HB.out) | (with_reducible refine Sq.s ?_ _) | (with_reducible refine Sq.t ?_ _) | (with_reducible refine Sq.u ?_))); (case side2 => exact HC0_0.out); (case side3 => repeat (first | exact (Sq.a1 HR0_1.out HB.out) | (with_reducible refine Sq.s ?_ _) | (with_reducible refine Sq.t ?_ _) | (with_reducible refine Sq.u ?_))); (case side4 => exact HC0_1.out); (case side5 => repeat (first | exact (Sq.a1 HR0_2.out HB.out) | (with_reducible refine Sq.s ?_ _) | (with_reducible refine Sq.t ?_ _) | (with_reducible refine Sq.u ?_))); (case side6 => exact HC0_2.out); rintro e w47 ⟨rfl, hb⟩; have n0_ := Sq.l (Sq.m (g := gb144) (o := .cells #[.slice A0_0 l0_0.length c0_0, .slice (some ad151) l0_1.length c0_1, .slice A0_2 l0_2.length c0_2, .int .i64 a0_3] 30 (0, 0)) (by (with_reducible repeat (first | refine Sq.d ?_ _ | refine Sq.e ?_ | refine Sq.f ?_ _)); exact BK144.out) hb); have n1_ := Sq.l (Sq.a4 (by repeat (first | (with_reducible first | exact HB.out | apply Sq.i | apply Sq.j | apply Sq.k | refine Sq.h ?_ GE144.out) | exact HB.out)) hb); clear BK144; clear HB; have BK144 := n0_; have HB := n1_; clear n0_ n1_; (try clear hb); (try clear hb2); (try clear hk); (try clear hi)))
                go_roundg k4
                case measure => have := HJ1.out; have := HK2.out; have := HK3.out; have := HK4.out; omega
                case rel => exact ⟨(wrap64 (x5_4 + 1)), (by first | rfl | (simp; done) | (simp [*]; done)), H', ⟨by have := HJ1.out; have := HK2.out; have := HK3.out; have := HK4.out; omega⟩, ⟨by (with_reducible repeat (first | refine Sq.d ?_ _ | refine Sq.e ?_ | refine Sq.f ?_ _)); exact BK144.out⟩, ⟨by repeat (first | (with_reducible first | exact HB.out | apply Sq.i | apply Sq.j | apply Sq.k | refine Sq.h ?_ GE144.out) | exact HB.out)⟩⟩
               ·rw [if_neg c45] at H
                have c45b0 : (t152 == 1) = false := beq_eq_false_iff_ne.mpr c45
                have c45b1 : (t152 != 1) = true := bne_iff_ne.mpr c45
                obtain rfl := Option.some.inj H
                have hcz48_0 : wr.cell? ⟨gb144, 0, none⟩ = some (.slice A0_0 l0_0.length c0_0) := (Sq.o BK144.out 0).trans rfl
                have hcz48_1 : wr.cell? ⟨gb144, 1, none⟩ = some (.slice A0_1 l0_1.length c0_1) := (Sq.o BK144.out 1).trans rfl
                have hcz48_2 : wr.cell? ⟨gb144, 2, none⟩ = some (.slice A0_2 l0_2.length c0_2) := (Sq.o BK144.out 2).trans rfl
                have hcz48_3 : wr.cell? ⟨gb144, 3, none⟩ = some (.int .i64 a0_3) := (Sq.o BK144.out 3).trans rfl
                have hfz48_0 := Sq.r BK144.out 0
                have hfz48_1 := Sq.r BK144.out 1
                have hfz48_2 := Sq.r BK144.out 2
                have hfz48_3 := Sq.r BK144.out 3
                have p151 : 0 ≤ (x5_4 : Int) := of_decide_eq_true (by first | (with_reducible assumption) | assumption)
                have q151 : x5_4 < (l0_1.length : Int) := of_decide_eq_true (by first | (with_reducible assumption) | assumption)
                obtain ⟨ad151, e151, hx151_0⟩ := Kd.at_string HR0_1.out x5_4 p151 q151
                cases e151
                replace hx151_0 := (HB.out.cell (World.block_lt_of_cell? w _ hx151_0)).trans hx151_0
                replace p151 := eq_true p151; replace q151 := eq_true q151
                go_wp2_with (first | (go_at_call 46; (with_reducible refine (spec_l12Count.calls k4 _ _ l0_0 _ _ l0_1 _ _ l0_2 a0_3 2 x5_4 t152 _ ?side1 ?side2 ?side3 ?side4 ?side5 ?side6 A44.out).mono ?_); (case side1 => repeat (first | exact (Sq.a1 HR0_0.out HB.out) | (with_reducible refine Sq.s ?_ _) | (with_reducible refine Sq.t ?_ _) | (with_reducible refine Sq.u ?_))); (case side2 => exact HC0_0.out); (case side3 => repeat (first | exact (Sq.a1 HR0_1.out HB.out) | (with_reducible refine Sq.s ?_ _) | (with_reducible refine Sq.t ?_ _) | (with_reducible refine Sq.u ?_))); (case side4 => exact HC0_1.out); (case side5 => repeat (first | exact (Sq.a1 HR0_2.out HB.out) | (with_reducible refine Sq.s ?_ _) | (with_reducible refine Sq.t ?_ _) | (with_reducible refine Sq.u ?_))); (case side6 => exact HC0_2.out); rintro e w49 ⟨rfl, hb⟩; have n0_ := Sq.l (Sq.m (g := gb144) (o := .cells #[.slice A0_0 l0_0.length c0_0, .slice (some ad151) l0_1.length c0_1, .slice A0_2 l0_2.length c0_2, .int .i64 a0_3] 30 (0, 0)) (by (with_reducible repeat (first | refine Sq.d ?_ _ | refine Sq.e ?_ | refine Sq.f ?_ _)); exact BK144.out) hb); have n1_ := Sq.l (Sq.a4 (by repeat (first | (with_reducible first | exact HB.out | apply Sq.i | apply Sq.j | apply Sq.k | refine Sq.h ?_ GE144.out) | exact HB.out)) hb); clear BK144; clear HB; have BK144 := n0_; have HB := n1_; clear n0_ n1_; (try clear hb); (try clear hb2); (try clear hk); (try clear hi)))
                go_ret
                exact ⟨by first | rfl | (simp [errW_none, errW_some] <;> rfl) | (simp [*, errW_none, errW_some] <;> rfl), by repeat (first | (with_reducible first | exact HB.out | apply Sq.i | apply Sq.j | apply Sq.k | refine Sq.h ?_ GE144.out) | exact HB.out)⟩
             ·rw [if_neg c41] at H
              exact absurd H (by simp)
            ·rw [if_neg c40] at H
             have c40b0 : decide (x5_4 < (l0_1.length : Int)) = false := decide_eq_false c40
             clear c40
             obtain rfl := Option.some.inj H
             have hcz50_0 : wr.cell? ⟨gb144, 0, none⟩ = some (.slice A0_0 l0_0.length c0_0) := (Sq.o BK144.out 0).trans rfl
             have hcz50_1 : wr.cell? ⟨gb144, 1, none⟩ = some (.slice A0_1 l0_1.length c0_1) := (Sq.o BK144.out 1).trans rfl
             have hcz50_2 : wr.cell? ⟨gb144, 2, none⟩ = some (.slice A0_2 l0_2.length c0_2) := (Sq.o BK144.out 2).trans rfl
             have hcz50_3 : wr.cell? ⟨gb144, 3, none⟩ = some (.int .i64 a0_3) := (Sq.o BK144.out 3).trans rfl
             have hfz50_0 := Sq.r BK144.out 0
             have hfz50_1 := Sq.r BK144.out 1
             have hfz50_2 := Sq.r BK144.out 2
             have hfz50_3 := Sq.r BK144.out 3
             go_wp2
             go_ret
             exact ⟨by first | rfl | (simp [errW_none, errW_some] <;> rfl) | (simp [*, errW_none, errW_some] <;> rfl), by repeat (first | (with_reducible first | exact HB.out | apply Sq.i | apply Sq.j | apply Sq.k | refine Sq.h ?_ GE144.out) | exact HB.out)⟩

end Go.Proofs.Ytmajbehafgajmaa.QFnExactMemHostFault
