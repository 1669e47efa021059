-- Written for this claim by this session's own driver (wip/xprint.py).
import Derived.Test.YtoifdnnjdohfmaaQFnExactPackImagex0
import Derived.Test.YtoifdnnjdohfmaaQFnExactPackImagex3
namespace Go.Proofs.Ytoifdnnjdohfmaa.QFnExactPackImage
open Go.RowKit Go.Proofs.YtoifdnnjdohfmaaW.PrintWords Go.Proofs.YtoifdnnjdohfmaaW.PrintLast Go.Proofs.YtoifdnnjdohfmaaW.PrintMore
attribute [local go_sem] max2_int min2_int max_two min_two max_three min_three max_four min_four   -- for this text's walks alone
set_option linter.unusedVariables false
set_option linter.unusedSimpArgs false

/-! ### spec_l13Uses: function 17 -/
mutual
def spec_l13Uses.l0 : Nat → Int → Int → Int → ByteArray → ByteArray → List Int → List ByteArray → List (S42) → Option (Int)
 | 0, _, _, _, _, _, _, _, _ => none
 | k + 1, x1, x5, x6, x165000, x165001, x165002, x165003, x165004 => if x6 < (x165002.length : Int) then (if 0 ≤ x6 then ((spec_l01Bool.f ((rd x165002 x6) == x1)).bind fun t166 => (spec_l13Uses.l0 k x1 (wrap64 (x5 + t166)) (wrap64 (x6 + 1)) x165000 x165001 x165002 x165003 x165004)) else (none)) else (spec_l13Uses.l1 k x1 x5 0 x165000 x165001 x165002 x165003 x165004)
def spec_l13Uses.l1 : Nat → Int → Int → Int → ByteArray → ByteArray → List Int → List ByteArray → List (S42) → Option (Int)
 | 0, _, _, _, _, _, _, _, _ => none
 | k + 1, x1, x5, x7, x165000, x165001, x165002, x165003, x165004 => if x7 < (x165004.length : Int) then (spec_l13Uses.l2 k x1 x5 x7 0 x165000 x165001 x165002 x165003 x165004) else (some x5)
def spec_l13Uses.l2 : Nat → Int → Int → Int → Int → ByteArray → ByteArray → List Int → List ByteArray → List (S42) → Option (Int)
 | 0, _, _, _, _, _, _, _, _, _ => none
 | k + 1, x1, x5, x7, x8, x165000, x165001, x165002, x165003, x165004 => if 0 ≤ x7 then (if x7 < (x165004.length : Int) then (if x8 < (((rd_T42 x165004 x7).f1).length : Int) then (if 0 ≤ x8 then ((spec_l01Bool.f ((rd ((rd_T42 x165004 x7).f1) x8) == x1)).bind fun t170 => (spec_l13Uses.l2 k x1 (wrap64 (x5 + t170)) x7 (wrap64 (x8 + 1)) x165000 x165001 x165002 x165003 x165004)) else (none)) else (spec_l13Uses.l1 k x1 x5 (wrap64 (x7 + 1)) x165000 x165001 x165002 x165003 x165004)) else (none)) else (none)
end
def spec_l13Uses.f (k : Nat) (a0_0 : ByteArray) (a0_1 : ByteArray) (l0_2 : List Int) (l0_3 : List ByteArray) (l0_4 : List (S42)) (a1 : Int) : Option (Int) := spec_l13Uses.l0 k a1 0 0 a0_0 a0_1 l0_2 l0_3 l0_4
theorem spec_l13Uses.mono_l : ∀ k, (∀ y0 y1 y2 y3 y4 y5 y6 y7, LeO (spec_l13Uses.l0 k y0 y1 y2 y3 y4 y5 y6 y7) (spec_l13Uses.l0 (k + 1) y0 y1 y2 y3 y4 y5 y6 y7)) ∧ (∀ y0 y1 y2 y3 y4 y5 y6 y7, LeO (spec_l13Uses.l1 k y0 y1 y2 y3 y4 y5 y6 y7) (spec_l13Uses.l1 (k + 1) y0 y1 y2 y3 y4 y5 y6 y7)) ∧ (∀ y0 y1 y2 y3 y4 y5 y6 y7 y8, LeO (spec_l13Uses.l2 k y0 y1 y2 y3 y4 y5 y6 y7 y8) (spec_l13Uses.l2 (k + 1) y0 y1 y2 y3 y4 y5 y6 y7 y8))
 | 0 => ⟨fun _ _ _ _ _ _ _ _ r h => by simp [spec_l13Uses.l0] at h, fun _ _ _ _ _ _ _ _ r h => by simp [spec_l13Uses.l1] at h, fun _ _ _ _ _ _ _ _ _ r h => by simp [spec_l13Uses.l2] at h⟩
 | k + 1 => by
  obtain ⟨ih0, ih1, ih2⟩ := spec_l13Uses.mono_l k
  refine ⟨?_, ?_, ?_⟩
  ·intro y0 y1 y2 y3 y4 y5 y6 y7
   unfold spec_l13Uses.l0
   repeat' first
   | (with_reducible exact ih0 _ _ _ _ _ _ _ _)
   | (with_reducible exact ih1 _ _ _ _ _ _ _ _)
   | (with_reducible exact ih2 _ _ _ _ _ _ _ _ _)
   | (with_reducible exact LeO.refl _)
   | (with_reducible exact LeO.none _)
   | (with_reducible refine LeO.ite ?_ ?_)
   | (with_reducible refine LeO.bind ?_ (fun _ => ?_))
   | exact ih0 _ _ _ _ _ _ _ _
   | exact ih1 _ _ _ _ _ _ _ _
   | exact ih2 _ _ _ _ _ _ _ _ _
   | exact LeO.none _
   | refine LeO.ite ?_ ?_
   | refine LeO.bind ?_ (fun _ => ?_)
  ·intro y0 y1 y2 y3 y4 y5 y6 y7
   unfold spec_l13Uses.l1
   repeat' first
   | (with_reducible exact ih0 _ _ _ _ _ _ _ _)
   | (with_reducible exact ih1 _ _ _ _ _ _ _ _)
   | (with_reducible exact ih2 _ _ _ _ _ _ _ _ _)
   | (with_reducible exact LeO.refl _)
   | (with_reducible exact LeO.none _)
   | (with_reducible refine LeO.ite ?_ ?_)
   | (with_reducible refine LeO.bind ?_ (fun _ => ?_))
   | exact ih0 _ _ _ _ _ _ _ _
   | exact ih1 _ _ _ _ _ _ _ _
   | exact ih2 _ _ _ _ _ _ _ _ _
   | exact LeO.none _
   | refine LeO.ite ?_ ?_
   | refine LeO.bind ?_ (fun _ => ?_)
  ·intro y0 y1 y2 y3 y4 y5 y6 y7 y8
   unfold spec_l13Uses.l2
   repeat' first
   | (with_reducible exact ih0 _ _ _ _ _ _ _ _)
   | (with_reducible exact ih1 _ _ _ _ _ _ _ _)
   | (with_reducible exact ih2 _ _ _ _ _ _ _ _ _)
   | (with_reducible exact LeO.refl _)
   | (with_reducible exact LeO.none _)
   | (with_reducible refine LeO.ite ?_ ?_)
   | (with_reducible refine LeO.bind ?_ (fun _ => ?_))
   | exact ih0 _ _ _ _ _ _ _ _
   | exact ih1 _ _ _ _ _ _ _ _
   | exact ih2 _ _ _ _ _ _ _ _ _
   | exact LeO.none _
   | refine LeO.ite ?_ ?_
   | refine LeO.bind ?_ (fun _ => ?_)
theorem spec_l13Uses.mono : ∀ a0 a1 a2 a3 a4 a5 k, LeO (spec_l13Uses.f k a0 a1 a2 a3 a4 a5) (spec_l13Uses.f (k + 1) a0 a1 a2 a3 a4 a5) := by
 intro a0 a1 a2 a3 a4 a5 k
 obtain ⟨ih0, ih1, ih2⟩ := spec_l13Uses.mono_l k
 unfold spec_l13Uses.f
 repeat' first
   | (with_reducible exact ih0 _ _ _ _ _ _ _ _)
   | (with_reducible exact ih1 _ _ _ _ _ _ _ _)
   | (with_reducible exact ih2 _ _ _ _ _ _ _ _ _)
   | (with_reducible exact LeO.refl _)
   | (with_reducible exact LeO.none _)
   | (with_reducible refine LeO.ite ?_ ?_)
   | (with_reducible refine LeO.bind ?_ (fun _ => ?_))
   | exact ih0 _ _ _ _ _ _ _ _
   | exact ih1 _ _ _ _ _ _ _ _
   | exact ih2 _ _ _ _ _ _ _ _ _
   | exact LeO.none _
   | refine LeO.ite ?_ ?_
   | refine LeO.bind ?_ (fun _ => ?_)
set_option maxHeartbeats 8000000 in
set_option maxRecDepth 100000 in
theorem spec_l13Uses.calls (k : Nat) (a0_0 : ByteArray) (a0_1 : ByteArray) (A0_2 : Option Addr) (c0_2 : Nat) (l0_2 : List Int) (A0_3 : Option Addr) (c0_3 : Nat) (l0_3 : List ByteArray) (A0_4 : Option Addr) (c0_4 : Nat) (l0_4 : List (S42)) (a1 : Int) (r : Int) (w : World) (hr0_2 : Kd.C (Kd.int .i64) w A0_2 l0_2.length l0_2) (hc0_2 : l0_2.length ≤ c0_2) (hr0_3 : Kd.C Kd.string w A0_3 l0_3.length l0_3) (hc0_3 : l0_3.length ≤ c0_3) (hr0_4 : Kd.C k42 w A0_4 l0_4.length l0_4) (hc0_4 : l0_4.length ≤ c0_4) (h : spec_l13Uses.f k a0_0 a0_1 l0_2 l0_3 l0_4 a1 = some r) :
  Calls Try.prog 17 #[.agg #[.string a0_0, .string a0_1, .slice A0_2 l0_2.length c0_2, .slice A0_3 l0_3.length c0_3, .slice A0_4 l0_4.length c0_4], .int .i64 a1] w fun e w' => e = .returned (.int .i64 r) ∧ Below w.heap.size w w' := by
 have hu31 := Try.underlying31
 have HR0_2 := Sq.l hr0_2
 have HC0_2 := Sq.l hc0_2
 clear hr0_2 hc0_2
 have HR0_3 := Sq.l hr0_3
 have HC0_3 := Sq.l hc0_3
 clear hr0_3 hc0_3
 have HR0_4 := Sq.l hr0_4
 have HC0_4 := Sq.l hc0_4
 clear hr0_4 hc0_4
 have HB := Sq.l (Below.refl w.heap.size w)
 have H : (spec_l13Uses.l0 k a1 0 0 a0_0 a0_1 l0_2 l0_3 l0_4) = some r := h
 clear h
 have H' := Sq.l H
 clear H
 go_enter Try.func17, Try.ntmps17
 go_wp2_with (first | ((with_reducible refine gate_dst (N := 2) rfl ?_); refine box_event ?hg (N := 2) ?hd (cs := #[.string a0_0, .string a0_1, .slice A0_2 l0_2.length c0_2, .slice A0_3 l0_3.length c0_3, .slice A0_4 l0_4.length c0_4]) (t := 31) ?hr ?_; (case hd => rfl); (case hg => rfl); (case hr => first | (go_simp; done) | (go_simp; rfl)); intro gb164 hg w3 hbox hb; have n0_ := Sq.l (Sq.a4 (by repeat (first | (with_reducible first | exact HB.out | apply Sq.i | apply Sq.j | apply Sq.k) | exact HB.out)) hb); have n1_ := Sq.l (hbox); have n2_ := Sq.l ((by rw [hg]; exact (Sq.a5 (by repeat (first | (with_reducible first | exact HB.out | apply Sq.i | apply Sq.j | apply Sq.k) | exact HB.out))) : w.heap.size ≤ gb164)); have n3_ := Sq.l ((by rw [hg]; exact (Sq.a5 (by repeat (first | (with_reducible first | exact HB.out | apply Sq.i | apply Sq.j | apply Sq.k) | exact HB.out))) : w.heap.size ≤ gb164)); clear HB; have HB := n0_; have BK164 := n1_; have GW164 := n2_; have GE164 := n3_; clear n0_ n1_ n2_ n3_; clear hb hbox hg))
 go_loopg [5, 6] k (fun kq v5 v6 w' => ∃ (x5_1 : Int) (x6_1 : Int), v5 = .int .i64 x5_1 ∧ v6 = .int .i64 x6_1 ∧ Aside0 (spec_l13Uses.l0 kq a1 x5_1 x6_1 a0_0 a0_1 l0_2 l0_3 l0_4 = some r) ∧ Aside0 (kq ≤ k) ∧ Aside0 (w'.heap[gb164]? = some (.cells #[.string a0_0, .string a0_1, (.slice A0_2 l0_2.length c0_2), (.slice A0_3 l0_3.length c0_3), (.slice A0_4 l0_4.length c0_4)] 31 (0, 0))) ∧ Aside0 (Below w.heap.size w w'))
 case atStart => exact ⟨(0), (0), (by first | rfl | (simp; done) | (simp [*]; done)), (by first | rfl | (simp; done) | (simp [*]; done)), H', ⟨Nat.le_refl _⟩, ⟨by (with_reducible repeat (first | refine Sq.d ?_ _ | refine Sq.e ?_ | refine Sq.f ?_ _)); exact BK164.out⟩, ⟨by repeat (first | (with_reducible first | exact HB.out | apply Sq.i | apply Sq.j | apply Sq.k | refine Sq.h ?_ GE164.out) | exact HB.out)⟩⟩
 case round =>
  clear H'
  try clear c1; try clear p2
  obtain ⟨x5_1, x6_1, rfl, rfl, HA, HK1, BK164, HB⟩ := hrel
  cases gk with
  | zero => exact absurd HA.out (by simp [spec_l13Uses.l0])
  | succ k1 =>
   have H := HA.out
   clear HA
   simp only [spec_l13Uses.l0] at H
   by_cases c4 : x6_1 < (l0_2.length : Int)
   ·rw [if_pos c4] at H
    have c4b0 : decide (x6_1 < (l0_2.length : Int)) = true := decide_eq_true c4
    clear c4
    by_cases c5 : 0 ≤ x6_1
    ·rw [if_pos c5] at H
     have c5b0 : decide (0 ≤ x6_1) = true := decide_eq_true c5
     clear c5
     replace H := Option.bind_eq_some_iff.mp H
     obtain ⟨t166, A60, H⟩ := H
     (try dsimp only at H)
     have A6 := Sq.l A60
     clear A60
     have H' := Sq.l H
     clear H
     have hcz7_0 : wr.cell? ⟨gb164, 0, none⟩ = some (.string a0_0) := (Sq.o BK164.out 0).trans rfl
     have hcz7_1 : wr.cell? ⟨gb164, 1, none⟩ = some (.string a0_1) := (Sq.o BK164.out 1).trans rfl
     have hcz7_2 : wr.cell? ⟨gb164, 2, none⟩ = some (.slice A0_2 l0_2.length c0_2) := (Sq.o BK164.out 2).trans rfl
     have hcz7_3 : wr.cell? ⟨gb164, 3, none⟩ = some (.slice A0_3 l0_3.length c0_3) := (Sq.o BK164.out 3).trans rfl
     have hcz7_4 : wr.cell? ⟨gb164, 4, none⟩ = some (.slice A0_4 l0_4.length c0_4) := (Sq.o BK164.out 4).trans rfl
     have hfz7_0 := Sq.r BK164.out 0
     have hfz7_1 := Sq.r BK164.out 1
     have hfz7_2 := Sq.r BK164.out 2
     have hfz7_3 := Sq.r BK164.out 3
     have hfz7_4 := Sq.r BK164.out 4
     have p165 : 0 ≤ (x6_1 : Int) := of_decide_eq_true (by first | (with_reducible assumption) | assumption)
     have q165 : x6_1 < (l0_2.length : Int) := of_decide_eq_true (by first | (with_reducible assumption) | assumption)
     obtain ⟨ad165, e165, hx165_0⟩ := Kd.at_int HR0_2.out x6_1 p165 q165
     cases e165
     replace hx165_0 := (HB.out.cell (World.block_lt_of_cell? w _ hx165_0)).trans hx165_0
     replace p165 := eq_true p165; replace q165 := eq_true q165
     go_wp2_with (first | ((with_reducible refine gate_callee (f := 40) rfl ?_); refine goesL_ (some 24) rfl rfl Try.func40 (by kernel_rfl) rfl #[.bool ((rd l0_2 x6_1) == a1)] rfl (by (try simp only [List.map_toArray, List.map_cons, List.map_nil]); first | done | rfl | (simp only [List.length_drop, List.length_take]; rfl)) ?_; (with_reducible refine (spec_l01Bool.calls ((rd l0_2 x6_1) == a1) t166 _ A6.out).mono ?_); rintro e w' ⟨rfl, ⟨nd, rfl⟩⟩; refine ⟨_, rfl, ?_⟩))
     go_roundg k1
     case measure => have := HK1.out; omega
     case rel => exact ⟨(wrap64 (x5_1 + t166)), (wrap64 (x6_1 + 1)), (by first | rfl | (simp; done) | (simp [*]; done)), (by first | rfl | (simp; done) | (simp [*]; done)), H', ⟨by have := HK1.out; omega⟩, ⟨by (with_reducible repeat (first | refine Sq.d ?_ _ | refine Sq.e ?_ | refine Sq.f ?_ _)); exact BK164.out⟩, ⟨by repeat (first | (with_reducible first | exact HB.out | apply Sq.i | apply Sq.j | apply Sq.k | refine Sq.h ?_ GE164.out) | exact HB.out)⟩⟩
    ·rw [if_neg c5] at H
     exact absurd H (by simp)
   ·rw [if_neg c4] at H
    have c4b0 : decide (x6_1 < (l0_2.length : Int)) = false := decide_eq_false c4
    clear c4
    have H' := Sq.l H
    clear H
    have hcz8_0 : wr.cell? ⟨gb164, 0, none⟩ = some (.string a0_0) := (Sq.o BK164.out 0).trans rfl
    have hcz8_1 : wr.cell? ⟨gb164, 1, none⟩ = some (.string a0_1) := (Sq.o BK164.out 1).trans rfl
    have hcz8_2 : wr.cell? ⟨gb164, 2, none⟩ = some (.slice A0_2 l0_2.length c0_2) := (Sq.o BK164.out 2).trans rfl
    have hcz8_3 : wr.cell? ⟨gb164, 3, none⟩ = some (.slice A0_3 l0_3.length c0_3) := (Sq.o BK164.out 3).trans rfl
    have hcz8_4 : wr.cell? ⟨gb164, 4, none⟩ = some (.slice A0_4 l0_4.length c0_4) := (Sq.o BK164.out 4).trans rfl
    have hfz8_0 := Sq.r BK164.out 0
    have hfz8_1 := Sq.r BK164.out 1
    have hfz8_2 := Sq.r BK164.out 2
    have hfz8_3 := Sq.r BK164.out 3
    have hfz8_4 := Sq.r BK164.out 4
    go_wp2
    go_loopg [5, 7] k1 (fun kq v5 v7 w' => ∃ (x5_2 : Int) (x7_2 : Int), v5 = .int .i64 x5_2 ∧ v7 = .int .i64 x7_2 ∧ Aside0 (spec_l13Uses.l1 kq a1 x5_2 x7_2 a0_0 a0_1 l0_2 l0_3 l0_4 = some r) ∧ Aside0 (kq ≤ k1) ∧ Aside0 (w'.heap[gb164]? = some (.cells #[.string a0_0, .string a0_1, (.slice A0_2 l0_2.length c0_2), (.slice A0_3 l0_3.length c0_3), (.slice A0_4 l0_4.length c0_4)] 31 (0, 0))) ∧ Aside0 (Below w.heap.size w w'))
    case atStart => exact ⟨(x5_1), (0), (by first | rfl | (simp; done) | (simp [*]; done)), (by first | rfl | (simp; done) | (simp [*]; done)), H', ⟨Nat.le_refl _⟩, ⟨by (with_reducible repeat (first | refine Sq.d ?_ _ | refine Sq.e ?_ | refine Sq.f ?_ _)); exact BK164.out⟩, ⟨by repeat (first | (with_reducible first | exact HB.out | apply Sq.i | apply Sq.j | apply Sq.k | refine Sq.h ?_ GE164.out) | exact HB.out)⟩⟩
    case round =>
     clear H'
     try clear c1; try clear p1; try clear q1; try clear hx1; try clear p2; try clear c4; try clear c4b0; try clear c5; try clear c5b0; try clear p6; try clear hcz7_0; try clear hcz7_1; try clear hcz7_2; try clear hcz7_3; try clear hcz7_4; try clear hcz8_0; try clear hcz8_1; try clear hcz8_2; try clear hcz8_3; try clear hcz8_4; try clear hfz7_0; try clear hfz7_1; try clear hfz7_2; try clear hfz7_3; try clear hfz7_4; try clear hfz8_0; try clear hfz8_1; try clear hfz8_2; try clear hfz8_3; try clear hfz8_4; try clear hx165_0; try clear p165; try clear p2; try clear q165
     obtain ⟨x5_2, x7_2, rfl, rfl, HA, HK2, BK164, HB⟩ := hrel
     cases gk with
     | zero => exact absurd HA.out (by simp [spec_l13Uses.l1])
     | succ k2 =>
      have H := HA.out
      clear HA
      simp only [spec_l13Uses.l1] at H
      by_cases c9 : x7_2 < (l0_4.length : Int)
      ·rw [if_pos c9] at H
       have c9b0 : decide (x7_2 < (l0_4.length : Int)) = true := decide_eq_true c9
       clear c9
       have H' := Sq.l H
       clear H
       have hcz10_0 : wr.cell? ⟨gb164, 0, none⟩ = some (.string a0_0) := (Sq.o BK164.out 0).trans rfl
       have hcz10_1 : wr.cell? ⟨gb164, 1, none⟩ = some (.string a0_1) := (Sq.o BK164.out 1).trans rfl
       have hcz10_2 : wr.cell? ⟨gb164, 2, none⟩ = some (.slice A0_2 l0_2.length c0_2) := (Sq.o BK164.out 2).trans rfl
       have hcz10_3 : wr.cell? ⟨gb164, 3, none⟩ = some (.slice A0_3 l0_3.length c0_3) := (Sq.o BK164.out 3).trans rfl
       have hcz10_4 : wr.cell? ⟨gb164, 4, none⟩ = some (.slice A0_4 l0_4.length c0_4) := (Sq.o BK164.out 4).trans rfl
       have hfz10_0 := Sq.r BK164.out 0
       have hfz10_1 := Sq.r BK164.out 1
       have hfz10_2 := Sq.r BK164.out 2
       have hfz10_3 := Sq.r BK164.out 3
       have hfz10_4 := Sq.r BK164.out 4
       go_wp2
       go_loopg [5, 8] k2 (fun kq v5 v8 w' => ∃ (x5_3 : Int) (x8_3 : Int), v5 = .int .i64 x5_3 ∧ v8 = .int .i64 x8_3 ∧ Aside0 (spec_l13Uses.l2 kq a1 x5_3 x7_2 x8_3 a0_0 a0_1 l0_2 l0_3 l0_4 = some r) ∧ Aside0 (kq ≤ k2) ∧ Aside0 (w'.heap[gb164]? = some (.cells #[.string a0_0, .string a0_1, (.slice A0_2 l0_2.length c0_2), (.slice A0_3 l0_3.length c0_3), (.slice A0_4 l0_4.length c0_4)] 31 (0, 0))) ∧ Aside0 (Below w.heap.size w w'))
       case atStart => exact ⟨(x5_2), (0), (by first | rfl | (simp; done) | (simp [*]; done)), (by first | rfl | (simp; done) | (simp [*]; done)), H', ⟨Nat.le_refl _⟩, ⟨by (with_reducible repeat (first | refine Sq.d ?_ _ | refine Sq.e ?_ | refine Sq.f ?_ _)); exact BK164.out⟩, ⟨by repeat (first | (with_reducible first | exact HB.out | apply Sq.i | apply Sq.j | apply Sq.k | refine Sq.h ?_ GE164.out) | exact HB.out)⟩⟩
       case round =>
        clear H'
        try clear c1; try clear p1; try clear q1; try clear hx1; try clear p2; try clear c4; try clear c4b0; try clear c5; try clear c5b0; try clear p6; try clear c9; try clear c9b0; try clear hcz10_0; try clear hcz10_1; try clear hcz10_2; try clear hcz10_3; try clear hcz10_4; try clear hcz7_0; try clear hcz7_1; try clear hcz7_2; try clear hcz7_3; try clear hcz7_4; try clear hcz8_0; try clear hcz8_1; try clear hcz8_2; try clear hcz8_3; try clear hcz8_4; try clear hfz10_0; try clear hfz10_1; try clear hfz10_2; try clear hfz10_3; try clear hfz10_4; try clear hfz7_0; try clear hfz7_1; try clear hfz7_2; try clear hfz7_3; try clear hfz7_4; try clear hfz8_0; try clear hfz8_1; try clear hfz8_2; try clear hfz8_3; try clear hfz8_4; try clear hx165_0; try clear p1; try clear p165; try clear p2; try clear p6; try clear q1; try clear q165
        obtain ⟨x5_3, x8_3, rfl, rfl, HA, HK3, BK164, HB⟩ := hrel
        cases gk with
        | zero => exact absurd HA.out (by simp [spec_l13Uses.l2])
        | succ k3 =>
         have H := HA.out
         clear HA
         simp only [spec_l13Uses.l2] at H
         by_cases c11 : 0 ≤ x7_2
         ·rw [if_pos c11] at H
          have c11b0 : decide (0 ≤ x7_2) = true := decide_eq_true c11
          clear c11
          by_cases c12 : x7_2 < (l0_4.length : Int)
          ·rw [if_pos c12] at H
           have c12b0 : decide (x7_2 < (l0_4.length : Int)) = true := decide_eq_true c12
           clear c12
           by_cases c13 : x8_3 < (((rd_T42 l0_4 x7_2).f1).length : Int)
           ·rw [if_pos c13] at H
            have c13b0 : decide (x8_3 < (((rd_T42 l0_4 x7_2).f1).length : Int)) = true := decide_eq_true c13
            clear c13
            by_cases c14 : 0 ≤ x8_3
            ·rw [if_pos c14] at H
             have c14b0 : decide (0 ≤ x8_3) = true := decide_eq_true c14
             clear c14
             replace H := Option.bind_eq_some_iff.mp H
             obtain ⟨t170, A150, H⟩ := H
             (try dsimp only at H)
             have A15 := Sq.l A150
             clear A150
             have H' := Sq.l H
             clear H
             have hcz16_0 : wr.cell? ⟨gb164, 0, none⟩ = some (.string a0_0) := (Sq.o BK164.out 0).trans rfl
             have hcz16_1 : wr.cell? ⟨gb164, 1, none⟩ = some (.string a0_1) := (Sq.o BK164.out 1).trans rfl
             have hcz16_2 : wr.cell? ⟨gb164, 2, none⟩ = some (.slice A0_2 l0_2.length c0_2) := (Sq.o BK164.out 2).trans rfl
             have hcz16_3 : wr.cell? ⟨gb164, 3, none⟩ = some (.slice A0_3 l0_3.length c0_3) := (Sq.o BK164.out 3).trans rfl
             have hcz16_4 : wr.cell? ⟨gb164, 4, none⟩ = some (.slice A0_4 l0_4.length c0_4) := (Sq.o BK164.out 4).trans rfl
             have hfz16_0 := Sq.r BK164.out 0
             have hfz16_1 := Sq.r BK164.out 1
             have hfz16_2 := Sq.r BK164.out 2
             have hfz16_3 := Sq.r BK164.out 3
             have hfz16_4 := Sq.r BK164.out 4
             have p167 : 0 ≤ (x7_2 : Int) := of_decide_eq_true (by first | (with_reducible assumption) | assumption)
             have q167 : x7_2 < (l0_4.length : Int) := of_decide_eq_true (by first | (with_reducible assumption) | assumption)
             obtain ⟨ad167, A167_1, c167_1, e167, hx167_0, hx167_1, hl167_1, hi167_1⟩ := at_T42 HR0_4.out x7_2 p167 q167
             cases e167
             replace hx167_0 := (HB.out.cell (World.block_lt_of_cell? w _ hx167_0)).trans hx167_0
             replace hx167_1 := (HB.out.cell (World.block_lt_of_cell? w _ hx167_1)).trans hx167_1
             have HR167_1 := Sq.l hi167_1
             have HC167_1 := Sq.l hl167_1
             clear hi167_1 hl167_1; replace p167 := eq_true p167; replace q167 := eq_true q167
             have p168 : 0 ≤ (x7_2 : Int) := of_decide_eq_true (by first | (with_reducible assumption) | assumption)
             have q168 : x7_2 < (l0_4.length : Int) := of_decide_eq_true (by first | (with_reducible assumption) | assumption)
             obtain ⟨ad168, A168_1, c168_1, e168, hx168_0, hx168_1, hl168_1, hi168_1⟩ := at_T42 HR0_4.out x7_2 p168 q168
             obtain rfl : ad167 = ad168 := (by injection e168)
             replace hx168_0 := (HB.out.cell (World.block_lt_of_cell? w _ hx168_0)).trans hx168_0
             replace hx168_1 := (HB.out.cell (World.block_lt_of_cell? w _ hx168_1)).trans hx168_1
             have HR168_1 := Sq.l hi168_1
             have HC168_1 := Sq.l hl168_1
             clear hi168_1 hl168_1; replace p168 := eq_true p168; replace q168 := eq_true q168
             have ea_ := Option.some.inj (hx167_1.symm.trans hx168_1)
             injection ea_ with ea_ en_ ec_
             subst ea_
             subst ec_
             clear en_
             have p169 : 0 ≤ (x8_3 : Int) := of_decide_eq_true (by first | (with_reducible assumption) | assumption)
             have q169 : x8_3 < (((rd_T42 l0_4 x7_2).f1).length : Int) := of_decide_eq_true (by first | (with_reducible assumption) | assumption)
             obtain ⟨ad169, e169, hx169_0⟩ := Kd.at_int HR168_1.out x8_3 p169 q169
             cases e169
             replace hx169_0 := (HB.out.cell (World.block_lt_of_cell? w _ hx169_0)).trans hx169_0
             replace p169 := eq_true p169; replace q169 := eq_true q169
             go_wp2_with (first | ((with_reducible refine gate_callee (f := 40) rfl ?_); refine goesL_ (some 56) rfl rfl Try.func40 (by kernel_rfl) rfl #[.bool ((rd ((rd_T42 l0_4 x7_2).f1) x8_3) == a1)] rfl (by (try simp only [List.map_toArray, List.map_cons, List.map_nil]); first | done | rfl | (simp only [List.length_drop, List.length_take]; rfl)) ?_; (with_reducible refine (spec_l01Bool.calls ((rd ((rd_T42 l0_4 x7_2).f1) x8_3) == a1) t170 _ A15.out).mono ?_); rintro e w' ⟨rfl, ⟨nd, rfl⟩⟩; refine ⟨_, rfl, ?_⟩))
             go_roundg k3
             case measure => have := HK1.out; have := HK2.out; have := HK3.out; omega
             case rel => exact ⟨(wrap64 (x5_3 + t170)), (wrap64 (x8_3 + 1)), (by first | rfl | (simp; done) | (simp [*]; done)), (by first | rfl | (simp; done) | (simp [*]; done)), H', ⟨by have := HK1.out; have := HK2.out; have := HK3.out; omega⟩, ⟨by (with_reducible repeat (first | refine Sq.d ?_ _ | refine Sq.e ?_ | refine Sq.f ?_ _)); exact BK164.out⟩, ⟨by repeat (first | (with_reducible first | exact HB.out | apply Sq.i | apply Sq.j | apply Sq.k | refine Sq.h ?_ GE164.out) | exact HB.out)⟩⟩
            ·rw [if_neg c14] at H
             exact absurd H (by simp)
           ·rw [if_neg c13] at H
            have c13b0 : decide (x8_3 < (((rd_T42 l0_4 x7_2).f1).length : Int)) = false := decide_eq_false c13
            clear c13
            have H' := Sq.l H
            clear H
            have hcz17_0 : wr.cell? ⟨gb164, 0, none⟩ = some (.string a0_0) := (Sq.o BK164.out 0).trans rfl
            have hcz17_1 : wr.cell? ⟨gb164, 1, none⟩ = some (.string a0_1) := (Sq.o BK164.out 1).trans rfl
            have hcz17_2 : wr.cell? ⟨gb164, 2, none⟩ = some (.slice A0_2 l0_2.length c0_2) := (Sq.o BK164.out 2).trans rfl
            have hcz17_3 : wr.cell? ⟨gb164, 3, none⟩ = some (.slice A0_3 l0_3.length c0_3) := (Sq.o BK164.out 3).trans rfl
            have hcz17_4 : wr.cell? ⟨gb164, 4, none⟩ = some (.slice A0_4 l0_4.length c0_4) := (Sq.o BK164.out 4).trans rfl
            have hfz17_0 := Sq.r BK164.out 0
            have hfz17_1 := Sq.r BK164.out 1
            have hfz17_2 := Sq.r BK164.out 2
            have hfz17_3 := Sq.r BK164.out 3
            have hfz17_4 := Sq.r BK164.out 4
            have p167 : 0 ≤ (x7_2 : Int) := of_decide_eq_true (by first | (with_reducible assumption) | assumption)
            have q167 : x7_2 < (l0_4.length : Int) := of_decide_eq_true (by first | (with_reducible assumption) | assumption)
            obtain ⟨ad167, A167_1, c167_1, e167, hx167_0, hx167_1, hl167_1, hi167_1⟩ := at_T42 HR0_4.out x7_2 p167 q167
            cases e167
            replace hx167_0 := (HB.out.cell (World.block_lt_of_cell? w _ hx167_0)).trans hx167_0
            replace hx167_1 := (HB.out.cell (World.block_lt_of_cell? w _ hx167_1)).trans hx167_1
            have HR167_1 := Sq.l hi167_1
            have HC167_1 := Sq.l hl167_1
            clear hi167_1 hl167_1; replace p167 := eq_true p167; replace q167 := eq_true q167
            go_wp2
            go_roundg k3
            case measure => have := HK1.out; have := HK2.out; have := HK3.out; omega
            case rel => exact ⟨(x5_3), (wrap64 (x7_2 + 1)), (by first | rfl | (simp; done) | (simp [*]; done)), (by first | rfl | (simp; done) | (simp [*]; done)), H', ⟨by have := HK1.out; have := HK2.out; have := HK3.out; omega⟩, ⟨by (with_reducible repeat (first | refine Sq.d ?_ _ | refine Sq.e ?_ | refine Sq.f ?_ _)); exact BK164.out⟩, ⟨by repeat (first | (with_reducible first | exact HB.out | apply Sq.i | apply Sq.j | apply Sq.k | refine Sq.h ?_ GE164.out) | exact HB.out)⟩⟩
          ·rw [if_neg c12] at H
           exact absurd H (by simp)
         ·rw [if_neg c11] at H
          exact absurd H (by simp)
      ·rw [if_neg c9] at H
       have c9b0 : decide (x7_2 < (l0_4.length : Int)) = false := decide_eq_false c9
       clear c9
       obtain rfl := Option.some.inj H
       have hcz18_0 : wr.cell? ⟨gb164, 0, none⟩ = some (.string a0_0) := (Sq.o BK164.out 0).trans rfl
       have hcz18_1 : wr.cell? ⟨gb164, 1, none⟩ = some (.string a0_1) := (Sq.o BK164.out 1).trans rfl
       have hcz18_2 : wr.cell? ⟨gb164, 2, none⟩ = some (.slice A0_2 l0_2.length c0_2) := (Sq.o BK164.out 2).trans rfl
       have hcz18_3 : wr.cell? ⟨gb164, 3, none⟩ = some (.slice A0_3 l0_3.length c0_3) := (Sq.o BK164.out 3).trans rfl
       have hcz18_4 : wr.cell? ⟨gb164, 4, none⟩ = some (.slice A0_4 l0_4.length c0_4) := (Sq.o BK164.out 4).trans rfl
       have hfz18_0 := Sq.r BK164.out 0
       have hfz18_1 := Sq.r BK164.out 1
       have hfz18_2 := Sq.r BK164.out 2
       have hfz18_3 := Sq.r BK164.out 3
       have hfz18_4 := Sq.r BK164.out 4
       go_wp2
       go_ret
       exact ⟨by first | rfl | (simp [errW_none, errW_some] <;> rfl) | (simp [*, errW_none, errW_some] <;> rfl), by repeat (first | (with_reducible first | exact HB.out | apply Sq.i | apply Sq.j | apply Sq.k | refine Sq.h ?_ GE164.out) | exact HB.out)⟩

end Go.Proofs.Ytoifdnnjdohfmaa.QFnExactPackImage
