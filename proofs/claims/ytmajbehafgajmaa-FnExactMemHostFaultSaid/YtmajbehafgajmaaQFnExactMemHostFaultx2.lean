-- Written for this claim by this session's own driver (wip/xprint.py).
import Derived.Test.YtmajbehafgajmaaQFnExactMemHostFaultx0
import Derived.Test.YtmajbehafgajmaaQFnExactMemHostFaultx1
namespace Go.Proofs.Ytmajbehafgajmaa.QFnExactMemHostFault
open Go.RowKit Go.Proofs.YtmajbehafgajmaaW.PrintWords Go.Proofs.YtmajbehafgajmaaW.PrintLast Go.Proofs.YtmajbehafgajmaaW.PrintMore
attribute [local go_sem] max2_int min2_int max_two min_two max_three min_three max_four min_four   -- for this text's walks alone
set_option linter.unusedVariables false
set_option linter.unusedSimpArgs false

/-! ### spec_NextBit: function 100 -/
def spec_NextBit.l0 : Nat → ByteArray → Int → Bool → Int → Int → Option (Int)
  | 0, _, _, _, _, _ => none
  | k + 1, x0, x1, x2, x7, x8 => if x8 < x7 then ((spec_HasBit.f x0 x8).bind fun t116 => (if (t116 == x2) = true then (some x8) else (spec_NextBit.l0 k x0 x1 x2 x7 (wrap64 (x8 + 1))))) else (if x2 = true then (some (-1)) else ((spec_l01Max.f x1 x7).bind fun t117 => (some t117)))
def spec_NextBit.f (k : Nat) (a0 : ByteArray) (a1 : Int) (a2 : Bool) : Option (Int) := if (a0.size : Int) > 65536 then (some 0) else ((spec_l01Max.f 0 a1).bind fun t115 => (spec_NextBit.l0 k a0 t115 a2 (wrap64 (8 * (a0.size : Int))) t115))
theorem spec_NextBit.mono_l : ∀ k, (∀ y0 y1 y2 y3 y4, LeO (spec_NextBit.l0 k y0 y1 y2 y3 y4) (spec_NextBit.l0 (k + 1) y0 y1 y2 y3 y4))
  | 0 => fun _ _ _ _ _ r h => by simp [spec_NextBit.l0] at h
  | k + 1 => by
    have ih0 := spec_NextBit.mono_l k
    · intro y0 y1 y2 y3 y4
      unfold spec_NextBit.l0
      repeat' first
      | (with_reducible exact ih0 _ _ _ _ _)
      | (with_reducible exact LeO.refl _)
      | (with_reducible exact LeO.none _)
      | (with_reducible refine LeO.ite ?_ ?_)
      | (with_reducible refine LeO.bind ?_ (fun _ => ?_))
      | exact ih0 _ _ _ _ _
      | exact LeO.none _
      | refine LeO.ite ?_ ?_
      | refine LeO.bind ?_ (fun _ => ?_)
theorem spec_NextBit.mono : ∀ a0 a1 a2 k, LeO (spec_NextBit.f k a0 a1 a2) (spec_NextBit.f (k + 1) a0 a1 a2) := by
  intro a0 a1 a2 k
  have ih0 := spec_NextBit.mono_l k
  unfold spec_NextBit.f
  repeat' first
      | (with_reducible exact ih0 _ _ _ _ _)
      | (with_reducible exact LeO.refl _)
      | (with_reducible exact LeO.none _)
      | (with_reducible refine LeO.ite ?_ ?_)
      | (with_reducible refine LeO.bind ?_ (fun _ => ?_))
      | exact ih0 _ _ _ _ _
      | exact LeO.none _
      | refine LeO.ite ?_ ?_
      | refine LeO.bind ?_ (fun _ => ?_)
set_option maxHeartbeats 8000000 in
set_option maxRecDepth 100000 in
theorem spec_NextBit.calls (k : Nat) (a0 : ByteArray) (a1 : Int) (a2 : Bool) (r : Int) (w : World) (h : spec_NextBit.f k a0 a1 a2 = some r) :
    Calls Try.prog 100 #[.string a0, .int .i64 a1, .bool a2] w fun e w' => e = .returned (.int .i64 r) ∧ Drawn0 w w' := by
  have H : (if (a0.size : Int) > 65536 then (some 0) else ((spec_l01Max.f 0 a1).bind fun t115 => (spec_NextBit.l0 k a0 t115 a2 (wrap64 (8 * (a0.size : Int))) t115))) = some r := h
  clear h
  by_cases c4 : (a0.size : Int) > 65536
  · rw [if_pos c4] at H
    have c4b0 : decide (65536 < (a0.size : Int)) = true := decide_eq_true c4
    have c4b1 : decide (65536 < a0.size) = true := decide_eq_true (by omega)
    clear c4
    obtain rfl := Option.some.inj H
    go_enter Try.func100, Try.ntmps100
    go_wp2
    go_ret
    exact ⟨by first | rfl | (simp; done) | (simp [*]; done), by repeat (first | exact Drawn0.refl _ | apply Drawn0.step)⟩
  · rw [if_neg c4] at H
    have c4b0 : decide (65536 < (a0.size : Int)) = false := decide_eq_false c4
    have c4b1 : decide (65536 < a0.size) = false := decide_eq_false (by omega)
    clear c4
    replace H := Option.bind_eq_some_iff.mp H
    obtain ⟨t115, A50, H⟩ := H
    replace H : (spec_NextBit.l0 k a0 t115 a2 (wrap64 (8 * (a0.size : Int))) t115) = some r := H
    have A5 := Aside0.mk A50
    clear A50
    have H' := Aside0.mk H
    clear H
    go_enter Try.func100, Try.ntmps100
    go_wp2_with (first | ((with_reducible refine gate_callee (f := 142) rfl ?_); refine goesL_ (some 13) rfl rfl Try.func142 (by kernel_rfl) rfl #[.int .i64 0, .int .i64 a1] rfl (by (try simp only [List.map_toArray, List.map_cons, List.map_nil]); first | done | rfl | (simp only [List.length_drop, List.length_take]; rfl)) ?_; (with_reducible refine (spec_l01Max.calls 0 a1 t115 _ A5.out).mono ?_); rintro e w' ⟨rfl, ⟨nd, rfl⟩⟩; refine ⟨_, rfl, ?_⟩))
    go_loopg [8] k (fun kq v8 w' => ∃ (x8_1 : Int), v8 = .int .i64 x8_1 ∧ Aside0 (spec_NextBit.l0 kq a0 t115 a2 (wrap64 (8 * (a0.size : Int))) x8_1 = some r) ∧ Aside0 (kq ≤ k) ∧ Drawn0 w w')
    case atStart => exact ⟨(t115), (by first | rfl | (simp; done) | (simp [*]; done)), H', ⟨Nat.le_refl _⟩, by repeat (first | exact Drawn0.refl _ | apply Drawn0.step)⟩
    case round =>
      clear H'
      try clear c1
      try clear p2
      try clear c4
      try clear c4b0
      try clear c4b1
      obtain ⟨x8_1, rfl, HA, HK1, ⟨m1, rfl⟩⟩ := hrel
      cases gk with
      | zero => exact absurd HA.out (by simp [spec_NextBit.l0])
      | succ k1 =>
        have H := HA.out
        clear HA
        simp only [spec_NextBit.l0] at H
        by_cases c6 : x8_1 < (wrap64 (8 * (a0.size : Int)))
        · rw [if_pos c6] at H
          have c6b0 : decide (x8_1 < (wrap64 (8 * (a0.size : Int)))) = true := decide_eq_true c6
          clear c6
          replace H := Option.bind_eq_some_iff.mp H
          obtain ⟨t116, A70, H⟩ := H
          replace H : (if (t116 == a2) = true then (some x8_1) else (spec_NextBit.l0 k1 a0 t115 a2 (wrap64 (8 * (a0.size : Int))) (wrap64 (x8_1 + 1)))) = some r := H
          have A7 := Aside0.mk A70
          clear A70
          by_cases c8 : (t116 == a2) = true
          · rw [if_pos c8] at H
            have c8b0 : (t116 == a2) = true := c8
            (try (have c8b1 : decide (t116 = a2) = true := by simpa using c8))
            (try (have c8b2 : (t116 == a2) = true := by simpa using c8))
            clear c8
            obtain rfl := Option.some.inj H
            go_wp2_with (first | ((with_reducible refine gate_callee (f := 143) rfl ?_); refine goesL_ (some 25) rfl rfl Try.func143 (by kernel_rfl) rfl #[.string a0, .int .i64 x8_1] rfl (by (try simp only [List.map_toArray, List.map_cons, List.map_nil]); first | done | rfl | (simp only [List.length_drop, List.length_take]; rfl)) ?_; (with_reducible refine (spec_HasBit.calls a0 x8_1 t116 _ A7.out).mono ?_); rintro e w' ⟨rfl, ⟨nd, rfl⟩⟩; refine ⟨_, rfl, ?_⟩))
            go_ret
            exact ⟨by first | rfl | (simp; done) | (simp [*]; done), by repeat (first | exact Drawn0.refl _ | apply Drawn0.step)⟩
          · rw [if_neg c8] at H
            have c8b0 : (t116 == a2) = false := by simpa using c8
            (try (have c8b1 : decide (t116 = a2) = false := by simpa using c8))
            (try (have c8b2 : (t116 == a2) = false := by simpa using c8))
            (try (have c8b3 : ¬ (t116 = a2) := by simpa using c8))
            clear c8
            have H' := Aside0.mk H
            clear H
            go_wp2_with (first | ((with_reducible refine gate_callee (f := 143) rfl ?_); refine goesL_ (some 25) rfl rfl Try.func143 (by kernel_rfl) rfl #[.string a0, .int .i64 x8_1] rfl (by (try simp only [List.map_toArray, List.map_cons, List.map_nil]); first | done | rfl | (simp only [List.length_drop, List.length_take]; rfl)) ?_; (with_reducible refine (spec_HasBit.calls a0 x8_1 t116 _ A7.out).mono ?_); rintro e w' ⟨rfl, ⟨nd, rfl⟩⟩; refine ⟨_, rfl, ?_⟩))
            go_roundg k1
            case measure => have := HK1.out; omega
            case rel => exact ⟨(wrap64 (x8_1 + 1)), (by first | rfl | (simp; done) | (simp [*]; done)), H', ⟨by have := HK1.out; omega⟩, by repeat (first | exact Drawn0.refl _ | apply Drawn0.step)⟩
        · rw [if_neg c6] at H
          have c6b0 : decide (x8_1 < (wrap64 (8 * (a0.size : Int)))) = false := decide_eq_false c6
          clear c6
          by_cases c9 : a2 = true
          · subst c9
            have H1 : (some (-1)) = some r := by rw [if_pos rfl] at H; exact H
            clear H
            have H := H1
            clear H1
            obtain rfl := Option.some.inj H
            go_wp2
            go_ret
            exact ⟨by first | rfl | (simp; done) | (simp [*]; done), by repeat (first | exact Drawn0.refl _ | apply Drawn0.step)⟩
          · replace c9 := Bool.eq_false_iff.mpr c9
            subst c9
            have H1 : ((spec_l01Max.f t115 (wrap64 (8 * (a0.size : Int)))).bind fun t117 => (some t117)) = some r := by rw [if_neg (show ¬ (false = true) by decide)] at H; exact H
            clear H
            have H := H1
            clear H1
            replace H := Option.bind_eq_some_iff.mp H
            obtain ⟨t117, A100, H⟩ := H
            replace H : (some t117) = some r := H
            have A10 := Aside0.mk A100
            clear A100
            obtain rfl := Option.some.inj H
            go_wp2_with (first | ((with_reducible refine gate_callee (f := 142) rfl ?_); refine goesL_ (some 32) rfl rfl Try.func142 (by kernel_rfl) rfl #[.int .i64 t115, .int .i64 (wrap64 (8 * (a0.size : Int)))] rfl (by (try simp only [List.map_toArray, List.map_cons, List.map_nil]); first | done | rfl | (simp only [List.length_drop, List.length_take]; rfl)) ?_; (with_reducible refine (spec_l01Max.calls t115 (wrap64 (8 * (a0.size : Int))) t117 _ A10.out).mono ?_); rintro e w' ⟨rfl, ⟨nd, rfl⟩⟩; refine ⟨_, rfl, ?_⟩))
            go_ret
            exact ⟨by first | rfl | (simp; done) | (simp [*]; done), by repeat (first | exact Drawn0.refl _ | apply Drawn0.step)⟩

/-! ### spec_l12Leads: function 101 -/
def spec_l12Leads.f (l0_0 : List ByteArray) (l0_1 : List ByteArray) (l0_2 : List (S90)) (a0_3 : Int) (a1_0 : Int) (a1_1 : Int) (a1_2 : Int) : Option (Bool) := if a1_0 = 0 then (some (a1_1 == 0)) else (if a1_0 = 1 then (if a1_1 ≥ 0 then (if a1_1 < (l0_0.length : Int) then (if 0 ≤ a1_1 then (some ((rdOf ByteArray.empty l0_0 a1_1).toList != ([] : List UInt8))) else (none)) else (some false)) else (some false)) else (if a1_0 = 2 then (if a1_1 ≥ 0 then (if a1_1 < (l0_1.length : Int) then (if 0 ≤ a1_1 then (some ((rdOf ByteArray.empty l0_1 a1_1).toList != ([] : List UInt8))) else (none)) else (some false)) else (some false)) else (some false)))
theorem spec_l12Leads_ne (l : List UInt8) : (Ending.returned (.bool (!l.isEmpty))) = .returned (.bool (l != [])) := by cases l <;> rfl
set_option maxHeartbeats 8000000 in
set_option maxRecDepth 100000 in
theorem spec_l12Leads.calls (A0_0 : Option Addr) (c0_0 : Nat) (l0_0 : List ByteArray) (A0_1 : Option Addr) (c0_1 : Nat) (l0_1 : List ByteArray) (A0_2 : Option Addr) (c0_2 : Nat) (l0_2 : List (S90)) (a0_3 : Int) (a1_0 : Int) (a1_1 : Int) (a1_2 : Int) (r : Bool) (w : World) (hr0_0 : Kd.C Kd.string w A0_0 l0_0.length l0_0) (hc0_0 : l0_0.length ≤ c0_0) (hr0_1 : Kd.C Kd.string w A0_1 l0_1.length l0_1) (hc0_1 : l0_1.length ≤ c0_1) (hr0_2 : Kd.C k90 w A0_2 l0_2.length l0_2) (hc0_2 : l0_2.length ≤ c0_2) (h : spec_l12Leads.f l0_0 l0_1 l0_2 a0_3 a1_0 a1_1 a1_2 = some r) :
  Calls Try.prog 101 #[.agg #[.slice A0_0 l0_0.length c0_0, .slice A0_1 l0_1.length c0_1, .slice A0_2 l0_2.length c0_2, .int .i64 a0_3], .agg #[.int .i64 a1_0, .int .i64 a1_1, .int .i64 a1_2]] w fun e w' => e = .returned (.bool r) ∧ Below w.heap.size w w' := by
 have hu30 := Try.underlying30
 have hu97 := Try.underlying97
 have HR0_0 := Sq.l hr0_0
 have HC0_0 := Sq.l hc0_0
 clear hr0_0 hc0_0
 have HR0_1 := Sq.l hr0_1
 have HC0_1 := Sq.l hc0_1
 clear hr0_1 hc0_1
 have HR0_2 := Sq.l hr0_2
 have HC0_2 := Sq.l hc0_2
 clear hr0_2 hc0_2
 have HB := Sq.l (Below.refl w.heap.size w)
 have H : (if a1_0 = 0 then (some (a1_1 == 0)) else (if a1_0 = 1 then (if a1_1 ≥ 0 then (if a1_1 < (l0_0.length : Int) then (if 0 ≤ a1_1 then (some ((rdOf ByteArray.empty l0_0 a1_1).toList != ([] : List UInt8))) else (none)) else (some false)) else (some false)) else (if a1_0 = 2 then (if a1_1 ≥ 0 then (if a1_1 < (l0_1.length : Int) then (if 0 ≤ a1_1 then (some ((rdOf ByteArray.empty l0_1 a1_1).toList != ([] : List UInt8))) else (none)) else (some false)) else (some false)) else (some false)))) = some r := h
 clear h
 by_cases c3 : a1_0 = 0
 ·rw [if_pos c3] at H
  have c3b0 : (a1_0 == 0) = true := beq_iff_eq.mpr c3
  have c3b1 : (a1_0 != 0) = false := bne_eq_false_iff_eq.mpr c3
  clear c3
  obtain rfl := Option.some.inj H
  go_enter Try.func101, Try.ntmps101
  go_wp2_with (first | ((with_reducible refine gate_dst (N := 2) rfl ?_); (try (refine gate_guard (by rfl) ?_; dsimp only)); refine box_event ?hg (N := 2) ?hd (cs := #[.slice A0_0 l0_0.length c0_0, .slice A0_1 l0_1.length c0_1, .slice A0_2 l0_2.length c0_2, .int .i64 a0_3]) (t := 30) ?hr ?_; (case hd => rfl); (case hg => rfl); (case hr => first | (go_simp; done) | (go_simp; rfl)); intro gb118 hg w4 hbox hb; have n0_ := Sq.l (Sq.a4 (by repeat (first | (with_reducible first | exact HB.out | apply Sq.i | apply Sq.j | apply Sq.k) | exact HB.out)) hb); have n1_ := Sq.l (hbox); have n2_ := Sq.l ((by rw [hg]; exact (Sq.a5 (by repeat (first | (with_reducible first | exact HB.out | apply Sq.i | apply Sq.j | apply Sq.k) | exact HB.out))) : w.heap.size ≤ gb118)); have n3_ := Sq.l ((by rw [hg]; exact (Sq.a5 (by repeat (first | (with_reducible first | exact HB.out | apply Sq.i | apply Sq.j | apply Sq.k) | exact HB.out))) : w.heap.size ≤ gb118)); clear HB; have HB := n0_; have BK118 := n1_; have GW118 := n2_; have GE118 := n3_; clear n0_ n1_ n2_ n3_; clear hb hbox hg) | ((with_reducible refine gate_dst (N := 3) rfl ?_); (try (refine gate_guard (by rfl) ?_; dsimp only)); refine box_event ?hg (N := 3) ?hd (cs := #[.int .i64 a1_0, .int .i64 a1_1, .int .i64 a1_2]) (t := 97) ?hr ?_; (case hd => rfl); (case hg => rfl); (case hr => first | (go_simp; done) | (go_simp; rfl)); intro gb119 hg w5 hbox hb; have n0_ := Sq.l (Sq.m (g := gb118) (o := .cells #[.slice A0_0 l0_0.length c0_0, .slice A0_1 l0_1.length c0_1, .slice A0_2 l0_2.length c0_2, .int .i64 a0_3] 30 (0, 0)) (by (with_reducible repeat (first | refine Sq.d ?_ _ | refine Sq.e ?_ | refine Sq.f ?_ _)); exact BK118.out) hb); have n1_ := Sq.l (Sq.a4 (by repeat (first | (with_reducible first | exact HB.out | apply Sq.i | apply Sq.j | apply Sq.k | refine Sq.h ?_ GE118.out) | exact HB.out)) hb); have n2_ := Sq.l (hbox); have n3_ := Sq.l ((by rw [hg]; exact (Sq.a5 (by repeat (first | (with_reducible first | exact HB.out | apply Sq.i | apply Sq.j | apply Sq.k | refine Sq.h ?_ GE118.out) | exact HB.out))) : w.heap.size ≤ gb119)); have n4_ := Sq.l ((by rw [hg]; exact (Sq.a5 (by repeat (first | (with_reducible first | exact HB.out | apply Sq.i | apply Sq.j | apply Sq.k | refine Sq.h ?_ GE118.out) | exact HB.out))) : w.heap.size ≤ gb119)); have n5_ := Sq.l ((by rw [hg]; exact Nat.ne_of_lt (blk_lt (g := gb118) (o := .cells #[.slice A0_0 l0_0.length c0_0, .slice A0_1 l0_1.length c0_1, .slice A0_2 l0_2.length c0_2, .int .i64 a0_3] 30 (0, 0)) (by (with_reducible repeat (first | refine Sq.d ?_ _ | refine Sq.e ?_ | refine Sq.f ?_ _)); exact BK118.out)) : gb118 ≠ gb119)); have n6_ := Sq.l ((by rw [hg]; exact Nat.ne_of_gt (blk_lt (g := gb118) (o := .cells #[.slice A0_0 l0_0.length c0_0, .slice A0_1 l0_1.length c0_1, .slice A0_2 l0_2.length c0_2, .int .i64 a0_3] 30 (0, 0)) (by (with_reducible repeat (first | refine Sq.d ?_ _ | refine Sq.e ?_ | refine Sq.f ?_ _)); exact BK118.out)) : gb119 ≠ gb118)); clear BK118; clear HB; have BK118 := n0_; have HB := n1_; have BK119 := n2_; have GW119 := n3_; have GE119 := n4_; have NB118_119 := n5_; have NB119_118 := n6_; clear n0_ n1_ n2_ n3_ n4_ n5_ n6_; clear hb hbox hg; have hnb6 := NB119_118.out; have hnc6 := NB118_119.out; have hcz7_0 : w5.cell? ⟨gb119, 0, none⟩ = some (.int .i64 a1_0) := (Sq.o BK119.out 0).trans rfl; have hcz7_1 : w5.cell? ⟨gb119, 1, none⟩ = some (.int .i64 a1_1) := (Sq.o BK119.out 1).trans rfl; have hcz7_2 : w5.cell? ⟨gb119, 2, none⟩ = some (.int .i64 a1_2) := (Sq.o BK119.out 2).trans rfl; have hfz7_0 := Sq.r BK119.out 0; have hfz7_1 := Sq.r BK119.out 1; have hfz7_2 := Sq.r BK119.out 2))
  go_ret
  exact ⟨by first | rfl | exact spec_l12Leads_ne _ | (simp [errW_none, errW_some] <;> rfl) | (simp [*, errW_none, errW_some] <;> rfl), by repeat (first | (with_reducible first | exact HB.out | apply Sq.i | apply Sq.j | apply Sq.k | refine Sq.h ?_ GE118.out | refine Sq.h ?_ GE119.out) | exact HB.out)⟩
 ·rw [if_neg c3] at H
  have c3b0 : (a1_0 == 0) = false := beq_eq_false_iff_ne.mpr c3
  have c3b1 : (a1_0 != 0) = true := bne_iff_ne.mpr c3
  by_cases c8 : a1_0 = 1
  ·rw [if_pos c8] at H
   have c8b0 : (a1_0 == 1) = true := beq_iff_eq.mpr c8
   have c8b1 : (a1_0 != 1) = false := bne_eq_false_iff_eq.mpr c8
   clear c8
   by_cases c9 : a1_1 ≥ 0
   ·rw [if_pos c9] at H
    have c9b0 : decide (0 ≤ a1_1) = true := decide_eq_true c9
    clear c9
    by_cases c10 : a1_1 < (l0_0.length : Int)
    ·rw [if_pos c10] at H
     have c10b0 : decide (a1_1 < (l0_0.length : Int)) = true := decide_eq_true c10
     clear c10
     by_cases c11 : 0 ≤ a1_1
     ·rw [if_pos c11] at H
      have c11b0 : decide (0 ≤ a1_1) = true := decide_eq_true c11
      clear c11
      obtain rfl := Option.some.inj H
      go_enter Try.func101, Try.ntmps101
      go_wp2_with (first | ((with_reducible refine gate_dst (N := 2) rfl ?_); (try (refine gate_guard (by rfl) ?_; dsimp only)); refine box_event ?hg (N := 2) ?hd (cs := #[.slice A0_0 l0_0.length c0_0, .slice A0_1 l0_1.length c0_1, .slice A0_2 l0_2.length c0_2, .int .i64 a0_3]) (t := 30) ?hr ?_; (case hd => rfl); (case hg => rfl); (case hr => first | (go_simp; done) | (go_simp; rfl)); intro gb118 hg w12 hbox hb; have n0_ := Sq.l (Sq.a4 (by repeat (first | (with_reducible first | exact HB.out | apply Sq.i | apply Sq.j | apply Sq.k) | exact HB.out)) hb); have n1_ := Sq.l (hbox); have n2_ := Sq.l ((by rw [hg]; exact (Sq.a5 (by repeat (first | (with_reducible first | exact HB.out | apply Sq.i | apply Sq.j | apply Sq.k) | exact HB.out))) : w.heap.size ≤ gb118)); have n3_ := Sq.l ((by rw [hg]; exact (Sq.a5 (by repeat (first | (with_reducible first | exact HB.out | apply Sq.i | apply Sq.j | apply Sq.k) | exact HB.out))) : w.heap.size ≤ gb118)); clear HB; have HB := n0_; have BK118 := n1_; have GW118 := n2_; have GE118 := n3_; clear n0_ n1_ n2_ n3_; clear hb hbox hg) | ((with_reducible refine gate_dst (N := 3) rfl ?_); (try (refine gate_guard (by rfl) ?_; dsimp only)); refine box_event ?hg (N := 3) ?hd (cs := #[.int .i64 a1_0, .int .i64 a1_1, .int .i64 a1_2]) (t := 97) ?hr ?_; (case hd => rfl); (case hg => rfl); (case hr => first | (go_simp; done) | (go_simp; rfl)); intro gb119 hg w13 hbox hb; have n0_ := Sq.l (Sq.m (g := gb118) (o := .cells #[.slice A0_0 l0_0.length c0_0, .slice A0_1 l0_1.length c0_1, .slice A0_2 l0_2.length c0_2, .int .i64 a0_3] 30 (0, 0)) (by (with_reducible repeat (first | refine Sq.d ?_ _ | refine Sq.e ?_ | refine Sq.f ?_ _)); exact BK118.out) hb); have n1_ := Sq.l (Sq.a4 (by repeat (first | (with_reducible first | exact HB.out | apply Sq.i | apply Sq.j | apply Sq.k | refine Sq.h ?_ GE118.out) | exact HB.out)) hb); have n2_ := Sq.l (hbox); have n3_ := Sq.l ((by rw [hg]; exact (Sq.a5 (by repeat (first | (with_reducible first | exact HB.out | apply Sq.i | apply Sq.j | apply Sq.k | refine Sq.h ?_ GE118.out) | exact HB.out))) : w.heap.size ≤ gb119)); have n4_ := Sq.l ((by rw [hg]; exact (Sq.a5 (by repeat (first | (with_reducible first | exact HB.out | apply Sq.i | apply Sq.j | apply Sq.k | refine Sq.h ?_ GE118.out) | exact HB.out))) : w.heap.size ≤ gb119)); have n5_ := Sq.l ((by rw [hg]; exact Nat.ne_of_lt (blk_lt (g := gb118) (o := .cells #[.slice A0_0 l0_0.length c0_0, .slice A0_1 l0_1.length c0_1, .slice A0_2 l0_2.length c0_2, .int .i64 a0_3] 30 (0, 0)) (by (with_reducible repeat (first | refine Sq.d ?_ _ | refine Sq.e ?_ | refine Sq.f ?_ _)); exact BK118.out)) : gb118 ≠ gb119)); have n6_ := Sq.l ((by rw [hg]; exact Nat.ne_of_gt (blk_lt (g := gb118) (o := .cells #[.slice A0_0 l0_0.length c0_0, .slice A0_1 l0_1.length c0_1, .slice A0_2 l0_2.length c0_2, .int .i64 a0_3] 30 (0, 0)) (by (with_reducible repeat (first | refine Sq.d ?_ _ | refine Sq.e ?_ | refine Sq.f ?_ _)); exact BK118.out)) : gb119 ≠ gb118)); clear BK118; clear HB; have BK118 := n0_; have HB := n1_; have BK119 := n2_; have GW119 := n3_; have GE119 := n4_; have NB118_119 := n5_; have NB119_118 := n6_; clear n0_ n1_ n2_ n3_ n4_ n5_ n6_; clear hb hbox hg; have hnb14 := NB119_118.out; have hnc14 := NB118_119.out; have hcz15_0 : w13.cell? ⟨gb119, 0, none⟩ = some (.int .i64 a1_0) := (Sq.o BK119.out 0).trans rfl; have hcz15_1 : w13.cell? ⟨gb119, 1, none⟩ = some (.int .i64 a1_1) := (Sq.o BK119.out 1).trans rfl; have hcz15_2 : w13.cell? ⟨gb119, 2, none⟩ = some (.int .i64 a1_2) := (Sq.o BK119.out 2).trans rfl; have hfz15_0 := Sq.r BK119.out 0; have hfz15_1 := Sq.r BK119.out 1; have hfz15_2 := Sq.r BK119.out 2; have hcz16_0 : w13.cell? ⟨gb118, 0, none⟩ = some (.slice A0_0 l0_0.length c0_0) := (Sq.o BK118.out 0).trans rfl; have hcz16_1 : w13.cell? ⟨gb118, 1, none⟩ = some (.slice A0_1 l0_1.length c0_1) := (Sq.o BK118.out 1).trans rfl; have hcz16_2 : w13.cell? ⟨gb118, 2, none⟩ = some (.slice A0_2 l0_2.length c0_2) := (Sq.o BK118.out 2).trans rfl; have hcz16_3 : w13.cell? ⟨gb118, 3, none⟩ = some (.int .i64 a0_3) := (Sq.o BK118.out 3).trans rfl; have hfz16_0 := Sq.r BK118.out 0; have hfz16_1 := Sq.r BK118.out 1; have hfz16_2 := Sq.r BK118.out 2; have hfz16_3 := Sq.r BK118.out 3; have p120 : 0 ≤ (a1_1 : Int) := of_decide_eq_true (by first | (with_reducible assumption) | assumption); have q120 : a1_1 < (l0_0.length : Int) := of_decide_eq_true (by first | (with_reducible assumption) | assumption); obtain ⟨ad120, e120, hx120_0⟩ := Kd.at_string HR0_0.out a1_1 p120 q120; cases e120; replace hx120_0 := (HB.out.cell (World.block_lt_of_cell? w _ hx120_0)).trans hx120_0; replace p120 := eq_true p120; replace q120 := eq_true q120))
      go_ret
      exact ⟨by first | rfl | exact spec_l12Leads_ne _ | (simp [errW_none, errW_some] <;> rfl) | (simp [*, errW_none, errW_some] <;> rfl), by repeat (first | (with_reducible first | exact HB.out | apply Sq.i | apply Sq.j | apply Sq.k | refine Sq.h ?_ GE118.out | refine Sq.h ?_ GE119.out) | exact HB.out)⟩
     ·rw [if_neg c11] at H
      exact absurd H (by simp)
    ·rw [if_neg c10] at H
     have c10b0 : decide (a1_1 < (l0_0.length : Int)) = false := decide_eq_false c10
     clear c10
     obtain rfl := Option.some.inj H
     go_enter Try.func101, Try.ntmps101
     go_wp2_with (first | ((with_reducible refine gate_dst (N := 2) rfl ?_); (try (refine gate_guard (by rfl) ?_; dsimp only)); refine box_event ?hg (N := 2) ?hd (cs := #[.slice A0_0 l0_0.length c0_0, .slice A0_1 l0_1.length c0_1, .slice A0_2 l0_2.length c0_2, .int .i64 a0_3]) (t := 30) ?hr ?_; (case hd => rfl); (case hg => rfl); (case hr => first | (go_simp; done) | (go_simp; rfl)); intro gb118 hg w17 hbox hb; have n0_ := Sq.l (Sq.a4 (by repeat (first | (with_reducible first | exact HB.out | apply Sq.i | apply Sq.j | apply Sq.k) | exact HB.out)) hb); have n1_ := Sq.l (hbox); have n2_ := Sq.l ((by rw [hg]; exact (Sq.a5 (by repeat (first | (with_reducible first | exact HB.out | apply Sq.i | apply Sq.j | apply Sq.k) | exact HB.out))) : w.heap.size ≤ gb118)); have n3_ := Sq.l ((by rw [hg]; exact (Sq.a5 (by repeat (first | (with_reducible first | exact HB.out | apply Sq.i | apply Sq.j | apply Sq.k) | exact HB.out))) : w.heap.size ≤ gb118)); clear HB; have HB := n0_; have BK118 := n1_; have GW118 := n2_; have GE118 := n3_; clear n0_ n1_ n2_ n3_; clear hb hbox hg) | ((with_reducible refine gate_dst (N := 3) rfl ?_); (try (refine gate_guard (by rfl) ?_; dsimp only)); refine box_event ?hg (N := 3) ?hd (cs := #[.int .i64 a1_0, .int .i64 a1_1, .int .i64 a1_2]) (t := 97) ?hr ?_; (case hd => rfl); (case hg => rfl); (case hr => first | (go_simp; done) | (go_simp; rfl)); intro gb119 hg w18 hbox hb; have n0_ := Sq.l (Sq.m (g := gb118) (o := .cells #[.slice A0_0 l0_0.length c0_0, .slice A0_1 l0_1.length c0_1, .slice A0_2 l0_2.length c0_2, .int .i64 a0_3] 30 (0, 0)) (by (with_reducible repeat (first | refine Sq.d ?_ _ | refine Sq.e ?_ | refine Sq.f ?_ _)); exact BK118.out) hb); have n1_ := Sq.l (Sq.a4 (by repeat (first | (with_reducible first | exact HB.out | apply Sq.i | apply Sq.j | apply Sq.k | refine Sq.h ?_ GE118.out) | exact HB.out)) hb); have n2_ := Sq.l (hbox); have n3_ := Sq.l ((by rw [hg]; exact (Sq.a5 (by repeat (first | (with_reducible first | exact HB.out | apply Sq.i | apply Sq.j | apply Sq.k | refine Sq.h ?_ GE118.out) | exact HB.out))) : w.heap.size ≤ gb119)); have n4_ := Sq.l ((by rw [hg]; exact (Sq.a5 (by repeat (first | (with_reducible first | exact HB.out | apply Sq.i | apply Sq.j | apply Sq.k | refine Sq.h ?_ GE118.out) | exact HB.out))) : w.heap.size ≤ gb119)); have n5_ := Sq.l ((by rw [hg]; exact Nat.ne_of_lt (blk_lt (g := gb118) (o := .cells #[.slice A0_0 l0_0.length c0_0, .slice A0_1 l0_1.length c0_1, .slice A0_2 l0_2.length c0_2, .int .i64 a0_3] 30 (0, 0)) (by (with_reducible repeat (first | refine Sq.d ?_ _ | refine Sq.e ?_ | refine Sq.f ?_ _)); exact BK118.out)) : gb118 ≠ gb119)); have n6_ := Sq.l ((by rw [hg]; exact Nat.ne_of_gt (blk_lt (g := gb118) (o := .cells #[.slice A0_0 l0_0.length c0_0, .slice A0_1 l0_1.length c0_1, .slice A0_2 l0_2.length c0_2, .int .i64 a0_3] 30 (0, 0)) (by (with_reducible repeat (first | refine Sq.d ?_ _ | refine Sq.e ?_ | refine Sq.f ?_ _)); exact BK118.out)) : gb119 ≠ gb118)); clear BK118; clear HB; have BK118 := n0_; have HB := n1_; have BK119 := n2_; have GW119 := n3_; have GE119 := n4_; have NB118_119 := n5_; have NB119_118 := n6_; clear n0_ n1_ n2_ n3_ n4_ n5_ n6_; clear hb hbox hg; have hnb19 := NB119_118.out; have hnc19 := NB118_119.out; have hcz20_0 : w18.cell? ⟨gb119, 0, none⟩ = some (.int .i64 a1_0) := (Sq.o BK119.out 0).trans rfl; have hcz20_1 : w18.cell? ⟨gb119, 1, none⟩ = some (.int .i64 a1_1) := (Sq.o BK119.out 1).trans rfl; have hcz20_2 : w18.cell? ⟨gb119, 2, none⟩ = some (.int .i64 a1_2) := (Sq.o BK119.out 2).trans rfl; have hfz20_0 := Sq.r BK119.out 0; have hfz20_1 := Sq.r BK119.out 1; have hfz20_2 := Sq.r BK119.out 2; have hcz21_0 : w18.cell? ⟨gb118, 0, none⟩ = some (.slice A0_0 l0_0.length c0_0) := (Sq.o BK118.out 0).trans rfl; have hcz21_1 : w18.cell? ⟨gb118, 1, none⟩ = some (.slice A0_1 l0_1.length c0_1) := (Sq.o BK118.out 1).trans rfl; have hcz21_2 : w18.cell? ⟨gb118, 2, none⟩ = some (.slice A0_2 l0_2.length c0_2) := (Sq.o BK118.out 2).trans rfl; have hcz21_3 : w18.cell? ⟨gb118, 3, none⟩ = some (.int .i64 a0_3) := (Sq.o BK118.out 3).trans rfl; have hfz21_0 := Sq.r BK118.out 0; have hfz21_1 := Sq.r BK118.out 1; have hfz21_2 := Sq.r BK118.out 2; have hfz21_3 := Sq.r BK118.out 3))
     go_ret
     exact ⟨by first | rfl | exact spec_l12Leads_ne _ | (simp [errW_none, errW_some] <;> rfl) | (simp [*, errW_none, errW_some] <;> rfl), by repeat (first | (with_reducible first | exact HB.out | apply Sq.i | apply Sq.j | apply Sq.k | refine Sq.h ?_ GE118.out | refine Sq.h ?_ GE119.out) | exact HB.out)⟩
   ·rw [if_neg c9] at H
    have c9b0 : decide (0 ≤ a1_1) = false := decide_eq_false c9
    clear c9
    obtain rfl := Option.some.inj H
    go_enter Try.func101, Try.ntmps101
    go_wp2_with (first | ((with_reducible refine gate_dst (N := 2) rfl ?_); (try (refine gate_guard (by rfl) ?_; dsimp only)); refine box_event ?hg (N := 2) ?hd (cs := #[.slice A0_0 l0_0.length c0_0, .slice A0_1 l0_1.length c0_1, .slice A0_2 l0_2.length c0_2, .int .i64 a0_3]) (t := 30) ?hr ?_; (case hd => rfl); (case hg => rfl); (case hr => first | (go_simp; done) | (go_simp; rfl)); intro gb118 hg w22 hbox hb; have n0_ := Sq.l (Sq.a4 (by repeat (first | (with_reducible first | exact HB.out | apply Sq.i | apply Sq.j | apply Sq.k) | exact HB.out)) hb); have n1_ := Sq.l (hbox); have n2_ := Sq.l ((by rw [hg]; exact (Sq.a5 (by repeat (first | (with_reducible first | exact HB.out | apply Sq.i | apply Sq.j | apply Sq.k) | exact HB.out))) : w.heap.size ≤ gb118)); have n3_ := Sq.l ((by rw [hg]; exact (Sq.a5 (by repeat (first | (with_reducible first | exact HB.out | apply Sq.i | apply Sq.j | apply Sq.k) | exact HB.out))) : w.heap.size ≤ gb118)); clear HB; have HB := n0_; have BK118 := n1_; have GW118 := n2_; have GE118 := n3_; clear n0_ n1_ n2_ n3_; clear hb hbox hg) | ((with_reducible refine gate_dst (N := 3) rfl ?_); (try (refine gate_guard (by rfl) ?_; dsimp only)); refine box_event ?hg (N := 3) ?hd (cs := #[.int .i64 a1_0, .int .i64 a1_1, .int .i64 a1_2]) (t := 97) ?hr ?_; (case hd => rfl); (case hg => rfl); (case hr => first | (go_simp; done) | (go_simp; rfl)); intro gb119 hg w23 hbox hb; have n0_ := Sq.l (Sq.m (g := gb118) (o := .cells #[.slice A0_0 l0_0.length c0_0, .slice A0_1 l0_1.length c0_1, .slice A0_2 l0_2.length c0_2, .int .i64 a0_3] 30 (0, 0)) (by (with_reducible repeat (first | refine Sq.d ?_ _ | refine Sq.e ?_ | refine Sq.f ?_ _)); exact BK118.out) hb); have n1_ := Sq.l (Sq.a4 (by repeat (first | (with_reducible first | exact HB.out | apply Sq.i | apply Sq.j | apply Sq.k | refine Sq.h ?_ GE118.out) | exact HB.out)) hb); have n2_ := Sq.l (hbox); have n3_ := Sq.l ((by rw [hg]; exact (Sq.a5 (by repeat (first | (with_reducible first | exact HB.out | apply Sq.i | apply Sq.j | apply Sq.k | refine Sq.h ?_ GE118.out) | exact HB.out))) : w.heap.size ≤ gb119)); have n4_ := Sq.l ((by rw [hg]; exact (Sq.a5 (by repeat (first | (with_reducible first | exact HB.out | apply Sq.i | apply Sq.j | apply Sq.k | refine Sq.h ?_ GE118.out) | exact HB.out))) : w.heap.size ≤ gb119)); have n5_ := Sq.l ((by rw [hg]; exact Nat.ne_of_lt (blk_lt (g := gb118) (o := .cells #[.slice A0_0 l0_0.length c0_0, .slice A0_1 l0_1.length c0_1, .slice A0_2 l0_2.length c0_2, .int .i64 a0_3] 30 (0, 0)) (by (with_reducible repeat (first | refine Sq.d ?_ _ | refine Sq.e ?_ | refine Sq.f ?_ _)); exact BK118.out)) : gb118 ≠ gb119)); have n6_ := Sq.l ((by rw [hg]; exact Nat.ne_of_gt (blk_lt (g := gb118) (o := .cells #[.slice A0_0 l0_0.length c0_0, .slice A0_1 l0_1.length c0_1, .slice A0_2 l0_2.length c0_2, .int .i64 a0_3] 30 (0, 0)) (by (with_reducible repeat (first | refine Sq.d ?_ _ | refine Sq.e ?_ | refine Sq.f ?_ _)); exact BK118.out)) : gb119 ≠ gb118)); clear BK118; clear HB; have BK118 := n0_; have HB := n1_; have BK119 := n2_; have GW119 := n3_; have GE119 := n4_; have NB118_119 := n5_; have NB119_118 := n6_; clear n0_ n1_ n2_ n3_ n4_ n5_ n6_; clear hb hbox hg; have hnb24 := NB119_118.out; have hnc24 := NB118_119.out; have hcz25_0 : w23.cell? ⟨gb119, 0, none⟩ = some (.int .i64 a1_0) := (Sq.o BK119.out 0).trans rfl; have hcz25_1 : w23.cell? ⟨gb119, 1, none⟩ = some (.int .i64 a1_1) := (Sq.o BK119.out 1).trans rfl; have hcz25_2 : w23.cell? ⟨gb119, 2, none⟩ = some (.int .i64 a1_2) := (Sq.o BK119.out 2).trans rfl; have hfz25_0 := Sq.r BK119.out 0; have hfz25_1 := Sq.r BK119.out 1; have hfz25_2 := Sq.r BK119.out 2))
    go_ret
    exact ⟨by first | rfl | exact spec_l12Leads_ne _ | (simp [errW_none, errW_some] <;> rfl) | (simp [*, errW_none, errW_some] <;> rfl), by repeat (first | (with_reducible first | exact HB.out | apply Sq.i | apply Sq.j | apply Sq.k | refine Sq.h ?_ GE118.out | refine Sq.h ?_ GE119.out) | exact HB.out)⟩
  ·rw [if_neg c8] at H
   have c8b0 : (a1_0 == 1) = false := beq_eq_false_iff_ne.mpr c8
   have c8b1 : (a1_0 != 1) = true := bne_iff_ne.mpr c8
   by_cases c26 : a1_0 = 2
   ·rw [if_pos c26] at H
    have c26b0 : (a1_0 == 2) = true := beq_iff_eq.mpr c26
    have c26b1 : (a1_0 != 2) = false := bne_eq_false_iff_eq.mpr c26
    clear c26
    by_cases c27 : a1_1 ≥ 0
    ·rw [if_pos c27] at H
     have c27b0 : decide (0 ≤ a1_1) = true := decide_eq_true c27
     clear c27
     by_cases c28 : a1_1 < (l0_1.length : Int)
     ·rw [if_pos c28] at H
      have c28b0 : decide (a1_1 < (l0_1.length : Int)) = true := decide_eq_true c28
      clear c28
      by_cases c29 : 0 ≤ a1_1
      ·rw [if_pos c29] at H
       have c29b0 : decide (0 ≤ a1_1) = true := decide_eq_true c29
       clear c29
       obtain rfl := Option.some.inj H
       go_enter Try.func101, Try.ntmps101
       go_wp2_with (first | ((with_reducible refine gate_dst (N := 2) rfl ?_); (try (refine gate_guard (by rfl) ?_; dsimp only)); refine box_event ?hg (N := 2) ?hd (cs := #[.slice A0_0 l0_0.length c0_0, .slice A0_1 l0_1.length c0_1, .slice A0_2 l0_2.length c0_2, .int .i64 a0_3]) (t := 30) ?hr ?_; (case hd => rfl); (case hg => rfl); (case hr => first | (go_simp; done) | (go_simp; rfl)); intro gb118 hg w30 hbox hb; have n0_ := Sq.l (Sq.a4 (by repeat (first | (with_reducible first | exact HB.out | apply Sq.i | apply Sq.j | apply Sq.k) | exact HB.out)) hb); have n1_ := Sq.l (hbox); have n2_ := Sq.l ((by rw [hg]; exact (Sq.a5 (by repeat (first | (with_reducible first | exact HB.out | apply Sq.i | apply Sq.j | apply Sq.k) | exact HB.out))) : w.heap.size ≤ gb118)); have n3_ := Sq.l ((by rw [hg]; exact (Sq.a5 (by repeat (first | (with_reducible first | exact HB.out | apply Sq.i | apply Sq.j | apply Sq.k) | exact HB.out))) : w.heap.size ≤ gb118)); clear HB; have HB := n0_; have BK118 := n1_; have GW118 := n2_; have GE118 := n3_; clear n0_ n1_ n2_ n3_; clear hb hbox hg) | ((with_reducible refine gate_dst (N := 3) rfl ?_); (try (refine gate_guard (by rfl) ?_; dsimp only)); refine box_event ?hg (N := 3) ?hd (cs := #[.int .i64 a1_0, .int .i64 a1_1, .int .i64 a1_2]) (t := 97) ?hr ?_; (case hd => rfl); (case hg => rfl); (case hr => first | (go_simp; done) | (go_simp; rfl)); intro gb119 hg w31 hbox hb; have n0_ := Sq.l (Sq.m (g := gb118) (o := .cells #[.slice A0_0 l0_0.length c0_0, .slice A0_1 l0_1.length c0_1, .slice A0_2 l0_2.length c0_2, .int .i64 a0_3] 30 (0, 0)) (by (with_reducible repeat (first | refine Sq.d ?_ _ | refine Sq.e ?_ | refine Sq.f ?_ _)); exact BK118.out) hb); have n1_ := Sq.l (Sq.a4 (by repeat (first | (with_reducible first | exact HB.out | apply Sq.i | apply Sq.j | apply Sq.k | refine Sq.h ?_ GE118.out) | exact HB.out)) hb); have n2_ := Sq.l (hbox); have n3_ := Sq.l ((by rw [hg]; exact (Sq.a5 (by repeat (first | (with_reducible first | exact HB.out | apply Sq.i | apply Sq.j | apply Sq.k | refine Sq.h ?_ GE118.out) | exact HB.out))) : w.heap.size ≤ gb119)); have n4_ := Sq.l ((by rw [hg]; exact (Sq.a5 (by repeat (first | (with_reducible first | exact HB.out | apply Sq.i | apply Sq.j | apply Sq.k | refine Sq.h ?_ GE118.out) | exact HB.out))) : w.heap.size ≤ gb119)); have n5_ := Sq.l ((by rw [hg]; exact Nat.ne_of_lt (blk_lt (g := gb118) (o := .cells #[.slice A0_0 l0_0.length c0_0, .slice A0_1 l0_1.length c0_1, .slice A0_2 l0_2.length c0_2, .int .i64 a0_3] 30 (0, 0)) (by (with_reducible repeat (first | refine Sq.d ?_ _ | refine Sq.e ?_ | refine Sq.f ?_ _)); exact BK118.out)) : gb118 ≠ gb119)); have n6_ := Sq.l ((by rw [hg]; exact Nat.ne_of_gt (blk_lt (g := gb118) (o := .cells #[.slice A0_0 l0_0.length c0_0, .slice A0_1 l0_1.length c0_1, .slice A0_2 l0_2.length c0_2, .int .i64 a0_3] 30 (0, 0)) (by (with_reducible repeat (first | refine Sq.d ?_ _ | refine Sq.e ?_ | refine Sq.f ?_ _)); exact BK118.out)) : gb119 ≠ gb118)); clear BK118; clear HB; have BK118 := n0_; have HB := n1_; have BK119 := n2_; have GW119 := n3_; have GE119 := n4_; have NB118_119 := n5_; have NB119_118 := n6_; clear n0_ n1_ n2_ n3_ n4_ n5_ n6_; clear hb hbox hg; have hnb32 := NB119_118.out; have hnc32 := NB118_119.out; have hcz33_0 : w31.cell? ⟨gb119, 0, none⟩ = some (.int .i64 a1_0) := (Sq.o BK119.out 0).trans rfl; have hcz33_1 : w31.cell? ⟨gb119, 1, none⟩ = some (.int .i64 a1_1) := (Sq.o BK119.out 1).trans rfl; have hcz33_2 : w31.cell? ⟨gb119, 2, none⟩ = some (.int .i64 a1_2) := (Sq.o BK119.out 2).trans rfl; have hfz33_0 := Sq.r BK119.out 0; have hfz33_1 := Sq.r BK119.out 1; have hfz33_2 := Sq.r BK119.out 2; have hcz34_0 : w31.cell? ⟨gb118, 0, none⟩ = some (.slice A0_0 l0_0.length c0_0) := (Sq.o BK118.out 0).trans rfl; have hcz34_1 : w31.cell? ⟨gb118, 1, none⟩ = some (.slice A0_1 l0_1.length c0_1) := (Sq.o BK118.out 1).trans rfl; have hcz34_2 : w31.cell? ⟨gb118, 2, none⟩ = some (.slice A0_2 l0_2.length c0_2) := (Sq.o BK118.out 2).trans rfl; have hcz34_3 : w31.cell? ⟨gb118, 3, none⟩ = some (.int .i64 a0_3) := (Sq.o BK118.out 3).trans rfl; have hfz34_0 := Sq.r BK118.out 0; have hfz34_1 := Sq.r BK118.out 1; have hfz34_2 := Sq.r BK118.out 2; have hfz34_3 := Sq.r BK118.out 3; have p121 : 0 ≤ (a1_1 : Int) := of_decide_eq_true (by first | (with_reducible assumption) | assumption); have q121 : a1_1 < (l0_1.length : Int) := of_decide_eq_true (by first | (with_reducible assumption) | assumption); obtain ⟨ad121, e121, hx121_0⟩ := Kd.at_string HR0_1.out a1_1 p121 q121; cases e121; replace hx121_0 := (HB.out.cell (World.block_lt_of_cell? w _ hx121_0)).trans hx121_0; replace p121 := eq_true p121; replace q121 := eq_true q121))
       go_ret
       exact ⟨by first | rfl | exact spec_l12Leads_ne _ | (simp [errW_none, errW_some] <;> rfl) | (simp [*, errW_none, errW_some] <;> rfl), by repeat (first | (with_reducible first | exact HB.out | apply Sq.i | apply Sq.j | apply Sq.k | refine Sq.h ?_ GE118.out | refine Sq.h ?_ GE119.out) | exact HB.out)⟩
      ·rw [if_neg c29] at H
       exact absurd H (by simp)
     ·rw [if_neg c28] at H
      have c28b0 : decide (a1_1 < (l0_1.length : Int)) = false := decide_eq_false c28
      clear c28
      obtain rfl := Option.some.inj H
      go_enter Try.func101, Try.ntmps101
      go_wp2_with (first | ((with_reducible refine gate_dst (N := 2) rfl ?_); (try (refine gate_guard (by rfl) ?_; dsimp only)); refine box_event ?hg (N := 2) ?hd (cs := #[.slice A0_0 l0_0.length c0_0, .slice A0_1 l0_1.length c0_1, .slice A0_2 l0_2.length c0_2, .int .i64 a0_3]) (t := 30) ?hr ?_; (case hd => rfl); (case hg => rfl); (case hr => first | (go_simp; done) | (go_simp; rfl)); intro gb118 hg w35 hbox hb; have n0_ := Sq.l (Sq.a4 (by repeat (first | (with_reducible first | exact HB.out | apply Sq.i | apply Sq.j | apply Sq.k) | exact HB.out)) hb); have n1_ := Sq.l (hbox); have n2_ := Sq.l ((by rw [hg]; exact (Sq.a5 (by repeat (first | (with_reducible first | exact HB.out | apply Sq.i | apply Sq.j | apply Sq.k) | exact HB.out))) : w.heap.size ≤ gb118)); have n3_ := Sq.l ((by rw [hg]; exact (Sq.a5 (by repeat (first | (with_reducible first | exact HB.out | apply Sq.i | apply Sq.j | apply Sq.k) | exact HB.out))) : w.heap.size ≤ gb118)); clear HB; have HB := n0_; have BK118 := n1_; have GW118 := n2_; have GE118 := n3_; clear n0_ n1_ n2_ n3_; clear hb hbox hg) | ((with_reducible refine gate_dst (N := 3) rfl ?_); (try (refine gate_guard (by rfl) ?_; dsimp only)); refine box_event ?hg (N := 3) ?hd (cs := #[.int .i64 a1_0, .int .i64 a1_1, .int .i64 a1_2]) (t := 97) ?hr ?_; (case hd => rfl); (case hg => rfl); (case hr => first | (go_simp; done) | (go_simp; rfl)); intro gb119 hg w36 hbox hb; have n0_ := Sq.l (Sq.m (g := gb118) (o := .cells #[.slice A0_0 l0_0.length c0_0, .slice A0_1 l0_1.length c0_1, .slice A0_2 l0_2.length c0_2, .int .i64 a0_3] 30 (0, 0)) (by (with_reducible repeat (first | refine Sq.d ?_ _ | refine Sq.e ?_ | refine Sq.f ?_ _)); exact BK118.out) hb); have n1_ := Sq.l (Sq.a4 (by repeat (first | (with_reducible first | exact HB.out | apply Sq.i | apply Sq.j | apply Sq.k | refine Sq.h ?_ GE118.out) | exact HB.out)) hb); have n2_ := Sq.l (hbox); have n3_ := Sq.l ((by rw [hg]; exact (Sq.a5 (by repeat (first | (with_reducible first | exact HB.out | apply Sq.i | apply Sq.j | apply Sq.k | refine Sq.h ?_ GE118.out) | exact HB.out))) : w.heap.size ≤ gb119)); have n4_ := Sq.l ((by rw [hg]; exact (Sq.a5 (by repeat (first | (with_reducible first | exact HB.out | apply Sq.i | apply Sq.j | apply Sq.k | refine Sq.h ?_ GE118.out) | exact HB.out))) : w.heap.size ≤ gb119)); have n5_ := Sq.l ((by rw [hg]; exact Nat.ne_of_lt (blk_lt (g := gb118) (o := .cells #[.slice A0_0 l0_0.length c0_0, .slice A0_1 l0_1.length c0_1, .slice A0_2 l0_2.length c0_2, .int .i64 a0_3] 30 (0, 0)) (by (with_reducible repeat (first | refine Sq.d ?_ _ | refine Sq.e ?_ | refine Sq.f ?_ _)); exact BK118.out)) : gb118 ≠ gb119)); have n6_ := Sq.l ((by rw [hg]; exact Nat.ne_of_gt (blk_lt (g := gb118) (o := .cells #[.slice A0_0 l0_0.length c0_0, .slice A0_1 l0_1.length c0_1, .slice A0_2 l0_2.length c0_2, .int .i64 a0_3] 30 (0, 0)) (by (with_reducible repeat (first | refine Sq.d ?_ _ | refine Sq.e ?_ | refine Sq.f ?_ _)); exact BK118.out)) : gb119 ≠ gb118)); clear BK118; clear HB; have BK118 := n0_; have HB := n1_; have BK119 := n2_; have GW119 := n3_; have GE119 := n4_; have NB118_119 := n5_; have NB119_118 := n6_; clear n0_ n1_ n2_ n3_ n4_ n5_ n6_; clear hb hbox hg; have hnb37 := NB119_118.out; have hnc37 := NB118_119.out; have hcz38_0 : w36.cell? ⟨gb119, 0, none⟩ = some (.int .i64 a1_0) := (Sq.o BK119.out 0).trans rfl; have hcz38_1 : w36.cell? ⟨gb119, 1, none⟩ = some (.int .i64 a1_1) := (Sq.o BK119.out 1).trans rfl; have hcz38_2 : w36.cell? ⟨gb119, 2, none⟩ = some (.int .i64 a1_2) := (Sq.o BK119.out 2).trans rfl; have hfz38_0 := Sq.r BK119.out 0; have hfz38_1 := Sq.r BK119.out 1; have hfz38_2 := Sq.r BK119.out 2; have hcz39_0 : w36.cell? ⟨gb118, 0, none⟩ = some (.slice A0_0 l0_0.length c0_0) := (Sq.o BK118.out 0).trans rfl; have hcz39_1 : w36.cell? ⟨gb118, 1, none⟩ = some (.slice A0_1 l0_1.length c0_1) := (Sq.o BK118.out 1).trans rfl; have hcz39_2 : w36.cell? ⟨gb118, 2, none⟩ = some (.slice A0_2 l0_2.length c0_2) := (Sq.o BK118.out 2).trans rfl; have hcz39_3 : w36.cell? ⟨gb118, 3, none⟩ = some (.int .i64 a0_3) := (Sq.o BK118.out 3).trans rfl; have hfz39_0 := Sq.r BK118.out 0; have hfz39_1 := Sq.r BK118.out 1; have hfz39_2 := Sq.r BK118.out 2; have hfz39_3 := Sq.r BK118.out 3))
      go_ret
      exact ⟨by first | rfl | exact spec_l12Leads_ne _ | (simp [errW_none, errW_some] <;> rfl) | (simp [*, errW_none, errW_some] <;> rfl), by repeat (first | (with_reducible first | exact HB.out | apply Sq.i | apply Sq.j | apply Sq.k | refine Sq.h ?_ GE118.out | refine Sq.h ?_ GE119.out) | exact HB.out)⟩
    ·rw [if_neg c27] at H
     have c27b0 : decide (0 ≤ a1_1) = false := decide_eq_false c27
     clear c27
     obtain rfl := Option.some.inj H
     go_enter Try.func101, Try.ntmps101
     go_wp2_with (first | ((with_reducible refine gate_dst (N := 2) rfl ?_); (try (refine gate_guard (by rfl) ?_; dsimp only)); refine box_event ?hg (N := 2) ?hd (cs := #[.slice A0_0 l0_0.length c0_0, .slice A0_1 l0_1.length c0_1, .slice A0_2 l0_2.length c0_2, .int .i64 a0_3]) (t := 30) ?hr ?_; (case hd => rfl); (case hg => rfl); (case hr => first | (go_simp; done) | (go_simp; rfl)); intro gb118 hg w40 hbox hb; have n0_ := Sq.l (Sq.a4 (by repeat (first | (with_reducible first | exact HB.out | apply Sq.i | apply Sq.j | apply Sq.k) | exact HB.out)) hb); have n1_ := Sq.l (hbox); have n2_ := Sq.l ((by rw [hg]; exact (Sq.a5 (by repeat (first | (with_reducible first | exact HB.out | apply Sq.i | apply Sq.j | apply Sq.k) | exact HB.out))) : w.heap.size ≤ gb118)); have n3_ := Sq.l ((by rw [hg]; exact (Sq.a5 (by repeat (first | (with_reducible first | exact HB.out | apply Sq.i | apply Sq.j | apply Sq.k) | exact HB.out))) : w.heap.size ≤ gb118)); clear HB; have HB := n0_; have BK118 := n1_; have GW118 := n2_; have GE118 := n3_; clear n0_ n1_ n2_ n3_; clear hb hbox hg) | ((with_reducible refine gate_dst (N := 3) rfl ?_); (try (refine gate_guard (by rfl) ?_; dsimp only)); refine box_event ?hg (N := 3) ?hd (cs := #[.int .i64 a1_0, .int .i64 a1_1, .int .i64 a1_2]) (t := 97) ?hr ?_; (case hd => rfl); (case hg => rfl); (case hr => first | (go_simp; done) | (go_simp; rfl)); intro gb119 hg w41 hbox hb; have n0_ := Sq.l (Sq.m (g := gb118) (o := .cells #[.slice A0_0 l0_0.length c0_0, .slice A0_1 l0_1.length c0_1, .slice A0_2 l0_2.length c0_2, .int .i64 a0_3] 30 (0, 0)) (by (with_reducible repeat (first | refine Sq.d ?_ _ | refine Sq.e ?_ | refine Sq.f ?_ _)); exact BK118.out) hb); have n1_ := Sq.l (Sq.a4 (by repeat (first | (with_reducible first | exact HB.out | apply Sq.i | apply Sq.j | apply Sq.k | refine Sq.h ?_ GE118.out) | exact HB.out)) hb); have n2_ := Sq.l (hbox); have n3_ := Sq.l ((by rw [hg]; exact (Sq.a5 (by repeat (first | (with_reducible first | exact HB.out | apply Sq.i | apply Sq.j | apply Sq.k | refine Sq.h ?_ GE118.out) | exact HB.out))) : w.heap.size ≤ gb119)); have n4_ := Sq.l ((by rw [hg]; exact (Sq.a5 (by repeat (first | (with_reducible first | exact HB.out | apply Sq.i | apply Sq.j | apply Sq.k | refine Sq.h ?_ GE118.out) | exact HB.out))) : w.heap.size ≤ gb119)); have n5_ := Sq.l ((by rw [hg]; exact Nat.ne_of_lt (blk_lt (g := gb118) (o := .cells #[.slice A0_0 l0_0.length c0_0, .slice A0_1 l0_1.length c0_1, .slice A0_2 l0_2.length c0_2, .int .i64 a0_3] 30 (0, 0)) (by (with_reducible repeat (first | refine Sq.d ?_ _ | refine Sq.e ?_ | refine Sq.f ?_ _)); exact BK118.out)) : gb118 ≠ gb119)); have n6_ := Sq.l ((by rw [hg]; exact Nat.ne_of_gt (blk_lt (g := gb118) (o := .cells #[.slice A0_0 l0_0.length c0_0, .slice A0_1 l0_1.length c0_1, .slice A0_2 l0_2.length c0_2, .int .i64 a0_3] 30 (0, 0)) (by (with_reducible repeat (first | refine Sq.d ?_ _ | refine Sq.e ?_ | refine Sq.f ?_ _)); exact BK118.out)) : gb119 ≠ gb118)); clear BK118; clear HB; have BK118 := n0_; have HB := n1_; have BK119 := n2_; have GW119 := n3_; have GE119 := n4_; have NB118_119 := n5_; have NB119_118 := n6_; clear n0_ n1_ n2_ n3_ n4_ n5_ n6_; clear hb hbox hg; have hnb42 := NB119_118.out; have hnc42 := NB118_119.out; have hcz43_0 : w41.cell? ⟨gb119, 0, none⟩ = some (.int .i64 a1_0) := (Sq.o BK119.out 0).trans rfl; have hcz43_1 : w41.cell? ⟨gb119, 1, none⟩ = some (.int .i64 a1_1) := (Sq.o BK119.out 1).trans rfl; have hcz43_2 : w41.cell? ⟨gb119, 2, none⟩ = some (.int .i64 a1_2) := (Sq.o BK119.out 2).trans rfl; have hfz43_0 := Sq.r BK119.out 0; have hfz43_1 := Sq.r BK119.out 1; have hfz43_2 := Sq.r BK119.out 2))
     go_ret
     exact ⟨by first | rfl | exact spec_l12Leads_ne _ | (simp [errW_none, errW_some] <;> rfl) | (simp [*, errW_none, errW_some] <;> rfl), by repeat (first | (with_reducible first | exact HB.out | apply Sq.i | apply Sq.j | apply Sq.k | refine Sq.h ?_ GE118.out | refine Sq.h ?_ GE119.out) | exact HB.out)⟩
   ·rw [if_neg c26] at H
    have c26b0 : (a1_0 == 2) = false := beq_eq_false_iff_ne.mpr c26
    have c26b1 : (a1_0 != 2) = true := bne_iff_ne.mpr c26
    obtain rfl := Option.some.inj H
    go_enter Try.func101, Try.ntmps101
    go_wp2_with (first | ((with_reducible refine gate_dst (N := 2) rfl ?_); (try (refine gate_guard (by rfl) ?_; dsimp only)); refine box_event ?hg (N := 2) ?hd (cs := #[.slice A0_0 l0_0.length c0_0, .slice A0_1 l0_1.length c0_1, .slice A0_2 l0_2.length c0_2, .int .i64 a0_3]) (t := 30) ?hr ?_; (case hd => rfl); (case hg => rfl); (case hr => first | (go_simp; done) | (go_simp; rfl)); intro gb118 hg w44 hbox hb; have n0_ := Sq.l (Sq.a4 (by repeat (first | (with_reducible first | exact HB.out | apply Sq.i | apply Sq.j | apply Sq.k) | exact HB.out)) hb); have n1_ := Sq.l (hbox); have n2_ := Sq.l ((by rw [hg]; exact (Sq.a5 (by repeat (first | (with_reducible first | exact HB.out | apply Sq.i | apply Sq.j | apply Sq.k) | exact HB.out))) : w.heap.size ≤ gb118)); have n3_ := Sq.l ((by rw [hg]; exact (Sq.a5 (by repeat (first | (with_reducible first | exact HB.out | apply Sq.i | apply Sq.j | apply Sq.k) | exact HB.out))) : w.heap.size ≤ gb118)); clear HB; have HB := n0_; have BK118 := n1_; have GW118 := n2_; have GE118 := n3_; clear n0_ n1_ n2_ n3_; clear hb hbox hg) | ((with_reducible refine gate_dst (N := 3) rfl ?_); (try (refine gate_guard (by rfl) ?_; dsimp only)); refine box_event ?hg (N := 3) ?hd (cs := #[.int .i64 a1_0, .int .i64 a1_1, .int .i64 a1_2]) (t := 97) ?hr ?_; (case hd => rfl); (case hg => rfl); (case hr => first | (go_simp; done) | (go_simp; rfl)); intro gb119 hg w45 hbox hb; have n0_ := Sq.l (Sq.m (g := gb118) (o := .cells #[.slice A0_0 l0_0.length c0_0, .slice A0_1 l0_1.length c0_1, .slice A0_2 l0_2.length c0_2, .int .i64 a0_3] 30 (0, 0)) (by (with_reducible repeat (first | refine Sq.d ?_ _ | refine Sq.e ?_ | refine Sq.f ?_ _)); exact BK118.out) hb); have n1_ := Sq.l (Sq.a4 (by repeat (first | (with_reducible first | exact HB.out | apply Sq.i | apply Sq.j | apply Sq.k | refine Sq.h ?_ GE118.out) | exact HB.out)) hb); have n2_ := Sq.l (hbox); have n3_ := Sq.l ((by rw [hg]; exact (Sq.a5 (by repeat (first | (with_reducible first | exact HB.out | apply Sq.i | apply Sq.j | apply Sq.k | refine Sq.h ?_ GE118.out) | exact HB.out))) : w.heap.size ≤ gb119)); have n4_ := Sq.l ((by rw [hg]; exact (Sq.a5 (by repeat (first | (with_reducible first | exact HB.out | apply Sq.i | apply Sq.j | apply Sq.k | refine Sq.h ?_ GE118.out) | exact HB.out))) : w.heap.size ≤ gb119)); have n5_ := Sq.l ((by rw [hg]; exact Nat.ne_of_lt (blk_lt (g := gb118) (o := .cells #[.slice A0_0 l0_0.length c0_0, .slice A0_1 l0_1.length c0_1, .slice A0_2 l0_2.length c0_2, .int .i64 a0_3] 30 (0, 0)) (by (with_reducible repeat (first | refine Sq.d ?_ _ | refine Sq.e ?_ | refine Sq.f ?_ _)); exact BK118.out)) : gb118 ≠ gb119)); have n6_ := Sq.l ((by rw [hg]; exact Nat.ne_of_gt (blk_lt (g := gb118) (o := .cells #[.slice A0_0 l0_0.length c0_0, .slice A0_1 l0_1.length c0_1, .slice A0_2 l0_2.length c0_2, .int .i64 a0_3] 30 (0, 0)) (by (with_reducible repeat (first | refine Sq.d ?_ _ | refine Sq.e ?_ | refine Sq.f ?_ _)); exact BK118.out)) : gb119 ≠ gb118)); clear BK118; clear HB; have BK118 := n0_; have HB := n1_; have BK119 := n2_; have GW119 := n3_; have GE119 := n4_; have NB118_119 := n5_; have NB119_118 := n6_; clear n0_ n1_ n2_ n3_ n4_ n5_ n6_; clear hb hbox hg; have hnb46 := NB119_118.out; have hnc46 := NB118_119.out; have hcz47_0 : w45.cell? ⟨gb119, 0, none⟩ = some (.int .i64 a1_0) := (Sq.o BK119.out 0).trans rfl; have hcz47_1 : w45.cell? ⟨gb119, 1, none⟩ = some (.int .i64 a1_1) := (Sq.o BK119.out 1).trans rfl; have hcz47_2 : w45.cell? ⟨gb119, 2, none⟩ = some (.int .i64 a1_2) := (Sq.o BK119.out 2).trans rfl; have hfz47_0 := Sq.r BK119.out 0; have hfz47_1 := Sq.r BK119.out 1; have hfz47_2 := Sq.r BK119.out 2))
    go_ret
    exact ⟨by first | rfl | exact spec_l12Leads_ne _ | (simp [errW_none, errW_some] <;> rfl) | (simp [*, errW_none, errW_some] <;> rfl), by repeat (first | (with_reducible first | exact HB.out | apply Sq.i | apply Sq.j | apply Sq.k | refine Sq.h ?_ GE118.out | refine Sq.h ?_ GE119.out) | exact HB.out)⟩

/-! ### spec_l01Bool: function 103 -/
def spec_l01Bool.f (a0 : Bool) : Option (Int) := if a0 = true then (some 1) else (some 0)
set_option maxHeartbeats 8000000 in
set_option maxRecDepth 100000 in
theorem spec_l01Bool.calls (a0 : Bool) (r : Int) (w : World) (h : spec_l01Bool.f a0 = some r) :
    Calls Try.prog 103 #[.bool a0] w fun e w' => e = .returned (.int .i64 r) ∧ Drawn0 w w' := by
  have H : (if a0 = true then (some 1) else (some 0)) = some r := h
  clear h
  by_cases c2 : a0 = true
  · subst c2
    have H1 : (some 1) = some r := by rw [if_pos rfl] at H; exact H
    clear H
    have H := H1
    clear H1
    obtain rfl := Option.some.inj H
    go_enter Try.func103, Try.ntmps103
    go_wp2
    go_ret
    exact ⟨by first | rfl | (simp; done) | (simp [*]; done), by repeat (first | exact Drawn0.refl _ | apply Drawn0.step)⟩
  · replace c2 := Bool.eq_false_iff.mpr c2
    subst c2
    have H1 : (some 0) = some r := by rw [if_neg (show ¬ (false = true) by decide)] at H; exact H
    clear H
    have H := H1
    clear H1
    obtain rfl := Option.some.inj H
    go_enter Try.func103, Try.ntmps103
    go_wp2
    go_ret
    exact ⟨by first | rfl | (simp; done) | (simp [*]; done), by repeat (first | exact Drawn0.refl _ | apply Drawn0.step)⟩

/-! ### spec_l12Count: function 46 -/
mutual
def spec_l12Count.l0 : Nat → Int → Int → Int → Int → List ByteArray → List ByteArray → List (S90) → Int → Option (Int)
 | 0, _, _, _, _, _, _, _, _ => none
 | k + 1, x1, x2, x7, x8, x123000, x123001, x123002, x123003 => if x8 < (x123002.length : Int) then (spec_l12Count.l1 k x1 x2 x7 x8 0 x123000 x123001 x123002 x123003) else (some x7)
def spec_l12Count.l1 : Nat → Int → Int → Int → Int → Int → List ByteArray → List ByteArray → List (S90) → Int → Option (Int)
 | 0, _, _, _, _, _, _, _, _, _ => none
 | k + 1, x1, x2, x7, x8, x9, x123000, x123001, x123002, x123003 => if 0 ≤ x8 then (if x8 < (x123002.length : Int) then (if x9 < (((rd_T90 x123002 x8).f0).length : Int) then (if 0 ≤ x9 then (if ((rd_T97 ((rd_T90 x123002 x8).f0) x9).f0) = x1 then ((spec_l01Bool.f (((rd_T97 ((rd_T90 x123002 x8).f0) x9).f1) == x2)).bind fun t127 => (spec_l12Count.l1 k x1 x2 (wrap64 (x7 + t127)) x8 (wrap64 (x9 + 1)) x123000 x123001 x123002 x123003)) else ((spec_l01Bool.f false).bind fun t128 => (spec_l12Count.l1 k x1 x2 (wrap64 (x7 + t128)) x8 (wrap64 (x9 + 1)) x123000 x123001 x123002 x123003))) else (none)) else (spec_l12Count.l0 k x1 x2 x7 (wrap64 (x8 + 1)) x123000 x123001 x123002 x123003)) else (none)) else (none)
end
def spec_l12Count.f (k : Nat) (l0_0 : List ByteArray) (l0_1 : List ByteArray) (l0_2 : List (S90)) (a0_3 : Int) (a1 : Int) (a2 : Int) : Option (Int) := spec_l12Count.l0 k a1 a2 0 0 l0_0 l0_1 l0_2 a0_3
theorem spec_l12Count.mono_l : ∀ k, (∀ y0 y1 y2 y3 y4 y5 y6 y7, LeO (spec_l12Count.l0 k y0 y1 y2 y3 y4 y5 y6 y7) (spec_l12Count.l0 (k + 1) y0 y1 y2 y3 y4 y5 y6 y7)) ∧ (∀ y0 y1 y2 y3 y4 y5 y6 y7 y8, LeO (spec_l12Count.l1 k y0 y1 y2 y3 y4 y5 y6 y7 y8) (spec_l12Count.l1 (k + 1) y0 y1 y2 y3 y4 y5 y6 y7 y8))
 | 0 => ⟨fun _ _ _ _ _ _ _ _ r h => by simp [spec_l12Count.l0] at h, fun _ _ _ _ _ _ _ _ _ r h => by simp [spec_l12Count.l1] at h⟩
 | k + 1 => by
  obtain ⟨ih0, ih1⟩ := spec_l12Count.mono_l k
  refine ⟨?_, ?_⟩
  ·intro y0 y1 y2 y3 y4 y5 y6 y7
   unfold spec_l12Count.l0
   repeat' first
   | (with_reducible exact ih0 _ _ _ _ _ _ _ _)
   | (with_reducible exact ih1 _ _ _ _ _ _ _ _ _)
   | (with_reducible exact LeO.refl _)
   | (with_reducible exact LeO.none _)
   | (with_reducible refine LeO.ite ?_ ?_)
   | (with_reducible refine LeO.bind ?_ (fun _ => ?_))
   | exact ih0 _ _ _ _ _ _ _ _
   | exact ih1 _ _ _ _ _ _ _ _ _
   | exact LeO.none _
   | refine LeO.ite ?_ ?_
   | refine LeO.bind ?_ (fun _ => ?_)
  ·intro y0 y1 y2 y3 y4 y5 y6 y7 y8
   unfold spec_l12Count.l1
   repeat' first
   | (with_reducible exact ih0 _ _ _ _ _ _ _ _)
   | (with_reducible exact ih1 _ _ _ _ _ _ _ _ _)
   | (with_reducible exact LeO.refl _)
   | (with_reducible exact LeO.none _)
   | (with_reducible refine LeO.ite ?_ ?_)
   | (with_reducible refine LeO.bind ?_ (fun _ => ?_))
   | exact ih0 _ _ _ _ _ _ _ _
   | exact ih1 _ _ _ _ _ _ _ _ _
   | exact LeO.none _
   | refine LeO.ite ?_ ?_
   | refine LeO.bind ?_ (fun _ => ?_)
theorem spec_l12Count.mono : ∀ a0 a1 a2 a3 a4 a5 k, LeO (spec_l12Count.f k a0 a1 a2 a3 a4 a5) (spec_l12Count.f (k + 1) a0 a1 a2 a3 a4 a5) := by
 intro a0 a1 a2 a3 a4 a5 k
 obtain ⟨ih0, ih1⟩ := spec_l12Count.mono_l k
 unfold spec_l12Count.f
 repeat' first
   | (with_reducible exact ih0 _ _ _ _ _ _ _ _)
   | (with_reducible exact ih1 _ _ _ _ _ _ _ _ _)
   | (with_reducible exact LeO.refl _)
   | (with_reducible exact LeO.none _)
   | (with_reducible refine LeO.ite ?_ ?_)
   | (with_reducible refine LeO.bind ?_ (fun _ => ?_))
   | exact ih0 _ _ _ _ _ _ _ _
   | exact ih1 _ _ _ _ _ _ _ _ _
   | exact LeO.none _
   | refine LeO.ite ?_ ?_
   | refine LeO.bind ?_ (fun _ => ?_)
set_option maxHeartbeats 8000000 in
set_option maxRecDepth 100000 in
theorem spec_l12Count.calls (k : Nat) (A0_0 : Option Addr) (c0_0 : Nat) (l0_0 : List ByteArray) (A0_1 : Option Addr) (c0_1 : Nat) (l0_1 : List ByteArray) (A0_2 : Option Addr) (c0_2 : Nat) (l0_2 : List (S90)) (a0_3 : Int) (a1 : Int) (a2 : Int) (r : Int) (w : World) (hr0_0 : Kd.C Kd.string w A0_0 l0_0.length l0_0) (hc0_0 : l0_0.length ≤ c0_0) (hr0_1 : Kd.C Kd.string w A0_1 l0_1.length l0_1) (hc0_1 : l0_1.length ≤ c0_1) (hr0_2 : Kd.C k90 w A0_2 l0_2.length l0_2) (hc0_2 : l0_2.length ≤ c0_2) (h : spec_l12Count.f k l0_0 l0_1 l0_2 a0_3 a1 a2 = some r) :
  Calls Try.prog 46 #[.agg #[.slice A0_0 l0_0.length c0_0, .slice A0_1 l0_1.length c0_1, .slice A0_2 l0_2.length c0_2, .int .i64 a0_3], .int .i64 a1, .int .i64 a2] w fun e w' => e = .returned (.int .i64 r) ∧ Below w.heap.size w w' := by
 have hu30 := Try.underlying30
 have hu97 := Try.underlying97
 have HR0_0 := Sq.l hr0_0
 have HC0_0 := Sq.l hc0_0
 clear hr0_0 hc0_0
 have HR0_1 := Sq.l hr0_1
 have HC0_1 := Sq.l hc0_1
 clear hr0_1 hc0_1
 have HR0_2 := Sq.l hr0_2
 have HC0_2 := Sq.l hc0_2
 clear hr0_2 hc0_2
 have HB := Sq.l (Below.refl w.heap.size w)
 have H : (spec_l12Count.l0 k a1 a2 0 0 l0_0 l0_1 l0_2 a0_3) = some r := h
 clear h
 have H' := Sq.l H
 clear H
 go_enter Try.func46, Try.ntmps46
 go_wp2_with (first | ((with_reducible refine gate_dst (N := 3) rfl ?_); refine box_event ?hg (N := 3) ?hd (cs := #[.slice A0_0 l0_0.length c0_0, .slice A0_1 l0_1.length c0_1, .slice A0_2 l0_2.length c0_2, .int .i64 a0_3]) (t := 30) ?hr ?_; (case hd => rfl); (case hg => rfl); (case hr => first | (go_simp; done) | (go_simp; rfl)); intro gb122 hg w4 hbox hb; have n0_ := Sq.l (Sq.a4 (by repeat (first | (with_reducible first | exact HB.out | apply Sq.i | apply Sq.j | apply Sq.k) | exact HB.out)) hb); have n1_ := Sq.l (hbox); have n2_ := Sq.l ((by rw [hg]; exact (Sq.a5 (by repeat (first | (with_reducible first | exact HB.out | apply Sq.i | apply Sq.j | apply Sq.k) | exact HB.out))) : w.heap.size ≤ gb122)); have n3_ := Sq.l ((by rw [hg]; exact (Sq.a5 (by repeat (first | (with_reducible first | exact HB.out | apply Sq.i | apply Sq.j | apply Sq.k) | exact HB.out))) : w.heap.size ≤ gb122)); clear HB; have HB := n0_; have BK122 := n1_; have GW122 := n2_; have GE122 := n3_; clear n0_ n1_ n2_ n3_; clear hb hbox hg))
 go_loopg [7, 8] k (fun kq v7 v8 w' => ∃ (x7_1 : Int) (x8_1 : Int), v7 = .int .i64 x7_1 ∧ v8 = .int .i64 x8_1 ∧ Aside0 (spec_l12Count.l0 kq a1 a2 x7_1 x8_1 l0_0 l0_1 l0_2 a0_3 = some r) ∧ Aside0 (kq ≤ k) ∧ Aside0 (w'.heap[gb122]? = some (.cells #[(.slice A0_0 l0_0.length c0_0), (.slice A0_1 l0_1.length c0_1), (.slice A0_2 l0_2.length c0_2), .int .i64 a0_3] 30 (0, 0))) ∧ Aside0 (Below w.heap.size w w'))
 case atStart => exact ⟨(0), (0), (by first | rfl | (simp; done) | (simp [*]; done)), (by first | rfl | (simp; done) | (simp [*]; done)), H', ⟨Nat.le_refl _⟩, ⟨by (with_reducible repeat (first | refine Sq.d ?_ _ | refine Sq.e ?_ | refine Sq.f ?_ _)); exact BK122.out⟩, ⟨by repeat (first | (with_reducible first | exact HB.out | apply Sq.i | apply Sq.j | apply Sq.k | refine Sq.h ?_ GE122.out) | exact HB.out)⟩⟩
 case round =>
  clear H'
  try clear p2; try clear c4
  obtain ⟨x7_1, x8_1, rfl, rfl, HA, HK1, BK122, HB⟩ := hrel
  cases gk with
  | zero => exact absurd HA.out (by simp [spec_l12Count.l0])
  | succ k1 =>
   have H := HA.out
   clear HA
   simp only [spec_l12Count.l0] at H
   by_cases c5 : x8_1 < (l0_2.length : Int)
   ·rw [if_pos c5] at H
    have c5b0 : decide (x8_1 < (l0_2.length : Int)) = true := decide_eq_true c5
    clear c5
    have H' := Sq.l H
    clear H
    have hcz6_0 : wr.cell? ⟨gb122, 0, none⟩ = some (.slice A0_0 l0_0.length c0_0) := (Sq.o BK122.out 0).trans rfl
    have hcz6_1 : wr.cell? ⟨gb122, 1, none⟩ = some (.slice A0_1 l0_1.length c0_1) := (Sq.o BK122.out 1).trans rfl
    have hcz6_2 : wr.cell? ⟨gb122, 2, none⟩ = some (.slice A0_2 l0_2.length c0_2) := (Sq.o BK122.out 2).trans rfl
    have hcz6_3 : wr.cell? ⟨gb122, 3, none⟩ = some (.int .i64 a0_3) := (Sq.o BK122.out 3).trans rfl
    have hfz6_0 := Sq.r BK122.out 0
    have hfz6_1 := Sq.r BK122.out 1
    have hfz6_2 := Sq.r BK122.out 2
    have hfz6_3 := Sq.r BK122.out 3
    go_wp2
    go_loopg [7, 9] k1 (fun kq v7 v9 w' => ∃ (x7_2 : Int) (x9_2 : Int), v7 = .int .i64 x7_2 ∧ v9 = .int .i64 x9_2 ∧ Aside0 (spec_l12Count.l1 kq a1 a2 x7_2 x8_1 x9_2 l0_0 l0_1 l0_2 a0_3 = some r) ∧ Aside0 (kq ≤ k1) ∧ Aside0 (w'.heap[gb122]? = some (.cells #[(.slice A0_0 l0_0.length c0_0), (.slice A0_1 l0_1.length c0_1), (.slice A0_2 l0_2.length c0_2), .int .i64 a0_3] 30 (0, 0))) ∧ Aside0 (Below w.heap.size w w'))
    case atStart => exact ⟨(x7_1), (0), (by first | rfl | (simp; done) | (simp [*]; done)), (by first | rfl | (simp; done) | (simp [*]; done)), H', ⟨Nat.le_refl _⟩, ⟨by (with_reducible repeat (first | refine Sq.d ?_ _ | refine Sq.e ?_ | refine Sq.f ?_ _)); exact BK122.out⟩, ⟨by repeat (first | (with_reducible first | exact HB.out | apply Sq.i | apply Sq.j | apply Sq.k | refine Sq.h ?_ GE122.out) | exact HB.out)⟩⟩
    case round =>
     clear H'
     try clear p2; try clear c4; try clear c5; try clear c5b0; try clear hcz6_0; try clear hcz6_1; try clear hcz6_2; try clear hcz6_3; try clear hfz6_0; try clear hfz6_1; try clear hfz6_2; try clear hfz6_3; try clear p2
     obtain ⟨x7_2, x9_2, rfl, rfl, HA, HK2, BK122, HB⟩ := hrel
     cases gk with
     | zero => exact absurd HA.out (by simp [spec_l12Count.l1])
     | succ k2 =>
      have H := HA.out
      clear HA
      simp only [spec_l12Count.l1] at H
      by_cases c7 : 0 ≤ x8_1
      ·rw [if_pos c7] at H
       have c7b0 : decide (0 ≤ x8_1) = true := decide_eq_true c7
       clear c7
       by_cases c8 : x8_1 < (l0_2.length : Int)
       ·rw [if_pos c8] at H
        have c8b0 : decide (x8_1 < (l0_2.length : Int)) = true := decide_eq_true c8
        clear c8
        by_cases c9 : x9_2 < (((rd_T90 l0_2 x8_1).f0).length : Int)
        ·rw [if_pos c9] at H
         have c9b0 : decide (x9_2 < (((rd_T90 l0_2 x8_1).f0).length : Int)) = true := decide_eq_true c9
         clear c9
         by_cases c10 : 0 ≤ x9_2
         ·rw [if_pos c10] at H
          have c10b0 : decide (0 ≤ x9_2) = true := decide_eq_true c10
          clear c10
          by_cases c11 : ((rd_T97 ((rd_T90 l0_2 x8_1).f0) x9_2).f0) = a1
          ·rw [if_pos c11] at H
           have c11b0 : (((rd_T97 ((rd_T90 l0_2 x8_1).f0) x9_2).f0) == a1) = true := beq_iff_eq.mpr c11
           have c11b1 : (((rd_T97 ((rd_T90 l0_2 x8_1).f0) x9_2).f0) != a1) = false := bne_eq_false_iff_eq.mpr c11
           clear c11
           replace H := Option.bind_eq_some_iff.mp H
           obtain ⟨t127, A120, H⟩ := H
           (try dsimp only at H)
           have A12 := Sq.l A120
           clear A120
           have H' := Sq.l H
           clear H
           have hcz13_0 : wr.cell? ⟨gb122, 0, none⟩ = some (.slice A0_0 l0_0.length c0_0) := (Sq.o BK122.out 0).trans rfl
           have hcz13_1 : wr.cell? ⟨gb122, 1, none⟩ = some (.slice A0_1 l0_1.length c0_1) := (Sq.o BK122.out 1).trans rfl
           have hcz13_2 : wr.cell? ⟨gb122, 2, none⟩ = some (.slice A0_2 l0_2.length c0_2) := (Sq.o BK122.out 2).trans rfl
           have hcz13_3 : wr.cell? ⟨gb122, 3, none⟩ = some (.int .i64 a0_3) := (Sq.o BK122.out 3).trans rfl
           have hfz13_0 := Sq.r BK122.out 0
           have hfz13_1 := Sq.r BK122.out 1
           have hfz13_2 := Sq.r BK122.out 2
           have hfz13_3 := Sq.r BK122.out 3
           have p123 : 0 ≤ (x8_1 : Int) := of_decide_eq_true (by first | (with_reducible assumption) | assumption)
           have q123 : x8_1 < (l0_2.length : Int) := of_decide_eq_true (by first | (with_reducible assumption) | assumption)
           obtain ⟨ad123, A123_0, c123_0, A123_2, c123_2, e123, hx123_0, hx123_1, hx123_2, hl123_0, hi123_0, hl123_2, hi123_2⟩ := at_T90 HR0_2.out x8_1 p123 q123
           cases e123
           replace hx123_0 := (HB.out.cell (World.block_lt_of_cell? w _ hx123_0)).trans hx123_0
           replace hx123_1 := (HB.out.cell (World.block_lt_of_cell? w _ hx123_1)).trans hx123_1
           replace hx123_2 := (HB.out.cell (World.block_lt_of_cell? w _ hx123_2)).trans hx123_2
           have HR123_0 := Sq.l hi123_0
           have HC123_0 := Sq.l hl123_0
           clear hi123_0 hl123_0
           have HR123_2 := Sq.l hi123_2
           have HC123_2 := Sq.l hl123_2
           clear hi123_2 hl123_2; replace p123 := eq_true p123; replace q123 := eq_true q123
           have p124 : 0 ≤ (x8_1 : Int) := of_decide_eq_true (by first | (with_reducible assumption) | assumption)
           have q124 : x8_1 < (l0_2.length : Int) := of_decide_eq_true (by first | (with_reducible assumption) | assumption)
           obtain ⟨ad124, A124_0, c124_0, A124_2, c124_2, e124, hx124_0, hx124_1, hx124_2, hl124_0, hi124_0, hl124_2, hi124_2⟩ := at_T90 HR0_2.out x8_1 p124 q124
           obtain rfl : ad123 = ad124 := (by injection e124)
           replace hx124_0 := (HB.out.cell (World.block_lt_of_cell? w _ hx124_0)).trans hx124_0
           replace hx124_1 := (HB.out.cell (World.block_lt_of_cell? w _ hx124_1)).trans hx124_1
           replace hx124_2 := (HB.out.cell (World.block_lt_of_cell? w _ hx124_2)).trans hx124_2
           have HR124_0 := Sq.l hi124_0
           have HC124_0 := Sq.l hl124_0
           clear hi124_0 hl124_0
           have HR124_2 := Sq.l hi124_2
           have HC124_2 := Sq.l hl124_2
           clear hi124_2 hl124_2; replace p124 := eq_true p124; replace q124 := eq_true q124
           have ea_ := Option.some.inj (hx123_0.symm.trans hx124_0)
           injection ea_ with ea_ en_ ec_
           subst ea_
           subst ec_
           clear en_
           have ea_ := Option.some.inj (hx123_2.symm.trans hx124_2)
           injection ea_ with ea_ en_ ec_
           subst ea_
           subst ec_
           clear en_
           have p125 : 0 ≤ (x9_2 : Int) := of_decide_eq_true (by first | (with_reducible assumption) | assumption)
           have q125 : x9_2 < (((rd_T90 l0_2 x8_1).f0).length : Int) := of_decide_eq_true (by first | (with_reducible assumption) | assumption)
           obtain ⟨ad125, e125, hx125_0, hx125_1, hx125_2⟩ := at_T97 HR124_0.out x9_2 p125 q125
           cases e125
           replace hx125_0 := (HB.out.cell (World.block_lt_of_cell? w _ hx125_0)).trans hx125_0
           replace hx125_1 := (HB.out.cell (World.block_lt_of_cell? w _ hx125_1)).trans hx125_1
           replace hx125_2 := (HB.out.cell (World.block_lt_of_cell? w _ hx125_2)).trans hx125_2
           replace p125 := eq_true p125; replace q125 := eq_true q125
           go_wp2_with (first | ((with_reducible refine gate_dst (N := 10) rfl ?_); refine box_event ?hg (N := 10) ?hd (cs := #[.int .i64 0, .int .i64 0, .int .i64 0]) (t := 97) ?hr ?_; (case hd => rfl); (case hg => rfl); (case hr => first | (go_simp; done) | (go_simp; rfl)); intro gb126 hg w14 hbox hb; have n0_ := Sq.l (Sq.m (g := gb122) (o := .cells #[.slice A0_0 l0_0.length c0_0, .slice A0_1 l0_1.length c0_1, .slice (some ad123) l0_2.length c0_2, .int .i64 a0_3] 30 (0, 0)) (by (with_reducible repeat (first | refine Sq.d ?_ _ | refine Sq.e ?_ | refine Sq.f ?_ _)); exact BK122.out) hb); have n1_ := Sq.l (Sq.a4 (by repeat (first | (with_reducible first | exact HB.out | apply Sq.i | apply Sq.j | apply Sq.k | refine Sq.h ?_ GE122.out) | exact HB.out)) hb); have n2_ := Sq.l (hbox); have n3_ := Sq.l ((by rw [hg]; exact (Sq.a5 (by repeat (first | (with_reducible first | exact HB.out | apply Sq.i | apply Sq.j | apply Sq.k | refine Sq.h ?_ GE122.out) | exact HB.out))) : w.heap.size ≤ gb126)); have n4_ := Sq.l ((by rw [hg]; exact (Sq.a5 (by repeat (first | (with_reducible first | exact HB.out | apply Sq.i | apply Sq.j | apply Sq.k | refine Sq.h ?_ GE122.out) | exact HB.out))) : w.heap.size ≤ gb126)); have n5_ := Sq.l ((by rw [hg]; exact Nat.ne_of_lt (blk_lt (g := gb122) (o := .cells #[.slice A0_0 l0_0.length c0_0, .slice A0_1 l0_1.length c0_1, .slice (some ad123) l0_2.length c0_2, .int .i64 a0_3] 30 (0, 0)) (by (with_reducible repeat (first | refine Sq.d ?_ _ | refine Sq.e ?_ | refine Sq.f ?_ _)); exact BK122.out)) : gb122 ≠ gb126)); have n6_ := Sq.l ((by rw [hg]; exact Nat.ne_of_gt (blk_lt (g := gb122) (o := .cells #[.slice A0_0 l0_0.length c0_0, .slice A0_1 l0_1.length c0_1, .slice (some ad123) l0_2.length c0_2, .int .i64 a0_3] 30 (0, 0)) (by (with_reducible repeat (first | refine Sq.d ?_ _ | refine Sq.e ?_ | refine Sq.f ?_ _)); exact BK122.out)) : gb126 ≠ gb122)); clear BK122; clear HB; have BK122 := n0_; have HB := n1_; have BK126 := n2_; have GW126 := n3_; have GE126 := n4_; have NB122_126 := n5_; have NB126_122 := n6_; clear n0_ n1_ n2_ n3_ n4_ n5_ n6_; clear hb hbox hg; have hnb15 := NB126_122.out; have hnc15 := NB122_126.out; have hcz16_0 : w14.cell? ⟨gb126, 0, none⟩ = some (.int .i64 0) := (Sq.o BK126.out 0).trans rfl; have hcz16_1 : w14.cell? ⟨gb126, 1, none⟩ = some (.int .i64 0) := (Sq.o BK126.out 1).trans rfl; have hcz16_2 : w14.cell? ⟨gb126, 2, none⟩ = some (.int .i64 0) := (Sq.o BK126.out 2).trans rfl; have hfz16_0 := Sq.r BK126.out 0; have hfz16_1 := Sq.r BK126.out 1; have hfz16_2 := Sq.r BK126.out 2) | ((with_reducible refine gate_callee (f := 103) rfl ?_); refine goesL_ (some 49) rfl rfl Try.func103 (by kernel_rfl) rfl #[.bool (((rd_T97 ((rd_T90 l0_2 x8_1).f0) x9_2).f1) == a2)] rfl (by (try simp only [List.map_toArray, List.map_cons, List.map_nil]); first | done | rfl | (simp only [List.length_drop, List.length_take]; rfl)) ?_; (with_reducible refine (spec_l01Bool.calls (((rd_T97 ((rd_T90 l0_2 x8_1).f0) x9_2).f1) == a2) t127 _ A12.out).mono ?_); rintro e w' ⟨rfl, ⟨nd, rfl⟩⟩; refine ⟨_, rfl, ?_⟩))
           go_roundg k2
           case measure => have := HK1.out; have := HK2.out; omega
           case rel => exact ⟨(wrap64 (x7_2 + t127)), (wrap64 (x9_2 + 1)), (by first | rfl | (simp; done) | (simp [*]; done)), (by first | rfl | (simp; done) | (simp [*]; done)), H', ⟨by have := HK1.out; have := HK2.out; omega⟩, ⟨by (with_reducible repeat (first | refine Sq.d ?_ _ | refine Sq.e ?_ | refine Sq.f ?_ _)); refine Sq.B3 ?_ NB122_126.out; (with_reducible repeat (first | refine Sq.d ?_ _ | refine Sq.e ?_ | refine Sq.f ?_ _)); exact BK122.out⟩, ⟨by repeat (first | (with_reducible first | exact HB.out | apply Sq.i | apply Sq.j | apply Sq.k | refine Sq.h ?_ GE122.out | refine Sq.h ?_ GE126.out) | exact HB.out)⟩⟩
          ·rw [if_neg c11] at H
           have c11b0 : (((rd_T97 ((rd_T90 l0_2 x8_1).f0) x9_2).f0) == a1) = false := beq_eq_false_iff_ne.mpr c11
           have c11b1 : (((rd_T97 ((rd_T90 l0_2 x8_1).f0) x9_2).f0) != a1) = true := bne_iff_ne.mpr c11
           replace H := Option.bind_eq_some_iff.mp H
           obtain ⟨t128, A170, H⟩ := H
           (try dsimp only at H)
           have A17 := Sq.l A170
           clear A170
           have H' := Sq.l H
           clear H
           have hcz18_0 : wr.cell? ⟨gb122, 0, none⟩ = some (.slice A0_0 l0_0.length c0_0) := (Sq.o BK122.out 0).trans rfl
           have hcz18_1 : wr.cell? ⟨gb122, 1, none⟩ = some (.slice A0_1 l0_1.length c0_1) := (Sq.o BK122.out 1).trans rfl
           have hcz18_2 : wr.cell? ⟨gb122, 2, none⟩ = some (.slice A0_2 l0_2.length c0_2) := (Sq.o BK122.out 2).trans rfl
           have hcz18_3 : wr.cell? ⟨gb122, 3, none⟩ = some (.int .i64 a0_3) := (Sq.o BK122.out 3).trans rfl
           have hfz18_0 := Sq.r BK122.out 0
           have hfz18_1 := Sq.r BK122.out 1
           have hfz18_2 := Sq.r BK122.out 2
           have hfz18_3 := Sq.r BK122.out 3
           have p123 : 0 ≤ (x8_1 : Int) := of_decide_eq_true (by first | (with_reducible assumption) | assumption)
           have q123 : x8_1 < (l0_2.length : Int) := of_decide_eq_true (by first | (with_reducible assumption) | assumption)
           obtain ⟨ad123, A123_0, c123_0, A123_2, c123_2, e123, hx123_0, hx123_1, hx123_2, hl123_0, hi123_0, hl123_2, hi123_2⟩ := at_T90 HR0_2.out x8_1 p123 q123
           cases e123
           replace hx123_0 := (HB.out.cell (World.block_lt_of_cell? w _ hx123_0)).trans hx123_0
           replace hx123_1 := (HB.out.cell (World.block_lt_of_cell? w _ hx123_1)).trans hx123_1
           replace hx123_2 := (HB.out.cell (World.block_lt_of_cell? w _ hx123_2)).trans hx123_2
           have HR123_0 := Sq.l hi123_0
           have HC123_0 := Sq.l hl123_0
           clear hi123_0 hl123_0
           have HR123_2 := Sq.l hi123_2
           have HC123_2 := Sq.l hl123_2
           clear hi123_2 hl123_2; replace p123 := eq_true p123; replace q123 := eq_true q123
           have p124 : 0 ≤ (x8_1 : Int) := of_decide_eq_true (by first | (with_reducible assumption) | assumption)
           have q124 : x8_1 < (l0_2.length : Int) := of_decide_eq_true (by first | (with_reducible assumption) | assumption)
           obtain ⟨ad124, A124_0, c124_0, A124_2, c124_2, e124, hx124_0, hx124_1, hx124_2, hl124_0, hi124_0, hl124_2, hi124_2⟩ := at_T90 HR0_2.out x8_1 p124 q124
           obtain rfl : ad123 = ad124 := (by injection e124)
           replace hx124_0 := (HB.out.cell (World.block_lt_of_cell? w _ hx124_0)).trans hx124_0
           replace hx124_1 := (HB.out.cell (World.block_lt_of_cell? w _ hx124_1)).trans hx124_1
           replace hx124_2 := (HB.out.cell (World.block_lt_of_cell? w _ hx124_2)).trans hx124_2
           have HR124_0 := Sq.l hi124_0
           have HC124_0 := Sq.l hl124_0
           clear hi124_0 hl124_0
           have HR124_2 := Sq.l hi124_2
           have HC124_2 := Sq.l hl124_2
           clear hi124_2 hl124_2; replace p124 := eq_true p124; replace q124 := eq_true q124
           have ea_ := Option.some.inj (hx123_0.symm.trans hx124_0)
           injection ea_ with ea_ en_ ec_
           subst ea_
           subst ec_
           clear en_
           have ea_ := Option.some.inj (hx123_2.symm.trans hx124_2)
           injection ea_ with ea_ en_ ec_
           subst ea_
           subst ec_
           clear en_
           have p125 : 0 ≤ (x9_2 : Int) := of_decide_eq_true (by first | (with_reducible assumption) | assumption)
           have q125 : x9_2 < (((rd_T90 l0_2 x8_1).f0).length : Int) := of_decide_eq_true (by first | (with_reducible assumption) | assumption)
           obtain ⟨ad125, e125, hx125_0, hx125_1, hx125_2⟩ := at_T97 HR124_0.out x9_2 p125 q125
           cases e125
           replace hx125_0 := (HB.out.cell (World.block_lt_of_cell? w _ hx125_0)).trans hx125_0
           replace hx125_1 := (HB.out.cell (World.block_lt_of_cell? w _ hx125_1)).trans hx125_1
           replace hx125_2 := (HB.out.cell (World.block_lt_of_cell? w _ hx125_2)).trans hx125_2
           replace p125 := eq_true p125; replace q125 := eq_true q125
           go_wp2_with (first | ((with_reducible refine gate_dst (N := 10) rfl ?_); refine box_event ?hg (N := 10) ?hd (cs := #[.int .i64 0, .int .i64 0, .int .i64 0]) (t := 97) ?hr ?_; (case hd => rfl); (case hg => rfl); (case hr => first | (go_simp; done) | (go_simp; rfl)); intro gb126 hg w19 hbox hb; have n0_ := Sq.l (Sq.m (g := gb122) (o := .cells #[.slice A0_0 l0_0.length c0_0, .slice A0_1 l0_1.length c0_1, .slice (some ad123) l0_2.length c0_2, .int .i64 a0_3] 30 (0, 0)) (by (with_reducible repeat (first | refine Sq.d ?_ _ | refine Sq.e ?_ | refine Sq.f ?_ _)); exact BK122.out) hb); have n1_ := Sq.l (Sq.a4 (by repeat (first | (with_reducible first | exact HB.out | apply Sq.i | apply Sq.j | apply Sq.k | refine Sq.h ?_ GE122.out) | exact HB.out)) hb); have n2_ := Sq.l (hbox); have n3_ := Sq.l ((by rw [hg]; exact (Sq.a5 (by repeat (first | (with_reducible first | exact HB.out | apply Sq.i | apply Sq.j | apply Sq.k | refine Sq.h ?_ GE122.out) | exact HB.out))) : w.heap.size ≤ gb126)); have n4_ := Sq.l ((by rw [hg]; exact (Sq.a5 (by repeat (first | (with_reducible first | exact HB.out | apply Sq.i | apply Sq.j | apply Sq.k | refine Sq.h ?_ GE122.out) | exact HB.out))) : w.heap.size ≤ gb126)); have n5_ := Sq.l ((by rw [hg]; exact Nat.ne_of_lt (blk_lt (g := gb122) (o := .cells #[.slice A0_0 l0_0.length c0_0, .slice A0_1 l0_1.length c0_1, .slice (some ad123) l0_2.length c0_2, .int .i64 a0_3] 30 (0, 0)) (by (with_reducible repeat (first | refine Sq.d ?_ _ | refine Sq.e ?_ | refine Sq.f ?_ _)); exact BK122.out)) : gb122 ≠ gb126)); have n6_ := Sq.l ((by rw [hg]; exact Nat.ne_of_gt (blk_lt (g := gb122) (o := .cells #[.slice A0_0 l0_0.length c0_0, .slice A0_1 l0_1.length c0_1, .slice (some ad123) l0_2.length c0_2, .int .i64 a0_3] 30 (0, 0)) (by (with_reducible repeat (first | refine Sq.d ?_ _ | refine Sq.e ?_ | refine Sq.f ?_ _)); exact BK122.out)) : gb126 ≠ gb122)); clear BK122; clear HB; have BK122 := n0_; have HB := n1_; have BK126 := n2_; have GW126 := n3_; have GE126 := n4_; have NB122_126 := n5_; have NB126_122 := n6_; clear n0_ n1_ n2_ n3_ n4_ n5_ n6_; clear hb hbox hg; have hnb20 := NB126_122.out; have hnc20 := NB122_126.out; have hcz21_0 : w19.cell? ⟨gb126, 0, none⟩ = some (.int .i64 0) := (Sq.o BK126.out 0).trans rfl; have hcz21_1 : w19.cell? ⟨gb126, 1, none⟩ = some (.int .i64 0) := (Sq.o BK126.out 1).trans rfl; have hcz21_2 : w19.cell? ⟨gb126, 2, none⟩ = some (.int .i64 0) := (Sq.o BK126.out 2).trans rfl; have hfz21_0 := Sq.r BK126.out 0; have hfz21_1 := Sq.r BK126.out 1; have hfz21_2 := Sq.r BK126.out 2) | ((with_reducible refine gate_callee (f := 103) rfl ?_); refine goesL_ (some 49) rfl rfl Try.func103 (by kernel_rfl) rfl #[.bool false] rfl (by (try simp only [List.map_toArray, List.map_cons, List.map_nil]); first | done | rfl | (simp only [List.length_drop, List.length_take]; rfl)) ?_; (with_reducible refine (spec_l01Bool.calls false t128 _ A17.out).mono ?_); rintro e w' ⟨rfl, ⟨nd, rfl⟩⟩; refine ⟨_, rfl, ?_⟩))
           go_roundg k2
           case measure => have := HK1.out; have := HK2.out; omega
           case rel => exact ⟨(wrap64 (x7_2 + t128)), (wrap64 (x9_2 + 1)), (by first | rfl | (simp; done) | (simp [*]; done)), (by first | rfl | (simp; done) | (simp [*]; done)), H', ⟨by have := HK1.out; have := HK2.out; omega⟩, ⟨by (with_reducible repeat (first | refine Sq.d ?_ _ | refine Sq.e ?_ | refine Sq.f ?_ _)); refine Sq.B3 ?_ NB122_126.out; (with_reducible repeat (first | refine Sq.d ?_ _ | refine Sq.e ?_ | refine Sq.f ?_ _)); exact BK122.out⟩, ⟨by repeat (first | (with_reducible first | exact HB.out | apply Sq.i | apply Sq.j | apply Sq.k | refine Sq.h ?_ GE122.out | refine Sq.h ?_ GE126.out) | exact HB.out)⟩⟩
         ·rw [if_neg c10] at H
          exact absurd H (by simp)
        ·rw [if_neg c9] at H
         have c9b0 : decide (x9_2 < (((rd_T90 l0_2 x8_1).f0).length : Int)) = false := decide_eq_false c9
         clear c9
         have H' := Sq.l H
         clear H
         have hcz22_0 : wr.cell? ⟨gb122, 0, none⟩ = some (.slice A0_0 l0_0.length c0_0) := (Sq.o BK122.out 0).trans rfl
         have hcz22_1 : wr.cell? ⟨gb122, 1, none⟩ = some (.slice A0_1 l0_1.length c0_1) := (Sq.o BK122.out 1).trans rfl
         have hcz22_2 : wr.cell? ⟨gb122, 2, none⟩ = some (.slice A0_2 l0_2.length c0_2) := (Sq.o BK122.out 2).trans rfl
         have hcz22_3 : wr.cell? ⟨gb122, 3, none⟩ = some (.int .i64 a0_3) := (Sq.o BK122.out 3).trans rfl
         have hfz22_0 := Sq.r BK122.out 0
         have hfz22_1 := Sq.r BK122.out 1
         have hfz22_2 := Sq.r BK122.out 2
         have hfz22_3 := Sq.r BK122.out 3
         have p123 : 0 ≤ (x8_1 : Int) := of_decide_eq_true (by first | (with_reducible assumption) | assumption)
         have q123 : x8_1 < (l0_2.length : Int) := of_decide_eq_true (by first | (with_reducible assumption) | assumption)
         obtain ⟨ad123, A123_0, c123_0, A123_2, c123_2, e123, hx123_0, hx123_1, hx123_2, hl123_0, hi123_0, hl123_2, hi123_2⟩ := at_T90 HR0_2.out x8_1 p123 q123
         cases e123
         replace hx123_0 := (HB.out.cell (World.block_lt_of_cell? w _ hx123_0)).trans hx123_0
         replace hx123_1 := (HB.out.cell (World.block_lt_of_cell? w _ hx123_1)).trans hx123_1
         replace hx123_2 := (HB.out.cell (World.block_lt_of_cell? w _ hx123_2)).trans hx123_2
         have HR123_0 := Sq.l hi123_0
         have HC123_0 := Sq.l hl123_0
         clear hi123_0 hl123_0
         have HR123_2 := Sq.l hi123_2
         have HC123_2 := Sq.l hl123_2
         clear hi123_2 hl123_2; replace p123 := eq_true p123; replace q123 := eq_true q123
         go_wp2
         go_roundg k2
         case measure => have := HK1.out; have := HK2.out; omega
         case rel => exact ⟨(x7_2), (wrap64 (x8_1 + 1)), (by first | rfl | (simp; done) | (simp [*]; done)), (by first | rfl | (simp; done) | (simp [*]; done)), H', ⟨by have := HK1.out; have := HK2.out; omega⟩, ⟨by (with_reducible repeat (first | refine Sq.d ?_ _ | refine Sq.e ?_ | refine Sq.f ?_ _)); exact BK122.out⟩, ⟨by repeat (first | (with_reducible first | exact HB.out | apply Sq.i | apply Sq.j | apply Sq.k | refine Sq.h ?_ GE122.out) | exact HB.out)⟩⟩
       ·rw [if_neg c8] at H
        exact absurd H (by simp)
      ·rw [if_neg c7] at H
       exact absurd H (by simp)
   ·rw [if_neg c5] at H
    have c5b0 : decide (x8_1 < (l0_2.length : Int)) = false := decide_eq_false c5
    clear c5
    obtain rfl := Option.some.inj H
    have hcz23_0 : wr.cell? ⟨gb122, 0, none⟩ = some (.slice A0_0 l0_0.length c0_0) := (Sq.o BK122.out 0).trans rfl
    have hcz23_1 : wr.cell? ⟨gb122, 1, none⟩ = some (.slice A0_1 l0_1.length c0_1) := (Sq.o BK122.out 1).trans rfl
    have hcz23_2 : wr.cell? ⟨gb122, 2, none⟩ = some (.slice A0_2 l0_2.length c0_2) := (Sq.o BK122.out 2).trans rfl
    have hcz23_3 : wr.cell? ⟨gb122, 3, none⟩ = some (.int .i64 a0_3) := (Sq.o BK122.out 3).trans rfl
    have hfz23_0 := Sq.r BK122.out 0
    have hfz23_1 := Sq.r BK122.out 1
    have hfz23_2 := Sq.r BK122.out 2
    have hfz23_3 := Sq.r BK122.out 3
    go_wp2
    go_ret
    exact ⟨by first | rfl | (simp [errW_none, errW_some] <;> rfl) | (simp [*, errW_none, errW_some] <;> rfl), by repeat (first | (with_reducible first | exact HB.out | apply Sq.i | apply Sq.j | apply Sq.k | refine Sq.h ?_ GE122.out) | exact HB.out)⟩

end Go.Proofs.Ytmajbehafgajmaa.QFnExactMemHostFault
