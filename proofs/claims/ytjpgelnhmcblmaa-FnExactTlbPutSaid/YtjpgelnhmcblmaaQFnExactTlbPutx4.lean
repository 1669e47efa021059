-- Written for this claim by this session's own driver (wip/xprint.py).
import Derived.Test.YtjpgelnhmcblmaaQFnExactTlbPutx0
namespace Go.Proofs.Ytjpgelnhmcblmaa.QFnExactTlbPut
open Go.RowKit Go.Proofs.YtjpgelnhmcblmaaW.PrintWords Go.Proofs.YtjpgelnhmcblmaaW.PrintLast Go.Proofs.YtjpgelnhmcblmaaW.PrintMore
attribute [local go_sem] max2_int min2_int max_two min_two max_three min_three max_four min_four   -- for this text's walks alone
set_option linter.unusedVariables false
set_option linter.unusedSimpArgs false

/-! ### impl_yin: function 74 -/
def impl_yin.f (a0 : Int) (a1 : Int) (a2 : Int) : Option (Bool) := if a0 ≥ a1 then (some (decide (a0 ≤ a2))) else (some false)
set_option maxHeartbeats 8000000 in
set_option maxRecDepth 100000 in
theorem impl_yin.calls (a0 : Int) (a1 : Int) (a2 : Int) (r : Bool) (w : World) (h : impl_yin.f a0 a1 a2 = some r) :
    Calls Try.prog 74 #[.int .i64 a0, .int .i64 a1, .int .i64 a2] w fun e w' => e = .returned (.bool r) ∧ Drawn0 w w' := by
  have H : (if a0 ≥ a1 then (some (decide (a0 ≤ a2))) else (some false)) = some r := h
  clear h
  by_cases c4 : a0 ≥ a1
  · rw [if_pos c4] at H
    have c4b0 : decide (a1 ≤ a0) = true := decide_eq_true c4
    clear c4
    obtain rfl := Option.some.inj H
    go_enter Try.func74, Try.ntmps74
    go_wp2
    go_ret
    exact ⟨by first | rfl | (simp; done) | (simp [*]; done), by repeat (first | exact Drawn0.refl _ | apply Drawn0.step)⟩
  · rw [if_neg c4] at H
    have c4b0 : decide (a1 ≤ a0) = false := decide_eq_false c4
    clear c4
    obtain rfl := Option.some.inj H
    go_enter Try.func74, Try.ntmps74
    go_wp2
    go_ret
    exact ⟨by first | rfl | (simp; done) | (simp [*]; done), by repeat (first | exact Drawn0.refl _ | apply Drawn0.step)⟩

/-! ### impl_ytlbEntryOk: function 98 -/
def impl_ytlbEntryOk.f (a0_0 : Int) (a0_1 : Int) (a0_2 : Int) (a0_3 : Int) (a0_4 : Bool) : Option (Bool) := (impl_yin.f a0_0 0 255).bind fun t158 => (if t158 = true then ((impl_yin.f a0_1 0 1023).bind fun t159 => (if t159 = true then ((impl_yin.f a0_2 0 1023).bind fun t160 => (if t160 = true then ((impl_yin.f a0_3 0 255).bind fun t161 => (if t161 = true then (if a0_4 = true then (if (Int.tmod a0_1 32) = 0 then (some ((Int.tmod a0_2 32) == 0)) else (some false)) else (some true)) else (some false))) else (some false))) else (some false))) else (some false))
set_option maxHeartbeats 8000000 in
set_option maxRecDepth 100000 in
theorem impl_ytlbEntryOk.calls (a0_0 : Int) (a0_1 : Int) (a0_2 : Int) (a0_3 : Int) (a0_4 : Bool) (r : Bool) (w : World) (h : impl_ytlbEntryOk.f a0_0 a0_1 a0_2 a0_3 a0_4 = some r) :
  Calls Try.prog 98 #[.agg #[.int .i64 a0_0, .int .i64 a0_1, .int .i64 a0_2, .int .i64 a0_3, .bool a0_4]] w fun e w' => e = .returned (.bool r) ∧ Below w.heap.size w w' := by
 have hu99 := Try.underlying99
 have HB := Sq.l (Below.refl w.heap.size w)
 have H : ((impl_yin.f a0_0 0 255).bind fun t158 => (if t158 = true then ((impl_yin.f a0_1 0 1023).bind fun t159 => (if t159 = true then ((impl_yin.f a0_2 0 1023).bind fun t160 => (if t160 = true then ((impl_yin.f a0_3 0 255).bind fun t161 => (if t161 = true then (if a0_4 = true then (if (Int.tmod a0_1 32) = 0 then (some ((Int.tmod a0_2 32) == 0)) else (some false)) else (some true)) else (some false))) else (some false))) else (some false))) else (some false))) = some r := h
 clear h
 replace H := Option.bind_eq_some_iff.mp H
 obtain ⟨t158, A20, H⟩ := H
 (try dsimp only at H)
 have A2 := Sq.l A20
 clear A20
 by_cases c3 : t158 = true
 ·subst c3
  rw [if_pos rfl] at H
  replace H := Option.bind_eq_some_iff.mp H
  obtain ⟨t159, A40, H⟩ := H
  (try dsimp only at H)
  have A4 := Sq.l A40
  clear A40
  by_cases c5 : t159 = true
  ·subst c5
   rw [if_pos rfl] at H
   replace H := Option.bind_eq_some_iff.mp H
   obtain ⟨t160, A60, H⟩ := H
   (try dsimp only at H)
   have A6 := Sq.l A60
   clear A60
   by_cases c7 : t160 = true
   ·subst c7
    rw [if_pos rfl] at H
    replace H := Option.bind_eq_some_iff.mp H
    obtain ⟨t161, A80, H⟩ := H
    (try dsimp only at H)
    have A8 := Sq.l A80
    clear A80
    by_cases c9 : t161 = true
    ·subst c9
     rw [if_pos rfl] at H
     by_cases c10 : a0_4 = true
     ·subst c10
      rw [if_pos rfl] at H
      by_cases c11 : (Int.tmod a0_1 32) = 0
      ·rw [if_pos c11] at H
       have c11b0 : ((Int.tmod a0_1 32) == 0) = true := beq_iff_eq.mpr c11
       have c11b1 : ((Int.tmod a0_1 32) != 0) = false := bne_eq_false_iff_eq.mpr c11
       clear c11
       obtain rfl := Option.some.inj H
       go_enter Try.func98, Try.ntmps98
       go_wp2_with (first | ((with_reducible refine gate_dst (N := 1) rfl ?_); refine box_event ?hg (N := 1) ?hd (cs := #[.int .i64 a0_0, .int .i64 a0_1, .int .i64 a0_2, .int .i64 a0_3, .bool true]) (t := 99) ?hr ?_; (case hd => rfl); (case hg => rfl); (case hr => first | (go_simp; done) | (go_simp; rfl)); intro gb157 hg w12 hbox hb; have n0_ := Sq.l (Sq.a4 (by repeat (first | (with_reducible first | exact HB.out | apply Sq.i | apply Sq.j | apply Sq.k) | exact HB.out)) hb); have n1_ := Sq.l (hbox); have n2_ := Sq.l ((by rw [hg]; exact (Sq.a5 (by repeat (first | (with_reducible first | exact HB.out | apply Sq.i | apply Sq.j | apply Sq.k) | exact HB.out))) : w.heap.size ≤ gb157)); have n3_ := Sq.l ((by rw [hg]; exact (Sq.a5 (by repeat (first | (with_reducible first | exact HB.out | apply Sq.i | apply Sq.j | apply Sq.k) | exact HB.out))) : w.heap.size ≤ gb157)); clear HB; have HB := n0_; have BK157 := n1_; have GW157 := n2_; have GE157 := n3_; clear n0_ n1_ n2_ n3_; clear hb hbox hg; have hcz13_0 : w12.cell? ⟨gb157, 0, none⟩ = some (.int .i64 a0_0) := (Sq.o BK157.out 0).trans rfl; have hcz13_1 : w12.cell? ⟨gb157, 1, none⟩ = some (.int .i64 a0_1) := (Sq.o BK157.out 1).trans rfl; have hcz13_2 : w12.cell? ⟨gb157, 2, none⟩ = some (.int .i64 a0_2) := (Sq.o BK157.out 2).trans rfl; have hcz13_3 : w12.cell? ⟨gb157, 3, none⟩ = some (.int .i64 a0_3) := (Sq.o BK157.out 3).trans rfl; have hcz13_4 : w12.cell? ⟨gb157, 4, none⟩ = some (.bool true) := (Sq.o BK157.out 4).trans rfl; have hfz13_0 := Sq.r BK157.out 0; have hfz13_1 := Sq.r BK157.out 1; have hfz13_2 := Sq.r BK157.out 2; have hfz13_3 := Sq.r BK157.out 3; have hfz13_4 := Sq.r BK157.out 4) | ((with_reducible refine gate_callee (f := 74) rfl ?_); refine goesL_ (some 5) rfl rfl Try.func74 (by kernel_rfl) rfl #[.int .i64 a0_0, .int .i64 0, .int .i64 255] rfl (by (try simp only [List.map_toArray, List.map_cons, List.map_nil]); first | done | rfl | (simp only [List.length_drop, List.length_take]; rfl)) ?_; (with_reducible refine (impl_yin.calls a0_0 0 255 true _ A2.out).mono ?_); rintro e w' ⟨rfl, ⟨nd, rfl⟩⟩; refine ⟨_, rfl, ?_⟩) | (go_at_call 74; (with_reducible refine (impl_yin.calls a0_1 0 1023 true _ A4.out).mono ?_); rintro e w' ⟨rfl, ⟨nd, rfl⟩⟩) | (go_at_call 74; (with_reducible refine (impl_yin.calls a0_2 0 1023 true _ A6.out).mono ?_); rintro e w' ⟨rfl, ⟨nd, rfl⟩⟩) | (go_at_call 74; (with_reducible refine (impl_yin.calls a0_3 0 255 true _ A8.out).mono ?_); rintro e w' ⟨rfl, ⟨nd, rfl⟩⟩))
       go_ret
       exact ⟨by first | rfl | (simp [errW_none, errW_some] <;> rfl) | (simp [*, errW_none, errW_some] <;> rfl), by repeat (first | (with_reducible first | exact HB.out | apply Sq.i | apply Sq.j | apply Sq.k | refine Sq.h ?_ GE157.out) | exact HB.out)⟩
      ·rw [if_neg c11] at H
       have c11b0 : ((Int.tmod a0_1 32) == 0) = false := beq_eq_false_iff_ne.mpr c11
       have c11b1 : ((Int.tmod a0_1 32) != 0) = true := bne_iff_ne.mpr c11
       obtain rfl := Option.some.inj H
       go_enter Try.func98, Try.ntmps98
       go_wp2_with (first | ((with_reducible refine gate_dst (N := 1) rfl ?_); refine box_event ?hg (N := 1) ?hd (cs := #[.int .i64 a0_0, .int .i64 a0_1, .int .i64 a0_2, .int .i64 a0_3, .bool true]) (t := 99) ?hr ?_; (case hd => rfl); (case hg => rfl); (case hr => first | (go_simp; done) | (go_simp; rfl)); intro gb157 hg w14 hbox hb; have n0_ := Sq.l (Sq.a4 (by repeat (first | (with_reducible first | exact HB.out | apply Sq.i | apply Sq.j | apply Sq.k) | exact HB.out)) hb); have n1_ := Sq.l (hbox); have n2_ := Sq.l ((by rw [hg]; exact (Sq.a5 (by repeat (first | (with_reducible first | exact HB.out | apply Sq.i | apply Sq.j | apply Sq.k) | exact HB.out))) : w.heap.size ≤ gb157)); have n3_ := Sq.l ((by rw [hg]; exact (Sq.a5 (by repeat (first | (with_reducible first | exact HB.out | apply Sq.i | apply Sq.j | apply Sq.k) | exact HB.out))) : w.heap.size ≤ gb157)); clear HB; have HB := n0_; have BK157 := n1_; have GW157 := n2_; have GE157 := n3_; clear n0_ n1_ n2_ n3_; clear hb hbox hg; have hcz15_0 : w14.cell? ⟨gb157, 0, none⟩ = some (.int .i64 a0_0) := (Sq.o BK157.out 0).trans rfl; have hcz15_1 : w14.cell? ⟨gb157, 1, none⟩ = some (.int .i64 a0_1) := (Sq.o BK157.out 1).trans rfl; have hcz15_2 : w14.cell? ⟨gb157, 2, none⟩ = some (.int .i64 a0_2) := (Sq.o BK157.out 2).trans rfl; have hcz15_3 : w14.cell? ⟨gb157, 3, none⟩ = some (.int .i64 a0_3) := (Sq.o BK157.out 3).trans rfl; have hcz15_4 : w14.cell? ⟨gb157, 4, none⟩ = some (.bool true) := (Sq.o BK157.out 4).trans rfl; have hfz15_0 := Sq.r BK157.out 0; have hfz15_1 := Sq.r BK157.out 1; have hfz15_2 := Sq.r BK157.out 2; have hfz15_3 := Sq.r BK157.out 3; have hfz15_4 := Sq.r BK157.out 4) | ((with_reducible refine gate_callee (f := 74) rfl ?_); refine goesL_ (some 5) rfl rfl Try.func74 (by kernel_rfl) rfl #[.int .i64 a0_0, .int .i64 0, .int .i64 255] rfl (by (try simp only [List.map_toArray, List.map_cons, List.map_nil]); first | done | rfl | (simp only [List.length_drop, List.length_take]; rfl)) ?_; (with_reducible refine (impl_yin.calls a0_0 0 255 true _ A2.out).mono ?_); rintro e w' ⟨rfl, ⟨nd, rfl⟩⟩; refine ⟨_, rfl, ?_⟩) | (go_at_call 74; (with_reducible refine (impl_yin.calls a0_1 0 1023 true _ A4.out).mono ?_); rintro e w' ⟨rfl, ⟨nd, rfl⟩⟩) | (go_at_call 74; (with_reducible refine (impl_yin.calls a0_2 0 1023 true _ A6.out).mono ?_); rintro e w' ⟨rfl, ⟨nd, rfl⟩⟩) | (go_at_call 74; (with_reducible refine (impl_yin.calls a0_3 0 255 true _ A8.out).mono ?_); rintro e w' ⟨rfl, ⟨nd, rfl⟩⟩))
       go_ret
       exact ⟨by first | rfl | (simp [errW_none, errW_some] <;> rfl) | (simp [*, errW_none, errW_some] <;> rfl), by repeat (first | (with_reducible first | exact HB.out | apply Sq.i | apply Sq.j | apply Sq.k | refine Sq.h ?_ GE157.out) | exact HB.out)⟩
     ·replace c10 := Bool.eq_false_iff.mpr c10
      subst c10
      rw [if_neg (show ¬ (false = true) by decide)] at H
      obtain rfl := Option.some.inj H
      go_enter Try.func98, Try.ntmps98
      go_wp2_with (first | ((with_reducible refine gate_dst (N := 1) rfl ?_); refine box_event ?hg (N := 1) ?hd (cs := #[.int .i64 a0_0, .int .i64 a0_1, .int .i64 a0_2, .int .i64 a0_3, .bool false]) (t := 99) ?hr ?_; (case hd => rfl); (case hg => rfl); (case hr => first | (go_simp; done) | (go_simp; rfl)); intro gb157 hg w16 hbox hb; have n0_ := Sq.l (Sq.a4 (by repeat (first | (with_reducible first | exact HB.out | apply Sq.i | apply Sq.j | apply Sq.k) | exact HB.out)) hb); have n1_ := Sq.l (hbox); have n2_ := Sq.l ((by rw [hg]; exact (Sq.a5 (by repeat (first | (with_reducible first | exact HB.out | apply Sq.i | apply Sq.j | apply Sq.k) | exact HB.out))) : w.heap.size ≤ gb157)); have n3_ := Sq.l ((by rw [hg]; exact (Sq.a5 (by repeat (first | (with_reducible first | exact HB.out | apply Sq.i | apply Sq.j | apply Sq.k) | exact HB.out))) : w.heap.size ≤ gb157)); clear HB; have HB := n0_; have BK157 := n1_; have GW157 := n2_; have GE157 := n3_; clear n0_ n1_ n2_ n3_; clear hb hbox hg; have hcz17_0 : w16.cell? ⟨gb157, 0, none⟩ = some (.int .i64 a0_0) := (Sq.o BK157.out 0).trans rfl; have hcz17_1 : w16.cell? ⟨gb157, 1, none⟩ = some (.int .i64 a0_1) := (Sq.o BK157.out 1).trans rfl; have hcz17_2 : w16.cell? ⟨gb157, 2, none⟩ = some (.int .i64 a0_2) := (Sq.o BK157.out 2).trans rfl; have hcz17_3 : w16.cell? ⟨gb157, 3, none⟩ = some (.int .i64 a0_3) := (Sq.o BK157.out 3).trans rfl; have hcz17_4 : w16.cell? ⟨gb157, 4, none⟩ = some (.bool false) := (Sq.o BK157.out 4).trans rfl; have hfz17_0 := Sq.r BK157.out 0; have hfz17_1 := Sq.r BK157.out 1; have hfz17_2 := Sq.r BK157.out 2; have hfz17_3 := Sq.r BK157.out 3; have hfz17_4 := Sq.r BK157.out 4) | ((with_reducible refine gate_callee (f := 74) rfl ?_); refine goesL_ (some 5) rfl rfl Try.func74 (by kernel_rfl) rfl #[.int .i64 a0_0, .int .i64 0, .int .i64 255] rfl (by (try simp only [List.map_toArray, List.map_cons, List.map_nil]); first | done | rfl | (simp only [List.length_drop, List.length_take]; rfl)) ?_; (with_reducible refine (impl_yin.calls a0_0 0 255 true _ A2.out).mono ?_); rintro e w' ⟨rfl, ⟨nd, rfl⟩⟩; refine ⟨_, rfl, ?_⟩) | (go_at_call 74; (with_reducible refine (impl_yin.calls a0_1 0 1023 true _ A4.out).mono ?_); rintro e w' ⟨rfl, ⟨nd, rfl⟩⟩) | (go_at_call 74; (with_reducible refine (impl_yin.calls a0_2 0 1023 true _ A6.out).mono ?_); rintro e w' ⟨rfl, ⟨nd, rfl⟩⟩) | (go_at_call 74; (with_reducible refine (impl_yin.calls a0_3 0 255 true _ A8.out).mono ?_); rintro e w' ⟨rfl, ⟨nd, rfl⟩⟩))
      go_ret
      exact ⟨by first | rfl | (simp [errW_none, errW_some] <;> rfl) | (simp [*, errW_none, errW_some] <;> rfl), by repeat (first | (with_reducible first | exact HB.out | apply Sq.i | apply Sq.j | apply Sq.k | refine Sq.h ?_ GE157.out) | exact HB.out)⟩
    ·replace c9 := Bool.eq_false_iff.mpr c9
     subst c9
     rw [if_neg (show ¬ (false = true) by decide)] at H
     obtain rfl := Option.some.inj H
     go_enter Try.func98, Try.ntmps98
     go_wp2_with (first | ((with_reducible refine gate_dst (N := 1) rfl ?_); refine box_event ?hg (N := 1) ?hd (cs := #[.int .i64 a0_0, .int .i64 a0_1, .int .i64 a0_2, .int .i64 a0_3, .bool a0_4]) (t := 99) ?hr ?_; (case hd => rfl); (case hg => rfl); (case hr => first | (go_simp; done) | (go_simp; rfl)); intro gb157 hg w18 hbox hb; have n0_ := Sq.l (Sq.a4 (by repeat (first | (with_reducible first | exact HB.out | apply Sq.i | apply Sq.j | apply Sq.k) | exact HB.out)) hb); have n1_ := Sq.l (hbox); have n2_ := Sq.l ((by rw [hg]; exact (Sq.a5 (by repeat (first | (with_reducible first | exact HB.out | apply Sq.i | apply Sq.j | apply Sq.k) | exact HB.out))) : w.heap.size ≤ gb157)); have n3_ := Sq.l ((by rw [hg]; exact (Sq.a5 (by repeat (first | (with_reducible first | exact HB.out | apply Sq.i | apply Sq.j | apply Sq.k) | exact HB.out))) : w.heap.size ≤ gb157)); clear HB; have HB := n0_; have BK157 := n1_; have GW157 := n2_; have GE157 := n3_; clear n0_ n1_ n2_ n3_; clear hb hbox hg; have hcz19_0 : w18.cell? ⟨gb157, 0, none⟩ = some (.int .i64 a0_0) := (Sq.o BK157.out 0).trans rfl; have hcz19_1 : w18.cell? ⟨gb157, 1, none⟩ = some (.int .i64 a0_1) := (Sq.o BK157.out 1).trans rfl; have hcz19_2 : w18.cell? ⟨gb157, 2, none⟩ = some (.int .i64 a0_2) := (Sq.o BK157.out 2).trans rfl; have hcz19_3 : w18.cell? ⟨gb157, 3, none⟩ = some (.int .i64 a0_3) := (Sq.o BK157.out 3).trans rfl; have hcz19_4 : w18.cell? ⟨gb157, 4, none⟩ = some (.bool a0_4) := (Sq.o BK157.out 4).trans rfl; have hfz19_0 := Sq.r BK157.out 0; have hfz19_1 := Sq.r BK157.out 1; have hfz19_2 := Sq.r BK157.out 2; have hfz19_3 := Sq.r BK157.out 3; have hfz19_4 := Sq.r BK157.out 4) | ((with_reducible refine gate_callee (f := 74) rfl ?_); refine goesL_ (some 5) rfl rfl Try.func74 (by kernel_rfl) rfl #[.int .i64 a0_0, .int .i64 0, .int .i64 255] rfl (by (try simp only [List.map_toArray, List.map_cons, List.map_nil]); first | done | rfl | (simp only [List.length_drop, List.length_take]; rfl)) ?_; (with_reducible refine (impl_yin.calls a0_0 0 255 true _ A2.out).mono ?_); rintro e w' ⟨rfl, ⟨nd, rfl⟩⟩; refine ⟨_, rfl, ?_⟩) | (go_at_call 74; (with_reducible refine (impl_yin.calls a0_1 0 1023 true _ A4.out).mono ?_); rintro e w' ⟨rfl, ⟨nd, rfl⟩⟩) | (go_at_call 74; (with_reducible refine (impl_yin.calls a0_2 0 1023 true _ A6.out).mono ?_); rintro e w' ⟨rfl, ⟨nd, rfl⟩⟩) | (go_at_call 74; (with_reducible refine (impl_yin.calls a0_3 0 255 false _ A8.out).mono ?_); rintro e w' ⟨rfl, ⟨nd, rfl⟩⟩))
     go_ret
     exact ⟨by first | rfl | (simp [errW_none, errW_some] <;> rfl) | (simp [*, errW_none, errW_some] <;> rfl), by repeat (first | (with_reducible first | exact HB.out | apply Sq.i | apply Sq.j | apply Sq.k | refine Sq.h ?_ GE157.out) | exact HB.out)⟩
   ·replace c7 := Bool.eq_false_iff.mpr c7
    subst c7
    rw [if_neg (show ¬ (false = true) by decide)] at H
    obtain rfl := Option.some.inj H
    go_enter Try.func98, Try.ntmps98
    go_wp2_with (first | ((with_reducible refine gate_dst (N := 1) rfl ?_); refine box_event ?hg (N := 1) ?hd (cs := #[.int .i64 a0_0, .int .i64 a0_1, .int .i64 a0_2, .int .i64 a0_3, .bool a0_4]) (t := 99) ?hr ?_; (case hd => rfl); (case hg => rfl); (case hr => first | (go_simp; done) | (go_simp; rfl)); intro gb157 hg w20 hbox hb; have n0_ := Sq.l (Sq.a4 (by repeat (first | (with_reducible first | exact HB.out | apply Sq.i | apply Sq.j | apply Sq.k) | exact HB.out)) hb); have n1_ := Sq.l (hbox); have n2_ := Sq.l ((by rw [hg]; exact (Sq.a5 (by repeat (first | (with_reducible first | exact HB.out | apply Sq.i | apply Sq.j | apply Sq.k) | exact HB.out))) : w.heap.size ≤ gb157)); have n3_ := Sq.l ((by rw [hg]; exact (Sq.a5 (by repeat (first | (with_reducible first | exact HB.out | apply Sq.i | apply Sq.j | apply Sq.k) | exact HB.out))) : w.heap.size ≤ gb157)); clear HB; have HB := n0_; have BK157 := n1_; have GW157 := n2_; have GE157 := n3_; clear n0_ n1_ n2_ n3_; clear hb hbox hg; have hcz21_0 : w20.cell? ⟨gb157, 0, none⟩ = some (.int .i64 a0_0) := (Sq.o BK157.out 0).trans rfl; have hcz21_1 : w20.cell? ⟨gb157, 1, none⟩ = some (.int .i64 a0_1) := (Sq.o BK157.out 1).trans rfl; have hcz21_2 : w20.cell? ⟨gb157, 2, none⟩ = some (.int .i64 a0_2) := (Sq.o BK157.out 2).trans rfl; have hcz21_3 : w20.cell? ⟨gb157, 3, none⟩ = some (.int .i64 a0_3) := (Sq.o BK157.out 3).trans rfl; have hcz21_4 : w20.cell? ⟨gb157, 4, none⟩ = some (.bool a0_4) := (Sq.o BK157.out 4).trans rfl; have hfz21_0 := Sq.r BK157.out 0; have hfz21_1 := Sq.r BK157.out 1; have hfz21_2 := Sq.r BK157.out 2; have hfz21_3 := Sq.r BK157.out 3; have hfz21_4 := Sq.r BK157.out 4) | ((with_reducible refine gate_callee (f := 74) rfl ?_); refine goesL_ (some 5) rfl rfl Try.func74 (by kernel_rfl) rfl #[.int .i64 a0_0, .int .i64 0, .int .i64 255] rfl (by (try simp only [List.map_toArray, List.map_cons, List.map_nil]); first | done | rfl | (simp only [List.length_drop, List.length_take]; rfl)) ?_; (with_reducible refine (impl_yin.calls a0_0 0 255 true _ A2.out).mono ?_); rintro e w' ⟨rfl, ⟨nd, rfl⟩⟩; refine ⟨_, rfl, ?_⟩) | (go_at_call 74; (with_reducible refine (impl_yin.calls a0_1 0 1023 true _ A4.out).mono ?_); rintro e w' ⟨rfl, ⟨nd, rfl⟩⟩) | (go_at_call 74; (with_reducible refine (impl_yin.calls a0_2 0 1023 false _ A6.out).mono ?_); rintro e w' ⟨rfl, ⟨nd, rfl⟩⟩))
    go_ret
    exact ⟨by first | rfl | (simp [errW_none, errW_some] <;> rfl) | (simp [*, errW_none, errW_some] <;> rfl), by repeat (first | (with_reducible first | exact HB.out | apply Sq.i | apply Sq.j | apply Sq.k | refine Sq.h ?_ GE157.out) | exact HB.out)⟩
  ·replace c5 := Bool.eq_false_iff.mpr c5
   subst c5
   rw [if_neg (show ¬ (false = true) by decide)] at H
   obtain rfl := Option.some.inj H
   go_enter Try.func98, Try.ntmps98
   go_wp2_with (first | ((with_reducible refine gate_dst (N := 1) rfl ?_); refine box_event ?hg (N := 1) ?hd (cs := #[.int .i64 a0_0, .int .i64 a0_1, .int .i64 a0_2, .int .i64 a0_3, .bool a0_4]) (t := 99) ?hr ?_; (case hd => rfl); (case hg => rfl); (case hr => first | (go_simp; done) | (go_simp; rfl)); intro gb157 hg w22 hbox hb; have n0_ := Sq.l (Sq.a4 (by repeat (first | (with_reducible first | exact HB.out | apply Sq.i | apply Sq.j | apply Sq.k) | exact HB.out)) hb); have n1_ := Sq.l (hbox); have n2_ := Sq.l ((by rw [hg]; exact (Sq.a5 (by repeat (first | (with_reducible first | exact HB.out | apply Sq.i | apply Sq.j | apply Sq.k) | exact HB.out))) : w.heap.size ≤ gb157)); have n3_ := Sq.l ((by rw [hg]; exact (Sq.a5 (by repeat (first | (with_reducible first | exact HB.out | apply Sq.i | apply Sq.j | apply Sq.k) | exact HB.out))) : w.heap.size ≤ gb157)); clear HB; have HB := n0_; have BK157 := n1_; have GW157 := n2_; have GE157 := n3_; clear n0_ n1_ n2_ n3_; clear hb hbox hg; have hcz23_0 : w22.cell? ⟨gb157, 0, none⟩ = some (.int .i64 a0_0) := (Sq.o BK157.out 0).trans rfl; have hcz23_1 : w22.cell? ⟨gb157, 1, none⟩ = some (.int .i64 a0_1) := (Sq.o BK157.out 1).trans rfl; have hcz23_2 : w22.cell? ⟨gb157, 2, none⟩ = some (.int .i64 a0_2) := (Sq.o BK157.out 2).trans rfl; have hcz23_3 : w22.cell? ⟨gb157, 3, none⟩ = some (.int .i64 a0_3) := (Sq.o BK157.out 3).trans rfl; have hcz23_4 : w22.cell? ⟨gb157, 4, none⟩ = some (.bool a0_4) := (Sq.o BK157.out 4).trans rfl; have hfz23_0 := Sq.r BK157.out 0; have hfz23_1 := Sq.r BK157.out 1; have hfz23_2 := Sq.r BK157.out 2; have hfz23_3 := Sq.r BK157.out 3; have hfz23_4 := Sq.r BK157.out 4) | ((with_reducible refine gate_callee (f := 74) rfl ?_); refine goesL_ (some 5) rfl rfl Try.func74 (by kernel_rfl) rfl #[.int .i64 a0_0, .int .i64 0, .int .i64 255] rfl (by (try simp only [List.map_toArray, List.map_cons, List.map_nil]); first | done | rfl | (simp only [List.length_drop, List.length_take]; rfl)) ?_; (with_reducible refine (impl_yin.calls a0_0 0 255 true _ A2.out).mono ?_); rintro e w' ⟨rfl, ⟨nd, rfl⟩⟩; refine ⟨_, rfl, ?_⟩) | (go_at_call 74; (with_reducible refine (impl_yin.calls a0_1 0 1023 false _ A4.out).mono ?_); rintro e w' ⟨rfl, ⟨nd, rfl⟩⟩))
   go_ret
   exact ⟨by first | rfl | (simp [errW_none, errW_some] <;> rfl) | (simp [*, errW_none, errW_some] <;> rfl), by repeat (first | (with_reducible first | exact HB.out | apply Sq.i | apply Sq.j | apply Sq.k | refine Sq.h ?_ GE157.out) | exact HB.out)⟩
 ·replace c3 := Bool.eq_false_iff.mpr c3
  subst c3
  rw [if_neg (show ¬ (false = true) by decide)] at H
  obtain rfl := Option.some.inj H
  go_enter Try.func98, Try.ntmps98
  go_wp2_with (first | ((with_reducible refine gate_dst (N := 1) rfl ?_); refine box_event ?hg (N := 1) ?hd (cs := #[.int .i64 a0_0, .int .i64 a0_1, .int .i64 a0_2, .int .i64 a0_3, .bool a0_4]) (t := 99) ?hr ?_; (case hd => rfl); (case hg => rfl); (case hr => first | (go_simp; done) | (go_simp; rfl)); intro gb157 hg w24 hbox hb; have n0_ := Sq.l (Sq.a4 (by repeat (first | (with_reducible first | exact HB.out | apply Sq.i | apply Sq.j | apply Sq.k) | exact HB.out)) hb); have n1_ := Sq.l (hbox); have n2_ := Sq.l ((by rw [hg]; exact (Sq.a5 (by repeat (first | (with_reducible first | exact HB.out | apply Sq.i | apply Sq.j | apply Sq.k) | exact HB.out))) : w.heap.size ≤ gb157)); have n3_ := Sq.l ((by rw [hg]; exact (Sq.a5 (by repeat (first | (with_reducible first | exact HB.out | apply Sq.i | apply Sq.j | apply Sq.k) | exact HB.out))) : w.heap.size ≤ gb157)); clear HB; have HB := n0_; have BK157 := n1_; have GW157 := n2_; have GE157 := n3_; clear n0_ n1_ n2_ n3_; clear hb hbox hg; have hcz25_0 : w24.cell? ⟨gb157, 0, none⟩ = some (.int .i64 a0_0) := (Sq.o BK157.out 0).trans rfl; have hcz25_1 : w24.cell? ⟨gb157, 1, none⟩ = some (.int .i64 a0_1) := (Sq.o BK157.out 1).trans rfl; have hcz25_2 : w24.cell? ⟨gb157, 2, none⟩ = some (.int .i64 a0_2) := (Sq.o BK157.out 2).trans rfl; have hcz25_3 : w24.cell? ⟨gb157, 3, none⟩ = some (.int .i64 a0_3) := (Sq.o BK157.out 3).trans rfl; have hcz25_4 : w24.cell? ⟨gb157, 4, none⟩ = some (.bool a0_4) := (Sq.o BK157.out 4).trans rfl; have hfz25_0 := Sq.r BK157.out 0; have hfz25_1 := Sq.r BK157.out 1; have hfz25_2 := Sq.r BK157.out 2; have hfz25_3 := Sq.r BK157.out 3; have hfz25_4 := Sq.r BK157.out 4) | ((with_reducible refine gate_callee (f := 74) rfl ?_); refine goesL_ (some 5) rfl rfl Try.func74 (by kernel_rfl) rfl #[.int .i64 a0_0, .int .i64 0, .int .i64 255] rfl (by (try simp only [List.map_toArray, List.map_cons, List.map_nil]); first | done | rfl | (simp only [List.length_drop, List.length_take]; rfl)) ?_; (with_reducible refine (impl_yin.calls a0_0 0 255 false _ A2.out).mono ?_); rintro e w' ⟨rfl, ⟨nd, rfl⟩⟩; refine ⟨_, rfl, ?_⟩))
  go_ret
  exact ⟨by first | rfl | (simp [errW_none, errW_some] <;> rfl) | (simp [*, errW_none, errW_some] <;> rfl), by repeat (first | (with_reducible first | exact HB.out | apply Sq.i | apply Sq.j | apply Sq.k | refine Sq.h ?_ GE157.out) | exact HB.out)⟩

-- NOT PRINTED: function 128 (impl_TlbEntry_128)

-- NOT PRINTED: function 99 (impl_TlbEntry_99)

/-! ### impl_ysameTlb: function 101 -/
def impl_ysameTlb.f (a0_0 : Int) (a0_1 : Int) (a0_2 : Int) (a0_3 : Int) (a0_4 : Bool) (a1_0 : Int) (a1_1 : Int) (a1_2 : Int) (a1_3 : Int) (a1_4 : Bool) : Option (Bool) := if a0_0 = a1_0 then (if a0_1 = a1_1 then (some (a0_4 == a1_4)) else (some false)) else (some false)
set_option maxHeartbeats 8000000 in
set_option maxRecDepth 100000 in
theorem impl_ysameTlb.calls (a0_0 : Int) (a0_1 : Int) (a0_2 : Int) (a0_3 : Int) (a0_4 : Bool) (a1_0 : Int) (a1_1 : Int) (a1_2 : Int) (a1_3 : Int) (a1_4 : Bool) (r : Bool) (w : World) (h : impl_ysameTlb.f a0_0 a0_1 a0_2 a0_3 a0_4 a1_0 a1_1 a1_2 a1_3 a1_4 = some r) :
    Calls Try.prog 101 #[.agg #[.int .i64 a0_0, .int .i64 a0_1, .int .i64 a0_2, .int .i64 a0_3, .bool a0_4], .agg #[.int .i64 a1_0, .int .i64 a1_1, .int .i64 a1_2, .int .i64 a1_3, .bool a1_4]] w fun e w' => e = .returned (.bool r) ∧ Below w.heap.size w w' := by
  have hu99 := Try.underlying99
  have HB := Aside0.mk (Below.refl w.heap.size w)
  have H : (if a0_0 = a1_0 then (if a0_1 = a1_1 then (some (a0_4 == a1_4)) else (some false)) else (some false)) = some r := h
  clear h
  by_cases c3 : a0_0 = a1_0
  · rw [if_pos c3] at H
    have c3b0 : (a0_0 == a1_0) = true := beq_iff_eq.mpr c3
    have c3b1 : (a0_0 != a1_0) = false := bne_eq_false_iff_eq.mpr c3
    clear c3
    by_cases c4 : a0_1 = a1_1
    · rw [if_pos c4] at H
      have c4b0 : (a0_1 == a1_1) = true := beq_iff_eq.mpr c4
      have c4b1 : (a0_1 != a1_1) = false := bne_eq_false_iff_eq.mpr c4
      clear c4
      obtain rfl := Option.some.inj H
      go_enter Try.func101, Try.ntmps101
      go_wp2_with (first | ((with_reducible refine gate_dst (N := 2) rfl ?_); refine box_event ?hg (N := 2) ?hd (cs := #[.int .i64 a0_0, .int .i64 a0_1, .int .i64 a0_2, .int .i64 a0_3, .bool a0_4]) (t := 99) ?hr ?_; (case hd => rfl); (case hg => rfl); (case hr => first | (go_simp; done) | (go_simp; rfl)); intro gb162 hg w5 hbox hb; have n0_ := Aside0.mk (below_step (by repeat (first | (with_reducible first | exact HB.out | apply below_alloc | apply pw_below_drewN | apply below_drew1) | exact HB.out)) hb); have n1_ := Aside0.mk (hbox); have n2_ := Aside0.mk ((by rw [hg]; exact (below_size (by repeat (first | (with_reducible first | exact HB.out | apply below_alloc | apply pw_below_drewN | apply below_drew1) | exact HB.out))) : w.heap.size ≤ gb162)); have n3_ := Aside0.mk ((by rw [hg]; exact (below_size (by repeat (first | (with_reducible first | exact HB.out | apply below_alloc | apply pw_below_drewN | apply below_drew1) | exact HB.out))) : w.heap.size ≤ gb162)); clear HB; have HB := n0_; have BK162 := n1_; have GW162 := n2_; have GE162 := n3_; clear n0_ n1_ n2_ n3_; clear hb hbox hg) | ((with_reducible refine gate_dst (N := 3) rfl ?_); refine box_event ?hg (N := 3) ?hd (cs := #[.int .i64 a1_0, .int .i64 a1_1, .int .i64 a1_2, .int .i64 a1_3, .bool a1_4]) (t := 99) ?hr ?_; (case hd => rfl); (case hg => rfl); (case hr => first | (go_simp; done) | (go_simp; rfl)); intro gb163 hg w6 hbox hb; have n0_ := Aside0.mk (blk_below (g := gb162) (o := .cells #[.int .i64 a0_0, .int .i64 a0_1, .int .i64 a0_2, .int .i64 a0_3, .bool a0_4] 99 (0, 0)) (by (with_reducible repeat (first | refine blk_drewN ?_ _ | refine blk_drew ?_ | refine blk_alloc ?_ _)); exact BK162.out) hb); have n1_ := Aside0.mk (below_step (by repeat (first | (with_reducible first | exact HB.out | apply below_alloc | apply pw_below_drewN | apply below_drew1 | refine below_set ?_ GE162.out) | exact HB.out)) hb); have n2_ := Aside0.mk (hbox); have n3_ := Aside0.mk ((by rw [hg]; exact (below_size (by repeat (first | (with_reducible first | exact HB.out | apply below_alloc | apply pw_below_drewN | apply below_drew1 | refine below_set ?_ GE162.out) | exact HB.out))) : w.heap.size ≤ gb163)); have n4_ := Aside0.mk ((by rw [hg]; exact (below_size (by repeat (first | (with_reducible first | exact HB.out | apply below_alloc | apply pw_below_drewN | apply below_drew1 | refine below_set ?_ GE162.out) | exact HB.out))) : w.heap.size ≤ gb163)); have n5_ := Aside0.mk ((by rw [hg]; exact Nat.ne_of_lt (blk_lt (g := gb162) (o := .cells #[.int .i64 a0_0, .int .i64 a0_1, .int .i64 a0_2, .int .i64 a0_3, .bool a0_4] 99 (0, 0)) (by (with_reducible repeat (first | refine blk_drewN ?_ _ | refine blk_drew ?_ | refine blk_alloc ?_ _)); exact BK162.out)) : gb162 ≠ gb163)); have n6_ := Aside0.mk ((by rw [hg]; exact Nat.ne_of_gt (blk_lt (g := gb162) (o := .cells #[.int .i64 a0_0, .int .i64 a0_1, .int .i64 a0_2, .int .i64 a0_3, .bool a0_4] 99 (0, 0)) (by (with_reducible repeat (first | refine blk_drewN ?_ _ | refine blk_drew ?_ | refine blk_alloc ?_ _)); exact BK162.out)) : gb163 ≠ gb162)); clear BK162; clear HB; have BK162 := n0_; have HB := n1_; have BK163 := n2_; have GW163 := n3_; have GE163 := n4_; have NB162_163 := n5_; have NB163_162 := n6_; clear n0_ n1_ n2_ n3_ n4_ n5_ n6_; clear hb hbox hg; have hnb7 := NB162_163.out; have hnc7 := NB163_162.out; have hcz8_0 : w6.cell? ⟨gb162, 0, none⟩ = some (.int .i64 a0_0) := (blk_cell BK162.out 0).trans rfl; have hcz8_1 : w6.cell? ⟨gb162, 1, none⟩ = some (.int .i64 a0_1) := (blk_cell BK162.out 1).trans rfl; have hcz8_2 : w6.cell? ⟨gb162, 2, none⟩ = some (.int .i64 a0_2) := (blk_cell BK162.out 2).trans rfl; have hcz8_3 : w6.cell? ⟨gb162, 3, none⟩ = some (.int .i64 a0_3) := (blk_cell BK162.out 3).trans rfl; have hcz8_4 : w6.cell? ⟨gb162, 4, none⟩ = some (.bool a0_4) := (blk_cell BK162.out 4).trans rfl; have hfz8_0 := blk_frozen BK162.out 0; have hfz8_1 := blk_frozen BK162.out 1; have hfz8_2 := blk_frozen BK162.out 2; have hfz8_3 := blk_frozen BK162.out 3; have hfz8_4 := blk_frozen BK162.out 4; have hcz9_0 : w6.cell? ⟨gb163, 0, none⟩ = some (.int .i64 a1_0) := (blk_cell BK163.out 0).trans rfl; have hcz9_1 : w6.cell? ⟨gb163, 1, none⟩ = some (.int .i64 a1_1) := (blk_cell BK163.out 1).trans rfl; have hcz9_2 : w6.cell? ⟨gb163, 2, none⟩ = some (.int .i64 a1_2) := (blk_cell BK163.out 2).trans rfl; have hcz9_3 : w6.cell? ⟨gb163, 3, none⟩ = some (.int .i64 a1_3) := (blk_cell BK163.out 3).trans rfl; have hcz9_4 : w6.cell? ⟨gb163, 4, none⟩ = some (.bool a1_4) := (blk_cell BK163.out 4).trans rfl; have hfz9_0 := blk_frozen BK163.out 0; have hfz9_1 := blk_frozen BK163.out 1; have hfz9_2 := blk_frozen BK163.out 2; have hfz9_3 := blk_frozen BK163.out 3; have hfz9_4 := blk_frozen BK163.out 4))
      go_ret
      exact ⟨by first | rfl | (simp [errW_none, errW_some] <;> rfl) | (simp [*, errW_none, errW_some] <;> rfl), by repeat (first | (with_reducible first | exact HB.out | apply below_alloc | apply pw_below_drewN | apply below_drew1 | refine below_set ?_ GE162.out | refine below_set ?_ GE163.out) | exact HB.out)⟩
    · rw [if_neg c4] at H
      have c4b0 : (a0_1 == a1_1) = false := beq_eq_false_iff_ne.mpr c4
      have c4b1 : (a0_1 != a1_1) = true := bne_iff_ne.mpr c4
      obtain rfl := Option.some.inj H
      go_enter Try.func101, Try.ntmps101
      go_wp2_with (first | ((with_reducible refine gate_dst (N := 2) rfl ?_); refine box_event ?hg (N := 2) ?hd (cs := #[.int .i64 a0_0, .int .i64 a0_1, .int .i64 a0_2, .int .i64 a0_3, .bool a0_4]) (t := 99) ?hr ?_; (case hd => rfl); (case hg => rfl); (case hr => first | (go_simp; done) | (go_simp; rfl)); intro gb162 hg w10 hbox hb; have n0_ := Aside0.mk (below_step (by repeat (first | (with_reducible first | exact HB.out | apply below_alloc | apply pw_below_drewN | apply below_drew1) | exact HB.out)) hb); have n1_ := Aside0.mk (hbox); have n2_ := Aside0.mk ((by rw [hg]; exact (below_size (by repeat (first | (with_reducible first | exact HB.out | apply below_alloc | apply pw_below_drewN | apply below_drew1) | exact HB.out))) : w.heap.size ≤ gb162)); have n3_ := Aside0.mk ((by rw [hg]; exact (below_size (by repeat (first | (with_reducible first | exact HB.out | apply below_alloc | apply pw_below_drewN | apply below_drew1) | exact HB.out))) : w.heap.size ≤ gb162)); clear HB; have HB := n0_; have BK162 := n1_; have GW162 := n2_; have GE162 := n3_; clear n0_ n1_ n2_ n3_; clear hb hbox hg) | ((with_reducible refine gate_dst (N := 3) rfl ?_); refine box_event ?hg (N := 3) ?hd (cs := #[.int .i64 a1_0, .int .i64 a1_1, .int .i64 a1_2, .int .i64 a1_3, .bool a1_4]) (t := 99) ?hr ?_; (case hd => rfl); (case hg => rfl); (case hr => first | (go_simp; done) | (go_simp; rfl)); intro gb163 hg w11 hbox hb; have n0_ := Aside0.mk (blk_below (g := gb162) (o := .cells #[.int .i64 a0_0, .int .i64 a0_1, .int .i64 a0_2, .int .i64 a0_3, .bool a0_4] 99 (0, 0)) (by (with_reducible repeat (first | refine blk_drewN ?_ _ | refine blk_drew ?_ | refine blk_alloc ?_ _)); exact BK162.out) hb); have n1_ := Aside0.mk (below_step (by repeat (first | (with_reducible first | exact HB.out | apply below_alloc | apply pw_below_drewN | apply below_drew1 | refine below_set ?_ GE162.out) | exact HB.out)) hb); have n2_ := Aside0.mk (hbox); have n3_ := Aside0.mk ((by rw [hg]; exact (below_size (by repeat (first | (with_reducible first | exact HB.out | apply below_alloc | apply pw_below_drewN | apply below_drew1 | refine below_set ?_ GE162.out) | exact HB.out))) : w.heap.size ≤ gb163)); have n4_ := Aside0.mk ((by rw [hg]; exact (below_size (by repeat (first | (with_reducible first | exact HB.out | apply below_alloc | apply pw_below_drewN | apply below_drew1 | refine below_set ?_ GE162.out) | exact HB.out))) : w.heap.size ≤ gb163)); have n5_ := Aside0.mk ((by rw [hg]; exact Nat.ne_of_lt (blk_lt (g := gb162) (o := .cells #[.int .i64 a0_0, .int .i64 a0_1, .int .i64 a0_2, .int .i64 a0_3, .bool a0_4] 99 (0, 0)) (by (with_reducible repeat (first | refine blk_drewN ?_ _ | refine blk_drew ?_ | refine blk_alloc ?_ _)); exact BK162.out)) : gb162 ≠ gb163)); have n6_ := Aside0.mk ((by rw [hg]; exact Nat.ne_of_gt (blk_lt (g := gb162) (o := .cells #[.int .i64 a0_0, .int .i64 a0_1, .int .i64 a0_2, .int .i64 a0_3, .bool a0_4] 99 (0, 0)) (by (with_reducible repeat (first | refine blk_drewN ?_ _ | refine blk_drew ?_ | refine blk_alloc ?_ _)); exact BK162.out)) : gb163 ≠ gb162)); clear BK162; clear HB; have BK162 := n0_; have HB := n1_; have BK163 := n2_; have GW163 := n3_; have GE163 := n4_; have NB162_163 := n5_; have NB163_162 := n6_; clear n0_ n1_ n2_ n3_ n4_ n5_ n6_; clear hb hbox hg; have hnb12 := NB162_163.out; have hnc12 := NB163_162.out; have hcz13_0 : w11.cell? ⟨gb162, 0, none⟩ = some (.int .i64 a0_0) := (blk_cell BK162.out 0).trans rfl; have hcz13_1 : w11.cell? ⟨gb162, 1, none⟩ = some (.int .i64 a0_1) := (blk_cell BK162.out 1).trans rfl; have hcz13_2 : w11.cell? ⟨gb162, 2, none⟩ = some (.int .i64 a0_2) := (blk_cell BK162.out 2).trans rfl; have hcz13_3 : w11.cell? ⟨gb162, 3, none⟩ = some (.int .i64 a0_3) := (blk_cell BK162.out 3).trans rfl; have hcz13_4 : w11.cell? ⟨gb162, 4, none⟩ = some (.bool a0_4) := (blk_cell BK162.out 4).trans rfl; have hfz13_0 := blk_frozen BK162.out 0; have hfz13_1 := blk_frozen BK162.out 1; have hfz13_2 := blk_frozen BK162.out 2; have hfz13_3 := blk_frozen BK162.out 3; have hfz13_4 := blk_frozen BK162.out 4; have hcz14_0 : w11.cell? ⟨gb163, 0, none⟩ = some (.int .i64 a1_0) := (blk_cell BK163.out 0).trans rfl; have hcz14_1 : w11.cell? ⟨gb163, 1, none⟩ = some (.int .i64 a1_1) := (blk_cell BK163.out 1).trans rfl; have hcz14_2 : w11.cell? ⟨gb163, 2, none⟩ = some (.int .i64 a1_2) := (blk_cell BK163.out 2).trans rfl; have hcz14_3 : w11.cell? ⟨gb163, 3, none⟩ = some (.int .i64 a1_3) := (blk_cell BK163.out 3).trans rfl; have hcz14_4 : w11.cell? ⟨gb163, 4, none⟩ = some (.bool a1_4) := (blk_cell BK163.out 4).trans rfl; have hfz14_0 := blk_frozen BK163.out 0; have hfz14_1 := blk_frozen BK163.out 1; have hfz14_2 := blk_frozen BK163.out 2; have hfz14_3 := blk_frozen BK163.out 3; have hfz14_4 := blk_frozen BK163.out 4))
      go_ret
      exact ⟨by first | rfl | (simp [errW_none, errW_some] <;> rfl) | (simp [*, errW_none, errW_some] <;> rfl), by repeat (first | (with_reducible first | exact HB.out | apply below_alloc | apply pw_below_drewN | apply below_drew1 | refine below_set ?_ GE162.out | refine below_set ?_ GE163.out) | exact HB.out)⟩
  · rw [if_neg c3] at H
    have c3b0 : (a0_0 == a1_0) = false := beq_eq_false_iff_ne.mpr c3
    have c3b1 : (a0_0 != a1_0) = true := bne_iff_ne.mpr c3
    obtain rfl := Option.some.inj H
    go_enter Try.func101, Try.ntmps101
    go_wp2_with (first | ((with_reducible refine gate_dst (N := 2) rfl ?_); refine box_event ?hg (N := 2) ?hd (cs := #[.int .i64 a0_0, .int .i64 a0_1, .int .i64 a0_2, .int .i64 a0_3, .bool a0_4]) (t := 99) ?hr ?_; (case hd => rfl); (case hg => rfl); (case hr => first | (go_simp; done) | (go_simp; rfl)); intro gb162 hg w15 hbox hb; have n0_ := Aside0.mk (below_step (by repeat (first | (with_reducible first | exact HB.out | apply below_alloc | apply pw_below_drewN | apply below_drew1) | exact HB.out)) hb); have n1_ := Aside0.mk (hbox); have n2_ := Aside0.mk ((by rw [hg]; exact (below_size (by repeat (first | (with_reducible first | exact HB.out | apply below_alloc | apply pw_below_drewN | apply below_drew1) | exact HB.out))) : w.heap.size ≤ gb162)); have n3_ := Aside0.mk ((by rw [hg]; exact (below_size (by repeat (first | (with_reducible first | exact HB.out | apply below_alloc | apply pw_below_drewN | apply below_drew1) | exact HB.out))) : w.heap.size ≤ gb162)); clear HB; have HB := n0_; have BK162 := n1_; have GW162 := n2_; have GE162 := n3_; clear n0_ n1_ n2_ n3_; clear hb hbox hg) | ((with_reducible refine gate_dst (N := 3) rfl ?_); refine box_event ?hg (N := 3) ?hd (cs := #[.int .i64 a1_0, .int .i64 a1_1, .int .i64 a1_2, .int .i64 a1_3, .bool a1_4]) (t := 99) ?hr ?_; (case hd => rfl); (case hg => rfl); (case hr => first | (go_simp; done) | (go_simp; rfl)); intro gb163 hg w16 hbox hb; have n0_ := Aside0.mk (blk_below (g := gb162) (o := .cells #[.int .i64 a0_0, .int .i64 a0_1, .int .i64 a0_2, .int .i64 a0_3, .bool a0_4] 99 (0, 0)) (by (with_reducible repeat (first | refine blk_drewN ?_ _ | refine blk_drew ?_ | refine blk_alloc ?_ _)); exact BK162.out) hb); have n1_ := Aside0.mk (below_step (by repeat (first | (with_reducible first | exact HB.out | apply below_alloc | apply pw_below_drewN | apply below_drew1 | refine below_set ?_ GE162.out) | exact HB.out)) hb); have n2_ := Aside0.mk (hbox); have n3_ := Aside0.mk ((by rw [hg]; exact (below_size (by repeat (first | (with_reducible first | exact HB.out | apply below_alloc | apply pw_below_drewN | apply below_drew1 | refine below_set ?_ GE162.out) | exact HB.out))) : w.heap.size ≤ gb163)); have n4_ := Aside0.mk ((by rw [hg]; exact (below_size (by repeat (first | (with_reducible first | exact HB.out | apply below_alloc | apply pw_below_drewN | apply below_drew1 | refine below_set ?_ GE162.out) | exact HB.out))) : w.heap.size ≤ gb163)); have n5_ := Aside0.mk ((by rw [hg]; exact Nat.ne_of_lt (blk_lt (g := gb162) (o := .cells #[.int .i64 a0_0, .int .i64 a0_1, .int .i64 a0_2, .int .i64 a0_3, .bool a0_4] 99 (0, 0)) (by (with_reducible repeat (first | refine blk_drewN ?_ _ | refine blk_drew ?_ | refine blk_alloc ?_ _)); exact BK162.out)) : gb162 ≠ gb163)); have n6_ := Aside0.mk ((by rw [hg]; exact Nat.ne_of_gt (blk_lt (g := gb162) (o := .cells #[.int .i64 a0_0, .int .i64 a0_1, .int .i64 a0_2, .int .i64 a0_3, .bool a0_4] 99 (0, 0)) (by (with_reducible repeat (first | refine blk_drewN ?_ _ | refine blk_drew ?_ | refine blk_alloc ?_ _)); exact BK162.out)) : gb163 ≠ gb162)); clear BK162; clear HB; have BK162 := n0_; have HB := n1_; have BK163 := n2_; have GW163 := n3_; have GE163 := n4_; have NB162_163 := n5_; have NB163_162 := n6_; clear n0_ n1_ n2_ n3_ n4_ n5_ n6_; clear hb hbox hg; have hnb17 := NB162_163.out; have hnc17 := NB163_162.out; have hcz18_0 : w16.cell? ⟨gb162, 0, none⟩ = some (.int .i64 a0_0) := (blk_cell BK162.out 0).trans rfl; have hcz18_1 : w16.cell? ⟨gb162, 1, none⟩ = some (.int .i64 a0_1) := (blk_cell BK162.out 1).trans rfl; have hcz18_2 : w16.cell? ⟨gb162, 2, none⟩ = some (.int .i64 a0_2) := (blk_cell BK162.out 2).trans rfl; have hcz18_3 : w16.cell? ⟨gb162, 3, none⟩ = some (.int .i64 a0_3) := (blk_cell BK162.out 3).trans rfl; have hcz18_4 : w16.cell? ⟨gb162, 4, none⟩ = some (.bool a0_4) := (blk_cell BK162.out 4).trans rfl; have hfz18_0 := blk_frozen BK162.out 0; have hfz18_1 := blk_frozen BK162.out 1; have hfz18_2 := blk_frozen BK162.out 2; have hfz18_3 := blk_frozen BK162.out 3; have hfz18_4 := blk_frozen BK162.out 4; have hcz19_0 : w16.cell? ⟨gb163, 0, none⟩ = some (.int .i64 a1_0) := (blk_cell BK163.out 0).trans rfl; have hcz19_1 : w16.cell? ⟨gb163, 1, none⟩ = some (.int .i64 a1_1) := (blk_cell BK163.out 1).trans rfl; have hcz19_2 : w16.cell? ⟨gb163, 2, none⟩ = some (.int .i64 a1_2) := (blk_cell BK163.out 2).trans rfl; have hcz19_3 : w16.cell? ⟨gb163, 3, none⟩ = some (.int .i64 a1_3) := (blk_cell BK163.out 3).trans rfl; have hcz19_4 : w16.cell? ⟨gb163, 4, none⟩ = some (.bool a1_4) := (blk_cell BK163.out 4).trans rfl; have hfz19_0 := blk_frozen BK163.out 0; have hfz19_1 := blk_frozen BK163.out 1; have hfz19_2 := blk_frozen BK163.out 2; have hfz19_3 := blk_frozen BK163.out 3; have hfz19_4 := blk_frozen BK163.out 4))
    go_ret
    exact ⟨by first | rfl | (simp [errW_none, errW_some] <;> rfl) | (simp [*, errW_none, errW_some] <;> rfl), by repeat (first | (with_reducible first | exact HB.out | apply below_alloc | apply pw_below_drewN | apply below_drew1 | refine below_set ?_ GE162.out | refine below_set ?_ GE163.out) | exact HB.out)⟩

-- NOT PRINTED: function 100 (impl_TlbFault_1)

/-! ### impl_TlbFault: function 39 -/
def inB (a lo hi : Int) : Bool := decide (lo ≤ a) && decide (a ≤ hi)
theorem yin_eq (a lo hi : Int) : impl_yin.f a lo hi = some (inB a lo hi) := by
  unfold impl_yin.f inB
  by_cases h : a ≥ lo
  · rw [if_pos h, decide_eq_true h]; rfl
  · rw [if_neg h, decide_eq_false h]; rfl
def tlbSame (e x : (S99)) : Bool := decide (x.f0 = e.f0) && (decide (x.f1 = e.f1) && (x.f4 == e.f4))
theorem same_eq (x e : (S99)) : impl_ysameTlb.f x.f0 x.f1 x.f2 x.f3 x.f4 e.f0 e.f1 e.f2 e.f3 e.f4 = some (tlbSame e x) := by
  unfold impl_ysameTlb.f tlbSame
  by_cases h0 : x.f0 = e.f0
  · rw [if_pos h0, decide_eq_true h0]
    by_cases h1 : x.f1 = e.f1
    · rw [if_pos h1, decide_eq_true h1]; rfl
    · rw [if_neg h1, decide_eq_false h1]; rfl
  · rw [if_neg h0, decide_eq_false h0]; rfl
def tlbOkB (x : (S99)) : Bool := inB x.f0 0 255 && (inB x.f1 0 1023 && (inB x.f2 0 1023 && (inB x.f3 0 255 && (!x.f4 || (decide (Int.tmod x.f1 32 = 0) && (Int.tmod x.f2 32 == 0))))))
theorem tlbOk_eq (x : (S99)) : impl_ytlbEntryOk.f x.f0 x.f1 x.f2 x.f3 x.f4 = some (tlbOkB x) := by
  unfold impl_ytlbEntryOk.f tlbOkB
  rw [yin_eq, yin_eq, yin_eq, yin_eq]
  cases inB x.f0 0 255
  · rfl
  · cases inB x.f1 0 1023
    · rfl
    · cases inB x.f2 0 1023
      · rfl
      · cases inB x.f3 0 255
        · rfl
        · cases x.f4
          · rfl
          · simp only [Option.bind_some, if_true, Bool.true_and, Bool.not_true, Bool.false_or]
            by_cases h : Int.tmod x.f1 32 = 0
            · rw [if_pos h, decide_eq_true h]; rfl
            · rw [if_neg h, decide_eq_false h]; rfl
def tlbGood (l : List (S99)) (k : Nat) : Bool := tlbOkB (l.getD k z99) && !((l.take k).any (tlbSame (l.getD k z99)))
theorem tlbAll_false (l : List (S99)) (j : Nat) (hj : j < l.length) (h : tlbGood l j = false) : (List.range l.length).all (tlbGood l) = false :=
  List.all_eq_false.mpr ⟨j, List.mem_range.mpr hj, by rw [h]; simp⟩
theorem tlbAll_true (l : List (S99)) (h : ∀ j, j < l.length → tlbGood l j = true) : (List.range l.length).all (tlbGood l) = true :=
  List.all_eq_true.mpr (fun j hj => h j (List.mem_range.mp hj))
def impl_TlbFault.f (l0_0 : List (S99)) (a0_1 : Int) : Option (Int) := if (l0_0.length : Int) > 16 then some 1 else if inB a0_1 0 15 = true then (if (List.range l0_0.length).all (tlbGood l0_0) = true then some 0 else some 1) else some 1
set_option maxHeartbeats 4000000 in
theorem TlbFault_indexFunc (A : Option Addr) (c : Nat) (zs : List S99) (p : S99 → Bool) (B0 : Nat) (eg : ∀ args w, (callFunc 100 args).run Try.prog w = .ok (.enter 100 args) w) (w : World)
    (hp : ∀ (W : World) (x : S99), Below w.heap.size w W → Calls Try.prog 100 #[.agg #[.int .i64 x.f0, .int .i64 x.f1, .int .i64 x.f2, .int .i64 x.f3, .bool x.f4], .pointer (some ⟨B0, 0, none⟩)] W fun e w' => e = .returned (.bool (p x)) ∧ Below W.heap.size W w')
    (hr : Kd.C k99 w A zs.length zs) :
    Calls Try.prog 128 #[.slice A zs.length c, .func (.func 100) #[] #[.pointer (some ⟨B0, 0, none⟩)]] w fun e w' => e = .returned (.int .i64 (Go.Proofs.Ytjpgelnhmcblmaa.Pl.idxFrom p zs 0)) ∧ Below w.heap.size w w' := by
  have HR := Aside0.mk hr
  have hbig := hr.2.1
  have HP := Aside0.mk hp
  clear hr hp
  go_enter Try.func128, Try.ntmps128
  go_wp2
  go_loopg [5, 8] zs.length (fun gg _ s8 wr => ∃ kk : Nat, s8 = .int .i64 kk ∧ Aside0 (kk ≤ zs.length) ∧ Aside0 (zs.length - kk ≤ gg) ∧ Aside0 (Below w.heap.size w wr) ∧ Aside0 (∀ j, j < kk → p (zs.getD j z99) = false))
  case atStart => exact ⟨0, rfl, ⟨Nat.zero_le _⟩, ⟨by omega⟩, ⟨Below.refl _ w⟩, ⟨fun j hj => absurd hj (Nat.not_lt_zero _)⟩⟩
  case round =>
    obtain ⟨kk, rfl, hkk, hg, BW, AA⟩ := hrel
    by_cases hlt : kk < zs.length
    · have hltz : (kk : Int) < (zs.length : Int) := by omega
      obtain ⟨ad, e_, hx0, hx1, hx2, hx3, hx4⟩ := at_T99 HR.out (kk : Int) (by omega) (by omega)
      cases e_
      replace hx0 := pw_cell_below BW.out hx0
      replace hx1 := pw_cell_below BW.out hx1
      replace hx2 := pw_cell_below BW.out hx2
      replace hx3 := pw_cell_below BW.out hx3
      replace hx4 := pw_cell_below BW.out hx4
      rw [Int.toNat_natCast] at hx0 hx1 hx2 hx3 hx4
      have hcall := HP.out wr (zs.getD kk z99) BW.out
      have hy0 : rd_T99 zs (kk : Int) = zs.getD kk z99 := by unfold rd_T99; rw [Int.toNat_natCast]
      rw [hy0] at hx0 hx1 hx2 hx3 hx4
      clear hy0
      generalize hy : zs.getD kk z99 = y at hx0 hx1 hx2 hx3 hx4 hcall
      have BY := Aside0.mk hy
      clear hy
      cases hq : p y with
      | true =>
        rw [hq] at hcall
        have HQ := Aside0.mk hq
        clear hq
        go_wp2_with (go_at_call 100; refine hcall.mono ?_; rintro e w' ⟨rfl, hb'⟩)
        go_ret
        refine ⟨?_, BW.out.trans (hb'.mono BW.out.size)⟩
        rw [Go.Proofs.Ytjpgelnhmcblmaa.Pl.idxFrom_hit p z99 zs 0 kk hlt (by rw [BY.out]; exact HQ.out) AA.out, Nat.zero_add]
        rfl
      | false =>
        rw [hq] at hcall
        have HQ := Aside0.mk hq
        clear hq
        go_wp2_with (go_at_call 100; refine hcall.mono ?_; rintro e w' ⟨rfl, hb'⟩)
        go_roundg (zs.length - (kk + 1))
        case measure => have := hg.out; omega
        case rel =>
          refine ⟨kk + 1, by go_num, ⟨hlt⟩, ⟨by omega⟩, ⟨BW.out.trans (hb'.mono BW.out.size)⟩, ⟨fun j hj => ?_⟩⟩
          by_cases e : j = kk
          · subst e
            rw [BY.out]; exact HQ.out
          · exact AA.out j (by omega)
    · have hltz : ¬ (kk : Int) < (zs.length : Int) := by omega
      have hkn : kk = zs.length := by have := hkk.out; omega
      subst hkn
      go_wp2
      go_ret
      refine ⟨?_, BW.out⟩
      rw [Go.Proofs.Ytjpgelnhmcblmaa.Pl.idxFrom_miss p z99 zs 0 AA.out]
      rfl
set_option maxHeartbeats 4000000 in
theorem TlbFault_closure (W : World) (x e : (S99)) (B : Nat) (hB0 : W.cell? ⟨B, 0, none⟩ = some (.int .i64 e.f0)) (hB1 : W.cell? ⟨B, 1, none⟩ = some (.int .i64 e.f1)) (hB2 : W.cell? ⟨B, 2, none⟩ = some (.int .i64 e.f2)) (hB3 : W.cell? ⟨B, 3, none⟩ = some (.int .i64 e.f3)) (hB4 : W.cell? ⟨B, 4, none⟩ = some (.bool e.f4)) : Calls Try.prog 100 #[.agg #[.int .i64 x.f0, .int .i64 x.f1, .int .i64 x.f2, .int .i64 x.f3, .bool x.f4], .pointer (some ⟨B, 0, none⟩)] W fun e_ w' => e_ = .returned (.bool (tlbSame e x)) ∧ Below W.heap.size W w' := by
  have hy := fun W => impl_ysameTlb.calls x.f0 x.f1 x.f2 x.f3 x.f4 e.f0 e.f1 e.f2 e.f3 e.f4 _ W (same_eq x e)
  generalize tlbSame e x = b at hy
  have hB := fun (W' : World) (hb : Below W.heap.size W W') => (⟨pw_cell_below hb hB0, pw_cell_below hb hB1, pw_cell_below hb hB2, pw_cell_below hb hB3, pw_cell_below hb hB4⟩ : W'.cell? ⟨B, 0, none⟩ = some (.int .i64 e.f0) ∧ W'.cell? ⟨B, 1, none⟩ = some (.int .i64 e.f1) ∧ W'.cell? ⟨B, 2, none⟩ = some (.int .i64 e.f2) ∧ W'.cell? ⟨B, 3, none⟩ = some (.int .i64 e.f3) ∧ W'.cell? ⟨B, 4, none⟩ = some (.bool e.f4))
  obtain ⟨hc0, hc1, hc2, hc3, hc4⟩ := hB (W.alloc (Obj.cells #[.int .i64 x.f0, .int .i64 x.f1, .int .i64 x.f2, .int .i64 x.f3, .bool x.f4] 99)) (below_alloc (Below.refl _ _) _)
  go_enter Try.func100, Try.ntmps100
  go_wp2_with (go_at_call 101; with_reducible refine (hy _).mono ?_; rintro e w' ⟨rfl, hbs⟩)
  go_ret
  exact ⟨rfl, Below.trans (by repeat (first | exact Below.refl _ _ | apply pw_below_drewN | apply below_alloc)) (hbs.mono (by simp))⟩
set_option maxHeartbeats 16000000 in
set_option maxRecDepth 100000 in
theorem impl_TlbFault.calls (A0_0 : Option Addr) (c0_0 : Nat) (l0_0 : List (S99)) (a0_1 : Int) (r : Int) (w : World) (hr0_0 : Kd.C k99 w A0_0 l0_0.length l0_0) (hc0_0 : l0_0.length ≤ c0_0) (h : impl_TlbFault.f l0_0 a0_1 = some r) :
    Calls Try.prog 39 #[.agg #[.slice A0_0 l0_0.length c0_0, .int .i64 a0_1]] w fun e w' => e = .returned (.int .i64 r) ∧ Below w.heap.size w w' := by
  have eg : ∀ args w, (callFunc 100 args).run Try.prog w = .ok (.enter 100 args) w := enters_of Try.func100 (by kernel_rfl) rfl
  unfold impl_TlbFault.f at h
  have HR := Aside0.mk hr0_0
  have HCC := Aside0.mk hc0_0
  have hmx := hr0_0.2.1
  clear hr0_0 hc0_0
  by_cases hl : (l0_0.length : Int) > 16
  · rw [if_pos hl] at h
    obtain rfl := Option.some.inj h
    have hl1 : decide ((l0_0.length : Int) > 16) = true := decide_eq_true hl
    have hl2 : decide (16 < (l0_0.length : Int)) = true := decide_eq_true hl
    have hl3 : decide (16 < l0_0.length) = true := decide_eq_true (by omega)
    clear h hl
    go_enter Try.func39, Try.ntmps39
    go_wp2
    go_ret
    exact ⟨rfl, (by repeat (first | exact Below.refl _ _ | apply pw_below_drewN | apply below_alloc))⟩
  · rw [if_neg hl] at h
    have hl1 : decide ((l0_0.length : Int) > 16) = false := decide_eq_false hl
    have hl2 : decide (16 < (l0_0.length : Int)) = false := decide_eq_false hl
    have hl3 : decide (16 < l0_0.length) = false := decide_eq_false (by omega)
    have HL := Aside0.mk hl
    have hy0 := fun W => impl_yin.calls a0_1 0 15 _ W (yin_eq _ _ _)
    clear hl
    cases hb0 : inB a0_1 0 15 with
    | false =>
      rw [hb0] at hy0
      rw [if_neg (by rw [hb0]; simp)] at h
      obtain rfl := Option.some.inj h
      clear h hb0
      go_enter Try.func39, Try.ntmps39
      go_wp2_with (go_at_call 74; with_reducible refine (hy0 _).mono ?_; rintro e w' ⟨rfl, ⟨m1, rfl⟩⟩)
      go_ret
      exact ⟨rfl, (by repeat (first | exact Below.refl _ _ | apply pw_below_drewN | apply below_alloc))⟩
    | true =>
      rw [hb0] at hy0
      rw [if_pos hb0] at h
      have hr : r = if (List.range l0_0.length).all (tlbGood l0_0) = true then 0 else 1 := by
        cases hc : (List.range l0_0.length).all (tlbGood l0_0) with
        | true => rw [hc, if_pos rfl] at h; rw [if_pos rfl]; exact (Option.some.inj h).symm
        | false => rw [hc, if_neg (by simp)] at h; rw [if_neg (by simp)]; exact (Option.some.inj h).symm
      have RR := Aside0.mk hr
      clear h hb0 hr
      have hbx : ∀ W : World, Below (w.alloc (Obj.cells #[.slice A0_0 l0_0.length c0_0, .int .i64 a0_1] 65)).heap.size (w.alloc (Obj.cells #[.slice A0_0 l0_0.length c0_0, .int .i64 a0_1] 65)) W → W.cell? ⟨w.heap.size, 0, none⟩ = some (.slice A0_0 l0_0.length c0_0) := fun W hb => pw_cell_below hb (by simp)
      have HBX := Aside0.mk hbx
      clear hbx
      go_enter Try.func39, Try.ntmps39
      go_wp2_with (go_at_call 74; with_reducible refine (hy0 _).mono ?_; rintro e w' ⟨rfl, ⟨m1, rfl⟩⟩)
      go_loopg [18] l0_0.length (fun gq v18 wr => ∃ j : Nat, v18 = .int .i64 j ∧ Aside0 (j ≤ l0_0.length) ∧ Aside0 (l0_0.length - j ≤ gq) ∧ Aside0 (Below (w.alloc (Obj.cells #[.slice A0_0 l0_0.length c0_0, .int .i64 a0_1] 65)).heap.size (w.alloc (Obj.cells #[.slice A0_0 l0_0.length c0_0, .int .i64 a0_1] 65)) wr) ∧ Aside0 (∀ i, i < j → tlbGood l0_0 i = true))
      case atStart => exact ⟨0, rfl, ⟨Nat.zero_le _⟩, ⟨by omega⟩, ⟨(by repeat (first | exact Below.refl _ _ | apply pw_below_drewN | apply below_alloc))⟩, ⟨fun i hi => absurd hi (Nat.not_lt_zero _)⟩⟩
      case round =>
        obtain ⟨j, rfl, hj, hg, HB, HG⟩ := hrel
        have HW : Aside0 (Below w.heap.size w wr) := ⟨Below.trans (below_alloc (Below.refl _ _) _) (HB.out.mono (by simp))⟩
        have hbox0 := HBX.out wr HB.out
        by_cases hlt : j < l0_0.length
        · have hltz : (j : Int) < (l0_0.length : Int) := by omega
          obtain ⟨ad, e_, hx0, hx1, hx2, hx3, hx4⟩ := at_T99 HR.out (j : Int) (by omega) hltz
          cases e_
          replace hx0 := pw_cell_below HW.out hx0
          replace hx1 := pw_cell_below HW.out hx1
          replace hx2 := pw_cell_below HW.out hx2
          replace hx3 := pw_cell_below HW.out hx3
          replace hx4 := pw_cell_below HW.out hx4
          rw [Int.toNat_natCast] at hx0 hx1 hx2 hx3 hx4
          have hyy : rd_T99 l0_0 (j : Int) = l0_0.getD j z99 := by unfold rd_T99; rw [Int.toNat_natCast]
          rw [hyy] at hx0 hx1 hx2 hx3 hx4
          obtain ⟨y, hy⟩ : ∃ y, l0_0.getD j z99 = y := ⟨_, rfl⟩
          rw [hy] at hx0 hx1 hx2 hx3 hx4
          have BY := Aside0.mk hy
          clear hy hyy
          have hok := fun W => impl_ytlbEntryOk.calls y.f0 y.f1 y.f2 y.f3 y.f4 _ W (tlbOk_eq y)
          cases hb : tlbOkB y with
          | false =>
            rw [hb] at hok
            have HBB := Aside0.mk hb
            clear hb
            go_wp2_with (go_at_call 98; with_reducible refine (hok _).mono ?_; rintro e w' ⟨rfl, hbs⟩)
            go_ret
            refine ⟨?_, Below.trans (below_alloc HW.out _) (hbs.mono (by have := HW.out.size; simp; omega))⟩
            rw [RR.out, tlbAll_false _ _ hlt (by unfold tlbGood; rw [BY.out, HBB.out]; rfl)]
            rfl
          | true =>
            rw [hb] at hok
            have HBB := Aside0.mk hb
            clear hb
            have htl : (l0_0.take j).length = j := by rw [List.length_take]; omega
            have hcon := fun (W : World) (B : Nat) (hbw : Below w.heap.size w W) (h0_ : W.cell? ⟨B, 0, none⟩ = some (.int .i64 y.f0)) (h1_ : W.cell? ⟨B, 1, none⟩ = some (.int .i64 y.f1)) (h2_ : W.cell? ⟨B, 2, none⟩ = some (.int .i64 y.f2)) (h3_ : W.cell? ⟨B, 3, none⟩ = some (.int .i64 y.f3)) (h4_ : W.cell? ⟨B, 4, none⟩ = some (.bool y.f4)) => TlbFault_indexFunc (some ad) c0_0 (l0_0.take j) (tlbSame y) B eg W (fun W' x hb' => TlbFault_closure W' x y B (pw_cell_below hb' h0_) (pw_cell_below hb' h1_) (pw_cell_below hb' h2_) (pw_cell_below hb' h3_) (pw_cell_below hb' h4_)) (Kd.C_take (Kd.C_below HR.out hbw) (by omega))
            rw [htl] at hcon
            have hany := Go.Proofs.Ytjpgelnhmcblmaa.Pl.idxFrom_any (tlbSame y) (l0_0.take j) 0
            generalize Go.Proofs.Ytjpgelnhmcblmaa.Pl.idxFrom (tlbSame y) (l0_0.take j) 0 = q at hcon hany
            have HANY := Aside0.mk hany
            have HJC : j ≤ c0_0 := Nat.le_trans hj.out HCC.out
            have HJ2 : j ≤ l0_0.length := hj.out
            have HJ3 : (j : Int) ≤ (c0_0 : Int) := by omega
            have HJ4 : (0 : Int) ≤ (j : Int) := by omega
            clear hany htl
            cases hq : decide (0 ≤ q) with
            | true =>
              have hq1 : (0 ≤ q) := of_decide_eq_true hq
              have HQ := Aside0.mk hq
              clear hq
              go_wp2_with (first | (go_at_call 98; with_reducible refine (hok _).mono ?_; rintro e w' ⟨rfl, hbs⟩; have BX2 := Aside0.mk (Below.trans (below_alloc HB.out _) (hbs.mono (by have := HB.out.size; simp at this ⊢; omega))); have BW2 : Aside0 (Below w.heap.size w w') := ⟨Below.trans (below_alloc HW.out _) (hbs.mono (by have := HW.out.size; simp; omega))⟩; have hbox1 := HBX.out _ BX2.out; have hE0 : w'.cell? ⟨wr.heap.size, 0, none⟩ = some (.int .i64 y.f0) := pw_cell_below hbs (by simp); have hE1 : w'.cell? ⟨wr.heap.size, 1, none⟩ = some (.int .i64 y.f1) := pw_cell_below hbs (by simp); have hE2 : w'.cell? ⟨wr.heap.size, 2, none⟩ = some (.int .i64 y.f2) := pw_cell_below hbs (by simp); have hE3 : w'.cell? ⟨wr.heap.size, 3, none⟩ = some (.int .i64 y.f3) := pw_cell_below hbs (by simp); have hE4 : w'.cell? ⟨wr.heap.size, 4, none⟩ = some (.bool y.f4) := pw_cell_below hbs (by simp); clear hbs) | (go_at_call 128; refine (hcon _ _ ?hBW ?e0 ?e1 ?e2 ?e3 ?e4).mono ?_; (case hBW => exact (by repeat (first | exact BW2.out | apply pw_below_drewN | apply below_alloc))); (case e0 => first | exact hE0 | (go_simp; done) | (simp; done)); (case e1 => first | exact hE1 | (go_simp; done)); (case e2 => first | exact hE2 | (go_simp; done)); (case e3 => first | exact hE3 | (go_simp; done)); (case e4 => first | exact hE4 | (go_simp; done)); rintro e w2 ⟨rfl, hb2⟩) | go_in)
              go_ret
              refine ⟨?_, Below.trans (by repeat (first | exact BW2.out | apply pw_below_drewN | apply below_alloc)) (hb2.mono (by have := BW2.out.size; simp; omega))⟩
              rw [RR.out, tlbAll_false _ _ hlt (by unfold tlbGood; rw [BY.out, HBB.out, ← HANY.out, HQ.out]; rfl)]
              rfl
            | false =>
              have hq1 : ¬ (0 ≤ q) := of_decide_eq_false hq
              have HQ := Aside0.mk hq
              clear hq
              go_wp2_with (first | (go_at_call 98; with_reducible refine (hok _).mono ?_; rintro e w' ⟨rfl, hbs⟩; have BX2 := Aside0.mk (Below.trans (below_alloc HB.out _) (hbs.mono (by have := HB.out.size; simp at this ⊢; omega))); have BW2 : Aside0 (Below w.heap.size w w') := ⟨Below.trans (below_alloc HW.out _) (hbs.mono (by have := HW.out.size; simp; omega))⟩; have hbox1 := HBX.out _ BX2.out; have hE0 : w'.cell? ⟨wr.heap.size, 0, none⟩ = some (.int .i64 y.f0) := pw_cell_below hbs (by simp); have hE1 : w'.cell? ⟨wr.heap.size, 1, none⟩ = some (.int .i64 y.f1) := pw_cell_below hbs (by simp); have hE2 : w'.cell? ⟨wr.heap.size, 2, none⟩ = some (.int .i64 y.f2) := pw_cell_below hbs (by simp); have hE3 : w'.cell? ⟨wr.heap.size, 3, none⟩ = some (.int .i64 y.f3) := pw_cell_below hbs (by simp); have hE4 : w'.cell? ⟨wr.heap.size, 4, none⟩ = some (.bool y.f4) := pw_cell_below hbs (by simp); clear hbs) | (go_at_call 128; refine (hcon _ _ ?hBW ?e0 ?e1 ?e2 ?e3 ?e4).mono ?_; (case hBW => exact (by repeat (first | exact BW2.out | apply pw_below_drewN | apply below_alloc))); (case e0 => first | exact hE0 | (go_simp; done) | (simp; done)); (case e1 => first | exact hE1 | (go_simp; done)); (case e2 => first | exact hE2 | (go_simp; done)); (case e3 => first | exact hE3 | (go_simp; done)); (case e4 => first | exact hE4 | (go_simp; done)); rintro e w2 ⟨rfl, hb2⟩) | go_in)
              go_roundg (l0_0.length - (j + 1))
              case measure => have := hg.out; omega
              case rel =>
                refine ⟨j + 1, by go_num, ⟨hlt⟩, ⟨by omega⟩, ⟨Below.trans (by repeat (first | exact BX2.out | apply pw_below_drewN | apply below_alloc)) (hb2.mono (by have := BX2.out.size; simp at this ⊢; omega))⟩, ⟨fun i hi => ?_⟩⟩
                by_cases ei : i = j
                · subst ei
                  unfold tlbGood
                  rw [BY.out, HBB.out, ← HANY.out, HQ.out]; rfl
                · exact HG.out i (by omega)
        · have hltz : ¬ (j : Int) < (l0_0.length : Int) := by omega
          have hjn : j = l0_0.length := by have := hj.out; omega
          subst hjn
          go_wp2
          go_ret
          refine ⟨?_, HW.out⟩
          rw [RR.out, tlbAll_true _ HG.out]
          rfl

/-! ### impl_TlbEntry_127: function 127 -/
def slices_Clone_impl_TlbEntry_impl_TlbEntry.f (l0 : List S99) : Option (List S99) := if l0.length < 3518437208883 then some l0 else none
set_option maxHeartbeats 8000000 in
set_option maxRecDepth 100000 in
theorem slices_Clone_impl_TlbEntry_impl_TlbEntry.calls (A0 : Option Addr) (c0 : Nat) (l0 : List S99) (r : List S99) (w : World) (hr0 : Kd.C k99 w A0 l0.length l0) (hc0 : l0.length ≤ c0) (h : slices_Clone_impl_TlbEntry_impl_TlbEntry.f l0 = some r) :
    Calls Try.prog 127 #[.slice A0 l0.length c0] w fun e w' => ∃ v0_ : Value, e = .returned (v0_) ∧ Kd.R k99 99 w' w.heap.size (fun _ => True) v0_ r ∧ Below w.heap.size w w' := by
  have HR0 := Aside0.mk hr0
  have HC0 := Aside0.mk hc0
  have hq := fun (w : World) (a : Option Addr) (n c : Nat) => run_eql_slice_nil (P := Try.prog) w 63 99 a n c Try.underlying63
  unfold slices_Clone_impl_TlbEntry_impl_TlbEntry.f at h
  by_cases c2 : l0.length < 3518437208883
  · rw [if_pos c2] at h
    obtain rfl := Option.some.inj h
    have LMc2 := Aside0.mk (show ([] : List S99).length + l0.length < 3518437208883 from by simpa using c2)
    clear h c2
    cases A0 with
    | none =>
      have hz : l0 = [] := by
        cases l0 with
        | nil => rfl
        | cons a t => exact absurd hr0 (by intro hh; obtain ⟨ad, e_, _⟩ := hh.2.2 (by simp); exact absurd e_ (by simp))
      subst hz
      clear hr0 hc0
      go_enter Try.func127, Try.ntmps127
      go_wp2
      go_ret
      exact ⟨_, rfl, Kd.R_nil _ _ _ _ _, Below.refl _ _⟩
    | some A =>
      clear hr0 hc0
      have HB := Aside0.mk (Below.refl w.heap.size w)
      obtain ⟨y113, hy113⟩ : ∃ y_ : List S99, y_ = (([] : List S99)) := ⟨_, rfl⟩
      obtain ⟨y116, hy116⟩ : ∃ y_ : List S99, y_ = (y113 ++ l0) := ⟨_, rfl⟩
      have hfin : y116 = l0 := by rw [hy116, hy113, List.nil_append]
      rw [← hy113] at LMc2
      have Ny113 := Aside0.mk hy113
      have Ny116 := Aside0.mk hy116
      have HFIN := Aside0.mk hfin
      clear hy113 hy116 hfin
      go_enter Try.func127, Try.ntmps127
      go_wp2_with (first | ((with_reducible refine gate_dst (N := 5) rfl ?_); refine Kd.R_lit k99 _ 99 ?hg (N := 5) ?hd (xs := ([] : List S99)) (inner := []) (ok := fun _ => True) (okp := fun _ => True) ?hr ?hp (fun _ hk => hk) trivial (Below.refl _ _) (Nat.le_refl _) (by simp) ?_; (case hd => rfl); (case hg => rfl); (case hr => first | (go_simp; done) | (go_simp; rfl)); (case hp => exact (Reps.none _ _)); intro v114 w3 ho4 hb hg_ hnew_; clear hg_ hnew_; (first | rw [← Ny113.out] at ho4 | (simp only [Int.reduceToNat] at ho4; rw [← Ny113.out] at ho4)); have n0_ := Aside0.mk (Kd.R_lower ho4 (below_size (by repeat (first | (with_reducible first | exact HB.out | apply below_alloc | apply pw_below_drewN | apply below_drew1) | exact HB.out)))); have n1_ := Aside0.mk (below_step (by repeat (first | (with_reducible first | exact HB.out | apply below_alloc | apply pw_below_drewN | apply below_drew1) | exact HB.out)) hb); clear HB; have HO115 := n0_; have HB := n1_; clear n0_ n1_; clear hb ho4) | ((with_reducible refine gate_builtin (b := .append) (xs := #[.tmp 5, .tmp 6]) rfl ?_); at_builtin; refine Kd.R_append_rows k99 (w0 := w) w.heap.size rfl (.tmp 5) (.tmp 6) 63 99 (.agg #[(.int .i64 0), (.int .i64 0), (.int .i64 0), (.int .i64 0), (.bool false)]) 40 rfl Try.underlying63 info99 rfl (by decide) (by omega) v114 y113 l0 _ _ _ (fun _ => True) (fun _ => False) rfl rfl ?aO ?aR (fun _ _ h => h) (fun _ h => h.elim) ?aF ?aB ?aS ?aL ?_; (case aR => repeat (first | exact (Kd.C_below HR0.out HB.out) | (with_reducible refine Kd.C_alloc ?_ _) | (with_reducible refine Kd.C_drewN ?_ _) | (with_reducible refine Kd.C_drew ?_))); (case aB => exact (by repeat (first | (with_reducible first | exact HB.out | apply below_alloc | apply pw_below_drewN | apply below_drew1) | exact HB.out))); (case aF => exact (fun _ _ => trivial)); (case aO => exact (by (with_reducible repeat (first | apply Kd.R_alloc | apply Kd.R_drewN | apply Kd.R_drew)); exact HO115.out)); (case aS => exact (below_size (by repeat (first | (with_reducible first | exact HB.out | apply below_alloc | apply pw_below_drewN | apply below_drew1) | exact HB.out)))); (case aL => have := LMc2.out; omega); intro v117 w5 ho hb hg hat; rw [← Ny116.out] at ho; have n0_ := Aside0.mk (hb); have n1_ := Aside0.mk (ho); clear HB; clear HO115; have HB := n0_; have HO118 := n1_; clear n0_ n1_; clear ho hb hg hat))
      go_ret
      have HO := HO118.out
      rw [HFIN.out] at HO
      exact ⟨_, by first | rfl | (simp [errW_none, errW_some] <;> rfl) | (simp [*, errW_none, errW_some] <;> rfl), by (with_reducible repeat (first | apply Kd.R_alloc | apply Kd.R_drewN | apply Kd.R_drew)); exact HO, by repeat (first | (with_reducible first | exact HB.out | apply below_alloc | apply pw_below_drewN | apply below_drew1) | exact HB.out)⟩
  · rw [if_neg c2] at h; exact absurd h (by simp)

-- NOT PRINTED: function 129 (impl_TlbPut_1)

/-! ### impl_TlbPut: function 60 -/
set_option maxHeartbeats 4000000 in
theorem TlbPut_indexFunc (A : Option Addr) (c : Nat) (zs : List S99) (p : S99 → Bool) (B0 : Nat) (eg : ∀ args w, (callFunc 129 args).run Try.prog w = .ok (.enter 129 args) w) (w : World)
    (hp : ∀ (W : World) (x : S99), Below w.heap.size w W → Calls Try.prog 129 #[.agg #[.int .i64 x.f0, .int .i64 x.f1, .int .i64 x.f2, .int .i64 x.f3, .bool x.f4], .pointer (some ⟨B0, 0, none⟩)] W fun e w' => e = .returned (.bool (p x)) ∧ Below W.heap.size W w')
    (hr : Kd.C k99 w A zs.length zs) :
    Calls Try.prog 128 #[.slice A zs.length c, .func (.func 129) #[] #[.pointer (some ⟨B0, 0, none⟩)]] w fun e w' => e = .returned (.int .i64 (Go.Proofs.Ytjpgelnhmcblmaa.Pl.idxFrom p zs 0)) ∧ Below w.heap.size w w' := by
  have HR := Aside0.mk hr
  have hbig := hr.2.1
  have HP := Aside0.mk hp
  clear hr hp
  go_enter Try.func128, Try.ntmps128
  go_wp2
  go_loopg [5, 8] zs.length (fun gg _ s8 wr => ∃ kk : Nat, s8 = .int .i64 kk ∧ Aside0 (kk ≤ zs.length) ∧ Aside0 (zs.length - kk ≤ gg) ∧ Aside0 (Below w.heap.size w wr) ∧ Aside0 (∀ j, j < kk → p (zs.getD j z99) = false))
  case atStart => exact ⟨0, rfl, ⟨Nat.zero_le _⟩, ⟨by omega⟩, ⟨Below.refl _ w⟩, ⟨fun j hj => absurd hj (Nat.not_lt_zero _)⟩⟩
  case round =>
    obtain ⟨kk, rfl, hkk, hg, BW, AA⟩ := hrel
    by_cases hlt : kk < zs.length
    · have hltz : (kk : Int) < (zs.length : Int) := by omega
      obtain ⟨ad, e_, hx0, hx1, hx2, hx3, hx4⟩ := at_T99 HR.out (kk : Int) (by omega) (by omega)
      cases e_
      replace hx0 := pw_cell_below BW.out hx0
      replace hx1 := pw_cell_below BW.out hx1
      replace hx2 := pw_cell_below BW.out hx2
      replace hx3 := pw_cell_below BW.out hx3
      replace hx4 := pw_cell_below BW.out hx4
      rw [Int.toNat_natCast] at hx0 hx1 hx2 hx3 hx4
      have hcall := HP.out wr (zs.getD kk z99) BW.out
      have hy0 : rd_T99 zs (kk : Int) = zs.getD kk z99 := by unfold rd_T99; rw [Int.toNat_natCast]
      rw [hy0] at hx0 hx1 hx2 hx3 hx4
      clear hy0
      generalize hy : zs.getD kk z99 = y at hx0 hx1 hx2 hx3 hx4 hcall
      have BY := Aside0.mk hy
      clear hy
      cases hq : p y with
      | true =>
        rw [hq] at hcall
        have HQ := Aside0.mk hq
        clear hq
        go_wp2_with (go_at_call 129; refine hcall.mono ?_; rintro e w' ⟨rfl, hb'⟩)
        go_ret
        refine ⟨?_, BW.out.trans (hb'.mono BW.out.size)⟩
        rw [Go.Proofs.Ytjpgelnhmcblmaa.Pl.idxFrom_hit p z99 zs 0 kk hlt (by rw [BY.out]; exact HQ.out) AA.out, Nat.zero_add]
        rfl
      | false =>
        rw [hq] at hcall
        have HQ := Aside0.mk hq
        clear hq
        go_wp2_with (go_at_call 129; refine hcall.mono ?_; rintro e w' ⟨rfl, hb'⟩)
        go_roundg (zs.length - (kk + 1))
        case measure => have := hg.out; omega
        case rel =>
          refine ⟨kk + 1, by go_num, ⟨hlt⟩, ⟨by omega⟩, ⟨BW.out.trans (hb'.mono BW.out.size)⟩, ⟨fun j hj => ?_⟩⟩
          by_cases e : j = kk
          · subst e
            rw [BY.out]; exact HQ.out
          · exact AA.out j (by omega)
    · have hltz : ¬ (kk : Int) < (zs.length : Int) := by omega
      have hkn : kk = zs.length := by have := hkk.out; omega
      subst hkn
      go_wp2
      go_ret
      refine ⟨?_, BW.out⟩
      rw [Go.Proofs.Ytjpgelnhmcblmaa.Pl.idxFrom_miss p z99 zs 0 AA.out]
      rfl
set_option maxHeartbeats 4000000 in
theorem TlbPut_closure (W : World) (x e : (S99)) (B : Nat) (hB0 : W.cell? ⟨B, 0, none⟩ = some (.int .i64 e.f0)) (hB1 : W.cell? ⟨B, 1, none⟩ = some (.int .i64 e.f1)) (hB2 : W.cell? ⟨B, 2, none⟩ = some (.int .i64 e.f2)) (hB3 : W.cell? ⟨B, 3, none⟩ = some (.int .i64 e.f3)) (hB4 : W.cell? ⟨B, 4, none⟩ = some (.bool e.f4)) : Calls Try.prog 129 #[.agg #[.int .i64 x.f0, .int .i64 x.f1, .int .i64 x.f2, .int .i64 x.f3, .bool x.f4], .pointer (some ⟨B, 0, none⟩)] W fun e_ w' => e_ = .returned (.bool (tlbSame e x)) ∧ Below W.heap.size W w' := by
  have hy := fun W => impl_ysameTlb.calls x.f0 x.f1 x.f2 x.f3 x.f4 e.f0 e.f1 e.f2 e.f3 e.f4 _ W (same_eq x e)
  generalize tlbSame e x = b at hy
  have hB := fun (W' : World) (hb : Below W.heap.size W W') => (⟨pw_cell_below hb hB0, pw_cell_below hb hB1, pw_cell_below hb hB2, pw_cell_below hb hB3, pw_cell_below hb hB4⟩ : W'.cell? ⟨B, 0, none⟩ = some (.int .i64 e.f0) ∧ W'.cell? ⟨B, 1, none⟩ = some (.int .i64 e.f1) ∧ W'.cell? ⟨B, 2, none⟩ = some (.int .i64 e.f2) ∧ W'.cell? ⟨B, 3, none⟩ = some (.int .i64 e.f3) ∧ W'.cell? ⟨B, 4, none⟩ = some (.bool e.f4))
  obtain ⟨hc0, hc1, hc2, hc3, hc4⟩ := hB (W.alloc (Obj.cells #[.int .i64 x.f0, .int .i64 x.f1, .int .i64 x.f2, .int .i64 x.f3, .bool x.f4] 99)) (below_alloc (Below.refl _ _) _)
  go_enter Try.func129, Try.ntmps129
  go_wp2_with (go_at_call 101; with_reducible refine (hy _).mono ?_; rintro e w' ⟨rfl, hbs⟩)
  go_ret
  exact ⟨rfl, Below.trans (by repeat (first | exact Below.refl _ _ | apply pw_below_drewN | apply below_alloc)) (hbs.mono (by simp))⟩

theorem idx_lt {α : Type} (p : α → Bool) : ∀ (zs : List α) (i : Nat), Go.Proofs.Ytjpgelnhmcblmaa.Pl.idxFrom p zs i < (i : Int) + zs.length
  | [], i => by simp only [Go.Proofs.Ytjpgelnhmcblmaa.Pl.idxFrom]; simp only [List.length_nil]; omega
  | x :: xs, i => by
    have ih := idx_lt p xs (i + 1)
    simp only [Go.Proofs.Ytjpgelnhmcblmaa.Pl.idxFrom]
    rw [List.length_cons]
    by_cases h : p x = true
    · rw [if_pos h]; omega
    · rw [if_neg h]; omega
def impl_TlbPut.f (l0_0 : List (S99)) (a0_1 : Int) (a1_0 a1_1 a1_2 a1_3 : Int) (a1_4 : Bool) : Option ((List (S99)) × Int) :=
  (impl_TlbFault.f l0_0 a0_1).bind fun t => if t = 0 then (if l0_0.length < 3518437208883 then (if tlbOkB ⟨a1_0, a1_1, a1_2, a1_3, a1_4⟩ = true then (if Go.Proofs.Ytjpgelnhmcblmaa.Pl.idxFrom (tlbSame ⟨a1_0, a1_1, a1_2, a1_3, a1_4⟩) l0_0 0 ≥ 0 then some (l0_0.set (Go.Proofs.Ytjpgelnhmcblmaa.Pl.idxFrom (tlbSame ⟨a1_0, a1_1, a1_2, a1_3, a1_4⟩) l0_0 0).toNat ⟨a1_0, a1_1, a1_2, a1_3, a1_4⟩, a0_1) else if (l0_0.length : Int) < 16 then some (l0_0 ++ [⟨a1_0, a1_1, a1_2, a1_3, a1_4⟩], a0_1) else if 0 ≤ a0_1 ∧ a0_1 < (l0_0.length : Int) then some (l0_0.set a0_1.toNat ⟨a1_0, a1_1, a1_2, a1_3, a1_4⟩, Int.tmod (wrap64 (a0_1 + 1)) 16) else none) else some (l0_0, a0_1)) else none) else some ([], 0)
set_option maxHeartbeats 16000000 in
set_option maxRecDepth 100000 in
theorem impl_TlbPut.calls (A0_0 : Option Addr) (c0_0 : Nat) (l0_0 : List (S99)) (a0_1 : Int) (a1_0 : Int) (a1_1 : Int) (a1_2 : Int) (a1_3 : Int) (a1_4 : Bool) (r1 : List (S99)) (r2 : Int) (w : World) (hr0_0 : Kd.C k99 w A0_0 l0_0.length l0_0) (hc0_0 : l0_0.length ≤ c0_0) (h : impl_TlbPut.f l0_0 a0_1 a1_0 a1_1 a1_2 a1_3 a1_4 = some (r1, r2)) :
    Calls Try.prog 60 #[.agg #[.slice A0_0 l0_0.length c0_0, .int .i64 a0_1], .agg #[.int .i64 a1_0, .int .i64 a1_1, .int .i64 a1_2, .int .i64 a1_3, .bool a1_4]] w fun e w' => ∃ v0_ : Value, e = .returned (.agg #[v0_, .int .i64 r2]) ∧ Kd.R k99 99 w' w.heap.size (fun _ => True) v0_ r1 ∧ Below w.heap.size w w' := by
  have eg : ∀ args w, (callFunc 129 args).run Try.prog w = .ok (.enter 129 args) w := enters_of Try.func129 (by kernel_rfl) rfl
  unfold impl_TlbPut.f at h
  obtain ⟨t, ht, h⟩ := Option.bind_eq_some_iff.mp h
  have hup := Try.underlying63
  have HR := Aside0.mk hr0_0
  have HCC := Aside0.mk hc0_0
  have k1 : (((w.alloc (Obj.cells #[.slice A0_0 l0_0.length c0_0, .int .i64 a0_1] 65)).alloc (Obj.cells #[.int .i64 a1_0, .int .i64 a1_1, .int .i64 a1_2, .int .i64 a1_3, .bool a1_4] 99)).alloc (Obj.cells #[.slice none 0 0, .int .i64 0] 65)).heap[w.heap.size]? = some (.cells #[.slice A0_0 l0_0.length c0_0, .int .i64 a0_1] 65 (0, 0)) := blk_alloc (blk_alloc (blk_new _ _) _) _
  have k2 : (((w.alloc (Obj.cells #[.slice A0_0 l0_0.length c0_0, .int .i64 a0_1] 65)).alloc (Obj.cells #[.int .i64 a1_0, .int .i64 a1_1, .int .i64 a1_2, .int .i64 a1_3, .bool a1_4] 99)).alloc (Obj.cells #[.slice none 0 0, .int .i64 0] 65)).heap[w.heap.size + 1]? = some (.cells #[.int .i64 a1_0, .int .i64 a1_1, .int .i64 a1_2, .int .i64 a1_3, .bool a1_4] 99 (0, 0)) := by
    have := blk_alloc (blk_new (w.alloc (Obj.cells #[.slice A0_0 l0_0.length c0_0, .int .i64 a0_1] 65)) (Obj.cells #[.int .i64 a1_0, .int .i64 a1_1, .int .i64 a1_2, .int .i64 a1_3, .bool a1_4] 99)) (Obj.cells #[.slice none 0 0, .int .i64 0] 65)
    simpa using this
  have k3 : (((w.alloc (Obj.cells #[.slice A0_0 l0_0.length c0_0, .int .i64 a0_1] 65)).alloc (Obj.cells #[.int .i64 a1_0, .int .i64 a1_1, .int .i64 a1_2, .int .i64 a1_3, .bool a1_4] 99)).alloc (Obj.cells #[.slice none 0 0, .int .i64 0] 65)).heap[w.heap.size + 1 + 1]? = some (.cells #[.slice none 0 0, .int .i64 0] 65 (0, 0)) := by
    have := blk_new ((w.alloc (Obj.cells #[.slice A0_0 l0_0.length c0_0, .int .i64 a0_1] 65)).alloc (Obj.cells #[.int .i64 a1_0, .int .i64 a1_1, .int .i64 a1_2, .int .i64 a1_3, .bool a1_4] 99)) (Obj.cells #[.slice none 0 0, .int .i64 0] 65)
    simpa using this
  have kB : Below w.heap.size w (((w.alloc (Obj.cells #[.slice A0_0 l0_0.length c0_0, .int .i64 a0_1] 65)).alloc (Obj.cells #[.int .i64 a1_0, .int .i64 a1_1, .int .i64 a1_2, .int .i64 a1_3, .bool a1_4] 99)).alloc (Obj.cells #[.slice none 0 0, .int .i64 0] 65)) := below_alloc (below_alloc (below_alloc (Below.refl _ _) _) _) _
  have htf := impl_TlbFault.calls A0_0 c0_0 l0_0 a0_1 t (((w.alloc (Obj.cells #[.slice A0_0 l0_0.length c0_0, .int .i64 a0_1] 65)).alloc (Obj.cells #[.int .i64 a1_0, .int .i64 a1_1, .int .i64 a1_2, .int .i64 a1_3, .bool a1_4] 99)).alloc (Obj.cells #[.slice none 0 0, .int .i64 0] 65)) (Kd.C_alloc (Kd.C_alloc (Kd.C_alloc hr0_0 _) _) _) hc0_0 ht
  have K1 := Aside0.mk k1
  have K2 := Aside0.mk k2
  have K3 := Aside0.mk k3
  have KB := Aside0.mk kB
  clear hr0_0 hc0_0 k1 k2 k3 kB ht
  by_cases c1 : t = 0
  · rw [if_pos c1] at h
    subst c1
    by_cases c2 : l0_0.length < 3518437208883
    · rw [if_pos c2] at h
      have hcl := fun W hC => slices_Clone_impl_TlbEntry_impl_TlbEntry.calls A0_0 c0_0 l0_0 l0_0 W hC HCC.out (by unfold slices_Clone_impl_TlbEntry_impl_TlbEntry.f; exact if_pos c2)
      have hok := fun W => impl_ytlbEntryOk.calls a1_0 a1_1 a1_2 a1_3 a1_4 _ W (tlbOk_eq ⟨a1_0, a1_1, a1_2, a1_3, a1_4⟩)
      by_cases c3 : tlbOkB ⟨a1_0, a1_1, a1_2, a1_3, a1_4⟩ = true
      · rw [if_pos c3] at h
        rw [c3] at hok
        clear c3
        obtain ⟨ix, hix⟩ : ∃ ix, Go.Proofs.Ytjpgelnhmcblmaa.Pl.idxFrom (tlbSame ⟨a1_0, a1_1, a1_2, a1_3, a1_4⟩) l0_0 0 = ix := ⟨_, rfl⟩
        rw [hix] at h
        have hidx : ∀ (Ap : Option Addr) (cp : Nat) (W : World), W.cell? ⟨w.heap.size + 1, 0, none⟩ = some (.int .i64 a1_0) → W.cell? ⟨w.heap.size + 1, 1, none⟩ = some (.int .i64 a1_1) → W.cell? ⟨w.heap.size + 1, 2, none⟩ = some (.int .i64 a1_2) → W.cell? ⟨w.heap.size + 1, 3, none⟩ = some (.int .i64 a1_3) → W.cell? ⟨w.heap.size + 1, 4, none⟩ = some (.bool a1_4) → Kd.C k99 W Ap l0_0.length l0_0 → Calls Try.prog 128 #[.slice Ap l0_0.length cp, .func (.func 129) #[] #[.pointer (some ⟨w.heap.size + 1, 0, none⟩)]] W fun e w' => e = .returned (.int .i64 ix) ∧ Below W.heap.size W w' := by
          intro Ap cp W i0 i1 i2 i3 i4 hC
          rw [← hix]
          exact TlbPut_indexFunc Ap cp l0_0 (tlbSame ⟨a1_0, a1_1, a1_2, a1_3, a1_4⟩) (w.heap.size + 1) eg W (fun W' x hb' => TlbPut_closure W' x ⟨a1_0, a1_1, a1_2, a1_3, a1_4⟩ (w.heap.size + 1) (pw_cell_below hb' i0) (pw_cell_below hb' i1) (pw_cell_below hb' i2) (pw_cell_below hb' i3) (pw_cell_below hb' i4)) hC
        have HID := Aside0.mk hidx
        clear hidx
        have HIX := Aside0.mk hix
        have H := Aside0.mk h
        clear hix h
        go_enter Try.func60, Try.ntmps60
        go_wp2_with (first | (go_at_call 39; with_reducible refine htf.mono ?_; rintro e w1 ⟨rfl, hb1⟩; have KB1 := Aside0.mk (below_step KB.out hb1); have B1 := Aside0.mk (blk_below K1.out hb1); have B2 := Aside0.mk (blk_below K2.out hb1); have B3 := Aside0.mk (blk_below K3.out hb1); have z0 : w1.cell? ⟨w.heap.size, 0, none⟩ = some (.slice A0_0 l0_0.length c0_0) := (blk_cell B1.out 0).trans rfl; have z1 : w1.cell? ⟨w.heap.size, 1, none⟩ = some (.int .i64 a0_1) := (blk_cell B1.out 1).trans rfl; have y0 := blk_frozen B1.out 0; have y1 := blk_frozen B1.out 1; clear hb1) | (go_at_call 127; with_reducible refine (hcl _ (Kd.C_below HR.out KB1.out)).mono ?_; rintro e w2 ⟨v2, rfl, hR2, hb2⟩; obtain ⟨Ao, co, rfl⟩ := Kd.R_slice hR2; have KB2 := Aside0.mk (below_step KB1.out hb2); have RR2 := Aside0.mk (Kd.R_lower (Kd.R_newB hR2 (g := w.heap.size + 1) (o := .cells #[.int .i64 a1_0, .int .i64 a1_1, .int .i64 a1_2, .int .i64 a1_3, .bool a1_4] 99 (0, 0)) B2.out) KB1.out.size); have C1 := Aside0.mk (blk_below B1.out hb2); have C2 := Aside0.mk (blk_below B2.out hb2); have C3 := Aside0.mk (blk_below B3.out hb2); have p0 : w2.cell? ⟨w.heap.size, 0, none⟩ = some (.slice A0_0 l0_0.length c0_0) := (blk_cell C1.out 0).trans rfl; have p1 := blk_frozen C1.out 0; have D1 := Aside0.mk (blk_put (cs' := #[.slice Ao l0_0.length co, .int .i64 a0_1]) C1.out 0 (.slice Ao l0_0.length co) rfl); have D2 := Aside0.mk (blk_far C2.out (p := ⟨w.heap.size, 0, none⟩) (by show w.heap.size + 1 ≠ w.heap.size; omega) (.slice Ao l0_0.length co)); have D3 := Aside0.mk (blk_far C3.out (p := ⟨w.heap.size, 0, none⟩) (by show w.heap.size + 1 + 1 ≠ w.heap.size; omega) (.slice Ao l0_0.length co)); have q0 := (blk_cell D2.out 0).trans rfl; have q1 := (blk_cell D2.out 1).trans rfl; have q2 := (blk_cell D2.out 2).trans rfl; have q3 := (blk_cell D2.out 3).trans rfl; have q4 := (blk_cell D2.out 4).trans rfl; clear z0 z1 y0 y1 hR2 hb2) | (go_at_call 98; with_reducible refine (hok _).mono ?_; rintro e w3 ⟨rfl, hb3⟩; have E1 := Aside0.mk (blk_below D1.out hb3); have E2 := Aside0.mk (blk_below D2.out hb3); have E3 := Aside0.mk (blk_below D3.out hb3); have HB3 := Aside0.mk hb3; have m0 : w3.cell? ⟨w.heap.size, 0, none⟩ = some (.slice Ao l0_0.length co) := (blk_cell E1.out 0).trans rfl; have m1 : w3.cell? ⟨w.heap.size, 1, none⟩ = some (.int .i64 a0_1) := (blk_cell E1.out 1).trans rfl; have m2 : w3.cell? ⟨w.heap.size + 1 + 1, 0, none⟩ = some (.slice none 0 0) := (blk_cell E3.out 0).trans rfl; have m3 : w3.cell? ⟨w.heap.size + 1 + 1, 1, none⟩ = some (.int .i64 0) := (blk_cell E3.out 1).trans rfl; have m4 := blk_frozen E3.out 0; have m5 := blk_frozen E3.out 1; clear hb3 p0 p1 q0 q1 q2 q3 q4))
        have R3 := Aside0.mk (Kd.R_below (Kd.R_far (p := ⟨w.heap.size, 0, none⟩) (Kd.R_types (Kd.R_types RR2.out C1.out (by decide)) C3.out (by decide)) (fun _ hk => hk.1.2) (.slice Ao l0_0.length co)) HB3.out)
        with_reducible refine (HID.out Ao co _ ((blk_cell E2.out 0).trans rfl) ((blk_cell E2.out 1).trans rfl) ((blk_cell E2.out 2).trans rfl) ((blk_cell E2.out 3).trans rfl) ((blk_cell E2.out 4).trans rfl) (Kd.R_reads' R3.out).2.2).mono ?_
        rintro e w4 ⟨rfl, hb4⟩
        have F1 := Aside0.mk (blk_below E1.out hb4)
        have F2 := Aside0.mk (blk_below E2.out hb4)
        have F3 := Aside0.mk (blk_below E3.out hb4)
        have R4 := Aside0.mk (Kd.R_below R3.out hb4)
        have KB4 := Aside0.mk (below_step (below_step (below_set KB2.out (Nat.le_refl _)) HB3.out) hb4)
        have v0 : w4.cell? ⟨w.heap.size, 0, none⟩ = some (.slice Ao l0_0.length co) := (blk_cell F1.out 0).trans rfl
        have v1 : w4.cell? ⟨w.heap.size, 1, none⟩ = some (.int .i64 a0_1) := (blk_cell F1.out 1).trans rfl
        have g0 : w4.cell? ⟨w.heap.size + 1, 0, none⟩ = some (.int .i64 a1_0) := (blk_cell F2.out 0).trans rfl
        have g1 : w4.cell? ⟨w.heap.size + 1, 1, none⟩ = some (.int .i64 a1_1) := (blk_cell F2.out 1).trans rfl
        have g2 : w4.cell? ⟨w.heap.size + 1, 2, none⟩ = some (.int .i64 a1_2) := (blk_cell F2.out 2).trans rfl
        have g3 : w4.cell? ⟨w.heap.size + 1, 3, none⟩ = some (.int .i64 a1_3) := (blk_cell F2.out 3).trans rfl
        have g4 : w4.cell? ⟨w.heap.size + 1, 4, none⟩ = some (.bool a1_4) := (blk_cell F2.out 4).trans rfl
        have z5 : w4.cell? ⟨w.heap.size + 1 + 1, 0, none⟩ = some (.slice none 0 0) := (blk_cell F3.out 0).trans rfl
        have z6 : w4.cell? ⟨w.heap.size + 1 + 1, 1, none⟩ = some (.int .i64 0) := (blk_cell F3.out 1).trans rfl
        have z7 := blk_frozen F3.out 0
        have z8 := blk_frozen F3.out 1
        have z9 := blk_frozen F1.out 0
        have z10 := blk_frozen F1.out 1
        clear m0 m1 m2 m3 m4 m5 hb4
        by_cases c4 : ix ≥ 0
        · have h := H.out
          rw [if_pos c4] at h
          simp only [Option.some.injEq, Prod.mk.injEq] at h
          obtain ⟨h1_, h2_⟩ := h
          have H1_ := Aside0.mk h1_
          have H2_ := Aside0.mk h2_
          clear h1_ h2_
          have hlt : ix < (l0_0.length : Int) := by
            have := idx_lt (tlbSame ⟨a1_0, a1_1, a1_2, a1_3, a1_4⟩) l0_0 0
            rw [HIX.out] at this
            omega
          have e4 : decide (0 ≤ ix) = true := decide_eq_true c4
          have e5 := eq_true hlt
          have e6 := eq_true (show 0 ≤ ix from c4)
          have C4 := Aside0.mk (show 0 ≤ ix from c4)
          have CL := Aside0.mk hlt
          clear c4 hlt
          obtain ⟨go, co2, eo, gb, gl, cl, HG⟩ := Kd.R_form R4.out (by have := CL.out; have := C4.out; omega)
          cases eo
          have GB := Aside0.mk gb
          clear gb gl cl HG
          obtain ⟨ce, hcl, hM, hcc, hfr⟩ := Kd.R_elem R4.out z99 (ix) C4.out CL.out
          obtain rfl := k99_openM hM
          have HP := Kd.R_seg R4.out (ix) C4.out CL.out (seg := [.int .i64 a1_0, .int .i64 a1_1, .int .i64 a1_2, .int .i64 a1_3, .bool a1_4]) (j := 0) hcl hcc (show 5 ≤ 5 from by decide) (x' := (⟨a1_0, a1_1, a1_2, a1_3, a1_4⟩ : S99)) (k99_mkM _ _ _ (⟨a1_0, a1_1, a1_2, a1_3, a1_4⟩ : S99)) (fun _ hk => hk)
          have hx0 := hcc 0 _ rfl
          have hx1 := hcc 1 _ rfl
          have hx2 := hcc 2 _ rfl
          have hx3 := hcc 3 _ rfl
          have hx4 := hcc 4 _ rfl
          have hf0 := hfr 0
          have hf1 := hfr 1
          have hf2 := hfr 2
          have hf3 := hfr 3
          have hf4 := hfr 4
          simp only [show (k99).sz = 5 from rfl, Nat.mul_one, Nat.add_zero] at hx0 hx1 hx2 hx3 hx4 hf0 hf1 hf2 hf3 hf4
          have n1 : w.heap.size ≠ go := fun e_ => Kd.R_ne R4.out F1.out (by decide) (by rw [e_]; rfl)
          have n2 : w.heap.size + 1 + 1 ≠ go := fun e_ => Kd.R_ne R4.out F3.out (by decide) (by rw [e_]; rfl)
          have hg5 : Aside0 (w4.grownBy (((((w4.setCell ⟨go, ix.toNat * 5, none⟩ (.int .i64 a1_0)).setCell ⟨go, ix.toNat * 5 + 1, none⟩ (.int .i64 a1_1)).setCell ⟨go, ix.toNat * 5 + 2, none⟩ (.int .i64 a1_2)).setCell ⟨go, ix.toNat * 5 + 3, none⟩ (.int .i64 a1_3)).setCell ⟨go, ix.toNat * 5 + 4, none⟩ (.bool a1_4)) (some go)) := ⟨HP.2⟩
          have R5 : Aside0 (Kd.R k99 99 (((((w4.setCell ⟨go, ix.toNat * 5, none⟩ (.int .i64 a1_0)).setCell ⟨go, ix.toNat * 5 + 1, none⟩ (.int .i64 a1_1)).setCell ⟨go, ix.toNat * 5 + 2, none⟩ (.int .i64 a1_2)).setCell ⟨go, ix.toNat * 5 + 3, none⟩ (.int .i64 a1_3)).setCell ⟨go, ix.toNat * 5 + 4, none⟩ (.bool a1_4)) w.heap.size _ (.slice (some ⟨go, 0, none⟩) l0_0.length co) (l0_0.set (ix).toNat (⟨a1_0, a1_1, a1_2, a1_3, a1_4⟩ : S99))) := ⟨HP.1⟩
          have KB5 : Aside0 (Below w.heap.size w (((((w4.setCell ⟨go, ix.toNat * 5, none⟩ (.int .i64 a1_0)).setCell ⟨go, ix.toNat * 5 + 1, none⟩ (.int .i64 a1_1)).setCell ⟨go, ix.toNat * 5 + 2, none⟩ (.int .i64 a1_2)).setCell ⟨go, ix.toNat * 5 + 3, none⟩ (.int .i64 a1_3)).setCell ⟨go, ix.toNat * 5 + 4, none⟩ (.bool a1_4))) := ⟨below_set (below_set (below_set (below_set (below_set KB4.out GB.out) GB.out) GB.out) GB.out) GB.out⟩
          have G1 := Aside0.mk (blk_grown F1.out hg5.out (Kd.R_ne R4.out F1.out (by decide)))
          have G3 := Aside0.mk (blk_grown F3.out hg5.out (Kd.R_ne R4.out F3.out (by decide)))
          have n1' := n1.symm
          have n2' := n2.symm
          clear HP hcl hcc hfr hM
          go_wp2
          have h1_ := H1_.out
          have h2_ := H2_.out
          subst h1_ h2_
          refine bodyPost_ret (results_cell_row rfl _ _ (w.heap.size + 1 + 1) 65 #[.slice (some ⟨go, 0, none⟩) l0_0.length co, .int .i64 a0_1] (0, 0) _ rfl (blk_put (cs := #[.slice (some ⟨go, 0, none⟩) l0_0.length co, .int .i64 0]) (blk_put (cs := #[.slice none 0 0, .int .i64 0]) G3.out 0 _ rfl) 1 _ rfl) Try.underlying65 rfl (by kernel_rfl)) rfl ?_
          exact ⟨_, rfl, Kd.R_mono (Kd.R_far (p := ⟨w.heap.size + 1 + 1, 1, none⟩) (Kd.R_far (p := ⟨w.heap.size + 1 + 1, 0, none⟩) (Kd.R_types R5.out G3.out (by decide)) (fun _ hk => hk.2) (.slice (some ⟨go, 0, none⟩) l0_0.length co)) (fun _ hk => hk.2) (.int .i64 a0_1)) (fun _ _ => trivial), below_set (below_set KB5.out (by omega)) (by omega)⟩
        · by_cases c5 : (l0_0.length : Int) < 16
          · have h := H.out
            rw [if_neg c4, if_pos c5] at h
            simp only [Option.some.injEq, Prod.mk.injEq] at h
            obtain ⟨h1_, h2_⟩ := h
            have H1_ := Aside0.mk h1_
            have H2_ := Aside0.mk h2_
            clear h1_ h2_
            have e4 : decide (0 ≤ ix) = false := decide_eq_false c4
            have e5 : decide ((l0_0.length : Int) < 16) = true := decide_eq_true c5
            have e6 : decide (l0_0.length < 16) = true := decide_eq_true (by omega)
            have L16 : Aside0 (l0_0.length < 16) := ⟨by omega⟩
            clear c4 c5
            go_wp2_with ((with_reducible refine gate_dst (N := 50) rfl ?_); refine Kd.R_append k99 (w0 := w) w.heap.size rfl (.tmp 47) (.tmp 49) 63 99 (.agg #[(.int .i64 0), (.int .i64 0), (.int .i64 0), (.int .i64 0), (.bool false)]) 40 rfl Try.underlying63 info99 rfl (by decide) (by omega) (.slice Ao l0_0.length co) l0_0 (⟨a1_0, a1_1, a1_2, a1_3, a1_4⟩ : S99) [.int .i64 a1_0, .int .i64 a1_1, .int .i64 a1_2, .int .i64 a1_3, .bool a1_4] (fun k_ => k_ ≠ w.heap.size + 1) (fun _ => False) rfl rfl ?aP (fun _ hk => hk.elim) ?aF ?aO ?aB ?aS ?aL ?_; (case aP => exact k99_mkM _ _ _ (⟨a1_0, a1_1, a1_2, a1_3, a1_4⟩ : S99)); (case aB => exact KB4.out); (case aF => exact (fun k_ hk => Kd.freshB F2.out k_ hk)); (case aO => exact (Kd.R_mono R4.out (fun _ hk => hk.1.1.2))); (case aS => exact KB4.out.size); (case aL => have := L16.out; omega); intro v5 w5 ho hb hg hat; have R5 := Aside0.mk ho; have KB5 := Aside0.mk hb; have G1 := Aside0.mk (blk_grown F1.out hg (Kd.R_ne R4.out F1.out (by decide))); have G3 := Aside0.mk (blk_grown F3.out hg (Kd.R_ne R4.out F3.out (by decide))); obtain ⟨Ao5, co5, eo5⟩ := Kd.R_slice ho; subst eo5; have v5_0 : w5.cell? ⟨w.heap.size, 0, none⟩ = some (.slice Ao l0_0.length co) := (blk_cell G1.out 0).trans rfl; have v5_1 : w5.cell? ⟨w.heap.size, 1, none⟩ = some (.int .i64 a0_1) := (blk_cell G1.out 1).trans rfl; have v5_2 : w5.cell? ⟨w.heap.size + 1 + 1, 0, none⟩ = some (.slice none 0 0) := (blk_cell G3.out 0).trans rfl; have v5_3 : w5.cell? ⟨w.heap.size + 1 + 1, 1, none⟩ = some (.int .i64 0) := (blk_cell G3.out 1).trans rfl; have v5_4 := blk_frozen G3.out 0; have v5_5 := blk_frozen G3.out 1; have v5_6 := blk_frozen G1.out 0; have v5_7 := blk_frozen G1.out 1; clear ho hb hg hat v0 v1 g0 g1 g2 g3 g4 z5 z6 z7 z8 z9 z10)
            have h1_ := H1_.out
            have h2_ := H2_.out
            subst h1_ h2_
            have R5' := R5.out
            rw [show (l0_0 ++ [(⟨a1_0, a1_1, a1_2, a1_3, a1_4⟩ : S99)]).length = l0_0.length + 1 from by simp] at R5'
            have G3f := blk_far G3.out (p := ⟨w.heap.size, 0, none⟩) (by show w.heap.size + 1 + 1 ≠ w.heap.size; omega) (.slice Ao5 (l0_0.length + 1) co5)
            refine bodyPost_ret (results_cell_row rfl _ _ (w.heap.size + 1 + 1) 65 #[.slice Ao5 (l0_0.length + 1) co5, .int .i64 a0_1] (0, 0) _ rfl (blk_put (cs := #[.slice Ao5 (l0_0.length + 1) co5, .int .i64 0]) (blk_put (cs := #[.slice none 0 0, .int .i64 0]) G3f 0 _ rfl) 1 _ rfl) Try.underlying65 rfl (by kernel_rfl)) rfl ?_
            exact ⟨_, rfl, Kd.R_mono (Kd.R_far (p := ⟨w.heap.size + 1 + 1, 1, none⟩) (Kd.R_far (p := ⟨w.heap.size + 1 + 1, 0, none⟩) (Kd.R_far (p := ⟨w.heap.size, 0, none⟩) (Kd.R_types (Kd.R_types R5' G1.out (by decide)) G3.out (by decide)) (fun _ hk => hk.1.2) (.slice Ao5 (l0_0.length + 1) co5)) (fun _ hk => hk.2) (.slice Ao5 (l0_0.length + 1) co5)) (fun _ hk => hk.2) (.int .i64 a0_1)) (fun _ _ => trivial), below_set (below_set (below_set KB5.out (Nat.le_refl _)) (by omega)) (by omega)⟩
          · by_cases c6 : 0 ≤ a0_1 ∧ a0_1 < (l0_0.length : Int)
            case neg =>
              have h := H.out
              rw [if_neg c4, if_neg c5, if_neg c6] at h
              exact absurd h (by simp)
            case pos =>
              have h := H.out
              rw [if_neg c4, if_neg c5, if_pos c6] at h
              simp only [Option.some.injEq, Prod.mk.injEq] at h
              obtain ⟨h1_, h2_⟩ := h
              have H1_ := Aside0.mk h1_
              have H2_ := Aside0.mk h2_
              clear h1_ h2_
              have e4 : decide (0 ≤ ix) = false := decide_eq_false c4
              have e5 : decide ((l0_0.length : Int) < 16) = false := decide_eq_false c5
              have e6 : decide (l0_0.length < 16) = false := decide_eq_false (by omega)
              have e7 := eq_true c6.1
              have e8 := eq_true c6.2
              have C4 := Aside0.mk c6.1
              have CL := Aside0.mk c6.2
              clear c4 c5 c6
              obtain ⟨go, co2, eo, gb, gl, cl, HG⟩ := Kd.R_form R4.out (by have := CL.out; have := C4.out; omega)
              cases eo
              have GB := Aside0.mk gb
              clear gb gl cl HG
              obtain ⟨ce, hcl, hM, hcc, hfr⟩ := Kd.R_elem R4.out z99 (a0_1) C4.out CL.out
              obtain rfl := k99_openM hM
              have HP := Kd.R_seg R4.out (a0_1) C4.out CL.out (seg := [.int .i64 a1_0, .int .i64 a1_1, .int .i64 a1_2, .int .i64 a1_3, .bool a1_4]) (j := 0) hcl hcc (show 5 ≤ 5 from by decide) (x' := (⟨a1_0, a1_1, a1_2, a1_3, a1_4⟩ : S99)) (k99_mkM _ _ _ (⟨a1_0, a1_1, a1_2, a1_3, a1_4⟩ : S99)) (fun _ hk => hk)
              have hx0 := hcc 0 _ rfl
              have hx1 := hcc 1 _ rfl
              have hx2 := hcc 2 _ rfl
              have hx3 := hcc 3 _ rfl
              have hx4 := hcc 4 _ rfl
              have hf0 := hfr 0
              have hf1 := hfr 1
              have hf2 := hfr 2
              have hf3 := hfr 3
              have hf4 := hfr 4
              simp only [show (k99).sz = 5 from rfl, Nat.mul_one, Nat.add_zero] at hx0 hx1 hx2 hx3 hx4 hf0 hf1 hf2 hf3 hf4
              have n1 : w.heap.size ≠ go := fun e_ => Kd.R_ne R4.out F1.out (by decide) (by rw [e_]; rfl)
              have n2 : w.heap.size + 1 + 1 ≠ go := fun e_ => Kd.R_ne R4.out F3.out (by decide) (by rw [e_]; rfl)
              have hg5 : Aside0 (w4.grownBy (((((w4.setCell ⟨go, a0_1.toNat * 5, none⟩ (.int .i64 a1_0)).setCell ⟨go, a0_1.toNat * 5 + 1, none⟩ (.int .i64 a1_1)).setCell ⟨go, a0_1.toNat * 5 + 2, none⟩ (.int .i64 a1_2)).setCell ⟨go, a0_1.toNat * 5 + 3, none⟩ (.int .i64 a1_3)).setCell ⟨go, a0_1.toNat * 5 + 4, none⟩ (.bool a1_4)) (some go)) := ⟨HP.2⟩
              have R5 : Aside0 (Kd.R k99 99 (((((w4.setCell ⟨go, a0_1.toNat * 5, none⟩ (.int .i64 a1_0)).setCell ⟨go, a0_1.toNat * 5 + 1, none⟩ (.int .i64 a1_1)).setCell ⟨go, a0_1.toNat * 5 + 2, none⟩ (.int .i64 a1_2)).setCell ⟨go, a0_1.toNat * 5 + 3, none⟩ (.int .i64 a1_3)).setCell ⟨go, a0_1.toNat * 5 + 4, none⟩ (.bool a1_4)) w.heap.size _ (.slice (some ⟨go, 0, none⟩) l0_0.length co) (l0_0.set (a0_1).toNat (⟨a1_0, a1_1, a1_2, a1_3, a1_4⟩ : S99))) := ⟨HP.1⟩
              have KB5 : Aside0 (Below w.heap.size w (((((w4.setCell ⟨go, a0_1.toNat * 5, none⟩ (.int .i64 a1_0)).setCell ⟨go, a0_1.toNat * 5 + 1, none⟩ (.int .i64 a1_1)).setCell ⟨go, a0_1.toNat * 5 + 2, none⟩ (.int .i64 a1_2)).setCell ⟨go, a0_1.toNat * 5 + 3, none⟩ (.int .i64 a1_3)).setCell ⟨go, a0_1.toNat * 5 + 4, none⟩ (.bool a1_4))) := ⟨below_set (below_set (below_set (below_set (below_set KB4.out GB.out) GB.out) GB.out) GB.out) GB.out⟩
              have G1 := Aside0.mk (blk_grown F1.out hg5.out (Kd.R_ne R4.out F1.out (by decide)))
              have G3 := Aside0.mk (blk_grown F3.out hg5.out (Kd.R_ne R4.out F3.out (by decide)))
              have n1' := n1.symm
              have n2' := n2.symm
              clear HP hcl hcc hfr hM
              go_wp2
              have h1_ := H1_.out
              have h2_ := H2_.out
              subst h1_ h2_
              have G3f := blk_far G3.out (p := ⟨w.heap.size, 1, none⟩) (by show w.heap.size + 1 + 1 ≠ w.heap.size; omega) (.int .i64 (Int.tmod (wrap64 (a0_1 + 1)) 16))
              refine bodyPost_ret (results_cell_row rfl _ _ (w.heap.size + 1 + 1) 65 #[.slice (some ⟨go, 0, none⟩) l0_0.length co, .int .i64 (Int.tmod (wrap64 (a0_1 + 1)) 16)] (0, 0) _ rfl (blk_put (cs := #[.slice (some ⟨go, 0, none⟩) l0_0.length co, .int .i64 0]) (blk_put (cs := #[.slice none 0 0, .int .i64 0]) G3f 0 _ rfl) 1 _ rfl) Try.underlying65 rfl (by kernel_rfl)) rfl ?_
              exact ⟨_, rfl, Kd.R_mono (Kd.R_far (p := ⟨w.heap.size + 1 + 1, 1, none⟩) (Kd.R_far (p := ⟨w.heap.size + 1 + 1, 0, none⟩) (Kd.R_far (p := ⟨w.heap.size, 1, none⟩) (Kd.R_types (Kd.R_types R5.out G1.out (by decide)) G3.out (by decide)) (fun _ hk => hk.1.2) (.int .i64 (Int.tmod (wrap64 (a0_1 + 1)) 16))) (fun _ hk => hk.2) (.slice (some ⟨go, 0, none⟩) l0_0.length co)) (fun _ hk => hk.2) (.int .i64 (Int.tmod (wrap64 (a0_1 + 1)) 16))) (fun _ _ => trivial), below_set (below_set (below_set KB5.out (Nat.le_refl _)) (by omega)) (by omega)⟩
      · rw [if_neg c3] at h
        simp only [Option.some.injEq, Prod.mk.injEq] at h
        obtain ⟨rfl, rfl⟩ := h
        rw [Bool.not_eq_true] at c3
        rw [c3] at hok
        clear c3
        go_enter Try.func60, Try.ntmps60
        go_wp2_with (first | (go_at_call 39; with_reducible refine htf.mono ?_; rintro e w1 ⟨rfl, hb1⟩; have KB1 := Aside0.mk (below_step KB.out hb1); have B1 := Aside0.mk (blk_below K1.out hb1); have B2 := Aside0.mk (blk_below K2.out hb1); have B3 := Aside0.mk (blk_below K3.out hb1); have z0 : w1.cell? ⟨w.heap.size, 0, none⟩ = some (.slice A0_0 l0_0.length c0_0) := (blk_cell B1.out 0).trans rfl; have z1 : w1.cell? ⟨w.heap.size, 1, none⟩ = some (.int .i64 a0_1) := (blk_cell B1.out 1).trans rfl; have y0 := blk_frozen B1.out 0; have y1 := blk_frozen B1.out 1; clear hb1) | (go_at_call 127; with_reducible refine (hcl _ (Kd.C_below HR.out KB1.out)).mono ?_; rintro e w2 ⟨v2, rfl, hR2, hb2⟩; obtain ⟨Ao, co, rfl⟩ := Kd.R_slice hR2; have KB2 := Aside0.mk (below_step KB1.out hb2); have RR2 := Aside0.mk (Kd.R_lower (Kd.R_newB hR2 (g := w.heap.size + 1) (o := .cells #[.int .i64 a1_0, .int .i64 a1_1, .int .i64 a1_2, .int .i64 a1_3, .bool a1_4] 99 (0, 0)) B2.out) KB1.out.size); have C1 := Aside0.mk (blk_below B1.out hb2); have C2 := Aside0.mk (blk_below B2.out hb2); have C3 := Aside0.mk (blk_below B3.out hb2); have p0 : w2.cell? ⟨w.heap.size, 0, none⟩ = some (.slice A0_0 l0_0.length c0_0) := (blk_cell C1.out 0).trans rfl; have p1 := blk_frozen C1.out 0; have D1 := Aside0.mk (blk_put (cs' := #[.slice Ao l0_0.length co, .int .i64 a0_1]) C1.out 0 (.slice Ao l0_0.length co) rfl); have D2 := Aside0.mk (blk_far C2.out (p := ⟨w.heap.size, 0, none⟩) (by show w.heap.size + 1 ≠ w.heap.size; omega) (.slice Ao l0_0.length co)); have D3 := Aside0.mk (blk_far C3.out (p := ⟨w.heap.size, 0, none⟩) (by show w.heap.size + 1 + 1 ≠ w.heap.size; omega) (.slice Ao l0_0.length co)); have q0 := (blk_cell D2.out 0).trans rfl; have q1 := (blk_cell D2.out 1).trans rfl; have q2 := (blk_cell D2.out 2).trans rfl; have q3 := (blk_cell D2.out 3).trans rfl; have q4 := (blk_cell D2.out 4).trans rfl; clear z0 z1 y0 y1 hR2 hb2) | (go_at_call 98; with_reducible refine (hok _).mono ?_; rintro e w3 ⟨rfl, hb3⟩; have E1 := Aside0.mk (blk_below D1.out hb3); have E2 := Aside0.mk (blk_below D2.out hb3); have E3 := Aside0.mk (blk_below D3.out hb3); have HB3 := Aside0.mk hb3; have m0 : w3.cell? ⟨w.heap.size, 0, none⟩ = some (.slice Ao l0_0.length co) := (blk_cell E1.out 0).trans rfl; have m1 : w3.cell? ⟨w.heap.size, 1, none⟩ = some (.int .i64 a0_1) := (blk_cell E1.out 1).trans rfl; have m2 : w3.cell? ⟨w.heap.size + 1 + 1, 0, none⟩ = some (.slice none 0 0) := (blk_cell E3.out 0).trans rfl; have m3 : w3.cell? ⟨w.heap.size + 1 + 1, 1, none⟩ = some (.int .i64 0) := (blk_cell E3.out 1).trans rfl; have m4 := blk_frozen E3.out 0; have m5 := blk_frozen E3.out 1; clear hb3 p0 p1 q0 q1 q2 q3 q4))
        refine bodyPost_ret (results_cell_row rfl _ _ (w.heap.size + 1 + 1) 65 #[.slice Ao l0_0.length co, .int .i64 a0_1] (0, 0) _ rfl (blk_put (cs := #[.slice Ao l0_0.length co, .int .i64 0]) (blk_put (cs := #[.slice none 0 0, .int .i64 0]) E3.out 0 _ rfl) 1 _ rfl) Try.underlying65 rfl (by kernel_rfl)) rfl ?_
        have R3 := Kd.R_below (Kd.R_far (p := ⟨w.heap.size, 0, none⟩) (Kd.R_types (Kd.R_types RR2.out C1.out (by decide)) C3.out (by decide)) (fun _ hk => hk.1.2) (.slice Ao l0_0.length co)) HB3.out
        exact ⟨_, rfl, Kd.R_mono (Kd.R_far (p := ⟨w.heap.size + 1 + 1, 1, none⟩) (Kd.R_far (p := ⟨w.heap.size + 1 + 1, 0, none⟩) R3 (fun _ hk => hk.2) (.slice Ao l0_0.length co)) (fun _ hk => hk.2) (.int .i64 a0_1)) (fun _ _ => trivial), below_set (below_set (below_step (below_set KB2.out (Nat.le_refl _)) HB3.out) (by omega)) (by omega)⟩
    · rw [if_neg c2] at h; exact absurd h (by simp)
  · rw [if_neg c1] at h
    simp only [Option.some.injEq, Prod.mk.injEq] at h
    obtain ⟨rfl, rfl⟩ := h
    have hn : (t != 0) = true := by simp [c1]
    have hn2 : (t == 0) = false := by simp [c1]
    clear c1
    go_enter Try.func60, Try.ntmps60
    go_wp2_with (go_at_call 39; with_reducible refine htf.mono ?_; rintro e w1 ⟨rfl, hb1⟩; have KB1 := Aside0.mk (below_step KB.out hb1); have B1 := Aside0.mk (blk_below K1.out hb1); have B2 := Aside0.mk (blk_below K2.out hb1); have B3 := Aside0.mk (blk_below K3.out hb1); have z0 : w1.cell? ⟨w.heap.size, 0, none⟩ = some (.slice A0_0 l0_0.length c0_0) := (blk_cell B1.out 0).trans rfl; have z1 : w1.cell? ⟨w.heap.size, 1, none⟩ = some (.int .i64 a0_1) := (blk_cell B1.out 1).trans rfl; have y0 := blk_frozen B1.out 0; have y1 := blk_frozen B1.out 1; have x0 : w1.cell? ⟨w.heap.size + 1 + 1, 0, none⟩ = some (.slice none 0 0) := (blk_cell B3.out 0).trans rfl; have x1 : w1.cell? ⟨w.heap.size + 1 + 1, 1, none⟩ = some (.int .i64 0) := (blk_cell B3.out 1).trans rfl; have u0 := blk_frozen B3.out 0; have u1 := blk_frozen B3.out 1; clear hb1)
    refine bodyPost_ret (results_cell_row rfl _ _ (w.heap.size + 1 + 1) 65 #[.slice none 0 0, .int .i64 0] (0, 0) _ rfl (blk_put (cs := #[.slice none 0 0, .int .i64 0]) (blk_put (cs := #[.slice none 0 0, .int .i64 0]) B3.out 0 _ rfl) 1 _ rfl) Try.underlying65 rfl (by kernel_rfl)) rfl ?_
    exact ⟨_, rfl, Kd.R_nil _ _ _ _ _, below_set (below_set KB1.out (by omega)) (by omega)⟩

end Go.Proofs.Ytjpgelnhmcblmaa.QFnExactTlbPut
