-- Written for this claim by this session's own driver (wip/xprint.py).
import Derived.Test.YtjpgelnhmcblmaaQFnExactTlbPutx0
namespace Go.Proofs.Ytjpgelnhmcblmaa.QFnExactTlbPut
open Go.RowKit Go.Proofs.YtjpgelnhmcblmaaW.PrintWords Go.Proofs.YtjpgelnhmcblmaaW.PrintLast Go.Proofs.YtjpgelnhmcblmaaW.PrintMore
attribute [local go_sem] max2_int min2_int max_two min_two max_three min_three max_four min_four   -- for this text's walks alone
set_option linter.unusedVariables false
set_option linter.unusedSimpArgs false

/-! ### spec_l03TlbEntry: function 96 -/
def spec_l03TlbEntry.f (a0_0 : Int) (a0_1 : Int) (a0_2 : Int) (a0_3 : Int) (a0_4 : Bool) : Option (Bool) := if a0_0 < 0 then (some false) else (if a0_0 > 255 then (some false) else (if a0_1 < 0 then (some false) else (if a0_1 > 1023 then (some false) else (if a0_2 < 0 then (some false) else (if a0_2 > 1023 then (some false) else (if a0_3 < 0 then (some false) else (if a0_3 > 255 then (some false) else (if a0_4 = true then (if (Int.tmod a0_1 32) = 0 then (some ((Int.tmod a0_2 32) == 0)) else (some false)) else (some true)))))))))
set_option maxHeartbeats 8000000 in
set_option maxRecDepth 100000 in
theorem spec_l03TlbEntry.calls (a0_0 : Int) (a0_1 : Int) (a0_2 : Int) (a0_3 : Int) (a0_4 : Bool) (r : Bool) (w : World) (h : spec_l03TlbEntry.f a0_0 a0_1 a0_2 a0_3 a0_4 = some r) :
  Calls Try.prog 96 #[.agg #[.int .i64 a0_0, .int .i64 a0_1, .int .i64 a0_2, .int .i64 a0_3, .bool a0_4]] w fun e w' => e = .returned (.bool r) ∧ Below w.heap.size w w' := by
 have hu99 := Try.underlying99
 have HB := Sq.l (Below.refl w.heap.size w)
 have H : (if a0_0 < 0 then (some false) else (if a0_0 > 255 then (some false) else (if a0_1 < 0 then (some false) else (if a0_1 > 1023 then (some false) else (if a0_2 < 0 then (some false) else (if a0_2 > 1023 then (some false) else (if a0_3 < 0 then (some false) else (if a0_3 > 255 then (some false) else (if a0_4 = true then (if (Int.tmod a0_1 32) = 0 then (some ((Int.tmod a0_2 32) == 0)) else (some false)) else (some true)))))))))) = some r := h
 clear h
 by_cases c2 : a0_0 < 0
 ·rw [if_pos c2] at H
  have c2b0 : decide (a0_0 < 0) = true := decide_eq_true c2
  clear c2
  obtain rfl := Option.some.inj H
  go_enter Try.func96, Try.ntmps96
  go_wp2_with (first | ((with_reducible refine gate_dst (N := 1) rfl ?_); refine box_event ?hg (N := 1) ?hd (cs := #[.int .i64 a0_0, .int .i64 a0_1, .int .i64 a0_2, .int .i64 a0_3, .bool a0_4]) (t := 99) ?hr ?_; (case hd => rfl); (case hg => rfl); (case hr => first | (go_simp; done) | (go_simp; rfl)); intro gb130 hg w3 hbox hb; have n0_ := Sq.l (Sq.a4 (by repeat (first | (with_reducible first | exact HB.out | apply Sq.i | apply Sq.j | apply Sq.k) | exact HB.out)) hb); have n1_ := Sq.l (hbox); have n2_ := Sq.l ((by rw [hg]; exact (Sq.a5 (by repeat (first | (with_reducible first | exact HB.out | apply Sq.i | apply Sq.j | apply Sq.k) | exact HB.out))) : w.heap.size ≤ gb130)); have n3_ := Sq.l ((by rw [hg]; exact (Sq.a5 (by repeat (first | (with_reducible first | exact HB.out | apply Sq.i | apply Sq.j | apply Sq.k) | exact HB.out))) : w.heap.size ≤ gb130)); clear HB; have HB := n0_; have BK130 := n1_; have GW130 := n2_; have GE130 := n3_; clear n0_ n1_ n2_ n3_; clear hb hbox hg; have hcz4_0 : w3.cell? ⟨gb130, 0, none⟩ = some (.int .i64 a0_0) := (Sq.o BK130.out 0).trans rfl; have hcz4_1 : w3.cell? ⟨gb130, 1, none⟩ = some (.int .i64 a0_1) := (Sq.o BK130.out 1).trans rfl; have hcz4_2 : w3.cell? ⟨gb130, 2, none⟩ = some (.int .i64 a0_2) := (Sq.o BK130.out 2).trans rfl; have hcz4_3 : w3.cell? ⟨gb130, 3, none⟩ = some (.int .i64 a0_3) := (Sq.o BK130.out 3).trans rfl; have hcz4_4 : w3.cell? ⟨gb130, 4, none⟩ = some (.bool a0_4) := (Sq.o BK130.out 4).trans rfl; have hfz4_0 := Sq.r BK130.out 0; have hfz4_1 := Sq.r BK130.out 1; have hfz4_2 := Sq.r BK130.out 2; have hfz4_3 := Sq.r BK130.out 3; have hfz4_4 := Sq.r BK130.out 4))
  go_ret
  exact ⟨by first | rfl | (simp [errW_none, errW_some] <;> rfl) | (simp [*, errW_none, errW_some] <;> rfl), by repeat (first | (with_reducible first | exact HB.out | apply Sq.i | apply Sq.j | apply Sq.k | refine Sq.h ?_ GE130.out) | exact HB.out)⟩
 ·rw [if_neg c2] at H
  have c2b0 : decide (a0_0 < 0) = false := decide_eq_false c2
  clear c2
  by_cases c5 : a0_0 > 255
  ·rw [if_pos c5] at H
   have c5b0 : decide (255 < a0_0) = true := decide_eq_true c5
   clear c5
   obtain rfl := Option.some.inj H
   go_enter Try.func96, Try.ntmps96
   go_wp2_with (first | ((with_reducible refine gate_dst (N := 1) rfl ?_); refine box_event ?hg (N := 1) ?hd (cs := #[.int .i64 a0_0, .int .i64 a0_1, .int .i64 a0_2, .int .i64 a0_3, .bool a0_4]) (t := 99) ?hr ?_; (case hd => rfl); (case hg => rfl); (case hr => first | (go_simp; done) | (go_simp; rfl)); intro gb130 hg w6 hbox hb; have n0_ := Sq.l (Sq.a4 (by repeat (first | (with_reducible first | exact HB.out | apply Sq.i | apply Sq.j | apply Sq.k) | exact HB.out)) hb); have n1_ := Sq.l (hbox); have n2_ := Sq.l ((by rw [hg]; exact (Sq.a5 (by repeat (first | (with_reducible first | exact HB.out | apply Sq.i | apply Sq.j | apply Sq.k) | exact HB.out))) : w.heap.size ≤ gb130)); have n3_ := Sq.l ((by rw [hg]; exact (Sq.a5 (by repeat (first | (with_reducible first | exact HB.out | apply Sq.i | apply Sq.j | apply Sq.k) | exact HB.out))) : w.heap.size ≤ gb130)); clear HB; have HB := n0_; have BK130 := n1_; have GW130 := n2_; have GE130 := n3_; clear n0_ n1_ n2_ n3_; clear hb hbox hg; have hcz7_0 : w6.cell? ⟨gb130, 0, none⟩ = some (.int .i64 a0_0) := (Sq.o BK130.out 0).trans rfl; have hcz7_1 : w6.cell? ⟨gb130, 1, none⟩ = some (.int .i64 a0_1) := (Sq.o BK130.out 1).trans rfl; have hcz7_2 : w6.cell? ⟨gb130, 2, none⟩ = some (.int .i64 a0_2) := (Sq.o BK130.out 2).trans rfl; have hcz7_3 : w6.cell? ⟨gb130, 3, none⟩ = some (.int .i64 a0_3) := (Sq.o BK130.out 3).trans rfl; have hcz7_4 : w6.cell? ⟨gb130, 4, none⟩ = some (.bool a0_4) := (Sq.o BK130.out 4).trans rfl; have hfz7_0 := Sq.r BK130.out 0; have hfz7_1 := Sq.r BK130.out 1; have hfz7_2 := Sq.r BK130.out 2; have hfz7_3 := Sq.r BK130.out 3; have hfz7_4 := Sq.r BK130.out 4))
   go_ret
   exact ⟨by first | rfl | (simp [errW_none, errW_some] <;> rfl) | (simp [*, errW_none, errW_some] <;> rfl), by repeat (first | (with_reducible first | exact HB.out | apply Sq.i | apply Sq.j | apply Sq.k | refine Sq.h ?_ GE130.out) | exact HB.out)⟩
  ·rw [if_neg c5] at H
   have c5b0 : decide (255 < a0_0) = false := decide_eq_false c5
   clear c5
   by_cases c8 : a0_1 < 0
   ·rw [if_pos c8] at H
    have c8b0 : decide (a0_1 < 0) = true := decide_eq_true c8
    clear c8
    obtain rfl := Option.some.inj H
    go_enter Try.func96, Try.ntmps96
    go_wp2_with (first | ((with_reducible refine gate_dst (N := 1) rfl ?_); refine box_event ?hg (N := 1) ?hd (cs := #[.int .i64 a0_0, .int .i64 a0_1, .int .i64 a0_2, .int .i64 a0_3, .bool a0_4]) (t := 99) ?hr ?_; (case hd => rfl); (case hg => rfl); (case hr => first | (go_simp; done) | (go_simp; rfl)); intro gb130 hg w9 hbox hb; have n0_ := Sq.l (Sq.a4 (by repeat (first | (with_reducible first | exact HB.out | apply Sq.i | apply Sq.j | apply Sq.k) | exact HB.out)) hb); have n1_ := Sq.l (hbox); have n2_ := Sq.l ((by rw [hg]; exact (Sq.a5 (by repeat (first | (with_reducible first | exact HB.out | apply Sq.i | apply Sq.j | apply Sq.k) | exact HB.out))) : w.heap.size ≤ gb130)); have n3_ := Sq.l ((by rw [hg]; exact (Sq.a5 (by repeat (first | (with_reducible first | exact HB.out | apply Sq.i | apply Sq.j | apply Sq.k) | exact HB.out))) : w.heap.size ≤ gb130)); clear HB; have HB := n0_; have BK130 := n1_; have GW130 := n2_; have GE130 := n3_; clear n0_ n1_ n2_ n3_; clear hb hbox hg; have hcz10_0 : w9.cell? ⟨gb130, 0, none⟩ = some (.int .i64 a0_0) := (Sq.o BK130.out 0).trans rfl; have hcz10_1 : w9.cell? ⟨gb130, 1, none⟩ = some (.int .i64 a0_1) := (Sq.o BK130.out 1).trans rfl; have hcz10_2 : w9.cell? ⟨gb130, 2, none⟩ = some (.int .i64 a0_2) := (Sq.o BK130.out 2).trans rfl; have hcz10_3 : w9.cell? ⟨gb130, 3, none⟩ = some (.int .i64 a0_3) := (Sq.o BK130.out 3).trans rfl; have hcz10_4 : w9.cell? ⟨gb130, 4, none⟩ = some (.bool a0_4) := (Sq.o BK130.out 4).trans rfl; have hfz10_0 := Sq.r BK130.out 0; have hfz10_1 := Sq.r BK130.out 1; have hfz10_2 := Sq.r BK130.out 2; have hfz10_3 := Sq.r BK130.out 3; have hfz10_4 := Sq.r BK130.out 4))
    go_ret
    exact ⟨by first | rfl | (simp [errW_none, errW_some] <;> rfl) | (simp [*, errW_none, errW_some] <;> rfl), by repeat (first | (with_reducible first | exact HB.out | apply Sq.i | apply Sq.j | apply Sq.k | refine Sq.h ?_ GE130.out) | exact HB.out)⟩
   ·rw [if_neg c8] at H
    have c8b0 : decide (a0_1 < 0) = false := decide_eq_false c8
    clear c8
    by_cases c11 : a0_1 > 1023
    ·rw [if_pos c11] at H
     have c11b0 : decide (1023 < a0_1) = true := decide_eq_true c11
     clear c11
     obtain rfl := Option.some.inj H
     go_enter Try.func96, Try.ntmps96
     go_wp2_with (first | ((with_reducible refine gate_dst (N := 1) rfl ?_); refine box_event ?hg (N := 1) ?hd (cs := #[.int .i64 a0_0, .int .i64 a0_1, .int .i64 a0_2, .int .i64 a0_3, .bool a0_4]) (t := 99) ?hr ?_; (case hd => rfl); (case hg => rfl); (case hr => first | (go_simp; done) | (go_simp; rfl)); intro gb130 hg w12 hbox hb; have n0_ := Sq.l (Sq.a4 (by repeat (first | (with_reducible first | exact HB.out | apply Sq.i | apply Sq.j | apply Sq.k) | exact HB.out)) hb); have n1_ := Sq.l (hbox); have n2_ := Sq.l ((by rw [hg]; exact (Sq.a5 (by repeat (first | (with_reducible first | exact HB.out | apply Sq.i | apply Sq.j | apply Sq.k) | exact HB.out))) : w.heap.size ≤ gb130)); have n3_ := Sq.l ((by rw [hg]; exact (Sq.a5 (by repeat (first | (with_reducible first | exact HB.out | apply Sq.i | apply Sq.j | apply Sq.k) | exact HB.out))) : w.heap.size ≤ gb130)); clear HB; have HB := n0_; have BK130 := n1_; have GW130 := n2_; have GE130 := n3_; clear n0_ n1_ n2_ n3_; clear hb hbox hg; have hcz13_0 : w12.cell? ⟨gb130, 0, none⟩ = some (.int .i64 a0_0) := (Sq.o BK130.out 0).trans rfl; have hcz13_1 : w12.cell? ⟨gb130, 1, none⟩ = some (.int .i64 a0_1) := (Sq.o BK130.out 1).trans rfl; have hcz13_2 : w12.cell? ⟨gb130, 2, none⟩ = some (.int .i64 a0_2) := (Sq.o BK130.out 2).trans rfl; have hcz13_3 : w12.cell? ⟨gb130, 3, none⟩ = some (.int .i64 a0_3) := (Sq.o BK130.out 3).trans rfl; have hcz13_4 : w12.cell? ⟨gb130, 4, none⟩ = some (.bool a0_4) := (Sq.o BK130.out 4).trans rfl; have hfz13_0 := Sq.r BK130.out 0; have hfz13_1 := Sq.r BK130.out 1; have hfz13_2 := Sq.r BK130.out 2; have hfz13_3 := Sq.r BK130.out 3; have hfz13_4 := Sq.r BK130.out 4))
     go_ret
     exact ⟨by first | rfl | (simp [errW_none, errW_some] <;> rfl) | (simp [*, errW_none, errW_some] <;> rfl), by repeat (first | (with_reducible first | exact HB.out | apply Sq.i | apply Sq.j | apply Sq.k | refine Sq.h ?_ GE130.out) | exact HB.out)⟩
    ·rw [if_neg c11] at H
     have c11b0 : decide (1023 < a0_1) = false := decide_eq_false c11
     clear c11
     by_cases c14 : a0_2 < 0
     ·rw [if_pos c14] at H
      have c14b0 : decide (a0_2 < 0) = true := decide_eq_true c14
      clear c14
      obtain rfl := Option.some.inj H
      go_enter Try.func96, Try.ntmps96
      go_wp2_with (first | ((with_reducible refine gate_dst (N := 1) rfl ?_); refine box_event ?hg (N := 1) ?hd (cs := #[.int .i64 a0_0, .int .i64 a0_1, .int .i64 a0_2, .int .i64 a0_3, .bool a0_4]) (t := 99) ?hr ?_; (case hd => rfl); (case hg => rfl); (case hr => first | (go_simp; done) | (go_simp; rfl)); intro gb130 hg w15 hbox hb; have n0_ := Sq.l (Sq.a4 (by repeat (first | (with_reducible first | exact HB.out | apply Sq.i | apply Sq.j | apply Sq.k) | exact HB.out)) hb); have n1_ := Sq.l (hbox); have n2_ := Sq.l ((by rw [hg]; exact (Sq.a5 (by repeat (first | (with_reducible first | exact HB.out | apply Sq.i | apply Sq.j | apply Sq.k) | exact HB.out))) : w.heap.size ≤ gb130)); have n3_ := Sq.l ((by rw [hg]; exact (Sq.a5 (by repeat (first | (with_reducible first | exact HB.out | apply Sq.i | apply Sq.j | apply Sq.k) | exact HB.out))) : w.heap.size ≤ gb130)); clear HB; have HB := n0_; have BK130 := n1_; have GW130 := n2_; have GE130 := n3_; clear n0_ n1_ n2_ n3_; clear hb hbox hg; have hcz16_0 : w15.cell? ⟨gb130, 0, none⟩ = some (.int .i64 a0_0) := (Sq.o BK130.out 0).trans rfl; have hcz16_1 : w15.cell? ⟨gb130, 1, none⟩ = some (.int .i64 a0_1) := (Sq.o BK130.out 1).trans rfl; have hcz16_2 : w15.cell? ⟨gb130, 2, none⟩ = some (.int .i64 a0_2) := (Sq.o BK130.out 2).trans rfl; have hcz16_3 : w15.cell? ⟨gb130, 3, none⟩ = some (.int .i64 a0_3) := (Sq.o BK130.out 3).trans rfl; have hcz16_4 : w15.cell? ⟨gb130, 4, none⟩ = some (.bool a0_4) := (Sq.o BK130.out 4).trans rfl; have hfz16_0 := Sq.r BK130.out 0; have hfz16_1 := Sq.r BK130.out 1; have hfz16_2 := Sq.r BK130.out 2; have hfz16_3 := Sq.r BK130.out 3; have hfz16_4 := Sq.r BK130.out 4))
      go_ret
      exact ⟨by first | rfl | (simp [errW_none, errW_some] <;> rfl) | (simp [*, errW_none, errW_some] <;> rfl), by repeat (first | (with_reducible first | exact HB.out | apply Sq.i | apply Sq.j | apply Sq.k | refine Sq.h ?_ GE130.out) | exact HB.out)⟩
     ·rw [if_neg c14] at H
      have c14b0 : decide (a0_2 < 0) = false := decide_eq_false c14
      clear c14
      by_cases c17 : a0_2 > 1023
      ·rw [if_pos c17] at H
       have c17b0 : decide (1023 < a0_2) = true := decide_eq_true c17
       clear c17
       obtain rfl := Option.some.inj H
       go_enter Try.func96, Try.ntmps96
       go_wp2_with (first | ((with_reducible refine gate_dst (N := 1) rfl ?_); refine box_event ?hg (N := 1) ?hd (cs := #[.int .i64 a0_0, .int .i64 a0_1, .int .i64 a0_2, .int .i64 a0_3, .bool a0_4]) (t := 99) ?hr ?_; (case hd => rfl); (case hg => rfl); (case hr => first | (go_simp; done) | (go_simp; rfl)); intro gb130 hg w18 hbox hb; have n0_ := Sq.l (Sq.a4 (by repeat (first | (with_reducible first | exact HB.out | apply Sq.i | apply Sq.j | apply Sq.k) | exact HB.out)) hb); have n1_ := Sq.l (hbox); have n2_ := Sq.l ((by rw [hg]; exact (Sq.a5 (by repeat (first | (with_reducible first | exact HB.out | apply Sq.i | apply Sq.j | apply Sq.k) | exact HB.out))) : w.heap.size ≤ gb130)); have n3_ := Sq.l ((by rw [hg]; exact (Sq.a5 (by repeat (first | (with_reducible first | exact HB.out | apply Sq.i | apply Sq.j | apply Sq.k) | exact HB.out))) : w.heap.size ≤ gb130)); clear HB; have HB := n0_; have BK130 := n1_; have GW130 := n2_; have GE130 := n3_; clear n0_ n1_ n2_ n3_; clear hb hbox hg; have hcz19_0 : w18.cell? ⟨gb130, 0, none⟩ = some (.int .i64 a0_0) := (Sq.o BK130.out 0).trans rfl; have hcz19_1 : w18.cell? ⟨gb130, 1, none⟩ = some (.int .i64 a0_1) := (Sq.o BK130.out 1).trans rfl; have hcz19_2 : w18.cell? ⟨gb130, 2, none⟩ = some (.int .i64 a0_2) := (Sq.o BK130.out 2).trans rfl; have hcz19_3 : w18.cell? ⟨gb130, 3, none⟩ = some (.int .i64 a0_3) := (Sq.o BK130.out 3).trans rfl; have hcz19_4 : w18.cell? ⟨gb130, 4, none⟩ = some (.bool a0_4) := (Sq.o BK130.out 4).trans rfl; have hfz19_0 := Sq.r BK130.out 0; have hfz19_1 := Sq.r BK130.out 1; have hfz19_2 := Sq.r BK130.out 2; have hfz19_3 := Sq.r BK130.out 3; have hfz19_4 := Sq.r BK130.out 4))
       go_ret
       exact ⟨by first | rfl | (simp [errW_none, errW_some] <;> rfl) | (simp [*, errW_none, errW_some] <;> rfl), by repeat (first | (with_reducible first | exact HB.out | apply Sq.i | apply Sq.j | apply Sq.k | refine Sq.h ?_ GE130.out) | exact HB.out)⟩
      ·rw [if_neg c17] at H
       have c17b0 : decide (1023 < a0_2) = false := decide_eq_false c17
       clear c17
       by_cases c20 : a0_3 < 0
       ·rw [if_pos c20] at H
        have c20b0 : decide (a0_3 < 0) = true := decide_eq_true c20
        clear c20
        obtain rfl := Option.some.inj H
        go_enter Try.func96, Try.ntmps96
        go_wp2_with (first | ((with_reducible refine gate_dst (N := 1) rfl ?_); refine box_event ?hg (N := 1) ?hd (cs := #[.int .i64 a0_0, .int .i64 a0_1, .int .i64 a0_2, .int .i64 a0_3, .bool a0_4]) (t := 99) ?hr ?_; (case hd => rfl); (case hg => rfl); (case hr => first | (go_simp; done) | (go_simp; rfl)); intro gb130 hg w21 hbox hb; have n0_ := Sq.l (Sq.a4 (by repeat (first | (with_reducible first | exact HB.out | apply Sq.i | apply Sq.j | apply Sq.k) | exact HB.out)) hb); have n1_ := Sq.l (hbox); have n2_ := Sq.l ((by rw [hg]; exact (Sq.a5 (by repeat (first | (with_reducible first | exact HB.out | apply Sq.i | apply Sq.j | apply Sq.k) | exact HB.out))) : w.heap.size ≤ gb130)); have n3_ := Sq.l ((by rw [hg]; exact (Sq.a5 (by repeat (first | (with_reducible first | exact HB.out | apply Sq.i | apply Sq.j | apply Sq.k) | exact HB.out))) : w.heap.size ≤ gb130)); clear HB; have HB := n0_; have BK130 := n1_; have GW130 := n2_; have GE130 := n3_; clear n0_ n1_ n2_ n3_; clear hb hbox hg; have hcz22_0 : w21.cell? ⟨gb130, 0, none⟩ = some (.int .i64 a0_0) := (Sq.o BK130.out 0).trans rfl; have hcz22_1 : w21.cell? ⟨gb130, 1, none⟩ = some (.int .i64 a0_1) := (Sq.o BK130.out 1).trans rfl; have hcz22_2 : w21.cell? ⟨gb130, 2, none⟩ = some (.int .i64 a0_2) := (Sq.o BK130.out 2).trans rfl; have hcz22_3 : w21.cell? ⟨gb130, 3, none⟩ = some (.int .i64 a0_3) := (Sq.o BK130.out 3).trans rfl; have hcz22_4 : w21.cell? ⟨gb130, 4, none⟩ = some (.bool a0_4) := (Sq.o BK130.out 4).trans rfl; have hfz22_0 := Sq.r BK130.out 0; have hfz22_1 := Sq.r BK130.out 1; have hfz22_2 := Sq.r BK130.out 2; have hfz22_3 := Sq.r BK130.out 3; have hfz22_4 := Sq.r BK130.out 4))
        go_ret
        exact ⟨by first | rfl | (simp [errW_none, errW_some] <;> rfl) | (simp [*, errW_none, errW_some] <;> rfl), by repeat (first | (with_reducible first | exact HB.out | apply Sq.i | apply Sq.j | apply Sq.k | refine Sq.h ?_ GE130.out) | exact HB.out)⟩
       ·rw [if_neg c20] at H
        have c20b0 : decide (a0_3 < 0) = false := decide_eq_false c20
        clear c20
        by_cases c23 : a0_3 > 255
        ·rw [if_pos c23] at H
         have c23b0 : decide (255 < a0_3) = true := decide_eq_true c23
         clear c23
         obtain rfl := Option.some.inj H
         go_enter Try.func96, Try.ntmps96
         go_wp2_with (first | ((with_reducible refine gate_dst (N := 1) rfl ?_); refine box_event ?hg (N := 1) ?hd (cs := #[.int .i64 a0_0, .int .i64 a0_1, .int .i64 a0_2, .int .i64 a0_3, .bool a0_4]) (t := 99) ?hr ?_; (case hd => rfl); (case hg => rfl); (case hr => first | (go_simp; done) | (go_simp; rfl)); intro gb130 hg w24 hbox hb; have n0_ := Sq.l (Sq.a4 (by repeat (first | (with_reducible first | exact HB.out | apply Sq.i | apply Sq.j | apply Sq.k) | exact HB.out)) hb); have n1_ := Sq.l (hbox); have n2_ := Sq.l ((by rw [hg]; exact (Sq.a5 (by repeat (first | (with_reducible first | exact HB.out | apply Sq.i | apply Sq.j | apply Sq.k) | exact HB.out))) : w.heap.size ≤ gb130)); have n3_ := Sq.l ((by rw [hg]; exact (Sq.a5 (by repeat (first | (with_reducible first | exact HB.out | apply Sq.i | apply Sq.j | apply Sq.k) | exact HB.out))) : w.heap.size ≤ gb130)); clear HB; have HB := n0_; have BK130 := n1_; have GW130 := n2_; have GE130 := n3_; clear n0_ n1_ n2_ n3_; clear hb hbox hg; have hcz25_0 : w24.cell? ⟨gb130, 0, none⟩ = some (.int .i64 a0_0) := (Sq.o BK130.out 0).trans rfl; have hcz25_1 : w24.cell? ⟨gb130, 1, none⟩ = some (.int .i64 a0_1) := (Sq.o BK130.out 1).trans rfl; have hcz25_2 : w24.cell? ⟨gb130, 2, none⟩ = some (.int .i64 a0_2) := (Sq.o BK130.out 2).trans rfl; have hcz25_3 : w24.cell? ⟨gb130, 3, none⟩ = some (.int .i64 a0_3) := (Sq.o BK130.out 3).trans rfl; have hcz25_4 : w24.cell? ⟨gb130, 4, none⟩ = some (.bool a0_4) := (Sq.o BK130.out 4).trans rfl; have hfz25_0 := Sq.r BK130.out 0; have hfz25_1 := Sq.r BK130.out 1; have hfz25_2 := Sq.r BK130.out 2; have hfz25_3 := Sq.r BK130.out 3; have hfz25_4 := Sq.r BK130.out 4))
         go_ret
         exact ⟨by first | rfl | (simp [errW_none, errW_some] <;> rfl) | (simp [*, errW_none, errW_some] <;> rfl), by repeat (first | (with_reducible first | exact HB.out | apply Sq.i | apply Sq.j | apply Sq.k | refine Sq.h ?_ GE130.out) | exact HB.out)⟩
        ·rw [if_neg c23] at H
         have c23b0 : decide (255 < a0_3) = false := decide_eq_false c23
         clear c23
         by_cases c26 : a0_4 = true
         ·subst c26
          rw [if_pos rfl] at H
          by_cases c27 : (Int.tmod a0_1 32) = 0
          ·rw [if_pos c27] at H
           have c27b0 : ((Int.tmod a0_1 32) == 0) = true := beq_iff_eq.mpr c27
           have c27b1 : ((Int.tmod a0_1 32) != 0) = false := bne_eq_false_iff_eq.mpr c27
           clear c27
           obtain rfl := Option.some.inj H
           go_enter Try.func96, Try.ntmps96
           go_wp2_with (first | ((with_reducible refine gate_dst (N := 1) rfl ?_); refine box_event ?hg (N := 1) ?hd (cs := #[.int .i64 a0_0, .int .i64 a0_1, .int .i64 a0_2, .int .i64 a0_3, .bool true]) (t := 99) ?hr ?_; (case hd => rfl); (case hg => rfl); (case hr => first | (go_simp; done) | (go_simp; rfl)); intro gb130 hg w28 hbox hb; have n0_ := Sq.l (Sq.a4 (by repeat (first | (with_reducible first | exact HB.out | apply Sq.i | apply Sq.j | apply Sq.k) | exact HB.out)) hb); have n1_ := Sq.l (hbox); have n2_ := Sq.l ((by rw [hg]; exact (Sq.a5 (by repeat (first | (with_reducible first | exact HB.out | apply Sq.i | apply Sq.j | apply Sq.k) | exact HB.out))) : w.heap.size ≤ gb130)); have n3_ := Sq.l ((by rw [hg]; exact (Sq.a5 (by repeat (first | (with_reducible first | exact HB.out | apply Sq.i | apply Sq.j | apply Sq.k) | exact HB.out))) : w.heap.size ≤ gb130)); clear HB; have HB := n0_; have BK130 := n1_; have GW130 := n2_; have GE130 := n3_; clear n0_ n1_ n2_ n3_; clear hb hbox hg; have hcz29_0 : w28.cell? ⟨gb130, 0, none⟩ = some (.int .i64 a0_0) := (Sq.o BK130.out 0).trans rfl; have hcz29_1 : w28.cell? ⟨gb130, 1, none⟩ = some (.int .i64 a0_1) := (Sq.o BK130.out 1).trans rfl; have hcz29_2 : w28.cell? ⟨gb130, 2, none⟩ = some (.int .i64 a0_2) := (Sq.o BK130.out 2).trans rfl; have hcz29_3 : w28.cell? ⟨gb130, 3, none⟩ = some (.int .i64 a0_3) := (Sq.o BK130.out 3).trans rfl; have hcz29_4 : w28.cell? ⟨gb130, 4, none⟩ = some (.bool true) := (Sq.o BK130.out 4).trans rfl; have hfz29_0 := Sq.r BK130.out 0; have hfz29_1 := Sq.r BK130.out 1; have hfz29_2 := Sq.r BK130.out 2; have hfz29_3 := Sq.r BK130.out 3; have hfz29_4 := Sq.r BK130.out 4))
           go_ret
           exact ⟨by first | rfl | (simp [errW_none, errW_some] <;> rfl) | (simp [*, errW_none, errW_some] <;> rfl), by repeat (first | (with_reducible first | exact HB.out | apply Sq.i | apply Sq.j | apply Sq.k | refine Sq.h ?_ GE130.out) | exact HB.out)⟩
          ·rw [if_neg c27] at H
           have c27b0 : ((Int.tmod a0_1 32) == 0) = false := beq_eq_false_iff_ne.mpr c27
           have c27b1 : ((Int.tmod a0_1 32) != 0) = true := bne_iff_ne.mpr c27
           obtain rfl := Option.some.inj H
           go_enter Try.func96, Try.ntmps96
           go_wp2_with (first | ((with_reducible refine gate_dst (N := 1) rfl ?_); refine box_event ?hg (N := 1) ?hd (cs := #[.int .i64 a0_0, .int .i64 a0_1, .int .i64 a0_2, .int .i64 a0_3, .bool true]) (t := 99) ?hr ?_; (case hd => rfl); (case hg => rfl); (case hr => first | (go_simp; done) | (go_simp; rfl)); intro gb130 hg w30 hbox hb; have n0_ := Sq.l (Sq.a4 (by repeat (first | (with_reducible first | exact HB.out | apply Sq.i | apply Sq.j | apply Sq.k) | exact HB.out)) hb); have n1_ := Sq.l (hbox); have n2_ := Sq.l ((by rw [hg]; exact (Sq.a5 (by repeat (first | (with_reducible first | exact HB.out | apply Sq.i | apply Sq.j | apply Sq.k) | exact HB.out))) : w.heap.size ≤ gb130)); have n3_ := Sq.l ((by rw [hg]; exact (Sq.a5 (by repeat (first | (with_reducible first | exact HB.out | apply Sq.i | apply Sq.j | apply Sq.k) | exact HB.out))) : w.heap.size ≤ gb130)); clear HB; have HB := n0_; have BK130 := n1_; have GW130 := n2_; have GE130 := n3_; clear n0_ n1_ n2_ n3_; clear hb hbox hg; have hcz31_0 : w30.cell? ⟨gb130, 0, none⟩ = some (.int .i64 a0_0) := (Sq.o BK130.out 0).trans rfl; have hcz31_1 : w30.cell? ⟨gb130, 1, none⟩ = some (.int .i64 a0_1) := (Sq.o BK130.out 1).trans rfl; have hcz31_2 : w30.cell? ⟨gb130, 2, none⟩ = some (.int .i64 a0_2) := (Sq.o BK130.out 2).trans rfl; have hcz31_3 : w30.cell? ⟨gb130, 3, none⟩ = some (.int .i64 a0_3) := (Sq.o BK130.out 3).trans rfl; have hcz31_4 : w30.cell? ⟨gb130, 4, none⟩ = some (.bool true) := (Sq.o BK130.out 4).trans rfl; have hfz31_0 := Sq.r BK130.out 0; have hfz31_1 := Sq.r BK130.out 1; have hfz31_2 := Sq.r BK130.out 2; have hfz31_3 := Sq.r BK130.out 3; have hfz31_4 := Sq.r BK130.out 4))
           go_ret
           exact ⟨by first | rfl | (simp [errW_none, errW_some] <;> rfl) | (simp [*, errW_none, errW_some] <;> rfl), by repeat (first | (with_reducible first | exact HB.out | apply Sq.i | apply Sq.j | apply Sq.k | refine Sq.h ?_ GE130.out) | exact HB.out)⟩
         ·replace c26 := Bool.eq_false_iff.mpr c26
          subst c26
          rw [if_neg (show ¬ (false = true) by decide)] at H
          obtain rfl := Option.some.inj H
          go_enter Try.func96, Try.ntmps96
          go_wp2_with (first | ((with_reducible refine gate_dst (N := 1) rfl ?_); refine box_event ?hg (N := 1) ?hd (cs := #[.int .i64 a0_0, .int .i64 a0_1, .int .i64 a0_2, .int .i64 a0_3, .bool false]) (t := 99) ?hr ?_; (case hd => rfl); (case hg => rfl); (case hr => first | (go_simp; done) | (go_simp; rfl)); intro gb130 hg w32 hbox hb; have n0_ := Sq.l (Sq.a4 (by repeat (first | (with_reducible first | exact HB.out | apply Sq.i | apply Sq.j | apply Sq.k) | exact HB.out)) hb); have n1_ := Sq.l (hbox); have n2_ := Sq.l ((by rw [hg]; exact (Sq.a5 (by repeat (first | (with_reducible first | exact HB.out | apply Sq.i | apply Sq.j | apply Sq.k) | exact HB.out))) : w.heap.size ≤ gb130)); have n3_ := Sq.l ((by rw [hg]; exact (Sq.a5 (by repeat (first | (with_reducible first | exact HB.out | apply Sq.i | apply Sq.j | apply Sq.k) | exact HB.out))) : w.heap.size ≤ gb130)); clear HB; have HB := n0_; have BK130 := n1_; have GW130 := n2_; have GE130 := n3_; clear n0_ n1_ n2_ n3_; clear hb hbox hg; have hcz33_0 : w32.cell? ⟨gb130, 0, none⟩ = some (.int .i64 a0_0) := (Sq.o BK130.out 0).trans rfl; have hcz33_1 : w32.cell? ⟨gb130, 1, none⟩ = some (.int .i64 a0_1) := (Sq.o BK130.out 1).trans rfl; have hcz33_2 : w32.cell? ⟨gb130, 2, none⟩ = some (.int .i64 a0_2) := (Sq.o BK130.out 2).trans rfl; have hcz33_3 : w32.cell? ⟨gb130, 3, none⟩ = some (.int .i64 a0_3) := (Sq.o BK130.out 3).trans rfl; have hcz33_4 : w32.cell? ⟨gb130, 4, none⟩ = some (.bool false) := (Sq.o BK130.out 4).trans rfl; have hfz33_0 := Sq.r BK130.out 0; have hfz33_1 := Sq.r BK130.out 1; have hfz33_2 := Sq.r BK130.out 2; have hfz33_3 := Sq.r BK130.out 3; have hfz33_4 := Sq.r BK130.out 4))
          go_ret
          exact ⟨by first | rfl | (simp [errW_none, errW_some] <;> rfl) | (simp [*, errW_none, errW_some] <;> rfl), by repeat (first | (with_reducible first | exact HB.out | apply Sq.i | apply Sq.j | apply Sq.k | refine Sq.h ?_ GE130.out) | exact HB.out)⟩

/-! ### spec_TlbFault: function 37 -/
mutual
def spec_TlbFault.j0 : Nat → Bool → List (S99) → Int → Option (Int)
 | 0, _, _, _ => none
 | k + 1, x19, x132000, x132001 => if x19 = true then (some 1) else (spec_TlbFault.l0 k 0 x132000 x132001)
def spec_TlbFault.l0 : Nat → Int → List (S99) → Int → Option (Int)
 | 0, _, _, _ => none
 | k + 1, x3, x132000, x132001 => if x3 < (x132000.length : Int) then (if 0 ≤ x3 then ((spec_l03TlbEntry.f ((rd_T99 x132000 x3).f0) ((rd_T99 x132000 x3).f1) ((rd_T99 x132000 x3).f2) ((rd_T99 x132000 x3).f3) ((rd_T99 x132000 x3).f4)).bind fun t134 => (if t134 = true then (spec_TlbFault.l1 k x3 0 x132000 x132001 ((rd_T99 x132000 x3).f0) ((rd_T99 x132000 x3).f1) ((rd_T99 x132000 x3).f2) ((rd_T99 x132000 x3).f3) ((rd_T99 x132000 x3).f4)) else (some 1))) else (none)) else (some 0)
def spec_TlbFault.l1 : Nat → Int → Int → List (S99) → Int → Int → Int → Int → Int → Bool → Option (Int)
 | 0, _, _, _, _, _, _, _, _, _ => none
 | k + 1, x3, x5, x132000, x132001, x134000, x134001, x134002, x134003, x134004 => if x5 < x3 then (if 0 ≤ x5 then (if x5 < (x132000.length : Int) then (if ((rd_T99 x132000 x5).f0) = x134000 then (if ((rd_T99 x132000 x5).f1) = x134001 then (if (((rd_T99 x132000 x5).f4) == x134004) = true then (some 1) else (spec_TlbFault.l1 k x3 (wrap64 (x5 + 1)) x132000 x132001 x134000 x134001 x134002 x134003 x134004)) else (spec_TlbFault.l1 k x3 (wrap64 (x5 + 1)) x132000 x132001 x134000 x134001 x134002 x134003 x134004)) else (spec_TlbFault.l1 k x3 (wrap64 (x5 + 1)) x132000 x132001 x134000 x134001 x134002 x134003 x134004)) else (none)) else (none)) else (spec_TlbFault.l0 k (wrap64 (x3 + 1)) x132000 x132001)
end
def spec_TlbFault.f (k : Nat) (l0_0 : List (S99)) (a0_1 : Int) : Option (Int) := if (l0_0.length : Int) > 16 then (spec_TlbFault.j0 k true l0_0 a0_1) else (if a0_1 < 0 then (spec_TlbFault.j0 k true l0_0 a0_1) else (spec_TlbFault.j0 k (decide (a0_1 ≥ 16)) l0_0 a0_1))
theorem spec_TlbFault.mono_l : ∀ k, (∀ y0 y1 y2, LeO (spec_TlbFault.j0 k y0 y1 y2) (spec_TlbFault.j0 (k + 1) y0 y1 y2)) ∧ (∀ y0 y1 y2, LeO (spec_TlbFault.l0 k y0 y1 y2) (spec_TlbFault.l0 (k + 1) y0 y1 y2)) ∧ (∀ y0 y1 y2 y3 y4 y5 y6 y7 y8, LeO (spec_TlbFault.l1 k y0 y1 y2 y3 y4 y5 y6 y7 y8) (spec_TlbFault.l1 (k + 1) y0 y1 y2 y3 y4 y5 y6 y7 y8))
 | 0 => ⟨fun _ _ _ r h => by simp [spec_TlbFault.j0] at h, fun _ _ _ r h => by simp [spec_TlbFault.l0] at h, fun _ _ _ _ _ _ _ _ _ r h => by simp [spec_TlbFault.l1] at h⟩
 | k + 1 => by
  obtain ⟨ih0, ih1, ih2⟩ := spec_TlbFault.mono_l k
  refine ⟨?_, ?_, ?_⟩
  ·intro y0 y1 y2
   unfold spec_TlbFault.j0
   repeat' first
   | (with_reducible exact ih0 _ _ _)
   | (with_reducible exact ih1 _ _ _)
   | (with_reducible exact ih2 _ _ _ _ _ _ _ _ _)
   | (with_reducible exact LeO.refl _)
   | (with_reducible exact LeO.none _)
   | (with_reducible refine LeO.ite ?_ ?_)
   | (with_reducible refine LeO.bind ?_ (fun _ => ?_))
   | exact ih0 _ _ _
   | exact ih1 _ _ _
   | exact ih2 _ _ _ _ _ _ _ _ _
   | exact LeO.none _
   | refine LeO.ite ?_ ?_
   | refine LeO.bind ?_ (fun _ => ?_)
  ·intro y0 y1 y2
   unfold spec_TlbFault.l0
   repeat' first
   | (with_reducible exact ih0 _ _ _)
   | (with_reducible exact ih1 _ _ _)
   | (with_reducible exact ih2 _ _ _ _ _ _ _ _ _)
   | (with_reducible exact LeO.refl _)
   | (with_reducible exact LeO.none _)
   | (with_reducible refine LeO.ite ?_ ?_)
   | (with_reducible refine LeO.bind ?_ (fun _ => ?_))
   | exact ih0 _ _ _
   | exact ih1 _ _ _
   | exact ih2 _ _ _ _ _ _ _ _ _
   | exact LeO.none _
   | refine LeO.ite ?_ ?_
   | refine LeO.bind ?_ (fun _ => ?_)
  ·intro y0 y1 y2 y3 y4 y5 y6 y7 y8
   unfold spec_TlbFault.l1
   repeat' first
   | (with_reducible exact ih0 _ _ _)
   | (with_reducible exact ih1 _ _ _)
   | (with_reducible exact ih2 _ _ _ _ _ _ _ _ _)
   | (with_reducible exact LeO.refl _)
   | (with_reducible exact LeO.none _)
   | (with_reducible refine LeO.ite ?_ ?_)
   | (with_reducible refine LeO.bind ?_ (fun _ => ?_))
   | exact ih0 _ _ _
   | exact ih1 _ _ _
   | exact ih2 _ _ _ _ _ _ _ _ _
   | exact LeO.none _
   | refine LeO.ite ?_ ?_
   | refine LeO.bind ?_ (fun _ => ?_)
theorem spec_TlbFault.mono : ∀ a0 a1 k, LeO (spec_TlbFault.f k a0 a1) (spec_TlbFault.f (k + 1) a0 a1) := by
 intro a0 a1 k
 obtain ⟨ih0, ih1, ih2⟩ := spec_TlbFault.mono_l k
 unfold spec_TlbFault.f
 repeat' first
   | (with_reducible exact ih0 _ _ _)
   | (with_reducible exact ih1 _ _ _)
   | (with_reducible exact ih2 _ _ _ _ _ _ _ _ _)
   | (with_reducible exact LeO.refl _)
   | (with_reducible exact LeO.none _)
   | (with_reducible refine LeO.ite ?_ ?_)
   | (with_reducible refine LeO.bind ?_ (fun _ => ?_))
   | exact ih0 _ _ _
   | exact ih1 _ _ _
   | exact ih2 _ _ _ _ _ _ _ _ _
   | exact LeO.none _
   | refine LeO.ite ?_ ?_
   | refine LeO.bind ?_ (fun _ => ?_)
set_option maxHeartbeats 8000000 in
set_option maxRecDepth 100000 in
theorem spec_TlbFault.calls (k : Nat) (A0_0 : Option Addr) (c0_0 : Nat) (l0_0 : List (S99)) (a0_1 : Int) (r : Int) (w : World) (hr0_0 : Kd.C k99 w A0_0 l0_0.length l0_0) (hc0_0 : l0_0.length ≤ c0_0) (h : spec_TlbFault.f k l0_0 a0_1 = some r) :
  Calls Try.prog 37 #[.agg #[.slice A0_0 l0_0.length c0_0, .int .i64 a0_1]] w fun e w' => e = .returned (.int .i64 r) ∧ Below w.heap.size w w' := by
 have hu65 := Try.underlying65
 have hu99 := Try.underlying99
 have HR0_0 := Sq.l hr0_0
 have HC0_0 := Sq.l hc0_0
 clear hr0_0 hc0_0
 have HB := Sq.l (Below.refl w.heap.size w)
 have H : (if (l0_0.length : Int) > 16 then (spec_TlbFault.j0 k true l0_0 a0_1) else (if a0_1 < 0 then (spec_TlbFault.j0 k true l0_0 a0_1) else (spec_TlbFault.j0 k (decide (a0_1 ≥ 16)) l0_0 a0_1))) = some r := h
 clear h
 have HC2 := Sq.l H
 clear H
 go_enter Try.func37, Try.ntmps37
 go_upto_region 1 with (first | ((with_reducible refine gate_dst (N := 1) rfl ?_); refine box_event ?hg (N := 1) ?hd (cs := #[.slice A0_0 l0_0.length c0_0, .int .i64 a0_1]) (t := 65) ?hr ?_; (case hd => rfl); (case hg => rfl); (case hr => first | (go_simp; done) | (go_simp; rfl)); intro gb131 hg w3 hbox hb; have n0_ := Sq.l (Sq.a4 (by repeat (first | (with_reducible first | exact HB.out | apply Sq.i | apply Sq.j | apply Sq.k) | exact HB.out)) hb); have n1_ := Sq.l (hbox); have n2_ := Sq.l ((by rw [hg]; exact (Sq.a5 (by repeat (first | (with_reducible first | exact HB.out | apply Sq.i | apply Sq.j | apply Sq.k) | exact HB.out))) : w.heap.size ≤ gb131)); have n3_ := Sq.l ((by rw [hg]; exact (Sq.a5 (by repeat (first | (with_reducible first | exact HB.out | apply Sq.i | apply Sq.j | apply Sq.k) | exact HB.out))) : w.heap.size ≤ gb131)); clear HB; have HB := n0_; have BK131 := n1_; have GW131 := n2_; have GE131 := n3_; clear n0_ n1_ n2_ n3_; clear hb hbox hg))
 repeat (go_quiet (first | ((with_reducible refine gate_dst (N := 1) rfl ?_); refine box_event ?hg (N := 1) ?hd (cs := #[.slice A0_0 l0_0.length c0_0, .int .i64 a0_1]) (t := 65) ?hr ?_; (case hd => rfl); (case hg => rfl); (case hr => first | (go_simp; done) | (go_simp; rfl)); intro gb131 hg w3 hbox hb; have n0_ := Sq.l (Sq.a4 (by repeat (first | (with_reducible first | exact HB.out | apply Sq.i | apply Sq.j | apply Sq.k) | exact HB.out)) hb); have n1_ := Sq.l (hbox); have n2_ := Sq.l ((by rw [hg]; exact (Sq.a5 (by repeat (first | (with_reducible first | exact HB.out | apply Sq.i | apply Sq.j | apply Sq.k) | exact HB.out))) : w.heap.size ≤ gb131)); have n3_ := Sq.l ((by rw [hg]; exact (Sq.a5 (by repeat (first | (with_reducible first | exact HB.out | apply Sq.i | apply Sq.j | apply Sq.k) | exact HB.out))) : w.heap.size ≤ gb131)); clear HB; have HB := n0_; have BK131 := n1_; have GW131 := n2_; have GE131 := n3_; clear n0_ n1_ n2_ n3_; clear hb hbox hg)); go_upto_region 1 with (first | ((with_reducible refine gate_dst (N := 1) rfl ?_); refine box_event ?hg (N := 1) ?hd (cs := #[.slice A0_0 l0_0.length c0_0, .int .i64 a0_1]) (t := 65) ?hr ?_; (case hd => rfl); (case hg => rfl); (case hr => first | (go_simp; done) | (go_simp; rfl)); intro gb131 hg w3 hbox hb; have n0_ := Sq.l (Sq.a4 (by repeat (first | (with_reducible first | exact HB.out | apply Sq.i | apply Sq.j | apply Sq.k) | exact HB.out)) hb); have n1_ := Sq.l (hbox); have n2_ := Sq.l ((by rw [hg]; exact (Sq.a5 (by repeat (first | (with_reducible first | exact HB.out | apply Sq.i | apply Sq.j | apply Sq.k) | exact HB.out))) : w.heap.size ≤ gb131)); have n3_ := Sq.l ((by rw [hg]; exact (Sq.a5 (by repeat (first | (with_reducible first | exact HB.out | apply Sq.i | apply Sq.j | apply Sq.k) | exact HB.out))) : w.heap.size ≤ gb131)); clear HB; have HB := n0_; have BK131 := n1_; have GW131 := n2_; have GE131 := n3_; clear n0_ n1_ n2_ n3_; clear hb hbox hg)))
 (try simp only [Act.put, List.setIfInBounds_toArray, List.set_cons_zero, List.set_cons_succ])
 go_cut [19] (fun v19 wc => ∃ (kq : Nat) (x19_1 : Bool), v19 = .bool x19_1 ∧ Aside0 (spec_TlbFault.j0 kq x19_1 l0_0 a0_1 = some r) ∧ Aside0 (kq ≤ k) ∧ Aside0 (wc.heap[gb131]? = some (.cells #[(.slice A0_0 l0_0.length c0_0), .int .i64 a0_1] 65 (0, 0))) ∧ Aside0 (Below w.heap.size w wc))
 case first =>
  have H := HC2.out
  clear HC2
  by_cases c4 : (l0_0.length : Int) > 16
  ·rw [if_pos c4] at H
   have c4b0 : decide (16 < (l0_0.length : Int)) = true := decide_eq_true c4
   have c4b1 : decide (16 < l0_0.length) = true := decide_eq_true (by omega)
   clear c4
   (first | rw [c4b0] | (simp only [i64_w, i32_w]; rw [c4b0]) | skip)
   have H' := Sq.l H
   clear H
   have hcz5_0 : w3.cell? ⟨gb131, 0, none⟩ = some (.slice A0_0 l0_0.length c0_0) := (Sq.o BK131.out 0).trans rfl
   have hcz5_1 : w3.cell? ⟨gb131, 1, none⟩ = some (.int .i64 a0_1) := (Sq.o BK131.out 1).trans rfl
   have hfz5_0 := Sq.r BK131.out 0
   have hfz5_1 := Sq.r BK131.out 1
   go_wp2
   repeat (go_quiet (fail); try go_wp2)
   go_meet
   case rel => exact ⟨_, (true), (by first | rfl | (simp; done) | (simp [*]; done)), H', ⟨by first | omega | exact Nat.le_refl _⟩, ⟨by (with_reducible repeat (first | refine Sq.d ?_ _ | refine Sq.e ?_ | refine Sq.f ?_ _)); exact BK131.out⟩, ⟨by repeat (first | (with_reducible first | exact HB.out | apply Sq.i | apply Sq.j | apply Sq.k | refine Sq.h ?_ GE131.out) | exact HB.out)⟩⟩
  ·rw [if_neg c4] at H
   have c4b0 : decide (16 < (l0_0.length : Int)) = false := decide_eq_false c4
   have c4b1 : decide (16 < l0_0.length) = false := decide_eq_false (by omega)
   clear c4
   (first | rw [c4b0] | (simp only [i64_w, i32_w]; rw [c4b0]) | skip)
   by_cases c6 : a0_1 < 0
   ·rw [if_pos c6] at H
    have c6b0 : decide (a0_1 < 0) = true := decide_eq_true c6
    clear c6
    have H' := Sq.l H
    clear H
    have hcz7_0 : w3.cell? ⟨gb131, 0, none⟩ = some (.slice A0_0 l0_0.length c0_0) := (Sq.o BK131.out 0).trans rfl
    have hcz7_1 : w3.cell? ⟨gb131, 1, none⟩ = some (.int .i64 a0_1) := (Sq.o BK131.out 1).trans rfl
    have hfz7_0 := Sq.r BK131.out 0
    have hfz7_1 := Sq.r BK131.out 1
    go_wp2
    repeat (go_quiet (fail); try go_wp2)
    go_meet
    case rel => exact ⟨_, (true), (by first | rfl | (simp; done) | (simp [*]; done)), H', ⟨by first | omega | exact Nat.le_refl _⟩, ⟨by (with_reducible repeat (first | refine Sq.d ?_ _ | refine Sq.e ?_ | refine Sq.f ?_ _)); exact BK131.out⟩, ⟨by repeat (first | (with_reducible first | exact HB.out | apply Sq.i | apply Sq.j | apply Sq.k | refine Sq.h ?_ GE131.out) | exact HB.out)⟩⟩
   ·rw [if_neg c6] at H
    have c6b0 : decide (a0_1 < 0) = false := decide_eq_false c6
    clear c6
    have H' := Sq.l H
    clear H
    have hcz8_0 : w3.cell? ⟨gb131, 0, none⟩ = some (.slice A0_0 l0_0.length c0_0) := (Sq.o BK131.out 0).trans rfl
    have hcz8_1 : w3.cell? ⟨gb131, 1, none⟩ = some (.int .i64 a0_1) := (Sq.o BK131.out 1).trans rfl
    have hfz8_0 := Sq.r BK131.out 0
    have hfz8_1 := Sq.r BK131.out 1
    go_wp2
    repeat (go_quiet (fail); try go_wp2)
    go_meet
    case rel => exact ⟨_, (decide (a0_1 ≥ 16)), (by first | rfl | (simp; done) | (simp [*]; done)), H', ⟨by first | omega | exact Nat.le_refl _⟩, ⟨by (with_reducible repeat (first | refine Sq.d ?_ _ | refine Sq.e ?_ | refine Sq.f ?_ _)); exact BK131.out⟩, ⟨by repeat (first | (with_reducible first | exact HB.out | apply Sq.i | apply Sq.j | apply Sq.k | refine Sq.h ?_ GE131.out) | exact HB.out)⟩⟩
 case rest =>
  clear HC2; try clear p2; try clear c3; try clear c4; try clear c4b0; try clear c4b1; try clear c6; try clear c6b0; try clear hcz5_0; try clear hcz5_1; try clear hcz7_0; try clear hcz7_1; try clear hcz8_0; try clear hcz8_1; try clear hfz5_0; try clear hfz5_1; try clear hfz7_0; try clear hfz7_1; try clear hfz8_0; try clear hfz8_1
  obtain ⟨kq, x19_1, rfl, HA, HJ1, BK131, HB⟩ := hcut
  cases kq with
  | zero => exact absurd HA.out (by simp [spec_TlbFault.j0])
  | succ kj1 =>
   have H := HA.out
   clear HA
   simp only [spec_TlbFault.j0] at H
   by_cases c9 : x19_1 = true
   ·subst c9
    rw [if_pos rfl] at H
    obtain rfl := Option.some.inj H
    go_wp2
    repeat (go_quiet (fail); try go_wp2)
    go_ret
    exact ⟨by first | rfl | (simp [errW_none, errW_some] <;> rfl) | (simp [*, errW_none, errW_some] <;> rfl), by repeat (first | (with_reducible first | exact HB.out | apply Sq.i | apply Sq.j | apply Sq.k | refine Sq.h ?_ GE131.out) | exact HB.out)⟩
   ·replace c9 := Bool.eq_false_iff.mpr c9
    subst c9
    rw [if_neg (show ¬ (false = true) by decide)] at H
    have H' := Sq.l H
    clear H
    go_wp2
    repeat (go_quiet (fail); try go_wp2)
    go_loopg [3] kj1 (fun kq v3 w' => ∃ (x3_2 : Int), v3 = .int .i64 x3_2 ∧ Aside0 (spec_TlbFault.l0 kq x3_2 l0_0 a0_1 = some r) ∧ Aside0 (kq ≤ kj1) ∧ Aside0 (w'.heap[gb131]? = some (.cells #[(.slice A0_0 l0_0.length c0_0), .int .i64 a0_1] 65 (0, 0))) ∧ Aside0 (Below w.heap.size w w'))
    case atStart => exact ⟨(0), (by first | rfl | (simp; done) | (simp [*]; done)), H', ⟨Nat.le_refl _⟩, ⟨by (with_reducible repeat (first | refine Sq.d ?_ _ | refine Sq.e ?_ | refine Sq.f ?_ _)); exact BK131.out⟩, ⟨by repeat (first | (with_reducible first | exact HB.out | apply Sq.i | apply Sq.j | apply Sq.k | refine Sq.h ?_ GE131.out) | exact HB.out)⟩⟩
    case round =>
     clear H'
     try clear p2; try clear c3; try clear c4; try clear c4b0; try clear c4b1; try clear c6; try clear c6b0; try clear c9; try clear hcz5_0; try clear hcz5_1; try clear hcz7_0; try clear hcz7_1; try clear hcz8_0; try clear hcz8_1; try clear hfz5_0; try clear hfz5_1; try clear hfz7_0; try clear hfz7_1; try clear hfz8_0; try clear hfz8_1; try clear p2
     obtain ⟨x3_2, rfl, HA, HK2, BK131, HB⟩ := hrel
     cases gk with
     | zero => exact absurd HA.out (by simp [spec_TlbFault.l0])
     | succ k2 =>
      have H := HA.out
      clear HA
      simp only [spec_TlbFault.l0] at H
      by_cases c10 : x3_2 < (l0_0.length : Int)
      ·rw [if_pos c10] at H
       have c10b0 : decide (x3_2 < (l0_0.length : Int)) = true := decide_eq_true c10
       clear c10
       by_cases c11 : 0 ≤ x3_2
       ·rw [if_pos c11] at H
        have c11b0 : decide (0 ≤ x3_2) = true := decide_eq_true c11
        clear c11
        replace H := Option.bind_eq_some_iff.mp H
        obtain ⟨t134, A120, H⟩ := H
        (try dsimp only at H)
        have A12 := Sq.l A120
        clear A120
        by_cases c13 : t134 = true
        ·subst c13
         rw [if_pos rfl] at H
         have H' := Sq.l H
         clear H
         have hcz14_0 : wr.cell? ⟨gb131, 0, none⟩ = some (.slice A0_0 l0_0.length c0_0) := (Sq.o BK131.out 0).trans rfl
         have hcz14_1 : wr.cell? ⟨gb131, 1, none⟩ = some (.int .i64 a0_1) := (Sq.o BK131.out 1).trans rfl
         have hfz14_0 := Sq.r BK131.out 0
         have hfz14_1 := Sq.r BK131.out 1
         have p132 : 0 ≤ (x3_2 : Int) := of_decide_eq_true (by first | (with_reducible assumption) | assumption)
         have q132 : x3_2 < (l0_0.length : Int) := of_decide_eq_true (by first | (with_reducible assumption) | assumption)
         obtain ⟨ad132, e132, hx132_0, hx132_1, hx132_2, hx132_3, hx132_4⟩ := at_T99 HR0_0.out x3_2 p132 q132
         cases e132
         replace hx132_0 := (HB.out.cell (World.block_lt_of_cell? w _ hx132_0)).trans hx132_0
         replace hx132_1 := (HB.out.cell (World.block_lt_of_cell? w _ hx132_1)).trans hx132_1
         replace hx132_2 := (HB.out.cell (World.block_lt_of_cell? w _ hx132_2)).trans hx132_2
         replace hx132_3 := (HB.out.cell (World.block_lt_of_cell? w _ hx132_3)).trans hx132_3
         replace hx132_4 := (HB.out.cell (World.block_lt_of_cell? w _ hx132_4)).trans hx132_4
         replace p132 := eq_true p132; replace q132 := eq_true q132
         go_wp2_with (first | ((with_reducible refine gate_dst (N := 4) rfl ?_); refine box_event ?hg (N := 4) ?hd (cs := #[.int .i64 0, .int .i64 0, .int .i64 0, .int .i64 0, .bool false]) (t := 99) ?hr ?_; (case hd => rfl); (case hg => rfl); (case hr => first | (go_simp; done) | (go_simp; rfl)); intro gb133 hg w15 hbox hb; have n0_ := Sq.l (Sq.m (g := gb131) (o := .cells #[.slice (some ad132) l0_0.length c0_0, .int .i64 a0_1] 65 (0, 0)) (by (with_reducible repeat (first | refine Sq.d ?_ _ | refine Sq.e ?_ | refine Sq.f ?_ _)); exact BK131.out) hb); have n1_ := Sq.l (Sq.a4 (by repeat (first | (with_reducible first | exact HB.out | apply Sq.i | apply Sq.j | apply Sq.k | refine Sq.h ?_ GE131.out) | exact HB.out)) hb); have n2_ := Sq.l (hbox); have n3_ := Sq.l ((by rw [hg]; exact (Sq.a5 (by repeat (first | (with_reducible first | exact HB.out | apply Sq.i | apply Sq.j | apply Sq.k | refine Sq.h ?_ GE131.out) | exact HB.out))) : w.heap.size ≤ gb133)); have n4_ := Sq.l ((by rw [hg]; exact (Sq.a5 (by repeat (first | (with_reducible first | exact HB.out | apply Sq.i | apply Sq.j | apply Sq.k | refine Sq.h ?_ GE131.out) | exact HB.out))) : w.heap.size ≤ gb133)); have n5_ := Sq.l ((by rw [hg]; exact Nat.ne_of_lt (blk_lt (g := gb131) (o := .cells #[.slice (some ad132) l0_0.length c0_0, .int .i64 a0_1] 65 (0, 0)) (by (with_reducible repeat (first | refine Sq.d ?_ _ | refine Sq.e ?_ | refine Sq.f ?_ _)); exact BK131.out)) : gb131 ≠ gb133)); have n6_ := Sq.l ((by rw [hg]; exact Nat.ne_of_gt (blk_lt (g := gb131) (o := .cells #[.slice (some ad132) l0_0.length c0_0, .int .i64 a0_1] 65 (0, 0)) (by (with_reducible repeat (first | refine Sq.d ?_ _ | refine Sq.e ?_ | refine Sq.f ?_ _)); exact BK131.out)) : gb133 ≠ gb131)); clear BK131; clear HB; have BK131 := n0_; have HB := n1_; have BK133 := n2_; have GW133 := n3_; have GE133 := n4_; have NB131_133 := n5_; have NB133_131 := n6_; clear n0_ n1_ n2_ n3_ n4_ n5_ n6_; clear hb hbox hg; have hnb16 := NB133_131.out; have hnc16 := NB131_133.out; have hcz17_0 : w15.cell? ⟨gb133, 0, none⟩ = some (.int .i64 0) := (Sq.o BK133.out 0).trans rfl; have hcz17_1 : w15.cell? ⟨gb133, 1, none⟩ = some (.int .i64 0) := (Sq.o BK133.out 1).trans rfl; have hcz17_2 : w15.cell? ⟨gb133, 2, none⟩ = some (.int .i64 0) := (Sq.o BK133.out 2).trans rfl; have hcz17_3 : w15.cell? ⟨gb133, 3, none⟩ = some (.int .i64 0) := (Sq.o BK133.out 3).trans rfl; have hcz17_4 : w15.cell? ⟨gb133, 4, none⟩ = some (.bool false) := (Sq.o BK133.out 4).trans rfl; have hfz17_0 := Sq.r BK133.out 0; have hfz17_1 := Sq.r BK133.out 1; have hfz17_2 := Sq.r BK133.out 2; have hfz17_3 := Sq.r BK133.out 3; have hfz17_4 := Sq.r BK133.out 4) | (go_at_call 96; (with_reducible refine (spec_l03TlbEntry.calls ((rd_T99 l0_0 x3_2).f0) ((rd_T99 l0_0 x3_2).f1) ((rd_T99 l0_0 x3_2).f2) ((rd_T99 l0_0 x3_2).f3) ((rd_T99 l0_0 x3_2).f4) true _ A12.out).mono ?_); rintro e w18 ⟨rfl, hb⟩; have n0_ := Sq.l (Sq.m (g := gb131) (o := .cells #[.slice (some ad132) l0_0.length c0_0, .int .i64 a0_1] 65 (0, 0)) (by (with_reducible repeat (first | refine Sq.d ?_ _ | refine Sq.e ?_ | refine Sq.f ?_ _)); refine Sq.B5 ?_ NB131_133.out; (with_reducible repeat (first | refine Sq.d ?_ _ | refine Sq.e ?_ | refine Sq.f ?_ _)); exact BK131.out) hb); have n1_ := Sq.l (Sq.m (g := gb133) (o := .cells #[.int .i64 ((rd_T99 l0_0 x3_2).f0), .int .i64 ((rd_T99 l0_0 x3_2).f1), .int .i64 ((rd_T99 l0_0 x3_2).f2), .int .i64 ((rd_T99 l0_0 x3_2).f3), .bool ((rd_T99 l0_0 x3_2).f4)] 99 (0, 0)) (by (with_reducible repeat (first | refine Sq.d ?_ _ | refine Sq.e ?_ | refine Sq.f ?_ _)); refine Sq.v (cs := #[.int .i64 ((rd_T99 l0_0 x3_2).f0), .int .i64 ((rd_T99 l0_0 x3_2).f1), .int .i64 ((rd_T99 l0_0 x3_2).f2), .int .i64 ((rd_T99 l0_0 x3_2).f3), .bool false]) ?_ 4 _ rfl; (with_reducible repeat (first | refine Sq.d ?_ _ | refine Sq.e ?_ | refine Sq.f ?_ _)); refine Sq.v (cs := #[.int .i64 ((rd_T99 l0_0 x3_2).f0), .int .i64 ((rd_T99 l0_0 x3_2).f1), .int .i64 ((rd_T99 l0_0 x3_2).f2), .int .i64 0, .bool false]) ?_ 3 _ rfl; (with_reducible repeat (first | refine Sq.d ?_ _ | refine Sq.e ?_ | refine Sq.f ?_ _)); refine Sq.v (cs := #[.int .i64 ((rd_T99 l0_0 x3_2).f0), .int .i64 ((rd_T99 l0_0 x3_2).f1), .int .i64 0, .int .i64 0, .bool false]) ?_ 2 _ rfl; (with_reducible repeat (first | refine Sq.d ?_ _ | refine Sq.e ?_ | refine Sq.f ?_ _)); refine Sq.v (cs := #[.int .i64 ((rd_T99 l0_0 x3_2).f0), .int .i64 0, .int .i64 0, .int .i64 0, .bool false]) ?_ 1 _ rfl; (with_reducible repeat (first | refine Sq.d ?_ _ | refine Sq.e ?_ | refine Sq.f ?_ _)); refine Sq.v (cs := #[.int .i64 0, .int .i64 0, .int .i64 0, .int .i64 0, .bool false]) ?_ 0 _ rfl; (with_reducible repeat (first | refine Sq.d ?_ _ | refine Sq.e ?_ | refine Sq.f ?_ _)); exact BK133.out) hb); have n2_ := Sq.l (Sq.a4 (by repeat (first | (with_reducible first | exact HB.out | apply Sq.i | apply Sq.j | apply Sq.k | refine Sq.h ?_ GE131.out | refine Sq.h ?_ GE133.out) | exact HB.out)) hb); clear BK131; clear BK133; clear HB; have BK131 := n0_; have BK133 := n1_; have HB := n2_; clear n0_ n1_ n2_; (try clear hb); (try clear hb2); (try clear hk); (try clear hi)))
         repeat (go_quiet (first | ((with_reducible refine gate_dst (N := 4) rfl ?_); refine box_event ?hg (N := 4) ?hd (cs := #[.int .i64 0, .int .i64 0, .int .i64 0, .int .i64 0, .bool false]) (t := 99) ?hr ?_; (case hd => rfl); (case hg => rfl); (case hr => first | (go_simp; done) | (go_simp; rfl)); intro gb133 hg w15 hbox hb; have n0_ := Sq.l (Sq.m (g := gb131) (o := .cells #[.slice (some ad132) l0_0.length c0_0, .int .i64 a0_1] 65 (0, 0)) (by (with_reducible repeat (first | refine Sq.d ?_ _ | refine Sq.e ?_ | refine Sq.f ?_ _)); exact BK131.out) hb); have n1_ := Sq.l (Sq.a4 (by repeat (first | (with_reducible first | exact HB.out | apply Sq.i | apply Sq.j | apply Sq.k | refine Sq.h ?_ GE131.out) | exact HB.out)) hb); have n2_ := Sq.l (hbox); have n3_ := Sq.l ((by rw [hg]; exact (Sq.a5 (by repeat (first | (with_reducible first | exact HB.out | apply Sq.i | apply Sq.j | apply Sq.k | refine Sq.h ?_ GE131.out) | exact HB.out))) : w.heap.size ≤ gb133)); have n4_ := Sq.l ((by rw [hg]; exact (Sq.a5 (by repeat (first | (with_reducible first | exact HB.out | apply Sq.i | apply Sq.j | apply Sq.k | refine Sq.h ?_ GE131.out) | exact HB.out))) : w.heap.size ≤ gb133)); have n5_ := Sq.l ((by rw [hg]; exact Nat.ne_of_lt (blk_lt (g := gb131) (o := .cells #[.slice (some ad132) l0_0.length c0_0, .int .i64 a0_1] 65 (0, 0)) (by (with_reducible repeat (first | refine Sq.d ?_ _ | refine Sq.e ?_ | refine Sq.f ?_ _)); exact BK131.out)) : gb131 ≠ gb133)); have n6_ := Sq.l ((by rw [hg]; exact Nat.ne_of_gt (blk_lt (g := gb131) (o := .cells #[.slice (some ad132) l0_0.length c0_0, .int .i64 a0_1] 65 (0, 0)) (by (with_reducible repeat (first | refine Sq.d ?_ _ | refine Sq.e ?_ | refine Sq.f ?_ _)); exact BK131.out)) : gb133 ≠ gb131)); clear BK131; clear HB; have BK131 := n0_; have HB := n1_; have BK133 := n2_; have GW133 := n3_; have GE133 := n4_; have NB131_133 := n5_; have NB133_131 := n6_; clear n0_ n1_ n2_ n3_ n4_ n5_ n6_; clear hb hbox hg; have hnb16 := NB133_131.out; have hnc16 := NB131_133.out; have hcz17_0 : w15.cell? ⟨gb133, 0, none⟩ = some (.int .i64 0) := (Sq.o BK133.out 0).trans rfl; have hcz17_1 : w15.cell? ⟨gb133, 1, none⟩ = some (.int .i64 0) := (Sq.o BK133.out 1).trans rfl; have hcz17_2 : w15.cell? ⟨gb133, 2, none⟩ = some (.int .i64 0) := (Sq.o BK133.out 2).trans rfl; have hcz17_3 : w15.cell? ⟨gb133, 3, none⟩ = some (.int .i64 0) := (Sq.o BK133.out 3).trans rfl; have hcz17_4 : w15.cell? ⟨gb133, 4, none⟩ = some (.bool false) := (Sq.o BK133.out 4).trans rfl; have hfz17_0 := Sq.r BK133.out 0; have hfz17_1 := Sq.r BK133.out 1; have hfz17_2 := Sq.r BK133.out 2; have hfz17_3 := Sq.r BK133.out 3; have hfz17_4 := Sq.r BK133.out 4) | (go_at_call 96; (with_reducible refine (spec_l03TlbEntry.calls ((rd_T99 l0_0 x3_2).f0) ((rd_T99 l0_0 x3_2).f1) ((rd_T99 l0_0 x3_2).f2) ((rd_T99 l0_0 x3_2).f3) ((rd_T99 l0_0 x3_2).f4) true _ A12.out).mono ?_); rintro e w18 ⟨rfl, hb⟩; have n0_ := Sq.l (Sq.m (g := gb131) (o := .cells #[.slice (some ad132) l0_0.length c0_0, .int .i64 a0_1] 65 (0, 0)) (by (with_reducible repeat (first | refine Sq.d ?_ _ | refine Sq.e ?_ | refine Sq.f ?_ _)); refine Sq.B5 ?_ NB131_133.out; (with_reducible repeat (first | refine Sq.d ?_ _ | refine Sq.e ?_ | refine Sq.f ?_ _)); exact BK131.out) hb); have n1_ := Sq.l (Sq.m (g := gb133) (o := .cells #[.int .i64 ((rd_T99 l0_0 x3_2).f0), .int .i64 ((rd_T99 l0_0 x3_2).f1), .int .i64 ((rd_T99 l0_0 x3_2).f2), .int .i64 ((rd_T99 l0_0 x3_2).f3), .bool ((rd_T99 l0_0 x3_2).f4)] 99 (0, 0)) (by (with_reducible repeat (first | refine Sq.d ?_ _ | refine Sq.e ?_ | refine Sq.f ?_ _)); refine Sq.v (cs := #[.int .i64 ((rd_T99 l0_0 x3_2).f0), .int .i64 ((rd_T99 l0_0 x3_2).f1), .int .i64 ((rd_T99 l0_0 x3_2).f2), .int .i64 ((rd_T99 l0_0 x3_2).f3), .bool false]) ?_ 4 _ rfl; (with_reducible repeat (first | refine Sq.d ?_ _ | refine Sq.e ?_ | refine Sq.f ?_ _)); refine Sq.v (cs := #[.int .i64 ((rd_T99 l0_0 x3_2).f0), .int .i64 ((rd_T99 l0_0 x3_2).f1), .int .i64 ((rd_T99 l0_0 x3_2).f2), .int .i64 0, .bool false]) ?_ 3 _ rfl; (with_reducible repeat (first | refine Sq.d ?_ _ | refine Sq.e ?_ | refine Sq.f ?_ _)); refine Sq.v (cs := #[.int .i64 ((rd_T99 l0_0 x3_2).f0), .int .i64 ((rd_T99 l0_0 x3_2).f1), .int .i64 0, .int .i64 0, .bool false]) ?_ 2 _ rfl; (with_reducible repeat (first | refine Sq.d ?_ _ | refine Sq.e ?_ | refine Sq.f ?_ _)); refine Sq.v (cs := #[.int .i64 ((rd_T99 l0_0 x3_2).f0), .int .i64 0, .int .i64 0, .int .i64 0, .bool false]) ?_ 1 _ rfl; (with_reducible repeat (first | refine Sq.d ?_ _ | refine Sq.e ?_ | refine Sq.f ?_ _)); refine Sq.v (cs := #[.int .i64 0, .int .i64 0, .int .i64 0, .int .i64 0, .bool false]) ?_ 0 _ rfl; (with_reducible repeat (first | refine Sq.d ?_ _ | refine Sq.e ?_ | refine Sq.f ?_ _)); exact BK133.out) hb); have n2_ := Sq.l (Sq.a4 (by repeat (first | (with_reducible first | exact HB.out | apply Sq.i | apply Sq.j | apply Sq.k | refine Sq.h ?_ GE131.out | refine Sq.h ?_ GE133.out) | exact HB.out)) hb); clear BK131; clear BK133; clear HB; have BK131 := n0_; have BK133 := n1_; have HB := n2_; clear n0_ n1_ n2_; (try clear hb); (try clear hb2); (try clear hk); (try clear hi))); try go_wp2_with (first | ((with_reducible refine gate_dst (N := 4) rfl ?_); refine box_event ?hg (N := 4) ?hd (cs := #[.int .i64 0, .int .i64 0, .int .i64 0, .int .i64 0, .bool false]) (t := 99) ?hr ?_; (case hd => rfl); (case hg => rfl); (case hr => first | (go_simp; done) | (go_simp; rfl)); intro gb133 hg w15 hbox hb; have n0_ := Sq.l (Sq.m (g := gb131) (o := .cells #[.slice (some ad132) l0_0.length c0_0, .int .i64 a0_1] 65 (0, 0)) (by (with_reducible repeat (first | refine Sq.d ?_ _ | refine Sq.e ?_ | refine Sq.f ?_ _)); exact BK131.out) hb); have n1_ := Sq.l (Sq.a4 (by repeat (first | (with_reducible first | exact HB.out | apply Sq.i | apply Sq.j | apply Sq.k | refine Sq.h ?_ GE131.out) | exact HB.out)) hb); have n2_ := Sq.l (hbox); have n3_ := Sq.l ((by rw [hg]; exact (Sq.a5 (by repeat (first | (with_reducible first | exact HB.out | apply Sq.i | apply Sq.j | apply Sq.k | refine Sq.h ?_ GE131.out) | exact HB.out))) : w.heap.size ≤ gb133)); have n4_ := Sq.l ((by rw [hg]; exact (Sq.a5 (by repeat (first | (with_reducible first | exact HB.out | apply Sq.i | apply Sq.j | apply Sq.k | refine Sq.h ?_ GE131.out) | exact HB.out))) : w.heap.size ≤ gb133)); have n5_ := Sq.l ((by rw [hg]; exact Nat.ne_of_lt (blk_lt (g := gb131) (o := .cells #[.slice (some ad132) l0_0.length c0_0, .int .i64 a0_1] 65 (0, 0)) (by (with_reducible repeat (first | refine Sq.d ?_ _ | refine Sq.e ?_ | refine Sq.f ?_ _)); exact BK131.out)) : gb131 ≠ gb133)); have n6_ := Sq.l ((by rw [hg]; exact Nat.ne_of_gt (blk_lt (g := gb131) (o := .cells #[.slice (some ad132) l0_0.length c0_0, .int .i64 a0_1] 65 (0, 0)) (by (with_reducible repeat (first | refine Sq.d ?_ _ | refine Sq.e ?_ | refine Sq.f ?_ _)); exact BK131.out)) : gb133 ≠ gb131)); clear BK131; clear HB; have BK131 := n0_; have HB := n1_; have BK133 := n2_; have GW133 := n3_; have GE133 := n4_; have NB131_133 := n5_; have NB133_131 := n6_; clear n0_ n1_ n2_ n3_ n4_ n5_ n6_; clear hb hbox hg; have hnb16 := NB133_131.out; have hnc16 := NB131_133.out; have hcz17_0 : w15.cell? ⟨gb133, 0, none⟩ = some (.int .i64 0) := (Sq.o BK133.out 0).trans rfl; have hcz17_1 : w15.cell? ⟨gb133, 1, none⟩ = some (.int .i64 0) := (Sq.o BK133.out 1).trans rfl; have hcz17_2 : w15.cell? ⟨gb133, 2, none⟩ = some (.int .i64 0) := (Sq.o BK133.out 2).trans rfl; have hcz17_3 : w15.cell? ⟨gb133, 3, none⟩ = some (.int .i64 0) := (Sq.o BK133.out 3).trans rfl; have hcz17_4 : w15.cell? ⟨gb133, 4, none⟩ = some (.bool false) := (Sq.o BK133.out 4).trans rfl; have hfz17_0 := Sq.r BK133.out 0; have hfz17_1 := Sq.r BK133.out 1; have hfz17_2 := Sq.r BK133.out 2; have hfz17_3 := Sq.r BK133.out 3; have hfz17_4 := Sq.r BK133.out 4) | (go_at_call 96; (with_reducible refine (spec_l03TlbEntry.calls ((rd_T99 l0_0 x3_2).f0) ((rd_T99 l0_0 x3_2).f1) ((rd_T99 l0_0 x3_2).f2) ((rd_T99 l0_0 x3_2).f3) ((rd_T99 l0_0 x3_2).f4) true _ A12.out).mono ?_); rintro e w18 ⟨rfl, hb⟩; have n0_ := Sq.l (Sq.m (g := gb131) (o := .cells #[.slice (some ad132) l0_0.length c0_0, .int .i64 a0_1] 65 (0, 0)) (by (with_reducible repeat (first | refine Sq.d ?_ _ | refine Sq.e ?_ | refine Sq.f ?_ _)); refine Sq.B5 ?_ NB131_133.out; (with_reducible repeat (first | refine Sq.d ?_ _ | refine Sq.e ?_ | refine Sq.f ?_ _)); exact BK131.out) hb); have n1_ := Sq.l (Sq.m (g := gb133) (o := .cells #[.int .i64 ((rd_T99 l0_0 x3_2).f0), .int .i64 ((rd_T99 l0_0 x3_2).f1), .int .i64 ((rd_T99 l0_0 x3_2).f2), .int .i64 ((rd_T99 l0_0 x3_2).f3), .bool ((rd_T99 l0_0 x3_2).f4)] 99 (0, 0)) (by (with_reducible repeat (first | refine Sq.d ?_ _ | refine Sq.e ?_ | refine Sq.f ?_ _)); refine Sq.v (cs := #[.int .i64 ((rd_T99 l0_0 x3_2).f0), .int .i64 ((rd_T99 l0_0 x3_2).f1), .int .i64 ((rd_T99 l0_0 x3_2).f2), .int .i64 ((rd_T99 l0_0 x3_2).f3), .bool false]) ?_ 4 _ rfl; (with_reducible repeat (first | refine Sq.d ?_ _ | refine Sq.e ?_ | refine Sq.f ?_ _)); refine Sq.v (cs := #[.int .i64 ((rd_T99 l0_0 x3_2).f0), .int .i64 ((rd_T99 l0_0 x3_2).f1), .int .i64 ((rd_T99 l0_0 x3_2).f2), .int .i64 0, .bool false]) ?_ 3 _ rfl; (with_reducible repeat (first | refine Sq.d ?_ _ | refine Sq.e ?_ | refine Sq.f ?_ _)); refine Sq.v (cs := #[.int .i64 ((rd_T99 l0_0 x3_2).f0), .int .i64 ((rd_T99 l0_0 x3_2).f1), .int .i64 0, .int .i64 0, .bool false]) ?_ 2 _ rfl; (with_reducible repeat (first | refine Sq.d ?_ _ | refine Sq.e ?_ | refine Sq.f ?_ _)); refine Sq.v (cs := #[.int .i64 ((rd_T99 l0_0 x3_2).f0), .int .i64 0, .int .i64 0, .int .i64 0, .bool false]) ?_ 1 _ rfl; (with_reducible repeat (first | refine Sq.d ?_ _ | refine Sq.e ?_ | refine Sq.f ?_ _)); refine Sq.v (cs := #[.int .i64 0, .int .i64 0, .int .i64 0, .int .i64 0, .bool false]) ?_ 0 _ rfl; (with_reducible repeat (first | refine Sq.d ?_ _ | refine Sq.e ?_ | refine Sq.f ?_ _)); exact BK133.out) hb); have n2_ := Sq.l (Sq.a4 (by repeat (first | (with_reducible first | exact HB.out | apply Sq.i | apply Sq.j | apply Sq.k | refine Sq.h ?_ GE131.out | refine Sq.h ?_ GE133.out) | exact HB.out)) hb); clear BK131; clear BK133; clear HB; have BK131 := n0_; have BK133 := n1_; have HB := n2_; clear n0_ n1_ n2_; (try clear hb); (try clear hb2); (try clear hk); (try clear hi))))
         go_loopg [5] k2 (fun kq v5 w' => ∃ (x5_3 : Int), v5 = .int .i64 x5_3 ∧ Aside0 (spec_TlbFault.l1 kq x3_2 x5_3 l0_0 a0_1 ((rd_T99 l0_0 x3_2).f0) ((rd_T99 l0_0 x3_2).f1) ((rd_T99 l0_0 x3_2).f2) ((rd_T99 l0_0 x3_2).f3) ((rd_T99 l0_0 x3_2).f4) = some r) ∧ Aside0 (kq ≤ k2) ∧ Aside0 (w'.heap[gb131]? = some (.cells #[(.slice (some ad132) l0_0.length c0_0), .int .i64 a0_1] 65 (0, 0))) ∧ Aside0 (w'.heap[gb133]? = some (.cells #[.int .i64 ((rd_T99 l0_0 x3_2).f0), .int .i64 ((rd_T99 l0_0 x3_2).f1), .int .i64 ((rd_T99 l0_0 x3_2).f2), .int .i64 ((rd_T99 l0_0 x3_2).f3), .bool ((rd_T99 l0_0 x3_2).f4)] 99 (0, 0))) ∧ Aside0 (Below w.heap.size w w'))
         case atStart => exact ⟨(0), (by first | rfl | (simp; done) | (simp [*]; done)), H', ⟨Nat.le_refl _⟩, ⟨by (with_reducible repeat (first | refine Sq.d ?_ _ | refine Sq.e ?_ | refine Sq.f ?_ _)); exact BK131.out⟩, ⟨by (with_reducible repeat (first | refine Sq.d ?_ _ | refine Sq.e ?_ | refine Sq.f ?_ _)); exact BK133.out⟩, ⟨by repeat (first | (with_reducible first | exact HB.out | apply Sq.i | apply Sq.j | apply Sq.k | refine Sq.h ?_ GE131.out | refine Sq.h ?_ GE133.out) | exact HB.out)⟩⟩
         case round =>
          clear H'
          try clear c1; try clear p1; try clear q1; try clear hx1; try clear p2; try clear c3; try clear c4; try clear c4b0; try clear c4b1; try clear c6; try clear c6b0; try clear c9; try clear c10; try clear c10b0; try clear c11; try clear c11b0; try clear c13; try clear p13; try clear q13; try clear hx13; try clear c16; try clear hcz14_0; try clear hcz14_1; try clear hcz17_0; try clear hcz17_1; try clear hcz17_2; try clear hcz17_3; try clear hcz17_4; try clear hcz5_0; try clear hcz5_1; try clear hcz7_0; try clear hcz7_1; try clear hcz8_0; try clear hcz8_1; try clear hfz14_0; try clear hfz14_1; try clear hfz17_0; try clear hfz17_1; try clear hfz17_2; try clear hfz17_3; try clear hfz17_4; try clear hfz5_0; try clear hfz5_1; try clear hfz7_0; try clear hfz7_1; try clear hfz8_0; try clear hfz8_1; try clear hx132_0; try clear hx132_1; try clear hx132_2; try clear hx132_3; try clear hx132_4; try clear p132; try clear p2; try clear q132
          obtain ⟨x5_3, rfl, HA, HK3, BK131, BK133, HB⟩ := hrel
          cases gk with
          | zero => exact absurd HA.out (by simp [spec_TlbFault.l1])
          | succ k3 =>
           have H := HA.out
           clear HA
           simp only [spec_TlbFault.l1] at H
           by_cases c19 : x5_3 < x3_2
           ·rw [if_pos c19] at H
            have c19b0 : decide (x5_3 < x3_2) = true := decide_eq_true c19
            clear c19
            by_cases c20 : 0 ≤ x5_3
            ·rw [if_pos c20] at H
             have c20b0 : decide (0 ≤ x5_3) = true := decide_eq_true c20
             clear c20
             by_cases c21 : x5_3 < (l0_0.length : Int)
             ·rw [if_pos c21] at H
              have c21b0 : decide (x5_3 < (l0_0.length : Int)) = true := decide_eq_true c21
              clear c21
              by_cases c22 : ((rd_T99 l0_0 x5_3).f0) = ((rd_T99 l0_0 x3_2).f0)
              ·rw [if_pos c22] at H
               have c22b0 : (((rd_T99 l0_0 x5_3).f0) == ((rd_T99 l0_0 x3_2).f0)) = true := beq_iff_eq.mpr c22
               have c22b1 : (((rd_T99 l0_0 x5_3).f0) != ((rd_T99 l0_0 x3_2).f0)) = false := bne_eq_false_iff_eq.mpr c22
               clear c22
               by_cases c23 : ((rd_T99 l0_0 x5_3).f1) = ((rd_T99 l0_0 x3_2).f1)
               ·rw [if_pos c23] at H
                have c23b0 : (((rd_T99 l0_0 x5_3).f1) == ((rd_T99 l0_0 x3_2).f1)) = true := beq_iff_eq.mpr c23
                have c23b1 : (((rd_T99 l0_0 x5_3).f1) != ((rd_T99 l0_0 x3_2).f1)) = false := bne_eq_false_iff_eq.mpr c23
                clear c23
                by_cases c24 : (((rd_T99 l0_0 x5_3).f4) == ((rd_T99 l0_0 x3_2).f4)) = true
                ·rw [if_pos c24] at H
                 have c24b0 : (((rd_T99 l0_0 x5_3).f4) == ((rd_T99 l0_0 x3_2).f4)) = true := c24
                 (try (have c24b1 : decide (((rd_T99 l0_0 x5_3).f4) = ((rd_T99 l0_0 x3_2).f4)) = true := by simpa using c24))
                 (try (have c24b2 : (((rd_T99 l0_0 x5_3).f4) == ((rd_T99 l0_0 x3_2).f4)) = true := by simpa using c24))
                 clear c24
                 obtain rfl := Option.some.inj H
                 have hnb25 := NB131_133.out; have hnc25 := NB133_131.out
                 have hcz26_0 : wr.cell? ⟨gb131, 0, none⟩ = some (.slice (some ad132) l0_0.length c0_0) := (Sq.o BK131.out 0).trans rfl
                 have hcz26_1 : wr.cell? ⟨gb131, 1, none⟩ = some (.int .i64 a0_1) := (Sq.o BK131.out 1).trans rfl
                 have hfz26_0 := Sq.r BK131.out 0
                 have hfz26_1 := Sq.r BK131.out 1
                 have p135 : 0 ≤ (x5_3 : Int) := of_decide_eq_true (by first | (with_reducible assumption) | assumption)
                 have q135 : x5_3 < (l0_0.length : Int) := of_decide_eq_true (by first | (with_reducible assumption) | assumption)
                 obtain ⟨ad135, e135, hx135_0, hx135_1, hx135_2, hx135_3, hx135_4⟩ := at_T99 HR0_0.out x5_3 p135 q135
                 obtain rfl : ad132 = ad135 := (by injection e135)
                 replace hx135_0 := (HB.out.cell (World.block_lt_of_cell? w _ hx135_0)).trans hx135_0
                 replace hx135_1 := (HB.out.cell (World.block_lt_of_cell? w _ hx135_1)).trans hx135_1
                 replace hx135_2 := (HB.out.cell (World.block_lt_of_cell? w _ hx135_2)).trans hx135_2
                 replace hx135_3 := (HB.out.cell (World.block_lt_of_cell? w _ hx135_3)).trans hx135_3
                 replace hx135_4 := (HB.out.cell (World.block_lt_of_cell? w _ hx135_4)).trans hx135_4
                 replace p135 := eq_true p135; replace q135 := eq_true q135
                 have hcz27_0 : wr.cell? ⟨gb133, 0, none⟩ = some (.int .i64 ((rd_T99 l0_0 x3_2).f0)) := (Sq.o BK133.out 0).trans rfl
                 have hcz27_1 : wr.cell? ⟨gb133, 1, none⟩ = some (.int .i64 ((rd_T99 l0_0 x3_2).f1)) := (Sq.o BK133.out 1).trans rfl
                 have hcz27_2 : wr.cell? ⟨gb133, 2, none⟩ = some (.int .i64 ((rd_T99 l0_0 x3_2).f2)) := (Sq.o BK133.out 2).trans rfl
                 have hcz27_3 : wr.cell? ⟨gb133, 3, none⟩ = some (.int .i64 ((rd_T99 l0_0 x3_2).f3)) := (Sq.o BK133.out 3).trans rfl
                 have hcz27_4 : wr.cell? ⟨gb133, 4, none⟩ = some (.bool ((rd_T99 l0_0 x3_2).f4)) := (Sq.o BK133.out 4).trans rfl
                 have hfz27_0 := Sq.r BK133.out 0
                 have hfz27_1 := Sq.r BK133.out 1
                 have hfz27_2 := Sq.r BK133.out 2
                 have hfz27_3 := Sq.r BK133.out 3
                 have hfz27_4 := Sq.r BK133.out 4
                 have p136 : 0 ≤ (x5_3 : Int) := of_decide_eq_true (by first | (with_reducible assumption) | assumption)
                 have q136 : x5_3 < (l0_0.length : Int) := of_decide_eq_true (by first | (with_reducible assumption) | assumption)
                 obtain ⟨ad136, e136, hx136_0, hx136_1, hx136_2, hx136_3, hx136_4⟩ := at_T99 HR0_0.out x5_3 p136 q136
                 obtain rfl : ad132 = ad136 := (by injection e136)
                 replace hx136_0 := (HB.out.cell (World.block_lt_of_cell? w _ hx136_0)).trans hx136_0
                 replace hx136_1 := (HB.out.cell (World.block_lt_of_cell? w _ hx136_1)).trans hx136_1
                 replace hx136_2 := (HB.out.cell (World.block_lt_of_cell? w _ hx136_2)).trans hx136_2
                 replace hx136_3 := (HB.out.cell (World.block_lt_of_cell? w _ hx136_3)).trans hx136_3
                 replace hx136_4 := (HB.out.cell (World.block_lt_of_cell? w _ hx136_4)).trans hx136_4
                 replace p136 := eq_true p136; replace q136 := eq_true q136
                 have p137 : 0 ≤ (x5_3 : Int) := of_decide_eq_true (by first | (with_reducible assumption) | assumption)
                 have q137 : x5_3 < (l0_0.length : Int) := of_decide_eq_true (by first | (with_reducible assumption) | assumption)
                 obtain ⟨ad137, e137, hx137_0, hx137_1, hx137_2, hx137_3, hx137_4⟩ := at_T99 HR0_0.out x5_3 p137 q137
                 obtain rfl : ad132 = ad137 := (by injection e137)
                 replace hx137_0 := (HB.out.cell (World.block_lt_of_cell? w _ hx137_0)).trans hx137_0
                 replace hx137_1 := (HB.out.cell (World.block_lt_of_cell? w _ hx137_1)).trans hx137_1
                 replace hx137_2 := (HB.out.cell (World.block_lt_of_cell? w _ hx137_2)).trans hx137_2
                 replace hx137_3 := (HB.out.cell (World.block_lt_of_cell? w _ hx137_3)).trans hx137_3
                 replace hx137_4 := (HB.out.cell (World.block_lt_of_cell? w _ hx137_4)).trans hx137_4
                 replace p137 := eq_true p137; replace q137 := eq_true q137
                 go_wp2
                 repeat (go_quiet (fail); try go_wp2)
                 go_ret
                 exact ⟨by first | rfl | (simp [errW_none, errW_some] <;> rfl) | (simp [*, errW_none, errW_some] <;> rfl), by repeat (first | (with_reducible first | exact HB.out | apply Sq.i | apply Sq.j | apply Sq.k | refine Sq.h ?_ GE131.out | refine Sq.h ?_ GE133.out) | exact HB.out)⟩
                ·rw [if_neg c24] at H
                 have c24b0 : (((rd_T99 l0_0 x5_3).f4) == ((rd_T99 l0_0 x3_2).f4)) = false := by simpa using c24
                 (try (have c24b1 : decide (((rd_T99 l0_0 x5_3).f4) = ((rd_T99 l0_0 x3_2).f4)) = false := by simpa using c24))
                 (try (have c24b2 : (((rd_T99 l0_0 x5_3).f4) == ((rd_T99 l0_0 x3_2).f4)) = false := by simpa using c24))
                 (try (have c24b3 : ¬ (((rd_T99 l0_0 x5_3).f4) = ((rd_T99 l0_0 x3_2).f4)) := by simpa using c24))
                 clear c24
                 have H' := Sq.l H
                 clear H; have hnb28 := NB131_133.out; have hnc28 := NB133_131.out
                 have hcz29_0 : wr.cell? ⟨gb131, 0, none⟩ = some (.slice (some ad132) l0_0.length c0_0) := (Sq.o BK131.out 0).trans rfl
                 have hcz29_1 : wr.cell? ⟨gb131, 1, none⟩ = some (.int .i64 a0_1) := (Sq.o BK131.out 1).trans rfl
                 have hfz29_0 := Sq.r BK131.out 0
                 have hfz29_1 := Sq.r BK131.out 1
                 have p135 : 0 ≤ (x5_3 : Int) := of_decide_eq_true (by first | (with_reducible assumption) | assumption)
                 have q135 : x5_3 < (l0_0.length : Int) := of_decide_eq_true (by first | (with_reducible assumption) | assumption)
                 obtain ⟨ad135, e135, hx135_0, hx135_1, hx135_2, hx135_3, hx135_4⟩ := at_T99 HR0_0.out x5_3 p135 q135
                 obtain rfl : ad132 = ad135 := (by injection e135)
                 replace hx135_0 := (HB.out.cell (World.block_lt_of_cell? w _ hx135_0)).trans hx135_0
                 replace hx135_1 := (HB.out.cell (World.block_lt_of_cell? w _ hx135_1)).trans hx135_1
                 replace hx135_2 := (HB.out.cell (World.block_lt_of_cell? w _ hx135_2)).trans hx135_2
                 replace hx135_3 := (HB.out.cell (World.block_lt_of_cell? w _ hx135_3)).trans hx135_3
                 replace hx135_4 := (HB.out.cell (World.block_lt_of_cell? w _ hx135_4)).trans hx135_4
                 replace p135 := eq_true p135; replace q135 := eq_true q135
                 have hcz30_0 : wr.cell? ⟨gb133, 0, none⟩ = some (.int .i64 ((rd_T99 l0_0 x3_2).f0)) := (Sq.o BK133.out 0).trans rfl
                 have hcz30_1 : wr.cell? ⟨gb133, 1, none⟩ = some (.int .i64 ((rd_T99 l0_0 x3_2).f1)) := (Sq.o BK133.out 1).trans rfl
                 have hcz30_2 : wr.cell? ⟨gb133, 2, none⟩ = some (.int .i64 ((rd_T99 l0_0 x3_2).f2)) := (Sq.o BK133.out 2).trans rfl
                 have hcz30_3 : wr.cell? ⟨gb133, 3, none⟩ = some (.int .i64 ((rd_T99 l0_0 x3_2).f3)) := (Sq.o BK133.out 3).trans rfl
                 have hcz30_4 : wr.cell? ⟨gb133, 4, none⟩ = some (.bool ((rd_T99 l0_0 x3_2).f4)) := (Sq.o BK133.out 4).trans rfl
                 have hfz30_0 := Sq.r BK133.out 0
                 have hfz30_1 := Sq.r BK133.out 1
                 have hfz30_2 := Sq.r BK133.out 2
                 have hfz30_3 := Sq.r BK133.out 3
                 have hfz30_4 := Sq.r BK133.out 4
                 have p136 : 0 ≤ (x5_3 : Int) := of_decide_eq_true (by first | (with_reducible assumption) | assumption)
                 have q136 : x5_3 < (l0_0.length : Int) := of_decide_eq_true (by first | (with_reducible assumption) | assumption)
                 obtain ⟨ad136, e136, hx136_0, hx136_1, hx136_2, hx136_3, hx136_4⟩ := at_T99 HR0_0.out x5_3 p136 q136
                 obtain rfl : ad132 = ad136 := (by injection e136)
                 replace hx136_0 := (HB.out.cell (World.block_lt_of_cell? w _ hx136_0)).trans hx136_0
                 replace hx136_1 := (HB.out.cell (World.block_lt_of_cell? w _ hx136_1)).trans hx136_1
                 replace hx136_2 := (HB.out.cell (World.block_lt_of_cell? w _ hx136_2)).trans hx136_2
                 replace hx136_3 := (HB.out.cell (World.block_lt_of_cell? w _ hx136_3)).trans hx136_3
                 replace hx136_4 := (HB.out.cell (World.block_lt_of_cell? w _ hx136_4)).trans hx136_4
                 replace p136 := eq_true p136; replace q136 := eq_true q136
                 have p137 : 0 ≤ (x5_3 : Int) := of_decide_eq_true (by first | (with_reducible assumption) | assumption)
                 have q137 : x5_3 < (l0_0.length : Int) := of_decide_eq_true (by first | (with_reducible assumption) | assumption)
                 obtain ⟨ad137, e137, hx137_0, hx137_1, hx137_2, hx137_3, hx137_4⟩ := at_T99 HR0_0.out x5_3 p137 q137
                 obtain rfl : ad132 = ad137 := (by injection e137)
                 replace hx137_0 := (HB.out.cell (World.block_lt_of_cell? w _ hx137_0)).trans hx137_0
                 replace hx137_1 := (HB.out.cell (World.block_lt_of_cell? w _ hx137_1)).trans hx137_1
                 replace hx137_2 := (HB.out.cell (World.block_lt_of_cell? w _ hx137_2)).trans hx137_2
                 replace hx137_3 := (HB.out.cell (World.block_lt_of_cell? w _ hx137_3)).trans hx137_3
                 replace hx137_4 := (HB.out.cell (World.block_lt_of_cell? w _ hx137_4)).trans hx137_4
                 replace p137 := eq_true p137; replace q137 := eq_true q137
                 go_wp2
                 repeat (go_quiet (fail); try go_wp2)
                 go_roundg k3
                 case measure => have := HJ1.out; have := HK2.out; have := HK3.out; omega
                 case rel => exact ⟨(wrap64 (x5_3 + 1)), (by first | rfl | (simp; done) | (simp [*]; done)), H', ⟨by have := HJ1.out; have := HK2.out; have := HK3.out; omega⟩, ⟨by (with_reducible repeat (first | refine Sq.d ?_ _ | refine Sq.e ?_ | refine Sq.f ?_ _)); exact BK131.out⟩, ⟨by (with_reducible repeat (first | refine Sq.d ?_ _ | refine Sq.e ?_ | refine Sq.f ?_ _)); exact BK133.out⟩, ⟨by repeat (first | (with_reducible first | exact HB.out | apply Sq.i | apply Sq.j | apply Sq.k | refine Sq.h ?_ GE131.out | refine Sq.h ?_ GE133.out) | exact HB.out)⟩⟩
               ·rw [if_neg c23] at H
                have c23b0 : (((rd_T99 l0_0 x5_3).f1) == ((rd_T99 l0_0 x3_2).f1)) = false := beq_eq_false_iff_ne.mpr c23
                have c23b1 : (((rd_T99 l0_0 x5_3).f1) != ((rd_T99 l0_0 x3_2).f1)) = true := bne_iff_ne.mpr c23
                have H' := Sq.l H
                clear H; have hnb31 := NB131_133.out; have hnc31 := NB133_131.out
                have hcz32_0 : wr.cell? ⟨gb131, 0, none⟩ = some (.slice (some ad132) l0_0.length c0_0) := (Sq.o BK131.out 0).trans rfl
                have hcz32_1 : wr.cell? ⟨gb131, 1, none⟩ = some (.int .i64 a0_1) := (Sq.o BK131.out 1).trans rfl
                have hfz32_0 := Sq.r BK131.out 0
                have hfz32_1 := Sq.r BK131.out 1
                have p135 : 0 ≤ (x5_3 : Int) := of_decide_eq_true (by first | (with_reducible assumption) | assumption)
                have q135 : x5_3 < (l0_0.length : Int) := of_decide_eq_true (by first | (with_reducible assumption) | assumption)
                obtain ⟨ad135, e135, hx135_0, hx135_1, hx135_2, hx135_3, hx135_4⟩ := at_T99 HR0_0.out x5_3 p135 q135
                obtain rfl : ad132 = ad135 := (by injection e135)
                replace hx135_0 := (HB.out.cell (World.block_lt_of_cell? w _ hx135_0)).trans hx135_0
                replace hx135_1 := (HB.out.cell (World.block_lt_of_cell? w _ hx135_1)).trans hx135_1
                replace hx135_2 := (HB.out.cell (World.block_lt_of_cell? w _ hx135_2)).trans hx135_2
                replace hx135_3 := (HB.out.cell (World.block_lt_of_cell? w _ hx135_3)).trans hx135_3
                replace hx135_4 := (HB.out.cell (World.block_lt_of_cell? w _ hx135_4)).trans hx135_4
                replace p135 := eq_true p135; replace q135 := eq_true q135
                have hcz33_0 : wr.cell? ⟨gb133, 0, none⟩ = some (.int .i64 ((rd_T99 l0_0 x3_2).f0)) := (Sq.o BK133.out 0).trans rfl
                have hcz33_1 : wr.cell? ⟨gb133, 1, none⟩ = some (.int .i64 ((rd_T99 l0_0 x3_2).f1)) := (Sq.o BK133.out 1).trans rfl
                have hcz33_2 : wr.cell? ⟨gb133, 2, none⟩ = some (.int .i64 ((rd_T99 l0_0 x3_2).f2)) := (Sq.o BK133.out 2).trans rfl
                have hcz33_3 : wr.cell? ⟨gb133, 3, none⟩ = some (.int .i64 ((rd_T99 l0_0 x3_2).f3)) := (Sq.o BK133.out 3).trans rfl
                have hcz33_4 : wr.cell? ⟨gb133, 4, none⟩ = some (.bool ((rd_T99 l0_0 x3_2).f4)) := (Sq.o BK133.out 4).trans rfl
                have hfz33_0 := Sq.r BK133.out 0
                have hfz33_1 := Sq.r BK133.out 1
                have hfz33_2 := Sq.r BK133.out 2
                have hfz33_3 := Sq.r BK133.out 3
                have hfz33_4 := Sq.r BK133.out 4
                have p136 : 0 ≤ (x5_3 : Int) := of_decide_eq_true (by first | (with_reducible assumption) | assumption)
                have q136 : x5_3 < (l0_0.length : Int) := of_decide_eq_true (by first | (with_reducible assumption) | assumption)
                obtain ⟨ad136, e136, hx136_0, hx136_1, hx136_2, hx136_3, hx136_4⟩ := at_T99 HR0_0.out x5_3 p136 q136
                obtain rfl : ad132 = ad136 := (by injection e136)
                replace hx136_0 := (HB.out.cell (World.block_lt_of_cell? w _ hx136_0)).trans hx136_0
                replace hx136_1 := (HB.out.cell (World.block_lt_of_cell? w _ hx136_1)).trans hx136_1
                replace hx136_2 := (HB.out.cell (World.block_lt_of_cell? w _ hx136_2)).trans hx136_2
                replace hx136_3 := (HB.out.cell (World.block_lt_of_cell? w _ hx136_3)).trans hx136_3
                replace hx136_4 := (HB.out.cell (World.block_lt_of_cell? w _ hx136_4)).trans hx136_4
                replace p136 := eq_true p136; replace q136 := eq_true q136
                go_wp2
                repeat (go_quiet (fail); try go_wp2)
                go_roundg k3
                case measure => have := HJ1.out; have := HK2.out; have := HK3.out; omega
                case rel => exact ⟨(wrap64 (x5_3 + 1)), (by first | rfl | (simp; done) | (simp [*]; done)), H', ⟨by have := HJ1.out; have := HK2.out; have := HK3.out; omega⟩, ⟨by (with_reducible repeat (first | refine Sq.d ?_ _ | refine Sq.e ?_ | refine Sq.f ?_ _)); exact BK131.out⟩, ⟨by (with_reducible repeat (first | refine Sq.d ?_ _ | refine Sq.e ?_ | refine Sq.f ?_ _)); exact BK133.out⟩, ⟨by repeat (first | (with_reducible first | exact HB.out | apply Sq.i | apply Sq.j | apply Sq.k | refine Sq.h ?_ GE131.out | refine Sq.h ?_ GE133.out) | exact HB.out)⟩⟩
              ·rw [if_neg c22] at H
               have c22b0 : (((rd_T99 l0_0 x5_3).f0) == ((rd_T99 l0_0 x3_2).f0)) = false := beq_eq_false_iff_ne.mpr c22
               have c22b1 : (((rd_T99 l0_0 x5_3).f0) != ((rd_T99 l0_0 x3_2).f0)) = true := bne_iff_ne.mpr c22
               have H' := Sq.l H
               clear H; have hnb34 := NB131_133.out; have hnc34 := NB133_131.out
               have hcz35_0 : wr.cell? ⟨gb131, 0, none⟩ = some (.slice (some ad132) l0_0.length c0_0) := (Sq.o BK131.out 0).trans rfl
               have hcz35_1 : wr.cell? ⟨gb131, 1, none⟩ = some (.int .i64 a0_1) := (Sq.o BK131.out 1).trans rfl
               have hfz35_0 := Sq.r BK131.out 0
               have hfz35_1 := Sq.r BK131.out 1
               have p135 : 0 ≤ (x5_3 : Int) := of_decide_eq_true (by first | (with_reducible assumption) | assumption)
               have q135 : x5_3 < (l0_0.length : Int) := of_decide_eq_true (by first | (with_reducible assumption) | assumption)
               obtain ⟨ad135, e135, hx135_0, hx135_1, hx135_2, hx135_3, hx135_4⟩ := at_T99 HR0_0.out x5_3 p135 q135
               obtain rfl : ad132 = ad135 := (by injection e135)
               replace hx135_0 := (HB.out.cell (World.block_lt_of_cell? w _ hx135_0)).trans hx135_0
               replace hx135_1 := (HB.out.cell (World.block_lt_of_cell? w _ hx135_1)).trans hx135_1
               replace hx135_2 := (HB.out.cell (World.block_lt_of_cell? w _ hx135_2)).trans hx135_2
               replace hx135_3 := (HB.out.cell (World.block_lt_of_cell? w _ hx135_3)).trans hx135_3
               replace hx135_4 := (HB.out.cell (World.block_lt_of_cell? w _ hx135_4)).trans hx135_4
               replace p135 := eq_true p135; replace q135 := eq_true q135
               have hcz36_0 : wr.cell? ⟨gb133, 0, none⟩ = some (.int .i64 ((rd_T99 l0_0 x3_2).f0)) := (Sq.o BK133.out 0).trans rfl
               have hcz36_1 : wr.cell? ⟨gb133, 1, none⟩ = some (.int .i64 ((rd_T99 l0_0 x3_2).f1)) := (Sq.o BK133.out 1).trans rfl
               have hcz36_2 : wr.cell? ⟨gb133, 2, none⟩ = some (.int .i64 ((rd_T99 l0_0 x3_2).f2)) := (Sq.o BK133.out 2).trans rfl
               have hcz36_3 : wr.cell? ⟨gb133, 3, none⟩ = some (.int .i64 ((rd_T99 l0_0 x3_2).f3)) := (Sq.o BK133.out 3).trans rfl
               have hcz36_4 : wr.cell? ⟨gb133, 4, none⟩ = some (.bool ((rd_T99 l0_0 x3_2).f4)) := (Sq.o BK133.out 4).trans rfl
               have hfz36_0 := Sq.r BK133.out 0
               have hfz36_1 := Sq.r BK133.out 1
               have hfz36_2 := Sq.r BK133.out 2
               have hfz36_3 := Sq.r BK133.out 3
               have hfz36_4 := Sq.r BK133.out 4
               go_wp2
               repeat (go_quiet (fail); try go_wp2)
               go_roundg k3
               case measure => have := HJ1.out; have := HK2.out; have := HK3.out; omega
               case rel => exact ⟨(wrap64 (x5_3 + 1)), (by first | rfl | (simp; done) | (simp [*]; done)), H', ⟨by have := HJ1.out; have := HK2.out; have := HK3.out; omega⟩, ⟨by (with_reducible repeat (first | refine Sq.d ?_ _ | refine Sq.e ?_ | refine Sq.f ?_ _)); exact BK131.out⟩, ⟨by (with_reducible repeat (first | refine Sq.d ?_ _ | refine Sq.e ?_ | refine Sq.f ?_ _)); exact BK133.out⟩, ⟨by repeat (first | (with_reducible first | exact HB.out | apply Sq.i | apply Sq.j | apply Sq.k | refine Sq.h ?_ GE131.out | refine Sq.h ?_ GE133.out) | exact HB.out)⟩⟩
             ·rw [if_neg c21] at H
              exact absurd H (by simp)
            ·rw [if_neg c20] at H
             exact absurd H (by simp)
           ·rw [if_neg c19] at H
            have c19b0 : decide (x5_3 < x3_2) = false := decide_eq_false c19
            clear c19
            have H' := Sq.l H
            clear H
            go_wp2
            repeat (go_quiet (fail); try go_wp2)
            go_roundg k3
            case measure => have := HJ1.out; have := HK2.out; have := HK3.out; omega
            case rel => exact ⟨(wrap64 (x3_2 + 1)), (by first | rfl | (simp; done) | (simp [*]; done)), H', ⟨by have := HJ1.out; have := HK2.out; have := HK3.out; omega⟩, ⟨by (with_reducible repeat (first | refine Sq.d ?_ _ | refine Sq.e ?_ | refine Sq.f ?_ _)); exact BK131.out⟩, ⟨by repeat (first | (with_reducible first | exact HB.out | apply Sq.i | apply Sq.j | apply Sq.k | refine Sq.h ?_ GE131.out | refine Sq.h ?_ GE133.out) | exact HB.out)⟩⟩
        ·replace c13 := Bool.eq_false_iff.mpr c13
         subst c13
         rw [if_neg (show ¬ (false = true) by decide)] at H
         obtain rfl := Option.some.inj H
         have hcz37_0 : wr.cell? ⟨gb131, 0, none⟩ = some (.slice A0_0 l0_0.length c0_0) := (Sq.o BK131.out 0).trans rfl
         have hcz37_1 : wr.cell? ⟨gb131, 1, none⟩ = some (.int .i64 a0_1) := (Sq.o BK131.out 1).trans rfl
         have hfz37_0 := Sq.r BK131.out 0
         have hfz37_1 := Sq.r BK131.out 1
         have p132 : 0 ≤ (x3_2 : Int) := of_decide_eq_true (by first | (with_reducible assumption) | assumption)
         have q132 : x3_2 < (l0_0.length : Int) := of_decide_eq_true (by first | (with_reducible assumption) | assumption)
         obtain ⟨ad132, e132, hx132_0, hx132_1, hx132_2, hx132_3, hx132_4⟩ := at_T99 HR0_0.out x3_2 p132 q132
         cases e132
         replace hx132_0 := (HB.out.cell (World.block_lt_of_cell? w _ hx132_0)).trans hx132_0
         replace hx132_1 := (HB.out.cell (World.block_lt_of_cell? w _ hx132_1)).trans hx132_1
         replace hx132_2 := (HB.out.cell (World.block_lt_of_cell? w _ hx132_2)).trans hx132_2
         replace hx132_3 := (HB.out.cell (World.block_lt_of_cell? w _ hx132_3)).trans hx132_3
         replace hx132_4 := (HB.out.cell (World.block_lt_of_cell? w _ hx132_4)).trans hx132_4
         replace p132 := eq_true p132; replace q132 := eq_true q132
         go_wp2_with (first | ((with_reducible refine gate_dst (N := 4) rfl ?_); refine box_event ?hg (N := 4) ?hd (cs := #[.int .i64 0, .int .i64 0, .int .i64 0, .int .i64 0, .bool false]) (t := 99) ?hr ?_; (case hd => rfl); (case hg => rfl); (case hr => first | (go_simp; done) | (go_simp; rfl)); intro gb133 hg w38 hbox hb; have n0_ := Sq.l (Sq.m (g := gb131) (o := .cells #[.slice (some ad132) l0_0.length c0_0, .int .i64 a0_1] 65 (0, 0)) (by (with_reducible repeat (first | refine Sq.d ?_ _ | refine Sq.e ?_ | refine Sq.f ?_ _)); exact BK131.out) hb); have n1_ := Sq.l (Sq.a4 (by repeat (first | (with_reducible first | exact HB.out | apply Sq.i | apply Sq.j | apply Sq.k | refine Sq.h ?_ GE131.out) | exact HB.out)) hb); have n2_ := Sq.l (hbox); have n3_ := Sq.l ((by rw [hg]; exact (Sq.a5 (by repeat (first | (with_reducible first | exact HB.out | apply Sq.i | apply Sq.j | apply Sq.k | refine Sq.h ?_ GE131.out) | exact HB.out))) : w.heap.size ≤ gb133)); have n4_ := Sq.l ((by rw [hg]; exact (Sq.a5 (by repeat (first | (with_reducible first | exact HB.out | apply Sq.i | apply Sq.j | apply Sq.k | refine Sq.h ?_ GE131.out) | exact HB.out))) : w.heap.size ≤ gb133)); have n5_ := Sq.l ((by rw [hg]; exact Nat.ne_of_lt (blk_lt (g := gb131) (o := .cells #[.slice (some ad132) l0_0.length c0_0, .int .i64 a0_1] 65 (0, 0)) (by (with_reducible repeat (first | refine Sq.d ?_ _ | refine Sq.e ?_ | refine Sq.f ?_ _)); exact BK131.out)) : gb131 ≠ gb133)); have n6_ := Sq.l ((by rw [hg]; exact Nat.ne_of_gt (blk_lt (g := gb131) (o := .cells #[.slice (some ad132) l0_0.length c0_0, .int .i64 a0_1] 65 (0, 0)) (by (with_reducible repeat (first | refine Sq.d ?_ _ | refine Sq.e ?_ | refine Sq.f ?_ _)); exact BK131.out)) : gb133 ≠ gb131)); clear BK131; clear HB; have BK131 := n0_; have HB := n1_; have BK133 := n2_; have GW133 := n3_; have GE133 := n4_; have NB131_133 := n5_; have NB133_131 := n6_; clear n0_ n1_ n2_ n3_ n4_ n5_ n6_; clear hb hbox hg; have hnb39 := NB133_131.out; have hnc39 := NB131_133.out; have hcz40_0 : w38.cell? ⟨gb133, 0, none⟩ = some (.int .i64 0) := (Sq.o BK133.out 0).trans rfl; have hcz40_1 : w38.cell? ⟨gb133, 1, none⟩ = some (.int .i64 0) := (Sq.o BK133.out 1).trans rfl; have hcz40_2 : w38.cell? ⟨gb133, 2, none⟩ = some (.int .i64 0) := (Sq.o BK133.out 2).trans rfl; have hcz40_3 : w38.cell? ⟨gb133, 3, none⟩ = some (.int .i64 0) := (Sq.o BK133.out 3).trans rfl; have hcz40_4 : w38.cell? ⟨gb133, 4, none⟩ = some (.bool false) := (Sq.o BK133.out 4).trans rfl; have hfz40_0 := Sq.r BK133.out 0; have hfz40_1 := Sq.r BK133.out 1; have hfz40_2 := Sq.r BK133.out 2; have hfz40_3 := Sq.r BK133.out 3; have hfz40_4 := Sq.r BK133.out 4) | (go_at_call 96; (with_reducible refine (spec_l03TlbEntry.calls ((rd_T99 l0_0 x3_2).f0) ((rd_T99 l0_0 x3_2).f1) ((rd_T99 l0_0 x3_2).f2) ((rd_T99 l0_0 x3_2).f3) ((rd_T99 l0_0 x3_2).f4) false _ A12.out).mono ?_); rintro e w41 ⟨rfl, hb⟩; have n0_ := Sq.l (Sq.m (g := gb131) (o := .cells #[.slice (some ad132) l0_0.length c0_0, .int .i64 a0_1] 65 (0, 0)) (by (with_reducible repeat (first | refine Sq.d ?_ _ | refine Sq.e ?_ | refine Sq.f ?_ _)); refine Sq.B5 ?_ NB131_133.out; (with_reducible repeat (first | refine Sq.d ?_ _ | refine Sq.e ?_ | refine Sq.f ?_ _)); exact BK131.out) hb); have n1_ := Sq.l (Sq.m (g := gb133) (o := .cells #[.int .i64 ((rd_T99 l0_0 x3_2).f0), .int .i64 ((rd_T99 l0_0 x3_2).f1), .int .i64 ((rd_T99 l0_0 x3_2).f2), .int .i64 ((rd_T99 l0_0 x3_2).f3), .bool ((rd_T99 l0_0 x3_2).f4)] 99 (0, 0)) (by (with_reducible repeat (first | refine Sq.d ?_ _ | refine Sq.e ?_ | refine Sq.f ?_ _)); refine Sq.v (cs := #[.int .i64 ((rd_T99 l0_0 x3_2).f0), .int .i64 ((rd_T99 l0_0 x3_2).f1), .int .i64 ((rd_T99 l0_0 x3_2).f2), .int .i64 ((rd_T99 l0_0 x3_2).f3), .bool false]) ?_ 4 _ rfl; (with_reducible repeat (first | refine Sq.d ?_ _ | refine Sq.e ?_ | refine Sq.f ?_ _)); refine Sq.v (cs := #[.int .i64 ((rd_T99 l0_0 x3_2).f0), .int .i64 ((rd_T99 l0_0 x3_2).f1), .int .i64 ((rd_T99 l0_0 x3_2).f2), .int .i64 0, .bool false]) ?_ 3 _ rfl; (with_reducible repeat (first | refine Sq.d ?_ _ | refine Sq.e ?_ | refine Sq.f ?_ _)); refine Sq.v (cs := #[.int .i64 ((rd_T99 l0_0 x3_2).f0), .int .i64 ((rd_T99 l0_0 x3_2).f1), .int .i64 0, .int .i64 0, .bool false]) ?_ 2 _ rfl; (with_reducible repeat (first | refine Sq.d ?_ _ | refine Sq.e ?_ | refine Sq.f ?_ _)); refine Sq.v (cs := #[.int .i64 ((rd_T99 l0_0 x3_2).f0), .int .i64 0, .int .i64 0, .int .i64 0, .bool false]) ?_ 1 _ rfl; (with_reducible repeat (first | refine Sq.d ?_ _ | refine Sq.e ?_ | refine Sq.f ?_ _)); refine Sq.v (cs := #[.int .i64 0, .int .i64 0, .int .i64 0, .int .i64 0, .bool false]) ?_ 0 _ rfl; (with_reducible repeat (first | refine Sq.d ?_ _ | refine Sq.e ?_ | refine Sq.f ?_ _)); exact BK133.out) hb); have n2_ := Sq.l (Sq.a4 (by repeat (first | (with_reducible first | exact HB.out | apply Sq.i | apply Sq.j | apply Sq.k | refine Sq.h ?_ GE131.out | refine Sq.h ?_ GE133.out) | exact HB.out)) hb); clear BK131; clear BK133; clear HB; have BK131 := n0_; have BK133 := n1_; have HB := n2_; clear n0_ n1_ n2_; (try clear hb); (try clear hb2); (try clear hk); (try clear hi)))
         repeat (go_quiet (first | ((with_reducible refine gate_dst (N := 4) rfl ?_); refine box_event ?hg (N := 4) ?hd (cs := #[.int .i64 0, .int .i64 0, .int .i64 0, .int .i64 0, .bool false]) (t := 99) ?hr ?_; (case hd => rfl); (case hg => rfl); (case hr => first | (go_simp; done) | (go_simp; rfl)); intro gb133 hg w38 hbox hb; have n0_ := Sq.l (Sq.m (g := gb131) (o := .cells #[.slice (some ad132) l0_0.length c0_0, .int .i64 a0_1] 65 (0, 0)) (by (with_reducible repeat (first | refine Sq.d ?_ _ | refine Sq.e ?_ | refine Sq.f ?_ _)); exact BK131.out) hb); have n1_ := Sq.l (Sq.a4 (by repeat (first | (with_reducible first | exact HB.out | apply Sq.i | apply Sq.j | apply Sq.k | refine Sq.h ?_ GE131.out) | exact HB.out)) hb); have n2_ := Sq.l (hbox); have n3_ := Sq.l ((by rw [hg]; exact (Sq.a5 (by repeat (first | (with_reducible first | exact HB.out | apply Sq.i | apply Sq.j | apply Sq.k | refine Sq.h ?_ GE131.out) | exact HB.out))) : w.heap.size ≤ gb133)); have n4_ := Sq.l ((by rw [hg]; exact (Sq.a5 (by repeat (first | (with_reducible first | exact HB.out | apply Sq.i | apply Sq.j | apply Sq.k | refine Sq.h ?_ GE131.out) | exact HB.out))) : w.heap.size ≤ gb133)); have n5_ := Sq.l ((by rw [hg]; exact Nat.ne_of_lt (blk_lt (g := gb131) (o := .cells #[.slice (some ad132) l0_0.length c0_0, .int .i64 a0_1] 65 (0, 0)) (by (with_reducible repeat (first | refine Sq.d ?_ _ | refine Sq.e ?_ | refine Sq.f ?_ _)); exact BK131.out)) : gb131 ≠ gb133)); have n6_ := Sq.l ((by rw [hg]; exact Nat.ne_of_gt (blk_lt (g := gb131) (o := .cells #[.slice (some ad132) l0_0.length c0_0, .int .i64 a0_1] 65 (0, 0)) (by (with_reducible repeat (first | refine Sq.d ?_ _ | refine Sq.e ?_ | refine Sq.f ?_ _)); exact BK131.out)) : gb133 ≠ gb131)); clear BK131; clear HB; have BK131 := n0_; have HB := n1_; have BK133 := n2_; have GW133 := n3_; have GE133 := n4_; have NB131_133 := n5_; have NB133_131 := n6_; clear n0_ n1_ n2_ n3_ n4_ n5_ n6_; clear hb hbox hg; have hnb39 := NB133_131.out; have hnc39 := NB131_133.out; have hcz40_0 : w38.cell? ⟨gb133, 0, none⟩ = some (.int .i64 0) := (Sq.o BK133.out 0).trans rfl; have hcz40_1 : w38.cell? ⟨gb133, 1, none⟩ = some (.int .i64 0) := (Sq.o BK133.out 1).trans rfl; have hcz40_2 : w38.cell? ⟨gb133, 2, none⟩ = some (.int .i64 0) := (Sq.o BK133.out 2).trans rfl; have hcz40_3 : w38.cell? ⟨gb133, 3, none⟩ = some (.int .i64 0) := (Sq.o BK133.out 3).trans rfl; have hcz40_4 : w38.cell? ⟨gb133, 4, none⟩ = some (.bool false) := (Sq.o BK133.out 4).trans rfl; have hfz40_0 := Sq.r BK133.out 0; have hfz40_1 := Sq.r BK133.out 1; have hfz40_2 := Sq.r BK133.out 2; have hfz40_3 := Sq.r BK133.out 3; have hfz40_4 := Sq.r BK133.out 4) | (go_at_call 96; (with_reducible refine (spec_l03TlbEntry.calls ((rd_T99 l0_0 x3_2).f0) ((rd_T99 l0_0 x3_2).f1) ((rd_T99 l0_0 x3_2).f2) ((rd_T99 l0_0 x3_2).f3) ((rd_T99 l0_0 x3_2).f4) false _ A12.out).mono ?_); rintro e w41 ⟨rfl, hb⟩; have n0_ := Sq.l (Sq.m (g := gb131) (o := .cells #[.slice (some ad132) l0_0.length c0_0, .int .i64 a0_1] 65 (0, 0)) (by (with_reducible repeat (first | refine Sq.d ?_ _ | refine Sq.e ?_ | refine Sq.f ?_ _)); refine Sq.B5 ?_ NB131_133.out; (with_reducible repeat (first | refine Sq.d ?_ _ | refine Sq.e ?_ | refine Sq.f ?_ _)); exact BK131.out) hb); have n1_ := Sq.l (Sq.m (g := gb133) (o := .cells #[.int .i64 ((rd_T99 l0_0 x3_2).f0), .int .i64 ((rd_T99 l0_0 x3_2).f1), .int .i64 ((rd_T99 l0_0 x3_2).f2), .int .i64 ((rd_T99 l0_0 x3_2).f3), .bool ((rd_T99 l0_0 x3_2).f4)] 99 (0, 0)) (by (with_reducible repeat (first | refine Sq.d ?_ _ | refine Sq.e ?_ | refine Sq.f ?_ _)); refine Sq.v (cs := #[.int .i64 ((rd_T99 l0_0 x3_2).f0), .int .i64 ((rd_T99 l0_0 x3_2).f1), .int .i64 ((rd_T99 l0_0 x3_2).f2), .int .i64 ((rd_T99 l0_0 x3_2).f3), .bool false]) ?_ 4 _ rfl; (with_reducible repeat (first | refine Sq.d ?_ _ | refine Sq.e ?_ | refine Sq.f ?_ _)); refine Sq.v (cs := #[.int .i64 ((rd_T99 l0_0 x3_2).f0), .int .i64 ((rd_T99 l0_0 x3_2).f1), .int .i64 ((rd_T99 l0_0 x3_2).f2), .int .i64 0, .bool false]) ?_ 3 _ rfl; (with_reducible repeat (first | refine Sq.d ?_ _ | refine Sq.e ?_ | refine Sq.f ?_ _)); refine Sq.v (cs := #[.int .i64 ((rd_T99 l0_0 x3_2).f0), .int .i64 ((rd_T99 l0_0 x3_2).f1), .int .i64 0, .int .i64 0, .bool false]) ?_ 2 _ rfl; (with_reducible repeat (first | refine Sq.d ?_ _ | refine Sq.e ?_ | refine Sq.f ?_ _)); refine Sq.v (cs := #[.int .i64 ((rd_T99 l0_0 x3_2).f0), .int .i64 0, .int .i64 0, .int .i64 0, .bool false]) ?_ 1 _ rfl; (with_reducible repeat (first | refine Sq.d ?_ _ | refine Sq.e ?_ | refine Sq.f ?_ _)); refine Sq.v (cs := #[.int .i64 0, .int .i64 0, .int .i64 0, .int .i64 0, .bool false]) ?_ 0 _ rfl; (with_reducible repeat (first | refine Sq.d ?_ _ | refine Sq.e ?_ | refine Sq.f ?_ _)); exact BK133.out) hb); have n2_ := Sq.l (Sq.a4 (by repeat (first | (with_reducible first | exact HB.out | apply Sq.i | apply Sq.j | apply Sq.k | refine Sq.h ?_ GE131.out | refine Sq.h ?_ GE133.out) | exact HB.out)) hb); clear BK131; clear BK133; clear HB; have BK131 := n0_; have BK133 := n1_; have HB := n2_; clear n0_ n1_ n2_; (try clear hb); (try clear hb2); (try clear hk); (try clear hi))); try go_wp2_with (first | ((with_reducible refine gate_dst (N := 4) rfl ?_); refine box_event ?hg (N := 4) ?hd (cs := #[.int .i64 0, .int .i64 0, .int .i64 0, .int .i64 0, .bool false]) (t := 99) ?hr ?_; (case hd => rfl); (case hg => rfl); (case hr => first | (go_simp; done) | (go_simp; rfl)); intro gb133 hg w38 hbox hb; have n0_ := Sq.l (Sq.m (g := gb131) (o := .cells #[.slice (some ad132) l0_0.length c0_0, .int .i64 a0_1] 65 (0, 0)) (by (with_reducible repeat (first | refine Sq.d ?_ _ | refine Sq.e ?_ | refine Sq.f ?_ _)); exact BK131.out) hb); have n1_ := Sq.l (Sq.a4 (by repeat (first | (with_reducible first | exact HB.out | apply Sq.i | apply Sq.j | apply Sq.k | refine Sq.h ?_ GE131.out) | exact HB.out)) hb); have n2_ := Sq.l (hbox); have n3_ := Sq.l ((by rw [hg]; exact (Sq.a5 (by repeat (first | (with_reducible first | exact HB.out | apply Sq.i | apply Sq.j | apply Sq.k | refine Sq.h ?_ GE131.out) | exact HB.out))) : w.heap.size ≤ gb133)); have n4_ := Sq.l ((by rw [hg]; exact (Sq.a5 (by repeat (first | (with_reducible first | exact HB.out | apply Sq.i | apply Sq.j | apply Sq.k | refine Sq.h ?_ GE131.out) | exact HB.out))) : w.heap.size ≤ gb133)); have n5_ := Sq.l ((by rw [hg]; exact Nat.ne_of_lt (blk_lt (g := gb131) (o := .cells #[.slice (some ad132) l0_0.length c0_0, .int .i64 a0_1] 65 (0, 0)) (by (with_reducible repeat (first | refine Sq.d ?_ _ | refine Sq.e ?_ | refine Sq.f ?_ _)); exact BK131.out)) : gb131 ≠ gb133)); have n6_ := Sq.l ((by rw [hg]; exact Nat.ne_of_gt (blk_lt (g := gb131) (o := .cells #[.slice (some ad132) l0_0.length c0_0, .int .i64 a0_1] 65 (0, 0)) (by (with_reducible repeat (first | refine Sq.d ?_ _ | refine Sq.e ?_ | refine Sq.f ?_ _)); exact BK131.out)) : gb133 ≠ gb131)); clear BK131; clear HB; have BK131 := n0_; have HB := n1_; have BK133 := n2_; have GW133 := n3_; have GE133 := n4_; have NB131_133 := n5_; have NB133_131 := n6_; clear n0_ n1_ n2_ n3_ n4_ n5_ n6_; clear hb hbox hg; have hnb39 := NB133_131.out; have hnc39 := NB131_133.out; have hcz40_0 : w38.cell? ⟨gb133, 0, none⟩ = some (.int .i64 0) := (Sq.o BK133.out 0).trans rfl; have hcz40_1 : w38.cell? ⟨gb133, 1, none⟩ = some (.int .i64 0) := (Sq.o BK133.out 1).trans rfl; have hcz40_2 : w38.cell? ⟨gb133, 2, none⟩ = some (.int .i64 0) := (Sq.o BK133.out 2).trans rfl; have hcz40_3 : w38.cell? ⟨gb133, 3, none⟩ = some (.int .i64 0) := (Sq.o BK133.out 3).trans rfl; have hcz40_4 : w38.cell? ⟨gb133, 4, none⟩ = some (.bool false) := (Sq.o BK133.out 4).trans rfl; have hfz40_0 := Sq.r BK133.out 0; have hfz40_1 := Sq.r BK133.out 1; have hfz40_2 := Sq.r BK133.out 2; have hfz40_3 := Sq.r BK133.out 3; have hfz40_4 := Sq.r BK133.out 4) | (go_at_call 96; (with_reducible refine (spec_l03TlbEntry.calls ((rd_T99 l0_0 x3_2).f0) ((rd_T99 l0_0 x3_2).f1) ((rd_T99 l0_0 x3_2).f2) ((rd_T99 l0_0 x3_2).f3) ((rd_T99 l0_0 x3_2).f4) false _ A12.out).mono ?_); rintro e w41 ⟨rfl, hb⟩; have n0_ := Sq.l (Sq.m (g := gb131) (o := .cells #[.slice (some ad132) l0_0.length c0_0, .int .i64 a0_1] 65 (0, 0)) (by (with_reducible repeat (first | refine Sq.d ?_ _ | refine Sq.e ?_ | refine Sq.f ?_ _)); refine Sq.B5 ?_ NB131_133.out; (with_reducible repeat (first | refine Sq.d ?_ _ | refine Sq.e ?_ | refine Sq.f ?_ _)); exact BK131.out) hb); have n1_ := Sq.l (Sq.m (g := gb133) (o := .cells #[.int .i64 ((rd_T99 l0_0 x3_2).f0), .int .i64 ((rd_T99 l0_0 x3_2).f1), .int .i64 ((rd_T99 l0_0 x3_2).f2), .int .i64 ((rd_T99 l0_0 x3_2).f3), .bool ((rd_T99 l0_0 x3_2).f4)] 99 (0, 0)) (by (with_reducible repeat (first | refine Sq.d ?_ _ | refine Sq.e ?_ | refine Sq.f ?_ _)); refine Sq.v (cs := #[.int .i64 ((rd_T99 l0_0 x3_2).f0), .int .i64 ((rd_T99 l0_0 x3_2).f1), .int .i64 ((rd_T99 l0_0 x3_2).f2), .int .i64 ((rd_T99 l0_0 x3_2).f3), .bool false]) ?_ 4 _ rfl; (with_reducible repeat (first | refine Sq.d ?_ _ | refine Sq.e ?_ | refine Sq.f ?_ _)); refine Sq.v (cs := #[.int .i64 ((rd_T99 l0_0 x3_2).f0), .int .i64 ((rd_T99 l0_0 x3_2).f1), .int .i64 ((rd_T99 l0_0 x3_2).f2), .int .i64 0, .bool false]) ?_ 3 _ rfl; (with_reducible repeat (first | refine Sq.d ?_ _ | refine Sq.e ?_ | refine Sq.f ?_ _)); refine Sq.v (cs := #[.int .i64 ((rd_T99 l0_0 x3_2).f0), .int .i64 ((rd_T99 l0_0 x3_2).f1), .int .i64 0, .int .i64 0, .bool false]) ?_ 2 _ rfl; (with_reducible repeat (first | refine Sq.d ?_ _ | refine Sq.e ?_ | refine Sq.f ?_ _)); refine Sq.v (cs := #[.int .i64 ((rd_T99 l0_0 x3_2).f0), .int .i64 0, .int .i64 0, .int .i64 0, .bool false]) ?_ 1 _ rfl; (with_reducible repeat (first | refine Sq.d ?_ _ | refine Sq.e ?_ | refine Sq.f ?_ _)); refine Sq.v (cs := #[.int .i64 0, .int .i64 0, .int .i64 0, .int .i64 0, .bool false]) ?_ 0 _ rfl; (with_reducible repeat (first | refine Sq.d ?_ _ | refine Sq.e ?_ | refine Sq.f ?_ _)); exact BK133.out) hb); have n2_ := Sq.l (Sq.a4 (by repeat (first | (with_reducible first | exact HB.out | apply Sq.i | apply Sq.j | apply Sq.k | refine Sq.h ?_ GE131.out | refine Sq.h ?_ GE133.out) | exact HB.out)) hb); clear BK131; clear BK133; clear HB; have BK131 := n0_; have BK133 := n1_; have HB := n2_; clear n0_ n1_ n2_; (try clear hb); (try clear hb2); (try clear hk); (try clear hi))))
         go_ret
         exact ⟨by first | rfl | (simp [errW_none, errW_some] <;> rfl) | (simp [*, errW_none, errW_some] <;> rfl), by repeat (first | (with_reducible first | exact HB.out | apply Sq.i | apply Sq.j | apply Sq.k | refine Sq.h ?_ GE131.out | refine Sq.h ?_ GE133.out) | exact HB.out)⟩
       ·rw [if_neg c11] at H
        exact absurd H (by simp)
      ·rw [if_neg c10] at H
       have c10b0 : decide (x3_2 < (l0_0.length : Int)) = false := decide_eq_false c10
       clear c10
       obtain rfl := Option.some.inj H
       have hcz42_0 : wr.cell? ⟨gb131, 0, none⟩ = some (.slice A0_0 l0_0.length c0_0) := (Sq.o BK131.out 0).trans rfl
       have hcz42_1 : wr.cell? ⟨gb131, 1, none⟩ = some (.int .i64 a0_1) := (Sq.o BK131.out 1).trans rfl
       have hfz42_0 := Sq.r BK131.out 0
       have hfz42_1 := Sq.r BK131.out 1
       go_wp2
       repeat (go_quiet (fail); try go_wp2)
       go_ret
       exact ⟨by first | rfl | (simp [errW_none, errW_some] <;> rfl) | (simp [*, errW_none, errW_some] <;> rfl), by repeat (first | (with_reducible first | exact HB.out | apply Sq.i | apply Sq.j | apply Sq.k | refine Sq.h ?_ GE131.out) | exact HB.out)⟩

end Go.Proofs.Ytjpgelnhmcblmaa.QFnExactTlbPut
