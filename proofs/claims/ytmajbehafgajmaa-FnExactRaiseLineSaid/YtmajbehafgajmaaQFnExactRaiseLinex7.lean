-- Written for this claim by this session's own driver (wip/xprint.py).
import Derived.Test.YtmajbehafgajmaaQFnExactRaiseLinex0
import Derived.Test.YtmajbehafgajmaaQFnExactRaiseLinex5
import Derived.Test.YtmajbehafgajmaaQFnExactRaiseLinex6
namespace Go.Proofs.Ytmajbehafgajmaa.QFnExactRaiseLine
open Go.RowKit Go.Proofs.YtmajbehafgajmaaW.PrintWords Go.Proofs.YtmajbehafgajmaaW.PrintLast Go.Proofs.YtmajbehafgajmaaW.PrintMore
attribute [local go_sem] max2_int min2_int max_two min_two max_three min_three max_four min_four   -- for this text's walks alone
set_option linter.unusedVariables false
set_option linter.unusedSimpArgs false

/-! ### laws_eqMachine: function 34 -/
def laws_eqMachine.f (k : Nat) (a0_0 : Int) (l0_1 : List Int) (a0_2 : Int) (l0_3 : List Int) (l0_4 : List Int) (a0_5 : ByteArray) (a0_6 : Int) (a0_7 : Int) (a0_8 : Int) (l0_9 : List (S185)) (l0_10 : List (S185)) (a0_11 : Int) (a1_0 : Int) (l1_1 : List Int) (a1_2 : Int) (l1_3 : List Int) (l1_4 : List Int) (a1_5 : ByteArray) (a1_6 : Int) (a1_7 : Int) (a1_8 : Int) (l1_9 : List (S185)) (l1_10 : List (S185)) (a1_11 : Int) : Option (Bool) := if a0_0 = a1_0 then ((laws_eqInt64S.f k l0_1 l1_1).bind fun t270 => (if t270 = true then (if a0_2 = a1_2 then ((laws_eqInt64S.f k l0_3 l1_3).bind fun t271 => (if t271 = true then ((laws_eqInt64S.f k l0_4 l1_4).bind fun t272 => (if t272 = true then (if a0_5.toList = a1_5.toList then (if a0_6 = a1_6 then (if a0_7 = a1_7 then (if a0_8 = a1_8 then ((laws_eqPortValueS.f k l0_9 l1_9).bind fun t273 => (if t273 = true then ((laws_eqPortValueS.f k l0_10 l1_10).bind fun t274 => (if t274 = true then (if a0_11 = a1_11 then (some true) else (some false)) else (some false))) else (some false))) else (some false)) else (some false)) else (some false)) else (some false)) else (some false))) else (some false))) else (some false)) else (some false))) else (some false)
theorem laws_eqMachine.mono : ∀ a0 a1 a2 a3 a4 a5 a6 a7 a8 a9 a10 a11 a12 a13 a14 a15 a16 a17 a18 a19 a20 a21 a22 a23 k, LeO (laws_eqMachine.f k a0 a1 a2 a3 a4 a5 a6 a7 a8 a9 a10 a11 a12 a13 a14 a15 a16 a17 a18 a19 a20 a21 a22 a23) (laws_eqMachine.f (k + 1) a0 a1 a2 a3 a4 a5 a6 a7 a8 a9 a10 a11 a12 a13 a14 a15 a16 a17 a18 a19 a20 a21 a22 a23) := by
 intro a0 a1 a2 a3 a4 a5 a6 a7 a8 a9 a10 a11 a12 a13 a14 a15 a16 a17 a18 a19 a20 a21 a22 a23 k
 unfold laws_eqMachine.f
 repeat' first
   | (with_reducible exact laws_eqInt64S.mono _ _ _)
   | (with_reducible exact laws_eqPortValueS.mono _ _ _)
   | (with_reducible exact LeO.refl _)
   | (with_reducible exact LeO.none _)
   | (with_reducible refine LeO.ite ?_ ?_)
   | (with_reducible refine LeO.bind ?_ (fun _ => ?_))
   | exact laws_eqInt64S.mono _ _ _
   | exact laws_eqPortValueS.mono _ _ _
   | exact LeO.none _
   | refine LeO.ite ?_ ?_
   | refine LeO.bind ?_ (fun _ => ?_)
set_option maxHeartbeats 8000000 in
set_option maxRecDepth 100000 in
theorem laws_eqMachine.calls (k : Nat) (a0_0 : Int) (A0_1 : Option Addr) (c0_1 : Nat) (l0_1 : List Int) (a0_2 : Int) (A0_3 : Option Addr) (c0_3 : Nat) (l0_3 : List Int) (A0_4 : Option Addr) (c0_4 : Nat) (l0_4 : List Int) (a0_5 : ByteArray) (a0_6 : Int) (a0_7 : Int) (a0_8 : Int) (A0_9 : Option Addr) (c0_9 : Nat) (l0_9 : List (S185)) (A0_10 : Option Addr) (c0_10 : Nat) (l0_10 : List (S185)) (a0_11 : Int) (a1_0 : Int) (A1_1 : Option Addr) (c1_1 : Nat) (l1_1 : List Int) (a1_2 : Int) (A1_3 : Option Addr) (c1_3 : Nat) (l1_3 : List Int) (A1_4 : Option Addr) (c1_4 : Nat) (l1_4 : List Int) (a1_5 : ByteArray) (a1_6 : Int) (a1_7 : Int) (a1_8 : Int) (A1_9 : Option Addr) (c1_9 : Nat) (l1_9 : List (S185)) (A1_10 : Option Addr) (c1_10 : Nat) (l1_10 : List (S185)) (a1_11 : Int) (r : Bool) (w : World) (hr0_1 : Kd.C (Kd.int .i64) w A0_1 l0_1.length l0_1) (hc0_1 : l0_1.length ≤ c0_1) (hr0_3 : Kd.C (Kd.int .i64) w A0_3 l0_3.length l0_3) (hc0_3 : l0_3.length ≤ c0_3) (hr0_4 : Kd.C (Kd.int .i64) w A0_4 l0_4.length l0_4) (hc0_4 : l0_4.length ≤ c0_4) (hr0_9 : Kd.C k185 w A0_9 l0_9.length l0_9) (hc0_9 : l0_9.length ≤ c0_9) (hr0_10 : Kd.C k185 w A0_10 l0_10.length l0_10) (hc0_10 : l0_10.length ≤ c0_10) (hr1_1 : Kd.C (Kd.int .i64) w A1_1 l1_1.length l1_1) (hc1_1 : l1_1.length ≤ c1_1) (hr1_3 : Kd.C (Kd.int .i64) w A1_3 l1_3.length l1_3) (hc1_3 : l1_3.length ≤ c1_3) (hr1_4 : Kd.C (Kd.int .i64) w A1_4 l1_4.length l1_4) (hc1_4 : l1_4.length ≤ c1_4) (hr1_9 : Kd.C k185 w A1_9 l1_9.length l1_9) (hc1_9 : l1_9.length ≤ c1_9) (hr1_10 : Kd.C k185 w A1_10 l1_10.length l1_10) (hc1_10 : l1_10.length ≤ c1_10) (h : laws_eqMachine.f k a0_0 l0_1 a0_2 l0_3 l0_4 a0_5 a0_6 a0_7 a0_8 l0_9 l0_10 a0_11 a1_0 l1_1 a1_2 l1_3 l1_4 a1_5 a1_6 a1_7 a1_8 l1_9 l1_10 a1_11 = some r) :
  Calls Try.prog 34 #[.agg #[.int .i64 a0_0, .slice A0_1 l0_1.length c0_1, .int .i64 a0_2, .slice A0_3 l0_3.length c0_3, .slice A0_4 l0_4.length c0_4, .string a0_5, .int .i64 a0_6, .int .i64 a0_7, .int .i64 a0_8, .slice A0_9 l0_9.length c0_9, .slice A0_10 l0_10.length c0_10, .int .i64 a0_11], .agg #[.int .i64 a1_0, .slice A1_1 l1_1.length c1_1, .int .i64 a1_2, .slice A1_3 l1_3.length c1_3, .slice A1_4 l1_4.length c1_4, .string a1_5, .int .i64 a1_6, .int .i64 a1_7, .int .i64 a1_8, .slice A1_9 l1_9.length c1_9, .slice A1_10 l1_10.length c1_10, .int .i64 a1_11]] w fun e w' => e = .returned (.bool r) ∧ Below w.heap.size w w' := by
 have hu71 := Try.underlying71
 have HR0_1 := Sq.l hr0_1
 have HC0_1 := Sq.l hc0_1
 clear hr0_1 hc0_1
 have HR0_3 := Sq.l hr0_3
 have HC0_3 := Sq.l hc0_3
 clear hr0_3 hc0_3
 have HR0_4 := Sq.l hr0_4
 have HC0_4 := Sq.l hc0_4
 clear hr0_4 hc0_4
 have HR0_9 := Sq.l hr0_9
 have HC0_9 := Sq.l hc0_9
 clear hr0_9 hc0_9
 have HR0_10 := Sq.l hr0_10
 have HC0_10 := Sq.l hc0_10
 clear hr0_10 hc0_10
 have HR1_1 := Sq.l hr1_1
 have HC1_1 := Sq.l hc1_1
 clear hr1_1 hc1_1
 have HR1_3 := Sq.l hr1_3
 have HC1_3 := Sq.l hc1_3
 clear hr1_3 hc1_3
 have HR1_4 := Sq.l hr1_4
 have HC1_4 := Sq.l hc1_4
 clear hr1_4 hc1_4
 have HR1_9 := Sq.l hr1_9
 have HC1_9 := Sq.l hc1_9
 clear hr1_9 hc1_9
 have HR1_10 := Sq.l hr1_10
 have HC1_10 := Sq.l hc1_10
 clear hr1_10 hc1_10
 have HB := Sq.l (Below.refl w.heap.size w)
 have H : (if a0_0 = a1_0 then ((laws_eqInt64S.f k l0_1 l1_1).bind fun t270 => (if t270 = true then (if a0_2 = a1_2 then ((laws_eqInt64S.f k l0_3 l1_3).bind fun t271 => (if t271 = true then ((laws_eqInt64S.f k l0_4 l1_4).bind fun t272 => (if t272 = true then (if a0_5.toList = a1_5.toList then (if a0_6 = a1_6 then (if a0_7 = a1_7 then (if a0_8 = a1_8 then ((laws_eqPortValueS.f k l0_9 l1_9).bind fun t273 => (if t273 = true then ((laws_eqPortValueS.f k l0_10 l1_10).bind fun t274 => (if t274 = true then (if a0_11 = a1_11 then (some true) else (some false)) else (some false))) else (some false))) else (some false)) else (some false)) else (some false)) else (some false)) else (some false))) else (some false))) else (some false)) else (some false))) else (some false)) = some r := h
 clear h
 have HC3 := Sq.l H
 clear H
 go_enter Try.func34, Try.ntmps34
 go_upto_if 9 with (first | ((with_reducible refine gate_dst (N := 2) rfl ?_); refine box_event ?hg (N := 2) ?hd (cs := #[.int .i64 a0_0, .slice A0_1 l0_1.length c0_1, .int .i64 a0_2, .slice A0_3 l0_3.length c0_3, .slice A0_4 l0_4.length c0_4, .string a0_5, .int .i64 a0_6, .int .i64 a0_7, .int .i64 a0_8, .slice A0_9 l0_9.length c0_9, .slice A0_10 l0_10.length c0_10, .int .i64 a0_11]) (t := 71) ?hr ?_; (case hd => rfl); (case hg => rfl); (case hr => first | (go_simp; done) | (go_simp; rfl)); intro gb268 hg w4 hbox hb; have n0_ := Sq.l (Sq.a4 (by repeat (first | (with_reducible first | exact HB.out | apply Sq.i | apply Sq.j | apply Sq.k) | exact HB.out)) hb); have n1_ := Sq.l (hbox); have n2_ := Sq.l ((by rw [hg]; exact (Sq.a5 (by repeat (first | (with_reducible first | exact HB.out | apply Sq.i | apply Sq.j | apply Sq.k) | exact HB.out))) : w.heap.size ≤ gb268)); have n3_ := Sq.l ((by rw [hg]; exact (Sq.a5 (by repeat (first | (with_reducible first | exact HB.out | apply Sq.i | apply Sq.j | apply Sq.k) | exact HB.out))) : w.heap.size ≤ gb268)); clear HB; have HB := n0_; have BK268 := n1_; have GW268 := n2_; have GE268 := n3_; clear n0_ n1_ n2_ n3_; clear hb hbox hg) | ((with_reducible refine gate_dst (N := 3) rfl ?_); refine box_event ?hg (N := 3) ?hd (cs := #[.int .i64 a1_0, .slice A1_1 l1_1.length c1_1, .int .i64 a1_2, .slice A1_3 l1_3.length c1_3, .slice A1_4 l1_4.length c1_4, .string a1_5, .int .i64 a1_6, .int .i64 a1_7, .int .i64 a1_8, .slice A1_9 l1_9.length c1_9, .slice A1_10 l1_10.length c1_10, .int .i64 a1_11]) (t := 71) ?hr ?_; (case hd => rfl); (case hg => rfl); (case hr => first | (go_simp; done) | (go_simp; rfl)); intro gb269 hg w5 hbox hb; have n0_ := Sq.l (Sq.m (Sq.W BK268.out) hb); have n1_ := Sq.l (Sq.a4 (by repeat (first | (with_reducible first | exact HB.out | apply Sq.i | apply Sq.j | apply Sq.k | refine Sq.h ?_ GE268.out) | exact HB.out)) hb); have n2_ := Sq.l (hbox); have n3_ := Sq.l ((by rw [hg]; exact (Sq.a5 (by repeat (first | (with_reducible first | exact HB.out | apply Sq.i | apply Sq.j | apply Sq.k | refine Sq.h ?_ GE268.out) | exact HB.out))) : w.heap.size ≤ gb269)); have n4_ := Sq.l ((by rw [hg]; exact (Sq.a5 (by repeat (first | (with_reducible first | exact HB.out | apply Sq.i | apply Sq.j | apply Sq.k | refine Sq.h ?_ GE268.out) | exact HB.out))) : w.heap.size ≤ gb269)); have n5_ := Sq.l ((by rw [hg]; exact Nat.ne_of_lt (blk_lt (Sq.W BK268.out)) : gb268 ≠ gb269)); have n6_ := Sq.l ((by rw [hg]; exact Nat.ne_of_gt (blk_lt (Sq.W BK268.out)) : gb269 ≠ gb268)); clear BK268 HB; have BK268 := n0_; have HB := n1_; have BK269 := n2_; have GW269 := n3_; have GE269 := n4_; have NB268_269 := n5_; have NB269_268 := n6_; clear n0_ n1_ n2_ n3_ n4_ n5_ n6_; clear hb hbox hg; have hnb6 := NB268_269.out; have hnc6 := NB269_268.out; obtain ⟨hcz7_0, hcz7_1, hcz7_2, hcz7_3, hcz7_4, hcz7_5, hcz7_6, hcz7_7, hcz7_8, hcz7_9, hcz7_10, hcz7_11⟩ := Sq.C12 BK268.out; obtain ⟨hfz7_0, hfz7_1, hfz7_2, hfz7_3, hfz7_4, hfz7_5, hfz7_6, hfz7_7, hfz7_8, hfz7_9, hfz7_10, hfz7_11⟩ := Sq.F12 BK268.out; obtain ⟨hcz8_0, hcz8_1, hcz8_2, hcz8_3, hcz8_4, hcz8_5, hcz8_6, hcz8_7, hcz8_8, hcz8_9, hcz8_10, hcz8_11⟩ := Sq.C12 BK269.out; obtain ⟨hfz8_0, hfz8_1, hfz8_2, hfz8_3, hfz8_4, hfz8_5, hfz8_6, hfz8_7, hfz8_8, hfz8_9, hfz8_10, hfz8_11⟩ := Sq.F12 BK269.out))
 (try simp only [Act.put, List.setIfInBounds_toArray, List.set_cons_zero, List.set_cons_succ])
 have H := HC3.out
 clear HC3
 by_cases c9 : a0_0 = a1_0
 ·rw [if_pos c9] at H
  have c9b0 : (a0_0 == a1_0) = true := beq_iff_eq.mpr c9
  have c9b1 : (a0_0 != a1_0) = false := bne_eq_false_iff_eq.mpr c9
  clear c9
  (first | rw [c9b0] | (simp only [i64_w, i32_w]; rw [c9b0]) | skip)
  replace H := Option.bind_eq_some_iff.mp H
  obtain ⟨t270, A100, H⟩ := H
  (try dsimp only at H)
  have A10 := Sq.l A100
  clear A100
  have HC11 := Sq.l H
  clear H; have hnb12 := NB268_269.out; have hnc12 := NB269_268.out
  have hcz13_0 : w5.cell? ⟨gb268, 0, none⟩ = some (.int .i64 a0_0) := (Sq.o BK268.out 0).trans rfl
  have hcz13_1 : w5.cell? ⟨gb268, 1, none⟩ = some (.slice A0_1 l0_1.length c0_1) := (Sq.o BK268.out 1).trans rfl
  have hcz13_2 : w5.cell? ⟨gb268, 2, none⟩ = some (.int .i64 a0_2) := (Sq.o BK268.out 2).trans rfl
  have hcz13_3 : w5.cell? ⟨gb268, 3, none⟩ = some (.slice A0_3 l0_3.length c0_3) := (Sq.o BK268.out 3).trans rfl
  have hcz13_4 : w5.cell? ⟨gb268, 4, none⟩ = some (.slice A0_4 l0_4.length c0_4) := (Sq.o BK268.out 4).trans rfl
  have hcz13_5 : w5.cell? ⟨gb268, 5, none⟩ = some (.string a0_5) := (Sq.o BK268.out 5).trans rfl
  have hcz13_6 : w5.cell? ⟨gb268, 6, none⟩ = some (.int .i64 a0_6) := (Sq.o BK268.out 6).trans rfl
  have hcz13_7 : w5.cell? ⟨gb268, 7, none⟩ = some (.int .i64 a0_7) := (Sq.o BK268.out 7).trans rfl
  have hcz13_8 : w5.cell? ⟨gb268, 8, none⟩ = some (.int .i64 a0_8) := (Sq.o BK268.out 8).trans rfl
  have hcz13_9 : w5.cell? ⟨gb268, 9, none⟩ = some (.slice A0_9 l0_9.length c0_9) := (Sq.o BK268.out 9).trans rfl
  have hcz13_10 : w5.cell? ⟨gb268, 10, none⟩ = some (.slice A0_10 l0_10.length c0_10) := (Sq.o BK268.out 10).trans rfl
  have hcz13_11 : w5.cell? ⟨gb268, 11, none⟩ = some (.int .i64 a0_11) := (Sq.o BK268.out 11).trans rfl
  have hfz13_0 := Sq.r BK268.out 0
  have hfz13_1 := Sq.r BK268.out 1
  have hfz13_2 := Sq.r BK268.out 2
  have hfz13_3 := Sq.r BK268.out 3
  have hfz13_4 := Sq.r BK268.out 4
  have hfz13_5 := Sq.r BK268.out 5
  have hfz13_6 := Sq.r BK268.out 6
  have hfz13_7 := Sq.r BK268.out 7
  have hfz13_8 := Sq.r BK268.out 8
  have hfz13_9 := Sq.r BK268.out 9
  have hfz13_10 := Sq.r BK268.out 10
  have hfz13_11 := Sq.r BK268.out 11
  have hcz14_0 : w5.cell? ⟨gb269, 0, none⟩ = some (.int .i64 a1_0) := (Sq.o BK269.out 0).trans rfl
  have hcz14_1 : w5.cell? ⟨gb269, 1, none⟩ = some (.slice A1_1 l1_1.length c1_1) := (Sq.o BK269.out 1).trans rfl
  have hcz14_2 : w5.cell? ⟨gb269, 2, none⟩ = some (.int .i64 a1_2) := (Sq.o BK269.out 2).trans rfl
  have hcz14_3 : w5.cell? ⟨gb269, 3, none⟩ = some (.slice A1_3 l1_3.length c1_3) := (Sq.o BK269.out 3).trans rfl
  have hcz14_4 : w5.cell? ⟨gb269, 4, none⟩ = some (.slice A1_4 l1_4.length c1_4) := (Sq.o BK269.out 4).trans rfl
  have hcz14_5 : w5.cell? ⟨gb269, 5, none⟩ = some (.string a1_5) := (Sq.o BK269.out 5).trans rfl
  have hcz14_6 : w5.cell? ⟨gb269, 6, none⟩ = some (.int .i64 a1_6) := (Sq.o BK269.out 6).trans rfl
  have hcz14_7 : w5.cell? ⟨gb269, 7, none⟩ = some (.int .i64 a1_7) := (Sq.o BK269.out 7).trans rfl
  have hcz14_8 : w5.cell? ⟨gb269, 8, none⟩ = some (.int .i64 a1_8) := (Sq.o BK269.out 8).trans rfl
  have hcz14_9 : w5.cell? ⟨gb269, 9, none⟩ = some (.slice A1_9 l1_9.length c1_9) := (Sq.o BK269.out 9).trans rfl
  have hcz14_10 : w5.cell? ⟨gb269, 10, none⟩ = some (.slice A1_10 l1_10.length c1_10) := (Sq.o BK269.out 10).trans rfl
  have hcz14_11 : w5.cell? ⟨gb269, 11, none⟩ = some (.int .i64 a1_11) := (Sq.o BK269.out 11).trans rfl
  have hfz14_0 := Sq.r BK269.out 0
  have hfz14_1 := Sq.r BK269.out 1
  have hfz14_2 := Sq.r BK269.out 2
  have hfz14_3 := Sq.r BK269.out 3
  have hfz14_4 := Sq.r BK269.out 4
  have hfz14_5 := Sq.r BK269.out 5
  have hfz14_6 := Sq.r BK269.out 6
  have hfz14_7 := Sq.r BK269.out 7
  have hfz14_8 := Sq.r BK269.out 8
  have hfz14_9 := Sq.r BK269.out 9
  have hfz14_10 := Sq.r BK269.out 10
  have hfz14_11 := Sq.r BK269.out 11
  go_upto_if 15 with (first | ((with_reducible refine gate_callee (f := 25) rfl ?_); refine goesL_ (some 14) rfl rfl Try.func25 (by kernel_rfl) rfl #[.slice A0_1 l0_1.length c0_1, .slice A1_1 l1_1.length c1_1] rfl (by (try simp only [List.map_toArray, List.map_cons, List.map_nil]); first | done | rfl | (simp only [List.length_drop, List.length_take]; rfl)) ?_; (with_reducible refine (laws_eqInt64S.calls k _ _ l0_1 _ _ l1_1 t270 _ ?side1 ?side2 ?side3 ?side4 A10.out).mono ?_); (case side1 => repeat (first | exact (Sq.a1 HR0_1.out HB.out) | (with_reducible refine Sq.s ?_ _) | (with_reducible refine Sq.t ?_ _) | (with_reducible refine Sq.u ?_))); (case side2 => exact HC0_1.out); (case side3 => repeat (first | exact (Sq.a1 HR1_1.out HB.out) | (with_reducible refine Sq.s ?_ _) | (with_reducible refine Sq.t ?_ _) | (with_reducible refine Sq.u ?_))); (case side4 => exact HC1_1.out); rintro e w' ⟨rfl, ⟨nd, rfl⟩⟩; refine ⟨_, rfl, ?_⟩))
  (try simp only [Act.put, List.setIfInBounds_toArray, List.set_cons_zero, List.set_cons_succ])
  have H := HC11.out
  clear HC11
  by_cases c15 : t270 = true
  ·subst c15
   rw [if_pos rfl] at H
   have HC16 := Sq.l H
   clear H; have hnb17 := NB268_269.out; have hnc17 := NB269_268.out
   have hcz18_0 : w5.cell? ⟨gb268, 0, none⟩ = some (.int .i64 a0_0) := (Sq.o BK268.out 0).trans rfl
   have hcz18_1 : w5.cell? ⟨gb268, 1, none⟩ = some (.slice A0_1 l0_1.length c0_1) := (Sq.o BK268.out 1).trans rfl
   have hcz18_2 : w5.cell? ⟨gb268, 2, none⟩ = some (.int .i64 a0_2) := (Sq.o BK268.out 2).trans rfl
   have hcz18_3 : w5.cell? ⟨gb268, 3, none⟩ = some (.slice A0_3 l0_3.length c0_3) := (Sq.o BK268.out 3).trans rfl
   have hcz18_4 : w5.cell? ⟨gb268, 4, none⟩ = some (.slice A0_4 l0_4.length c0_4) := (Sq.o BK268.out 4).trans rfl
   have hcz18_5 : w5.cell? ⟨gb268, 5, none⟩ = some (.string a0_5) := (Sq.o BK268.out 5).trans rfl
   have hcz18_6 : w5.cell? ⟨gb268, 6, none⟩ = some (.int .i64 a0_6) := (Sq.o BK268.out 6).trans rfl
   have hcz18_7 : w5.cell? ⟨gb268, 7, none⟩ = some (.int .i64 a0_7) := (Sq.o BK268.out 7).trans rfl
   have hcz18_8 : w5.cell? ⟨gb268, 8, none⟩ = some (.int .i64 a0_8) := (Sq.o BK268.out 8).trans rfl
   have hcz18_9 : w5.cell? ⟨gb268, 9, none⟩ = some (.slice A0_9 l0_9.length c0_9) := (Sq.o BK268.out 9).trans rfl
   have hcz18_10 : w5.cell? ⟨gb268, 10, none⟩ = some (.slice A0_10 l0_10.length c0_10) := (Sq.o BK268.out 10).trans rfl
   have hcz18_11 : w5.cell? ⟨gb268, 11, none⟩ = some (.int .i64 a0_11) := (Sq.o BK268.out 11).trans rfl
   have hfz18_0 := Sq.r BK268.out 0
   have hfz18_1 := Sq.r BK268.out 1
   have hfz18_2 := Sq.r BK268.out 2
   have hfz18_3 := Sq.r BK268.out 3
   have hfz18_4 := Sq.r BK268.out 4
   have hfz18_5 := Sq.r BK268.out 5
   have hfz18_6 := Sq.r BK268.out 6
   have hfz18_7 := Sq.r BK268.out 7
   have hfz18_8 := Sq.r BK268.out 8
   have hfz18_9 := Sq.r BK268.out 9
   have hfz18_10 := Sq.r BK268.out 10
   have hfz18_11 := Sq.r BK268.out 11
   have hcz19_0 : w5.cell? ⟨gb269, 0, none⟩ = some (.int .i64 a1_0) := (Sq.o BK269.out 0).trans rfl
   have hcz19_1 : w5.cell? ⟨gb269, 1, none⟩ = some (.slice A1_1 l1_1.length c1_1) := (Sq.o BK269.out 1).trans rfl
   have hcz19_2 : w5.cell? ⟨gb269, 2, none⟩ = some (.int .i64 a1_2) := (Sq.o BK269.out 2).trans rfl
   have hcz19_3 : w5.cell? ⟨gb269, 3, none⟩ = some (.slice A1_3 l1_3.length c1_3) := (Sq.o BK269.out 3).trans rfl
   have hcz19_4 : w5.cell? ⟨gb269, 4, none⟩ = some (.slice A1_4 l1_4.length c1_4) := (Sq.o BK269.out 4).trans rfl
   have hcz19_5 : w5.cell? ⟨gb269, 5, none⟩ = some (.string a1_5) := (Sq.o BK269.out 5).trans rfl
   have hcz19_6 : w5.cell? ⟨gb269, 6, none⟩ = some (.int .i64 a1_6) := (Sq.o BK269.out 6).trans rfl
   have hcz19_7 : w5.cell? ⟨gb269, 7, none⟩ = some (.int .i64 a1_7) := (Sq.o BK269.out 7).trans rfl
   have hcz19_8 : w5.cell? ⟨gb269, 8, none⟩ = some (.int .i64 a1_8) := (Sq.o BK269.out 8).trans rfl
   have hcz19_9 : w5.cell? ⟨gb269, 9, none⟩ = some (.slice A1_9 l1_9.length c1_9) := (Sq.o BK269.out 9).trans rfl
   have hcz19_10 : w5.cell? ⟨gb269, 10, none⟩ = some (.slice A1_10 l1_10.length c1_10) := (Sq.o BK269.out 10).trans rfl
   have hcz19_11 : w5.cell? ⟨gb269, 11, none⟩ = some (.int .i64 a1_11) := (Sq.o BK269.out 11).trans rfl
   have hfz19_0 := Sq.r BK269.out 0
   have hfz19_1 := Sq.r BK269.out 1
   have hfz19_2 := Sq.r BK269.out 2
   have hfz19_3 := Sq.r BK269.out 3
   have hfz19_4 := Sq.r BK269.out 4
   have hfz19_5 := Sq.r BK269.out 5
   have hfz19_6 := Sq.r BK269.out 6
   have hfz19_7 := Sq.r BK269.out 7
   have hfz19_8 := Sq.r BK269.out 8
   have hfz19_9 := Sq.r BK269.out 9
   have hfz19_10 := Sq.r BK269.out 10
   have hfz19_11 := Sq.r BK269.out 11
   go_upto_if 20 with (fail)
   have H := HC16.out
   clear HC16
   by_cases c20 : a0_2 = a1_2
   ·rw [if_pos c20] at H
    have c20b0 : (a0_2 == a1_2) = true := beq_iff_eq.mpr c20
    have c20b1 : (a0_2 != a1_2) = false := bne_eq_false_iff_eq.mpr c20
    clear c20
    (first | rw [c20b0] | (simp only [i64_w, i32_w]; rw [c20b0]) | skip)
    replace H := Option.bind_eq_some_iff.mp H
    obtain ⟨t271, A210, H⟩ := H
    (try dsimp only at H)
    have A21 := Sq.l A210
    clear A210
    have HC22 := Sq.l H
    clear H; have hnb23 := NB268_269.out; have hnc23 := NB269_268.out
    have hcz24_0 : w5.cell? ⟨gb268, 0, none⟩ = some (.int .i64 a0_0) := (Sq.o BK268.out 0).trans rfl
    have hcz24_1 : w5.cell? ⟨gb268, 1, none⟩ = some (.slice A0_1 l0_1.length c0_1) := (Sq.o BK268.out 1).trans rfl
    have hcz24_2 : w5.cell? ⟨gb268, 2, none⟩ = some (.int .i64 a0_2) := (Sq.o BK268.out 2).trans rfl
    have hcz24_3 : w5.cell? ⟨gb268, 3, none⟩ = some (.slice A0_3 l0_3.length c0_3) := (Sq.o BK268.out 3).trans rfl
    have hcz24_4 : w5.cell? ⟨gb268, 4, none⟩ = some (.slice A0_4 l0_4.length c0_4) := (Sq.o BK268.out 4).trans rfl
    have hcz24_5 : w5.cell? ⟨gb268, 5, none⟩ = some (.string a0_5) := (Sq.o BK268.out 5).trans rfl
    have hcz24_6 : w5.cell? ⟨gb268, 6, none⟩ = some (.int .i64 a0_6) := (Sq.o BK268.out 6).trans rfl
    have hcz24_7 : w5.cell? ⟨gb268, 7, none⟩ = some (.int .i64 a0_7) := (Sq.o BK268.out 7).trans rfl
    have hcz24_8 : w5.cell? ⟨gb268, 8, none⟩ = some (.int .i64 a0_8) := (Sq.o BK268.out 8).trans rfl
    have hcz24_9 : w5.cell? ⟨gb268, 9, none⟩ = some (.slice A0_9 l0_9.length c0_9) := (Sq.o BK268.out 9).trans rfl
    have hcz24_10 : w5.cell? ⟨gb268, 10, none⟩ = some (.slice A0_10 l0_10.length c0_10) := (Sq.o BK268.out 10).trans rfl
    have hcz24_11 : w5.cell? ⟨gb268, 11, none⟩ = some (.int .i64 a0_11) := (Sq.o BK268.out 11).trans rfl
    have hfz24_0 := Sq.r BK268.out 0
    have hfz24_1 := Sq.r BK268.out 1
    have hfz24_2 := Sq.r BK268.out 2
    have hfz24_3 := Sq.r BK268.out 3
    have hfz24_4 := Sq.r BK268.out 4
    have hfz24_5 := Sq.r BK268.out 5
    have hfz24_6 := Sq.r BK268.out 6
    have hfz24_7 := Sq.r BK268.out 7
    have hfz24_8 := Sq.r BK268.out 8
    have hfz24_9 := Sq.r BK268.out 9
    have hfz24_10 := Sq.r BK268.out 10
    have hfz24_11 := Sq.r BK268.out 11
    have hcz25_0 : w5.cell? ⟨gb269, 0, none⟩ = some (.int .i64 a1_0) := (Sq.o BK269.out 0).trans rfl
    have hcz25_1 : w5.cell? ⟨gb269, 1, none⟩ = some (.slice A1_1 l1_1.length c1_1) := (Sq.o BK269.out 1).trans rfl
    have hcz25_2 : w5.cell? ⟨gb269, 2, none⟩ = some (.int .i64 a1_2) := (Sq.o BK269.out 2).trans rfl
    have hcz25_3 : w5.cell? ⟨gb269, 3, none⟩ = some (.slice A1_3 l1_3.length c1_3) := (Sq.o BK269.out 3).trans rfl
    have hcz25_4 : w5.cell? ⟨gb269, 4, none⟩ = some (.slice A1_4 l1_4.length c1_4) := (Sq.o BK269.out 4).trans rfl
    have hcz25_5 : w5.cell? ⟨gb269, 5, none⟩ = some (.string a1_5) := (Sq.o BK269.out 5).trans rfl
    have hcz25_6 : w5.cell? ⟨gb269, 6, none⟩ = some (.int .i64 a1_6) := (Sq.o BK269.out 6).trans rfl
    have hcz25_7 : w5.cell? ⟨gb269, 7, none⟩ = some (.int .i64 a1_7) := (Sq.o BK269.out 7).trans rfl
    have hcz25_8 : w5.cell? ⟨gb269, 8, none⟩ = some (.int .i64 a1_8) := (Sq.o BK269.out 8).trans rfl
    have hcz25_9 : w5.cell? ⟨gb269, 9, none⟩ = some (.slice A1_9 l1_9.length c1_9) := (Sq.o BK269.out 9).trans rfl
    have hcz25_10 : w5.cell? ⟨gb269, 10, none⟩ = some (.slice A1_10 l1_10.length c1_10) := (Sq.o BK269.out 10).trans rfl
    have hcz25_11 : w5.cell? ⟨gb269, 11, none⟩ = some (.int .i64 a1_11) := (Sq.o BK269.out 11).trans rfl
    have hfz25_0 := Sq.r BK269.out 0
    have hfz25_1 := Sq.r BK269.out 1
    have hfz25_2 := Sq.r BK269.out 2
    have hfz25_3 := Sq.r BK269.out 3
    have hfz25_4 := Sq.r BK269.out 4
    have hfz25_5 := Sq.r BK269.out 5
    have hfz25_6 := Sq.r BK269.out 6
    have hfz25_7 := Sq.r BK269.out 7
    have hfz25_8 := Sq.r BK269.out 8
    have hfz25_9 := Sq.r BK269.out 9
    have hfz25_10 := Sq.r BK269.out 10
    have hfz25_11 := Sq.r BK269.out 11
    go_upto_if 26 with (first | ((with_reducible refine gate_callee (f := 25) rfl ?_); refine goesL_ (some 25) rfl rfl Try.func25 (by kernel_rfl) rfl #[.slice A0_3 l0_3.length c0_3, .slice A1_3 l1_3.length c1_3] rfl (by (try simp only [List.map_toArray, List.map_cons, List.map_nil]); first | done | rfl | (simp only [List.length_drop, List.length_take]; rfl)) ?_; (with_reducible refine (laws_eqInt64S.calls k _ _ l0_3 _ _ l1_3 t271 _ ?side1 ?side2 ?side3 ?side4 A21.out).mono ?_); (case side1 => repeat (first | exact (Sq.a1 HR0_3.out HB.out) | (with_reducible refine Sq.s ?_ _) | (with_reducible refine Sq.t ?_ _) | (with_reducible refine Sq.u ?_))); (case side2 => exact HC0_3.out); (case side3 => repeat (first | exact (Sq.a1 HR1_3.out HB.out) | (with_reducible refine Sq.s ?_ _) | (with_reducible refine Sq.t ?_ _) | (with_reducible refine Sq.u ?_))); (case side4 => exact HC1_3.out); rintro e w' ⟨rfl, ⟨nd, rfl⟩⟩; refine ⟨_, rfl, ?_⟩))
    (try simp only [Act.put, List.setIfInBounds_toArray, List.set_cons_zero, List.set_cons_succ])
    have H := HC22.out
    clear HC22
    by_cases c26 : t271 = true
    ·subst c26
     rw [if_pos rfl] at H
     replace H := Option.bind_eq_some_iff.mp H
     obtain ⟨t272, A270, H⟩ := H
     (try dsimp only at H)
     have A27 := Sq.l A270
     clear A270
     have HC28 := Sq.l H
     clear H; have hnb29 := NB268_269.out; have hnc29 := NB269_268.out
     have hcz30_0 : w5.cell? ⟨gb268, 0, none⟩ = some (.int .i64 a0_0) := (Sq.o BK268.out 0).trans rfl
     have hcz30_1 : w5.cell? ⟨gb268, 1, none⟩ = some (.slice A0_1 l0_1.length c0_1) := (Sq.o BK268.out 1).trans rfl
     have hcz30_2 : w5.cell? ⟨gb268, 2, none⟩ = some (.int .i64 a0_2) := (Sq.o BK268.out 2).trans rfl
     have hcz30_3 : w5.cell? ⟨gb268, 3, none⟩ = some (.slice A0_3 l0_3.length c0_3) := (Sq.o BK268.out 3).trans rfl
     have hcz30_4 : w5.cell? ⟨gb268, 4, none⟩ = some (.slice A0_4 l0_4.length c0_4) := (Sq.o BK268.out 4).trans rfl
     have hcz30_5 : w5.cell? ⟨gb268, 5, none⟩ = some (.string a0_5) := (Sq.o BK268.out 5).trans rfl
     have hcz30_6 : w5.cell? ⟨gb268, 6, none⟩ = some (.int .i64 a0_6) := (Sq.o BK268.out 6).trans rfl
     have hcz30_7 : w5.cell? ⟨gb268, 7, none⟩ = some (.int .i64 a0_7) := (Sq.o BK268.out 7).trans rfl
     have hcz30_8 : w5.cell? ⟨gb268, 8, none⟩ = some (.int .i64 a0_8) := (Sq.o BK268.out 8).trans rfl
     have hcz30_9 : w5.cell? ⟨gb268, 9, none⟩ = some (.slice A0_9 l0_9.length c0_9) := (Sq.o BK268.out 9).trans rfl
     have hcz30_10 : w5.cell? ⟨gb268, 10, none⟩ = some (.slice A0_10 l0_10.length c0_10) := (Sq.o BK268.out 10).trans rfl
     have hcz30_11 : w5.cell? ⟨gb268, 11, none⟩ = some (.int .i64 a0_11) := (Sq.o BK268.out 11).trans rfl
     have hfz30_0 := Sq.r BK268.out 0
     have hfz30_1 := Sq.r BK268.out 1
     have hfz30_2 := Sq.r BK268.out 2
     have hfz30_3 := Sq.r BK268.out 3
     have hfz30_4 := Sq.r BK268.out 4
     have hfz30_5 := Sq.r BK268.out 5
     have hfz30_6 := Sq.r BK268.out 6
     have hfz30_7 := Sq.r BK268.out 7
     have hfz30_8 := Sq.r BK268.out 8
     have hfz30_9 := Sq.r BK268.out 9
     have hfz30_10 := Sq.r BK268.out 10
     have hfz30_11 := Sq.r BK268.out 11
     have hcz31_0 : w5.cell? ⟨gb269, 0, none⟩ = some (.int .i64 a1_0) := (Sq.o BK269.out 0).trans rfl
     have hcz31_1 : w5.cell? ⟨gb269, 1, none⟩ = some (.slice A1_1 l1_1.length c1_1) := (Sq.o BK269.out 1).trans rfl
     have hcz31_2 : w5.cell? ⟨gb269, 2, none⟩ = some (.int .i64 a1_2) := (Sq.o BK269.out 2).trans rfl
     have hcz31_3 : w5.cell? ⟨gb269, 3, none⟩ = some (.slice A1_3 l1_3.length c1_3) := (Sq.o BK269.out 3).trans rfl
     have hcz31_4 : w5.cell? ⟨gb269, 4, none⟩ = some (.slice A1_4 l1_4.length c1_4) := (Sq.o BK269.out 4).trans rfl
     have hcz31_5 : w5.cell? ⟨gb269, 5, none⟩ = some (.string a1_5) := (Sq.o BK269.out 5).trans rfl
     have hcz31_6 : w5.cell? ⟨gb269, 6, none⟩ = some (.int .i64 a1_6) := (Sq.o BK269.out 6).trans rfl
     have hcz31_7 : w5.cell? ⟨gb269, 7, none⟩ = some (.int .i64 a1_7) := (Sq.o BK269.out 7).trans rfl
     have hcz31_8 : w5.cell? ⟨gb269, 8, none⟩ = some (.int .i64 a1_8) := (Sq.o BK269.out 8).trans rfl
     have hcz31_9 : w5.cell? ⟨gb269, 9, none⟩ = some (.slice A1_9 l1_9.length c1_9) := (Sq.o BK269.out 9).trans rfl
     have hcz31_10 : w5.cell? ⟨gb269, 10, none⟩ = some (.slice A1_10 l1_10.length c1_10) := (Sq.o BK269.out 10).trans rfl
     have hcz31_11 : w5.cell? ⟨gb269, 11, none⟩ = some (.int .i64 a1_11) := (Sq.o BK269.out 11).trans rfl
     have hfz31_0 := Sq.r BK269.out 0
     have hfz31_1 := Sq.r BK269.out 1
     have hfz31_2 := Sq.r BK269.out 2
     have hfz31_3 := Sq.r BK269.out 3
     have hfz31_4 := Sq.r BK269.out 4
     have hfz31_5 := Sq.r BK269.out 5
     have hfz31_6 := Sq.r BK269.out 6
     have hfz31_7 := Sq.r BK269.out 7
     have hfz31_8 := Sq.r BK269.out 8
     have hfz31_9 := Sq.r BK269.out 9
     have hfz31_10 := Sq.r BK269.out 10
     have hfz31_11 := Sq.r BK269.out 11
     go_upto_if 32 with (first | ((with_reducible refine gate_callee (f := 25) rfl ?_); refine goesL_ (some 31) rfl rfl Try.func25 (by kernel_rfl) rfl #[.slice A0_4 l0_4.length c0_4, .slice A1_4 l1_4.length c1_4] rfl (by (try simp only [List.map_toArray, List.map_cons, List.map_nil]); first | done | rfl | (simp only [List.length_drop, List.length_take]; rfl)) ?_; (with_reducible refine (laws_eqInt64S.calls k _ _ l0_4 _ _ l1_4 t272 _ ?side1 ?side2 ?side3 ?side4 A27.out).mono ?_); (case side1 => repeat (first | exact (Sq.a1 HR0_4.out HB.out) | (with_reducible refine Sq.s ?_ _) | (with_reducible refine Sq.t ?_ _) | (with_reducible refine Sq.u ?_))); (case side2 => exact HC0_4.out); (case side3 => repeat (first | exact (Sq.a1 HR1_4.out HB.out) | (with_reducible refine Sq.s ?_ _) | (with_reducible refine Sq.t ?_ _) | (with_reducible refine Sq.u ?_))); (case side4 => exact HC1_4.out); rintro e w' ⟨rfl, ⟨nd, rfl⟩⟩; refine ⟨_, rfl, ?_⟩))
     (try simp only [Act.put, List.setIfInBounds_toArray, List.set_cons_zero, List.set_cons_succ])
     have H := HC28.out
     clear HC28
     by_cases c32 : t272 = true
     ·subst c32
      rw [if_pos rfl] at H
      have HC33 := Sq.l H
      clear H; have hnb34 := NB268_269.out; have hnc34 := NB269_268.out
      have hcz35_0 : w5.cell? ⟨gb268, 0, none⟩ = some (.int .i64 a0_0) := (Sq.o BK268.out 0).trans rfl
      have hcz35_1 : w5.cell? ⟨gb268, 1, none⟩ = some (.slice A0_1 l0_1.length c0_1) := (Sq.o BK268.out 1).trans rfl
      have hcz35_2 : w5.cell? ⟨gb268, 2, none⟩ = some (.int .i64 a0_2) := (Sq.o BK268.out 2).trans rfl
      have hcz35_3 : w5.cell? ⟨gb268, 3, none⟩ = some (.slice A0_3 l0_3.length c0_3) := (Sq.o BK268.out 3).trans rfl
      have hcz35_4 : w5.cell? ⟨gb268, 4, none⟩ = some (.slice A0_4 l0_4.length c0_4) := (Sq.o BK268.out 4).trans rfl
      have hcz35_5 : w5.cell? ⟨gb268, 5, none⟩ = some (.string a0_5) := (Sq.o BK268.out 5).trans rfl
      have hcz35_6 : w5.cell? ⟨gb268, 6, none⟩ = some (.int .i64 a0_6) := (Sq.o BK268.out 6).trans rfl
      have hcz35_7 : w5.cell? ⟨gb268, 7, none⟩ = some (.int .i64 a0_7) := (Sq.o BK268.out 7).trans rfl
      have hcz35_8 : w5.cell? ⟨gb268, 8, none⟩ = some (.int .i64 a0_8) := (Sq.o BK268.out 8).trans rfl
      have hcz35_9 : w5.cell? ⟨gb268, 9, none⟩ = some (.slice A0_9 l0_9.length c0_9) := (Sq.o BK268.out 9).trans rfl
      have hcz35_10 : w5.cell? ⟨gb268, 10, none⟩ = some (.slice A0_10 l0_10.length c0_10) := (Sq.o BK268.out 10).trans rfl
      have hcz35_11 : w5.cell? ⟨gb268, 11, none⟩ = some (.int .i64 a0_11) := (Sq.o BK268.out 11).trans rfl
      have hfz35_0 := Sq.r BK268.out 0
      have hfz35_1 := Sq.r BK268.out 1
      have hfz35_2 := Sq.r BK268.out 2
      have hfz35_3 := Sq.r BK268.out 3
      have hfz35_4 := Sq.r BK268.out 4
      have hfz35_5 := Sq.r BK268.out 5
      have hfz35_6 := Sq.r BK268.out 6
      have hfz35_7 := Sq.r BK268.out 7
      have hfz35_8 := Sq.r BK268.out 8
      have hfz35_9 := Sq.r BK268.out 9
      have hfz35_10 := Sq.r BK268.out 10
      have hfz35_11 := Sq.r BK268.out 11
      have hcz36_0 : w5.cell? ⟨gb269, 0, none⟩ = some (.int .i64 a1_0) := (Sq.o BK269.out 0).trans rfl
      have hcz36_1 : w5.cell? ⟨gb269, 1, none⟩ = some (.slice A1_1 l1_1.length c1_1) := (Sq.o BK269.out 1).trans rfl
      have hcz36_2 : w5.cell? ⟨gb269, 2, none⟩ = some (.int .i64 a1_2) := (Sq.o BK269.out 2).trans rfl
      have hcz36_3 : w5.cell? ⟨gb269, 3, none⟩ = some (.slice A1_3 l1_3.length c1_3) := (Sq.o BK269.out 3).trans rfl
      have hcz36_4 : w5.cell? ⟨gb269, 4, none⟩ = some (.slice A1_4 l1_4.length c1_4) := (Sq.o BK269.out 4).trans rfl
      have hcz36_5 : w5.cell? ⟨gb269, 5, none⟩ = some (.string a1_5) := (Sq.o BK269.out 5).trans rfl
      have hcz36_6 : w5.cell? ⟨gb269, 6, none⟩ = some (.int .i64 a1_6) := (Sq.o BK269.out 6).trans rfl
      have hcz36_7 : w5.cell? ⟨gb269, 7, none⟩ = some (.int .i64 a1_7) := (Sq.o BK269.out 7).trans rfl
      have hcz36_8 : w5.cell? ⟨gb269, 8, none⟩ = some (.int .i64 a1_8) := (Sq.o BK269.out 8).trans rfl
      have hcz36_9 : w5.cell? ⟨gb269, 9, none⟩ = some (.slice A1_9 l1_9.length c1_9) := (Sq.o BK269.out 9).trans rfl
      have hcz36_10 : w5.cell? ⟨gb269, 10, none⟩ = some (.slice A1_10 l1_10.length c1_10) := (Sq.o BK269.out 10).trans rfl
      have hcz36_11 : w5.cell? ⟨gb269, 11, none⟩ = some (.int .i64 a1_11) := (Sq.o BK269.out 11).trans rfl
      have hfz36_0 := Sq.r BK269.out 0
      have hfz36_1 := Sq.r BK269.out 1
      have hfz36_2 := Sq.r BK269.out 2
      have hfz36_3 := Sq.r BK269.out 3
      have hfz36_4 := Sq.r BK269.out 4
      have hfz36_5 := Sq.r BK269.out 5
      have hfz36_6 := Sq.r BK269.out 6
      have hfz36_7 := Sq.r BK269.out 7
      have hfz36_8 := Sq.r BK269.out 8
      have hfz36_9 := Sq.r BK269.out 9
      have hfz36_10 := Sq.r BK269.out 10
      have hfz36_11 := Sq.r BK269.out 11
      go_upto_if 37 with (fail)
      have H := HC33.out
      clear HC33
      by_cases c37 : a0_5.toList = a1_5.toList
      ·rw [if_pos c37] at H
       have c37b0 : (a0_5.toList == a1_5.toList) = true := beq_iff_eq.mpr c37
       have c37b1 : (a0_5.toList != a1_5.toList) = false := bne_eq_false_iff_eq.mpr c37
       clear c37
       (first | rw [c37b0] | (simp only [i64_w, i32_w]; rw [c37b0]) | skip)
       have HC38 := Sq.l H
       clear H; have hnb39 := NB268_269.out; have hnc39 := NB269_268.out
       have hcz40_0 : w5.cell? ⟨gb268, 0, none⟩ = some (.int .i64 a0_0) := (Sq.o BK268.out 0).trans rfl
       have hcz40_1 : w5.cell? ⟨gb268, 1, none⟩ = some (.slice A0_1 l0_1.length c0_1) := (Sq.o BK268.out 1).trans rfl
       have hcz40_2 : w5.cell? ⟨gb268, 2, none⟩ = some (.int .i64 a0_2) := (Sq.o BK268.out 2).trans rfl
       have hcz40_3 : w5.cell? ⟨gb268, 3, none⟩ = some (.slice A0_3 l0_3.length c0_3) := (Sq.o BK268.out 3).trans rfl
       have hcz40_4 : w5.cell? ⟨gb268, 4, none⟩ = some (.slice A0_4 l0_4.length c0_4) := (Sq.o BK268.out 4).trans rfl
       have hcz40_5 : w5.cell? ⟨gb268, 5, none⟩ = some (.string a0_5) := (Sq.o BK268.out 5).trans rfl
       have hcz40_6 : w5.cell? ⟨gb268, 6, none⟩ = some (.int .i64 a0_6) := (Sq.o BK268.out 6).trans rfl
       have hcz40_7 : w5.cell? ⟨gb268, 7, none⟩ = some (.int .i64 a0_7) := (Sq.o BK268.out 7).trans rfl
       have hcz40_8 : w5.cell? ⟨gb268, 8, none⟩ = some (.int .i64 a0_8) := (Sq.o BK268.out 8).trans rfl
       have hcz40_9 : w5.cell? ⟨gb268, 9, none⟩ = some (.slice A0_9 l0_9.length c0_9) := (Sq.o BK268.out 9).trans rfl
       have hcz40_10 : w5.cell? ⟨gb268, 10, none⟩ = some (.slice A0_10 l0_10.length c0_10) := (Sq.o BK268.out 10).trans rfl
       have hcz40_11 : w5.cell? ⟨gb268, 11, none⟩ = some (.int .i64 a0_11) := (Sq.o BK268.out 11).trans rfl
       have hfz40_0 := Sq.r BK268.out 0
       have hfz40_1 := Sq.r BK268.out 1
       have hfz40_2 := Sq.r BK268.out 2
       have hfz40_3 := Sq.r BK268.out 3
       have hfz40_4 := Sq.r BK268.out 4
       have hfz40_5 := Sq.r BK268.out 5
       have hfz40_6 := Sq.r BK268.out 6
       have hfz40_7 := Sq.r BK268.out 7
       have hfz40_8 := Sq.r BK268.out 8
       have hfz40_9 := Sq.r BK268.out 9
       have hfz40_10 := Sq.r BK268.out 10
       have hfz40_11 := Sq.r BK268.out 11
       have hcz41_0 : w5.cell? ⟨gb269, 0, none⟩ = some (.int .i64 a1_0) := (Sq.o BK269.out 0).trans rfl
       have hcz41_1 : w5.cell? ⟨gb269, 1, none⟩ = some (.slice A1_1 l1_1.length c1_1) := (Sq.o BK269.out 1).trans rfl
       have hcz41_2 : w5.cell? ⟨gb269, 2, none⟩ = some (.int .i64 a1_2) := (Sq.o BK269.out 2).trans rfl
       have hcz41_3 : w5.cell? ⟨gb269, 3, none⟩ = some (.slice A1_3 l1_3.length c1_3) := (Sq.o BK269.out 3).trans rfl
       have hcz41_4 : w5.cell? ⟨gb269, 4, none⟩ = some (.slice A1_4 l1_4.length c1_4) := (Sq.o BK269.out 4).trans rfl
       have hcz41_5 : w5.cell? ⟨gb269, 5, none⟩ = some (.string a1_5) := (Sq.o BK269.out 5).trans rfl
       have hcz41_6 : w5.cell? ⟨gb269, 6, none⟩ = some (.int .i64 a1_6) := (Sq.o BK269.out 6).trans rfl
       have hcz41_7 : w5.cell? ⟨gb269, 7, none⟩ = some (.int .i64 a1_7) := (Sq.o BK269.out 7).trans rfl
       have hcz41_8 : w5.cell? ⟨gb269, 8, none⟩ = some (.int .i64 a1_8) := (Sq.o BK269.out 8).trans rfl
       have hcz41_9 : w5.cell? ⟨gb269, 9, none⟩ = some (.slice A1_9 l1_9.length c1_9) := (Sq.o BK269.out 9).trans rfl
       have hcz41_10 : w5.cell? ⟨gb269, 10, none⟩ = some (.slice A1_10 l1_10.length c1_10) := (Sq.o BK269.out 10).trans rfl
       have hcz41_11 : w5.cell? ⟨gb269, 11, none⟩ = some (.int .i64 a1_11) := (Sq.o BK269.out 11).trans rfl
       have hfz41_0 := Sq.r BK269.out 0
       have hfz41_1 := Sq.r BK269.out 1
       have hfz41_2 := Sq.r BK269.out 2
       have hfz41_3 := Sq.r BK269.out 3
       have hfz41_4 := Sq.r BK269.out 4
       have hfz41_5 := Sq.r BK269.out 5
       have hfz41_6 := Sq.r BK269.out 6
       have hfz41_7 := Sq.r BK269.out 7
       have hfz41_8 := Sq.r BK269.out 8
       have hfz41_9 := Sq.r BK269.out 9
       have hfz41_10 := Sq.r BK269.out 10
       have hfz41_11 := Sq.r BK269.out 11
       go_upto_if 42 with (fail)
       have H := HC38.out
       clear HC38
       by_cases c42 : a0_6 = a1_6
       ·rw [if_pos c42] at H
        have c42b0 : (a0_6 == a1_6) = true := beq_iff_eq.mpr c42
        have c42b1 : (a0_6 != a1_6) = false := bne_eq_false_iff_eq.mpr c42
        clear c42
        (first | rw [c42b0] | (simp only [i64_w, i32_w]; rw [c42b0]) | skip)
        have HC43 := Sq.l H
        clear H; have hnb44 := NB268_269.out; have hnc44 := NB269_268.out
        have hcz45_0 : w5.cell? ⟨gb268, 0, none⟩ = some (.int .i64 a0_0) := (Sq.o BK268.out 0).trans rfl
        have hcz45_1 : w5.cell? ⟨gb268, 1, none⟩ = some (.slice A0_1 l0_1.length c0_1) := (Sq.o BK268.out 1).trans rfl
        have hcz45_2 : w5.cell? ⟨gb268, 2, none⟩ = some (.int .i64 a0_2) := (Sq.o BK268.out 2).trans rfl
        have hcz45_3 : w5.cell? ⟨gb268, 3, none⟩ = some (.slice A0_3 l0_3.length c0_3) := (Sq.o BK268.out 3).trans rfl
        have hcz45_4 : w5.cell? ⟨gb268, 4, none⟩ = some (.slice A0_4 l0_4.length c0_4) := (Sq.o BK268.out 4).trans rfl
        have hcz45_5 : w5.cell? ⟨gb268, 5, none⟩ = some (.string a0_5) := (Sq.o BK268.out 5).trans rfl
        have hcz45_6 : w5.cell? ⟨gb268, 6, none⟩ = some (.int .i64 a0_6) := (Sq.o BK268.out 6).trans rfl
        have hcz45_7 : w5.cell? ⟨gb268, 7, none⟩ = some (.int .i64 a0_7) := (Sq.o BK268.out 7).trans rfl
        have hcz45_8 : w5.cell? ⟨gb268, 8, none⟩ = some (.int .i64 a0_8) := (Sq.o BK268.out 8).trans rfl
        have hcz45_9 : w5.cell? ⟨gb268, 9, none⟩ = some (.slice A0_9 l0_9.length c0_9) := (Sq.o BK268.out 9).trans rfl
        have hcz45_10 : w5.cell? ⟨gb268, 10, none⟩ = some (.slice A0_10 l0_10.length c0_10) := (Sq.o BK268.out 10).trans rfl
        have hcz45_11 : w5.cell? ⟨gb268, 11, none⟩ = some (.int .i64 a0_11) := (Sq.o BK268.out 11).trans rfl
        have hfz45_0 := Sq.r BK268.out 0
        have hfz45_1 := Sq.r BK268.out 1
        have hfz45_2 := Sq.r BK268.out 2
        have hfz45_3 := Sq.r BK268.out 3
        have hfz45_4 := Sq.r BK268.out 4
        have hfz45_5 := Sq.r BK268.out 5
        have hfz45_6 := Sq.r BK268.out 6
        have hfz45_7 := Sq.r BK268.out 7
        have hfz45_8 := Sq.r BK268.out 8
        have hfz45_9 := Sq.r BK268.out 9
        have hfz45_10 := Sq.r BK268.out 10
        have hfz45_11 := Sq.r BK268.out 11
        have hcz46_0 : w5.cell? ⟨gb269, 0, none⟩ = some (.int .i64 a1_0) := (Sq.o BK269.out 0).trans rfl
        have hcz46_1 : w5.cell? ⟨gb269, 1, none⟩ = some (.slice A1_1 l1_1.length c1_1) := (Sq.o BK269.out 1).trans rfl
        have hcz46_2 : w5.cell? ⟨gb269, 2, none⟩ = some (.int .i64 a1_2) := (Sq.o BK269.out 2).trans rfl
        have hcz46_3 : w5.cell? ⟨gb269, 3, none⟩ = some (.slice A1_3 l1_3.length c1_3) := (Sq.o BK269.out 3).trans rfl
        have hcz46_4 : w5.cell? ⟨gb269, 4, none⟩ = some (.slice A1_4 l1_4.length c1_4) := (Sq.o BK269.out 4).trans rfl
        have hcz46_5 : w5.cell? ⟨gb269, 5, none⟩ = some (.string a1_5) := (Sq.o BK269.out 5).trans rfl
        have hcz46_6 : w5.cell? ⟨gb269, 6, none⟩ = some (.int .i64 a1_6) := (Sq.o BK269.out 6).trans rfl
        have hcz46_7 : w5.cell? ⟨gb269, 7, none⟩ = some (.int .i64 a1_7) := (Sq.o BK269.out 7).trans rfl
        have hcz46_8 : w5.cell? ⟨gb269, 8, none⟩ = some (.int .i64 a1_8) := (Sq.o BK269.out 8).trans rfl
        have hcz46_9 : w5.cell? ⟨gb269, 9, none⟩ = some (.slice A1_9 l1_9.length c1_9) := (Sq.o BK269.out 9).trans rfl
        have hcz46_10 : w5.cell? ⟨gb269, 10, none⟩ = some (.slice A1_10 l1_10.length c1_10) := (Sq.o BK269.out 10).trans rfl
        have hcz46_11 : w5.cell? ⟨gb269, 11, none⟩ = some (.int .i64 a1_11) := (Sq.o BK269.out 11).trans rfl
        have hfz46_0 := Sq.r BK269.out 0
        have hfz46_1 := Sq.r BK269.out 1
        have hfz46_2 := Sq.r BK269.out 2
        have hfz46_3 := Sq.r BK269.out 3
        have hfz46_4 := Sq.r BK269.out 4
        have hfz46_5 := Sq.r BK269.out 5
        have hfz46_6 := Sq.r BK269.out 6
        have hfz46_7 := Sq.r BK269.out 7
        have hfz46_8 := Sq.r BK269.out 8
        have hfz46_9 := Sq.r BK269.out 9
        have hfz46_10 := Sq.r BK269.out 10
        have hfz46_11 := Sq.r BK269.out 11
        go_upto_if 47 with (fail)
        have H := HC43.out
        clear HC43
        by_cases c47 : a0_7 = a1_7
        ·rw [if_pos c47] at H
         have c47b0 : (a0_7 == a1_7) = true := beq_iff_eq.mpr c47
         have c47b1 : (a0_7 != a1_7) = false := bne_eq_false_iff_eq.mpr c47
         clear c47
         (first | rw [c47b0] | (simp only [i64_w, i32_w]; rw [c47b0]) | skip)
         have HC48 := Sq.l H
         clear H; have hnb49 := NB268_269.out; have hnc49 := NB269_268.out
         have hcz50_0 : w5.cell? ⟨gb268, 0, none⟩ = some (.int .i64 a0_0) := (Sq.o BK268.out 0).trans rfl
         have hcz50_1 : w5.cell? ⟨gb268, 1, none⟩ = some (.slice A0_1 l0_1.length c0_1) := (Sq.o BK268.out 1).trans rfl
         have hcz50_2 : w5.cell? ⟨gb268, 2, none⟩ = some (.int .i64 a0_2) := (Sq.o BK268.out 2).trans rfl
         have hcz50_3 : w5.cell? ⟨gb268, 3, none⟩ = some (.slice A0_3 l0_3.length c0_3) := (Sq.o BK268.out 3).trans rfl
         have hcz50_4 : w5.cell? ⟨gb268, 4, none⟩ = some (.slice A0_4 l0_4.length c0_4) := (Sq.o BK268.out 4).trans rfl
         have hcz50_5 : w5.cell? ⟨gb268, 5, none⟩ = some (.string a0_5) := (Sq.o BK268.out 5).trans rfl
         have hcz50_6 : w5.cell? ⟨gb268, 6, none⟩ = some (.int .i64 a0_6) := (Sq.o BK268.out 6).trans rfl
         have hcz50_7 : w5.cell? ⟨gb268, 7, none⟩ = some (.int .i64 a0_7) := (Sq.o BK268.out 7).trans rfl
         have hcz50_8 : w5.cell? ⟨gb268, 8, none⟩ = some (.int .i64 a0_8) := (Sq.o BK268.out 8).trans rfl
         have hcz50_9 : w5.cell? ⟨gb268, 9, none⟩ = some (.slice A0_9 l0_9.length c0_9) := (Sq.o BK268.out 9).trans rfl
         have hcz50_10 : w5.cell? ⟨gb268, 10, none⟩ = some (.slice A0_10 l0_10.length c0_10) := (Sq.o BK268.out 10).trans rfl
         have hcz50_11 : w5.cell? ⟨gb268, 11, none⟩ = some (.int .i64 a0_11) := (Sq.o BK268.out 11).trans rfl
         have hfz50_0 := Sq.r BK268.out 0
         have hfz50_1 := Sq.r BK268.out 1
         have hfz50_2 := Sq.r BK268.out 2
         have hfz50_3 := Sq.r BK268.out 3
         have hfz50_4 := Sq.r BK268.out 4
         have hfz50_5 := Sq.r BK268.out 5
         have hfz50_6 := Sq.r BK268.out 6
         have hfz50_7 := Sq.r BK268.out 7
         have hfz50_8 := Sq.r BK268.out 8
         have hfz50_9 := Sq.r BK268.out 9
         have hfz50_10 := Sq.r BK268.out 10
         have hfz50_11 := Sq.r BK268.out 11
         have hcz51_0 : w5.cell? ⟨gb269, 0, none⟩ = some (.int .i64 a1_0) := (Sq.o BK269.out 0).trans rfl
         have hcz51_1 : w5.cell? ⟨gb269, 1, none⟩ = some (.slice A1_1 l1_1.length c1_1) := (Sq.o BK269.out 1).trans rfl
         have hcz51_2 : w5.cell? ⟨gb269, 2, none⟩ = some (.int .i64 a1_2) := (Sq.o BK269.out 2).trans rfl
         have hcz51_3 : w5.cell? ⟨gb269, 3, none⟩ = some (.slice A1_3 l1_3.length c1_3) := (Sq.o BK269.out 3).trans rfl
         have hcz51_4 : w5.cell? ⟨gb269, 4, none⟩ = some (.slice A1_4 l1_4.length c1_4) := (Sq.o BK269.out 4).trans rfl
         have hcz51_5 : w5.cell? ⟨gb269, 5, none⟩ = some (.string a1_5) := (Sq.o BK269.out 5).trans rfl
         have hcz51_6 : w5.cell? ⟨gb269, 6, none⟩ = some (.int .i64 a1_6) := (Sq.o BK269.out 6).trans rfl
         have hcz51_7 : w5.cell? ⟨gb269, 7, none⟩ = some (.int .i64 a1_7) := (Sq.o BK269.out 7).trans rfl
         have hcz51_8 : w5.cell? ⟨gb269, 8, none⟩ = some (.int .i64 a1_8) := (Sq.o BK269.out 8).trans rfl
         have hcz51_9 : w5.cell? ⟨gb269, 9, none⟩ = some (.slice A1_9 l1_9.length c1_9) := (Sq.o BK269.out 9).trans rfl
         have hcz51_10 : w5.cell? ⟨gb269, 10, none⟩ = some (.slice A1_10 l1_10.length c1_10) := (Sq.o BK269.out 10).trans rfl
         have hcz51_11 : w5.cell? ⟨gb269, 11, none⟩ = some (.int .i64 a1_11) := (Sq.o BK269.out 11).trans rfl
         have hfz51_0 := Sq.r BK269.out 0
         have hfz51_1 := Sq.r BK269.out 1
         have hfz51_2 := Sq.r BK269.out 2
         have hfz51_3 := Sq.r BK269.out 3
         have hfz51_4 := Sq.r BK269.out 4
         have hfz51_5 := Sq.r BK269.out 5
         have hfz51_6 := Sq.r BK269.out 6
         have hfz51_7 := Sq.r BK269.out 7
         have hfz51_8 := Sq.r BK269.out 8
         have hfz51_9 := Sq.r BK269.out 9
         have hfz51_10 := Sq.r BK269.out 10
         have hfz51_11 := Sq.r BK269.out 11
         go_upto_if 52 with (fail)
         have H := HC48.out
         clear HC48
         by_cases c52 : a0_8 = a1_8
         ·rw [if_pos c52] at H
          have c52b0 : (a0_8 == a1_8) = true := beq_iff_eq.mpr c52
          have c52b1 : (a0_8 != a1_8) = false := bne_eq_false_iff_eq.mpr c52
          clear c52
          (first | rw [c52b0] | (simp only [i64_w, i32_w]; rw [c52b0]) | skip)
          replace H := Option.bind_eq_some_iff.mp H
          obtain ⟨t273, A530, H⟩ := H
          (try dsimp only at H)
          have A53 := Sq.l A530
          clear A530
          have HC54 := Sq.l H
          clear H; have hnb55 := NB268_269.out; have hnc55 := NB269_268.out
          have hcz56_0 : w5.cell? ⟨gb268, 0, none⟩ = some (.int .i64 a0_0) := (Sq.o BK268.out 0).trans rfl
          have hcz56_1 : w5.cell? ⟨gb268, 1, none⟩ = some (.slice A0_1 l0_1.length c0_1) := (Sq.o BK268.out 1).trans rfl
          have hcz56_2 : w5.cell? ⟨gb268, 2, none⟩ = some (.int .i64 a0_2) := (Sq.o BK268.out 2).trans rfl
          have hcz56_3 : w5.cell? ⟨gb268, 3, none⟩ = some (.slice A0_3 l0_3.length c0_3) := (Sq.o BK268.out 3).trans rfl
          have hcz56_4 : w5.cell? ⟨gb268, 4, none⟩ = some (.slice A0_4 l0_4.length c0_4) := (Sq.o BK268.out 4).trans rfl
          have hcz56_5 : w5.cell? ⟨gb268, 5, none⟩ = some (.string a0_5) := (Sq.o BK268.out 5).trans rfl
          have hcz56_6 : w5.cell? ⟨gb268, 6, none⟩ = some (.int .i64 a0_6) := (Sq.o BK268.out 6).trans rfl
          have hcz56_7 : w5.cell? ⟨gb268, 7, none⟩ = some (.int .i64 a0_7) := (Sq.o BK268.out 7).trans rfl
          have hcz56_8 : w5.cell? ⟨gb268, 8, none⟩ = some (.int .i64 a0_8) := (Sq.o BK268.out 8).trans rfl
          have hcz56_9 : w5.cell? ⟨gb268, 9, none⟩ = some (.slice A0_9 l0_9.length c0_9) := (Sq.o BK268.out 9).trans rfl
          have hcz56_10 : w5.cell? ⟨gb268, 10, none⟩ = some (.slice A0_10 l0_10.length c0_10) := (Sq.o BK268.out 10).trans rfl
          have hcz56_11 : w5.cell? ⟨gb268, 11, none⟩ = some (.int .i64 a0_11) := (Sq.o BK268.out 11).trans rfl
          have hfz56_0 := Sq.r BK268.out 0
          have hfz56_1 := Sq.r BK268.out 1
          have hfz56_2 := Sq.r BK268.out 2
          have hfz56_3 := Sq.r BK268.out 3
          have hfz56_4 := Sq.r BK268.out 4
          have hfz56_5 := Sq.r BK268.out 5
          have hfz56_6 := Sq.r BK268.out 6
          have hfz56_7 := Sq.r BK268.out 7
          have hfz56_8 := Sq.r BK268.out 8
          have hfz56_9 := Sq.r BK268.out 9
          have hfz56_10 := Sq.r BK268.out 10
          have hfz56_11 := Sq.r BK268.out 11
          have hcz57_0 : w5.cell? ⟨gb269, 0, none⟩ = some (.int .i64 a1_0) := (Sq.o BK269.out 0).trans rfl
          have hcz57_1 : w5.cell? ⟨gb269, 1, none⟩ = some (.slice A1_1 l1_1.length c1_1) := (Sq.o BK269.out 1).trans rfl
          have hcz57_2 : w5.cell? ⟨gb269, 2, none⟩ = some (.int .i64 a1_2) := (Sq.o BK269.out 2).trans rfl
          have hcz57_3 : w5.cell? ⟨gb269, 3, none⟩ = some (.slice A1_3 l1_3.length c1_3) := (Sq.o BK269.out 3).trans rfl
          have hcz57_4 : w5.cell? ⟨gb269, 4, none⟩ = some (.slice A1_4 l1_4.length c1_4) := (Sq.o BK269.out 4).trans rfl
          have hcz57_5 : w5.cell? ⟨gb269, 5, none⟩ = some (.string a1_5) := (Sq.o BK269.out 5).trans rfl
          have hcz57_6 : w5.cell? ⟨gb269, 6, none⟩ = some (.int .i64 a1_6) := (Sq.o BK269.out 6).trans rfl
          have hcz57_7 : w5.cell? ⟨gb269, 7, none⟩ = some (.int .i64 a1_7) := (Sq.o BK269.out 7).trans rfl
          have hcz57_8 : w5.cell? ⟨gb269, 8, none⟩ = some (.int .i64 a1_8) := (Sq.o BK269.out 8).trans rfl
          have hcz57_9 : w5.cell? ⟨gb269, 9, none⟩ = some (.slice A1_9 l1_9.length c1_9) := (Sq.o BK269.out 9).trans rfl
          have hcz57_10 : w5.cell? ⟨gb269, 10, none⟩ = some (.slice A1_10 l1_10.length c1_10) := (Sq.o BK269.out 10).trans rfl
          have hcz57_11 : w5.cell? ⟨gb269, 11, none⟩ = some (.int .i64 a1_11) := (Sq.o BK269.out 11).trans rfl
          have hfz57_0 := Sq.r BK269.out 0
          have hfz57_1 := Sq.r BK269.out 1
          have hfz57_2 := Sq.r BK269.out 2
          have hfz57_3 := Sq.r BK269.out 3
          have hfz57_4 := Sq.r BK269.out 4
          have hfz57_5 := Sq.r BK269.out 5
          have hfz57_6 := Sq.r BK269.out 6
          have hfz57_7 := Sq.r BK269.out 7
          have hfz57_8 := Sq.r BK269.out 8
          have hfz57_9 := Sq.r BK269.out 9
          have hfz57_10 := Sq.r BK269.out 10
          have hfz57_11 := Sq.r BK269.out 11
          go_upto_if 58 with (first | ((with_reducible refine gate_callee (f := 88) rfl ?_); refine goesL_ (some 57) rfl rfl Try.func88 (by kernel_rfl) rfl #[.slice A0_9 l0_9.length c0_9, .slice A1_9 l1_9.length c1_9] rfl (by (try simp only [List.map_toArray, List.map_cons, List.map_nil]); first | done | rfl | (simp only [List.length_drop, List.length_take]; rfl)) ?_; (with_reducible refine (laws_eqPortValueS.calls k _ _ l0_9 _ _ l1_9 t273 _ ?side1 ?side2 ?side3 ?side4 A53.out).mono ?_); (case side1 => repeat (first | exact (Sq.a1 HR0_9.out HB.out) | (with_reducible refine Sq.s ?_ _) | (with_reducible refine Sq.t ?_ _) | (with_reducible refine Sq.u ?_))); (case side2 => exact HC0_9.out); (case side3 => repeat (first | exact (Sq.a1 HR1_9.out HB.out) | (with_reducible refine Sq.s ?_ _) | (with_reducible refine Sq.t ?_ _) | (with_reducible refine Sq.u ?_))); (case side4 => exact HC1_9.out); rintro e w58 ⟨rfl, hb⟩; refine ⟨_, rfl, ?_⟩; have n0_ := Sq.l (Sq.m (Sq.W BK268.out) hb); have n1_ := Sq.l (Sq.m (Sq.W BK269.out) hb); have n2_ := Sq.l (Sq.a4 (by repeat (first | (with_reducible first | exact HB.out | apply Sq.i | apply Sq.j | apply Sq.k | refine Sq.h ?_ GE268.out | refine Sq.h ?_ GE269.out) | exact HB.out)) hb); clear BK268 BK269 HB; have BK268 := n0_; have BK269 := n1_; have HB := n2_; clear n0_ n1_ n2_; (try clear hb); (try clear hb2); (try clear hk); (try clear hi)))
          (try simp only [Act.put, List.setIfInBounds_toArray, List.set_cons_zero, List.set_cons_succ])
          have H := HC54.out
          clear HC54
          by_cases c59 : t273 = true
          ·subst c59
           rw [if_pos rfl] at H
           replace H := Option.bind_eq_some_iff.mp H
           obtain ⟨t274, A600, H⟩ := H
           (try dsimp only at H)
           have A60 := Sq.l A600
           clear A600
           have HC61 := Sq.l H
           clear H; have hnb62 := NB268_269.out; have hnc62 := NB269_268.out
           have hcz63_0 : w58.cell? ⟨gb268, 0, none⟩ = some (.int .i64 a0_0) := (Sq.o BK268.out 0).trans rfl
           have hcz63_1 : w58.cell? ⟨gb268, 1, none⟩ = some (.slice A0_1 l0_1.length c0_1) := (Sq.o BK268.out 1).trans rfl
           have hcz63_2 : w58.cell? ⟨gb268, 2, none⟩ = some (.int .i64 a0_2) := (Sq.o BK268.out 2).trans rfl
           have hcz63_3 : w58.cell? ⟨gb268, 3, none⟩ = some (.slice A0_3 l0_3.length c0_3) := (Sq.o BK268.out 3).trans rfl
           have hcz63_4 : w58.cell? ⟨gb268, 4, none⟩ = some (.slice A0_4 l0_4.length c0_4) := (Sq.o BK268.out 4).trans rfl
           have hcz63_5 : w58.cell? ⟨gb268, 5, none⟩ = some (.string a0_5) := (Sq.o BK268.out 5).trans rfl
           have hcz63_6 : w58.cell? ⟨gb268, 6, none⟩ = some (.int .i64 a0_6) := (Sq.o BK268.out 6).trans rfl
           have hcz63_7 : w58.cell? ⟨gb268, 7, none⟩ = some (.int .i64 a0_7) := (Sq.o BK268.out 7).trans rfl
           have hcz63_8 : w58.cell? ⟨gb268, 8, none⟩ = some (.int .i64 a0_8) := (Sq.o BK268.out 8).trans rfl
           have hcz63_9 : w58.cell? ⟨gb268, 9, none⟩ = some (.slice A0_9 l0_9.length c0_9) := (Sq.o BK268.out 9).trans rfl
           have hcz63_10 : w58.cell? ⟨gb268, 10, none⟩ = some (.slice A0_10 l0_10.length c0_10) := (Sq.o BK268.out 10).trans rfl
           have hcz63_11 : w58.cell? ⟨gb268, 11, none⟩ = some (.int .i64 a0_11) := (Sq.o BK268.out 11).trans rfl
           have hfz63_0 := Sq.r BK268.out 0
           have hfz63_1 := Sq.r BK268.out 1
           have hfz63_2 := Sq.r BK268.out 2
           have hfz63_3 := Sq.r BK268.out 3
           have hfz63_4 := Sq.r BK268.out 4
           have hfz63_5 := Sq.r BK268.out 5
           have hfz63_6 := Sq.r BK268.out 6
           have hfz63_7 := Sq.r BK268.out 7
           have hfz63_8 := Sq.r BK268.out 8
           have hfz63_9 := Sq.r BK268.out 9
           have hfz63_10 := Sq.r BK268.out 10
           have hfz63_11 := Sq.r BK268.out 11
           have hcz64_0 : w58.cell? ⟨gb269, 0, none⟩ = some (.int .i64 a1_0) := (Sq.o BK269.out 0).trans rfl
           have hcz64_1 : w58.cell? ⟨gb269, 1, none⟩ = some (.slice A1_1 l1_1.length c1_1) := (Sq.o BK269.out 1).trans rfl
           have hcz64_2 : w58.cell? ⟨gb269, 2, none⟩ = some (.int .i64 a1_2) := (Sq.o BK269.out 2).trans rfl
           have hcz64_3 : w58.cell? ⟨gb269, 3, none⟩ = some (.slice A1_3 l1_3.length c1_3) := (Sq.o BK269.out 3).trans rfl
           have hcz64_4 : w58.cell? ⟨gb269, 4, none⟩ = some (.slice A1_4 l1_4.length c1_4) := (Sq.o BK269.out 4).trans rfl
           have hcz64_5 : w58.cell? ⟨gb269, 5, none⟩ = some (.string a1_5) := (Sq.o BK269.out 5).trans rfl
           have hcz64_6 : w58.cell? ⟨gb269, 6, none⟩ = some (.int .i64 a1_6) := (Sq.o BK269.out 6).trans rfl
           have hcz64_7 : w58.cell? ⟨gb269, 7, none⟩ = some (.int .i64 a1_7) := (Sq.o BK269.out 7).trans rfl
           have hcz64_8 : w58.cell? ⟨gb269, 8, none⟩ = some (.int .i64 a1_8) := (Sq.o BK269.out 8).trans rfl
           have hcz64_9 : w58.cell? ⟨gb269, 9, none⟩ = some (.slice A1_9 l1_9.length c1_9) := (Sq.o BK269.out 9).trans rfl
           have hcz64_10 : w58.cell? ⟨gb269, 10, none⟩ = some (.slice A1_10 l1_10.length c1_10) := (Sq.o BK269.out 10).trans rfl
           have hcz64_11 : w58.cell? ⟨gb269, 11, none⟩ = some (.int .i64 a1_11) := (Sq.o BK269.out 11).trans rfl
           have hfz64_0 := Sq.r BK269.out 0
           have hfz64_1 := Sq.r BK269.out 1
           have hfz64_2 := Sq.r BK269.out 2
           have hfz64_3 := Sq.r BK269.out 3
           have hfz64_4 := Sq.r BK269.out 4
           have hfz64_5 := Sq.r BK269.out 5
           have hfz64_6 := Sq.r BK269.out 6
           have hfz64_7 := Sq.r BK269.out 7
           have hfz64_8 := Sq.r BK269.out 8
           have hfz64_9 := Sq.r BK269.out 9
           have hfz64_10 := Sq.r BK269.out 10
           have hfz64_11 := Sq.r BK269.out 11
           go_upto_if 64 with (first | ((with_reducible refine gate_callee (f := 88) rfl ?_); refine goesL_ (some 63) rfl rfl Try.func88 (by kernel_rfl) rfl #[.slice A0_10 l0_10.length c0_10, .slice A1_10 l1_10.length c1_10] rfl (by (try simp only [List.map_toArray, List.map_cons, List.map_nil]); first | done | rfl | (simp only [List.length_drop, List.length_take]; rfl)) ?_; (with_reducible refine (laws_eqPortValueS.calls k _ _ l0_10 _ _ l1_10 t274 _ ?side1 ?side2 ?side3 ?side4 A60.out).mono ?_); (case side1 => repeat (first | exact (Sq.a1 HR0_10.out HB.out) | (with_reducible refine Sq.s ?_ _) | (with_reducible refine Sq.t ?_ _) | (with_reducible refine Sq.u ?_))); (case side2 => exact HC0_10.out); (case side3 => repeat (first | exact (Sq.a1 HR1_10.out HB.out) | (with_reducible refine Sq.s ?_ _) | (with_reducible refine Sq.t ?_ _) | (with_reducible refine Sq.u ?_))); (case side4 => exact HC1_10.out); rintro e w65 ⟨rfl, hb⟩; refine ⟨_, rfl, ?_⟩; have n0_ := Sq.l (Sq.m (Sq.W BK268.out) hb); have n1_ := Sq.l (Sq.m (Sq.W BK269.out) hb); have n2_ := Sq.l (Sq.a4 (by repeat (first | (with_reducible first | exact HB.out | apply Sq.i | apply Sq.j | apply Sq.k | refine Sq.h ?_ GE268.out | refine Sq.h ?_ GE269.out) | exact HB.out)) hb); clear BK268 BK269 HB; have BK268 := n0_; have BK269 := n1_; have HB := n2_; clear n0_ n1_ n2_; (try clear hb); (try clear hb2); (try clear hk); (try clear hi)))
           (try simp only [Act.put, List.setIfInBounds_toArray, List.set_cons_zero, List.set_cons_succ])
           have H := HC61.out
           clear HC61
           by_cases c66 : t274 = true
           ·subst c66
            rw [if_pos rfl] at H
            have HC67 := Sq.l H
            clear H; have hnb68 := NB268_269.out; have hnc68 := NB269_268.out
            have hcz69_0 : w65.cell? ⟨gb268, 0, none⟩ = some (.int .i64 a0_0) := (Sq.o BK268.out 0).trans rfl
            have hcz69_1 : w65.cell? ⟨gb268, 1, none⟩ = some (.slice A0_1 l0_1.length c0_1) := (Sq.o BK268.out 1).trans rfl
            have hcz69_2 : w65.cell? ⟨gb268, 2, none⟩ = some (.int .i64 a0_2) := (Sq.o BK268.out 2).trans rfl
            have hcz69_3 : w65.cell? ⟨gb268, 3, none⟩ = some (.slice A0_3 l0_3.length c0_3) := (Sq.o BK268.out 3).trans rfl
            have hcz69_4 : w65.cell? ⟨gb268, 4, none⟩ = some (.slice A0_4 l0_4.length c0_4) := (Sq.o BK268.out 4).trans rfl
            have hcz69_5 : w65.cell? ⟨gb268, 5, none⟩ = some (.string a0_5) := (Sq.o BK268.out 5).trans rfl
            have hcz69_6 : w65.cell? ⟨gb268, 6, none⟩ = some (.int .i64 a0_6) := (Sq.o BK268.out 6).trans rfl
            have hcz69_7 : w65.cell? ⟨gb268, 7, none⟩ = some (.int .i64 a0_7) := (Sq.o BK268.out 7).trans rfl
            have hcz69_8 : w65.cell? ⟨gb268, 8, none⟩ = some (.int .i64 a0_8) := (Sq.o BK268.out 8).trans rfl
            have hcz69_9 : w65.cell? ⟨gb268, 9, none⟩ = some (.slice A0_9 l0_9.length c0_9) := (Sq.o BK268.out 9).trans rfl
            have hcz69_10 : w65.cell? ⟨gb268, 10, none⟩ = some (.slice A0_10 l0_10.length c0_10) := (Sq.o BK268.out 10).trans rfl
            have hcz69_11 : w65.cell? ⟨gb268, 11, none⟩ = some (.int .i64 a0_11) := (Sq.o BK268.out 11).trans rfl
            have hfz69_0 := Sq.r BK268.out 0
            have hfz69_1 := Sq.r BK268.out 1
            have hfz69_2 := Sq.r BK268.out 2
            have hfz69_3 := Sq.r BK268.out 3
            have hfz69_4 := Sq.r BK268.out 4
            have hfz69_5 := Sq.r BK268.out 5
            have hfz69_6 := Sq.r BK268.out 6
            have hfz69_7 := Sq.r BK268.out 7
            have hfz69_8 := Sq.r BK268.out 8
            have hfz69_9 := Sq.r BK268.out 9
            have hfz69_10 := Sq.r BK268.out 10
            have hfz69_11 := Sq.r BK268.out 11
            have hcz70_0 : w65.cell? ⟨gb269, 0, none⟩ = some (.int .i64 a1_0) := (Sq.o BK269.out 0).trans rfl
            have hcz70_1 : w65.cell? ⟨gb269, 1, none⟩ = some (.slice A1_1 l1_1.length c1_1) := (Sq.o BK269.out 1).trans rfl
            have hcz70_2 : w65.cell? ⟨gb269, 2, none⟩ = some (.int .i64 a1_2) := (Sq.o BK269.out 2).trans rfl
            have hcz70_3 : w65.cell? ⟨gb269, 3, none⟩ = some (.slice A1_3 l1_3.length c1_3) := (Sq.o BK269.out 3).trans rfl
            have hcz70_4 : w65.cell? ⟨gb269, 4, none⟩ = some (.slice A1_4 l1_4.length c1_4) := (Sq.o BK269.out 4).trans rfl
            have hcz70_5 : w65.cell? ⟨gb269, 5, none⟩ = some (.string a1_5) := (Sq.o BK269.out 5).trans rfl
            have hcz70_6 : w65.cell? ⟨gb269, 6, none⟩ = some (.int .i64 a1_6) := (Sq.o BK269.out 6).trans rfl
            have hcz70_7 : w65.cell? ⟨gb269, 7, none⟩ = some (.int .i64 a1_7) := (Sq.o BK269.out 7).trans rfl
            have hcz70_8 : w65.cell? ⟨gb269, 8, none⟩ = some (.int .i64 a1_8) := (Sq.o BK269.out 8).trans rfl
            have hcz70_9 : w65.cell? ⟨gb269, 9, none⟩ = some (.slice A1_9 l1_9.length c1_9) := (Sq.o BK269.out 9).trans rfl
            have hcz70_10 : w65.cell? ⟨gb269, 10, none⟩ = some (.slice A1_10 l1_10.length c1_10) := (Sq.o BK269.out 10).trans rfl
            have hcz70_11 : w65.cell? ⟨gb269, 11, none⟩ = some (.int .i64 a1_11) := (Sq.o BK269.out 11).trans rfl
            have hfz70_0 := Sq.r BK269.out 0
            have hfz70_1 := Sq.r BK269.out 1
            have hfz70_2 := Sq.r BK269.out 2
            have hfz70_3 := Sq.r BK269.out 3
            have hfz70_4 := Sq.r BK269.out 4
            have hfz70_5 := Sq.r BK269.out 5
            have hfz70_6 := Sq.r BK269.out 6
            have hfz70_7 := Sq.r BK269.out 7
            have hfz70_8 := Sq.r BK269.out 8
            have hfz70_9 := Sq.r BK269.out 9
            have hfz70_10 := Sq.r BK269.out 10
            have hfz70_11 := Sq.r BK269.out 11
            go_upto_if 69 with (fail)
            have H := HC67.out
            clear HC67
            by_cases c71 : a0_11 = a1_11
            ·rw [if_pos c71] at H
             have c71b0 : (a0_11 == a1_11) = true := beq_iff_eq.mpr c71
             have c71b1 : (a0_11 != a1_11) = false := bne_eq_false_iff_eq.mpr c71
             clear c71
             (first | rw [c71b0] | (simp only [i64_w, i32_w]; rw [c71b0]) | skip)
             obtain rfl := Option.some.inj H
             go_wp2
             go_ret
             exact ⟨by first | rfl | (simp [errW_none, errW_some] <;> rfl) | (simp [*, errW_none, errW_some] <;> rfl), by repeat (first | (with_reducible first | exact HB.out | apply Sq.i | apply Sq.j | apply Sq.k | refine Sq.h ?_ GE268.out | refine Sq.h ?_ GE269.out) | exact HB.out)⟩
            ·rw [if_neg c71] at H
             have c71b0 : (a0_11 == a1_11) = false := beq_eq_false_iff_ne.mpr c71
             have c71b1 : (a0_11 != a1_11) = true := bne_iff_ne.mpr c71
             (first | rw [c71b0] | (simp only [i64_w, i32_w]; rw [c71b0]) | skip)
             obtain rfl := Option.some.inj H
             go_wp2
             go_ret
             exact ⟨by first | rfl | (simp [errW_none, errW_some] <;> rfl) | (simp [*, errW_none, errW_some] <;> rfl), by repeat (first | (with_reducible first | exact HB.out | apply Sq.i | apply Sq.j | apply Sq.k | refine Sq.h ?_ GE268.out | refine Sq.h ?_ GE269.out) | exact HB.out)⟩
           ·replace c66 := Bool.eq_false_iff.mpr c66
            subst c66
            rw [if_neg (show ¬ (false = true) by decide)] at H
            obtain rfl := Option.some.inj H
            go_wp2
            go_ret
            exact ⟨by first | rfl | (simp [errW_none, errW_some] <;> rfl) | (simp [*, errW_none, errW_some] <;> rfl), by repeat (first | (with_reducible first | exact HB.out | apply Sq.i | apply Sq.j | apply Sq.k | refine Sq.h ?_ GE268.out | refine Sq.h ?_ GE269.out) | exact HB.out)⟩
          ·replace c59 := Bool.eq_false_iff.mpr c59
           subst c59
           rw [if_neg (show ¬ (false = true) by decide)] at H
           obtain rfl := Option.some.inj H
           go_wp2
           go_ret
           exact ⟨by first | rfl | (simp [errW_none, errW_some] <;> rfl) | (simp [*, errW_none, errW_some] <;> rfl), by repeat (first | (with_reducible first | exact HB.out | apply Sq.i | apply Sq.j | apply Sq.k | refine Sq.h ?_ GE268.out | refine Sq.h ?_ GE269.out) | exact HB.out)⟩
         ·rw [if_neg c52] at H
          have c52b0 : (a0_8 == a1_8) = false := beq_eq_false_iff_ne.mpr c52
          have c52b1 : (a0_8 != a1_8) = true := bne_iff_ne.mpr c52
          (first | rw [c52b0] | (simp only [i64_w, i32_w]; rw [c52b0]) | skip)
          obtain rfl := Option.some.inj H
          go_wp2
          go_ret
          exact ⟨by first | rfl | (simp [errW_none, errW_some] <;> rfl) | (simp [*, errW_none, errW_some] <;> rfl), by repeat (first | (with_reducible first | exact HB.out | apply Sq.i | apply Sq.j | apply Sq.k | refine Sq.h ?_ GE268.out | refine Sq.h ?_ GE269.out) | exact HB.out)⟩
        ·rw [if_neg c47] at H
         have c47b0 : (a0_7 == a1_7) = false := beq_eq_false_iff_ne.mpr c47
         have c47b1 : (a0_7 != a1_7) = true := bne_iff_ne.mpr c47
         (first | rw [c47b0] | (simp only [i64_w, i32_w]; rw [c47b0]) | skip)
         obtain rfl := Option.some.inj H
         go_wp2
         go_ret
         exact ⟨by first | rfl | (simp [errW_none, errW_some] <;> rfl) | (simp [*, errW_none, errW_some] <;> rfl), by repeat (first | (with_reducible first | exact HB.out | apply Sq.i | apply Sq.j | apply Sq.k | refine Sq.h ?_ GE268.out | refine Sq.h ?_ GE269.out) | exact HB.out)⟩
       ·rw [if_neg c42] at H
        have c42b0 : (a0_6 == a1_6) = false := beq_eq_false_iff_ne.mpr c42
        have c42b1 : (a0_6 != a1_6) = true := bne_iff_ne.mpr c42
        (first | rw [c42b0] | (simp only [i64_w, i32_w]; rw [c42b0]) | skip)
        obtain rfl := Option.some.inj H
        go_wp2
        go_ret
        exact ⟨by first | rfl | (simp [errW_none, errW_some] <;> rfl) | (simp [*, errW_none, errW_some] <;> rfl), by repeat (first | (with_reducible first | exact HB.out | apply Sq.i | apply Sq.j | apply Sq.k | refine Sq.h ?_ GE268.out | refine Sq.h ?_ GE269.out) | exact HB.out)⟩
      ·rw [if_neg c37] at H
       have c37b0 : (a0_5.toList == a1_5.toList) = false := beq_eq_false_iff_ne.mpr c37
       have c37b1 : (a0_5.toList != a1_5.toList) = true := bne_iff_ne.mpr c37
       (first | rw [c37b0] | (simp only [i64_w, i32_w]; rw [c37b0]) | skip)
       obtain rfl := Option.some.inj H
       go_wp2
       go_ret
       exact ⟨by first | rfl | (simp [errW_none, errW_some] <;> rfl) | (simp [*, errW_none, errW_some] <;> rfl), by repeat (first | (with_reducible first | exact HB.out | apply Sq.i | apply Sq.j | apply Sq.k | refine Sq.h ?_ GE268.out | refine Sq.h ?_ GE269.out) | exact HB.out)⟩
     ·replace c32 := Bool.eq_false_iff.mpr c32
      subst c32
      rw [if_neg (show ¬ (false = true) by decide)] at H
      obtain rfl := Option.some.inj H
      go_wp2
      go_ret
      exact ⟨by first | rfl | (simp [errW_none, errW_some] <;> rfl) | (simp [*, errW_none, errW_some] <;> rfl), by repeat (first | (with_reducible first | exact HB.out | apply Sq.i | apply Sq.j | apply Sq.k | refine Sq.h ?_ GE268.out | refine Sq.h ?_ GE269.out) | exact HB.out)⟩
    ·replace c26 := Bool.eq_false_iff.mpr c26
     subst c26
     rw [if_neg (show ¬ (false = true) by decide)] at H
     obtain rfl := Option.some.inj H
     go_wp2
     go_ret
     exact ⟨by first | rfl | (simp [errW_none, errW_some] <;> rfl) | (simp [*, errW_none, errW_some] <;> rfl), by repeat (first | (with_reducible first | exact HB.out | apply Sq.i | apply Sq.j | apply Sq.k | refine Sq.h ?_ GE268.out | refine Sq.h ?_ GE269.out) | exact HB.out)⟩
   ·rw [if_neg c20] at H
    have c20b0 : (a0_2 == a1_2) = false := beq_eq_false_iff_ne.mpr c20
    have c20b1 : (a0_2 != a1_2) = true := bne_iff_ne.mpr c20
    (first | rw [c20b0] | (simp only [i64_w, i32_w]; rw [c20b0]) | skip)
    obtain rfl := Option.some.inj H
    go_wp2
    go_ret
    exact ⟨by first | rfl | (simp [errW_none, errW_some] <;> rfl) | (simp [*, errW_none, errW_some] <;> rfl), by repeat (first | (with_reducible first | exact HB.out | apply Sq.i | apply Sq.j | apply Sq.k | refine Sq.h ?_ GE268.out | refine Sq.h ?_ GE269.out) | exact HB.out)⟩
  ·replace c15 := Bool.eq_false_iff.mpr c15
   subst c15
   rw [if_neg (show ¬ (false = true) by decide)] at H
   obtain rfl := Option.some.inj H
   go_wp2
   go_ret
   exact ⟨by first | rfl | (simp [errW_none, errW_some] <;> rfl) | (simp [*, errW_none, errW_some] <;> rfl), by repeat (first | (with_reducible first | exact HB.out | apply Sq.i | apply Sq.j | apply Sq.k | refine Sq.h ?_ GE268.out | refine Sq.h ?_ GE269.out) | exact HB.out)⟩
 ·rw [if_neg c9] at H
  have c9b0 : (a0_0 == a1_0) = false := beq_eq_false_iff_ne.mpr c9
  have c9b1 : (a0_0 != a1_0) = true := bne_iff_ne.mpr c9
  (first | rw [c9b0] | (simp only [i64_w, i32_w]; rw [c9b0]) | skip)
  obtain rfl := Option.some.inj H
  go_wp2
  go_ret
  exact ⟨by first | rfl | (simp [errW_none, errW_some] <;> rfl) | (simp [*, errW_none, errW_some] <;> rfl), by repeat (first | (with_reducible first | exact HB.out | apply Sq.i | apply Sq.j | apply Sq.k | refine Sq.h ?_ GE268.out | refine Sq.h ?_ GE269.out) | exact HB.out)⟩

end Go.Proofs.Ytmajbehafgajmaa.QFnExactRaiseLine
