-- Written for this claim by this session's own driver (wip/xprint.py).
import Derived.Test.YtoifdnnjdohfmaaQFnExactImageFaultx0
import Derived.Test.YtoifdnnjdohfmaaQFnExactImageFaultx1
import Derived.Test.YtoifdnnjdohfmaaQFnExactImageFaultx3
import Derived.Test.YtoifdnnjdohfmaaQFnExactImageFaultx4
import Derived.Test.YtoifdnnjdohfmaaQFnExactImageFaultx5
import Derived.Test.YtoifdnnjdohfmaaQFnExactImageFaultx6
namespace Go.Proofs.Ytoifdnnjdohfmaa.QFnExactImageFault
open Go.RowKit Go.Proofs.YtoifdnnjdohfmaaW.PrintWords Go.Proofs.YtoifdnnjdohfmaaW.PrintLast Go.Proofs.YtoifdnnjdohfmaaW.PrintMore
attribute [local go_sem] max2_int min2_int max_two min_two max_three min_three max_four min_four   -- for this text's walks alone
set_option linter.unusedVariables false
set_option linter.unusedSimpArgs false

/-! ### laws_FnExactImageFault: function 3 -/
def laws_FnExactImageFault.f (k : Nat) (a0_0 : ByteArray) (a0_1 : ByteArray) (l0_2 : List Int) (l0_3 : List ByteArray) (l0_4 : List (S71)) : Option (Bool) := (laws_szImage.f k a0_0 a0_1 l0_2 l0_3 l0_4 1048576).bind fun t186 => (if t186 < 0 then (some true) else ((laws_toImage.f k a0_0 a0_1 l0_2 l0_3 l0_4).bind fun bt187 => ((spec_ImageFault.f k bt187.1 bt187.2.1 bt187.2.2.1 bt187.2.2.2.1 bt187.2.2.2.2).bind fun t198 => ((laws_toImage.f k a0_0 a0_1 l0_2 l0_3 l0_4).bind fun bt199 => ((impl_ImageFault.f bt199.1 bt199.2.1 bt199.2.2.1 bt199.2.2.2.1 bt199.2.2.2.2).bind fun t211 => (if t211 = t198 then ((laws_toImage.f k a0_0 a0_1 l0_2 l0_3 l0_4).bind fun bt212 => ((laws_eqImage.f k bt199.1 bt199.2.1 bt199.2.2.1 bt199.2.2.2.1 bt199.2.2.2.2 bt212.1 bt212.2.1 bt212.2.2.1 bt212.2.2.2.1 bt212.2.2.2.2).bind fun t223 => (if t223 = true then (some true) else (some false)))) else (some false)))))))
theorem laws_FnExactImageFault.mono : ∀ a0 a1 a2 a3 a4 k, LeO (laws_FnExactImageFault.f k a0 a1 a2 a3 a4) (laws_FnExactImageFault.f (k + 1) a0 a1 a2 a3 a4) := by
 intro a0 a1 a2 a3 a4 k
 unfold laws_FnExactImageFault.f
 repeat' first
   | (with_reducible exact laws_eqImage.mono _ _ _ _ _ _ _ _ _ _ _)
   | (with_reducible exact laws_szImage.mono _ _ _ _ _ _ _)
   | (with_reducible exact laws_toImage.mono _ _ _ _ _ _)
   | (with_reducible exact spec_ImageFault.mono _ _ _ _ _ _)
   | (with_reducible exact LeO.refl _)
   | (with_reducible exact LeO.none _)
   | (with_reducible refine LeO.ite ?_ ?_)
   | (with_reducible refine LeO.bind ?_ (fun _ => ?_))
   | exact laws_eqImage.mono _ _ _ _ _ _ _ _ _ _ _
   | exact laws_szImage.mono _ _ _ _ _ _ _
   | exact laws_toImage.mono _ _ _ _ _ _
   | exact spec_ImageFault.mono _ _ _ _ _ _
   | exact LeO.none _
   | refine LeO.ite ?_ ?_
   | refine LeO.bind ?_ (fun _ => ?_)
set_option maxHeartbeats 8000000 in
set_option maxRecDepth 100000 in
theorem laws_FnExactImageFault.calls (k : Nat) (a0_0 : ByteArray) (a0_1 : ByteArray) (A0_2 : Option Addr) (c0_2 : Nat) (l0_2 : List Int) (A0_3 : Option Addr) (c0_3 : Nat) (l0_3 : List ByteArray) (A0_4 : Option Addr) (c0_4 : Nat) (l0_4 : List (S71)) (r : Bool) (w : World) (hr0_2 : Kd.C (Kd.int .i64) w A0_2 l0_2.length l0_2) (hc0_2 : l0_2.length ≤ c0_2) (hr0_3 : Kd.C Kd.string w A0_3 l0_3.length l0_3) (hc0_3 : l0_3.length ≤ c0_3) (hr0_4 : Kd.C k71 w A0_4 l0_4.length l0_4) (hc0_4 : l0_4.length ≤ c0_4) (h : laws_FnExactImageFault.f k a0_0 a0_1 l0_2 l0_3 l0_4 = some r) :
  Calls Try.prog 3 #[.agg #[.string a0_0, .string a0_1, .slice A0_2 l0_2.length c0_2, .slice A0_3 l0_3.length c0_3, .slice A0_4 l0_4.length c0_4]] w fun e w' => e = .returned (.bool r) ∧ Below w.heap.size w w' := by
 have hu26 := Try.underlying26
 have hu31 := Try.underlying31
 have HR0_2 := Sq.l hr0_2
 have HC0_2 := Sq.l hc0_2
 clear hr0_2 hc0_2
 have HR0_3 := Sq.l hr0_3
 have HC0_3 := Sq.l hc0_3
 clear hr0_3 hc0_3
 have HR0_4 := Sq.l hr0_4
 have HC0_4 := Sq.l hc0_4
 clear hr0_4 hc0_4
 have HB := Sq.l (Below.refl w.heap.size w)
 have H : ((laws_szImage.f k a0_0 a0_1 l0_2 l0_3 l0_4 1048576).bind fun t186 => (if t186 < 0 then (some true) else ((laws_toImage.f k a0_0 a0_1 l0_2 l0_3 l0_4).bind fun bt187 => ((spec_ImageFault.f k bt187.1 bt187.2.1 bt187.2.2.1 bt187.2.2.2.1 bt187.2.2.2.2).bind fun t198 => ((laws_toImage.f k a0_0 a0_1 l0_2 l0_3 l0_4).bind fun bt199 => ((impl_ImageFault.f bt199.1 bt199.2.1 bt199.2.2.1 bt199.2.2.2.1 bt199.2.2.2.2).bind fun t211 => (if t211 = t198 then ((laws_toImage.f k a0_0 a0_1 l0_2 l0_3 l0_4).bind fun bt212 => ((laws_eqImage.f k bt199.1 bt199.2.1 bt199.2.2.1 bt199.2.2.2.1 bt199.2.2.2.2 bt212.1 bt212.2.1 bt212.2.2.1 bt212.2.2.2.1 bt212.2.2.2.2).bind fun t223 => (if t223 = true then (some true) else (some false)))) else (some false)))))))) = some r := h
 clear h
 replace H := Option.bind_eq_some_iff.mp H
 obtain ⟨t186, A20, H⟩ := H
 (try dsimp only at H)
 have A2 := Sq.l A20
 clear A20
 have HC3 := Sq.l H
 clear H
 go_enter Try.func3, Try.ntmps3
 go_upto_if 11 with (first | ((with_reducible refine gate_dst (N := 1) rfl ?_); refine box_event ?hg (N := 1) ?hd (cs := #[.string a0_0, .string a0_1, .slice A0_2 l0_2.length c0_2, .slice A0_3 l0_3.length c0_3, .slice A0_4 l0_4.length c0_4]) (t := 26) ?hr ?_; (case hd => rfl); (case hg => rfl); (case hr => first | (go_simp; done) | (go_simp; rfl)); intro gb185 hg w4 hbox hb; have n0_ := Sq.l (Sq.a4 (by repeat (first | (with_reducible first | exact HB.out | apply Sq.i | apply Sq.j | apply Sq.k) | exact HB.out)) hb); have n1_ := Sq.l (hbox); have n2_ := Sq.l ((by rw [hg]; exact (Sq.a5 (by repeat (first | (with_reducible first | exact HB.out | apply Sq.i | apply Sq.j | apply Sq.k) | exact HB.out))) : w.heap.size ≤ gb185)); have n3_ := Sq.l ((by rw [hg]; exact (Sq.a5 (by repeat (first | (with_reducible first | exact HB.out | apply Sq.i | apply Sq.j | apply Sq.k) | exact HB.out))) : w.heap.size ≤ gb185)); clear HB; have HB := n0_; have BK185 := n1_; have GW185 := n2_; have GE185 := n3_; clear n0_ n1_ n2_ n3_; clear hb hbox hg; have hcz5_0 : w4.cell? ⟨gb185, 0, none⟩ = some (.string a0_0) := (Sq.o BK185.out 0).trans rfl; have hcz5_1 : w4.cell? ⟨gb185, 1, none⟩ = some (.string a0_1) := (Sq.o BK185.out 1).trans rfl; have hcz5_2 : w4.cell? ⟨gb185, 2, none⟩ = some (.slice A0_2 l0_2.length c0_2) := (Sq.o BK185.out 2).trans rfl; have hcz5_3 : w4.cell? ⟨gb185, 3, none⟩ = some (.slice A0_3 l0_3.length c0_3) := (Sq.o BK185.out 3).trans rfl; have hcz5_4 : w4.cell? ⟨gb185, 4, none⟩ = some (.slice A0_4 l0_4.length c0_4) := (Sq.o BK185.out 4).trans rfl; have hfz5_0 := Sq.r BK185.out 0; have hfz5_1 := Sq.r BK185.out 1; have hfz5_2 := Sq.r BK185.out 2; have hfz5_3 := Sq.r BK185.out 3; have hfz5_4 := Sq.r BK185.out 4) | ((with_reducible refine gate_callee (f := 5) rfl ?_); refine goesL_ (some 9) rfl rfl Try.func5 (by kernel_rfl) rfl #[.agg #[.string a0_0, .string a0_1, .slice A0_2 l0_2.length c0_2, .slice A0_3 l0_3.length c0_3, .slice A0_4 l0_4.length c0_4], .int .i64 1048576] rfl (by (try simp only [List.map_toArray, List.map_cons, List.map_nil]); first | done | rfl | (simp only [List.length_drop, List.length_take]; rfl)) ?_; (with_reducible refine (laws_szImage.calls k a0_0 a0_1 _ _ l0_2 _ _ l0_3 _ _ l0_4 1048576 t186 _ ?side1 ?side2 ?side3 ?side4 ?side5 ?side6 A2.out).mono ?_); (case side1 => repeat (first | exact (Sq.a1 HR0_2.out HB.out) | (with_reducible refine Sq.s ?_ _) | (with_reducible refine Sq.t ?_ _) | (with_reducible refine Sq.u ?_))); (case side2 => exact HC0_2.out); (case side3 => repeat (first | exact (Sq.a1 HR0_3.out HB.out) | (with_reducible refine Sq.s ?_ _) | (with_reducible refine Sq.t ?_ _) | (with_reducible refine Sq.u ?_))); (case side4 => exact HC0_3.out); (case side5 => repeat (first | exact (Sq.a1 HR0_4.out HB.out) | (with_reducible refine Sq.s ?_ _) | (with_reducible refine Sq.t ?_ _) | (with_reducible refine Sq.u ?_))); (case side6 => exact HC0_4.out); rintro e w6 ⟨rfl, hb⟩; refine ⟨_, rfl, ?_⟩; have n0_ := Sq.l (Sq.m (g := gb185) (o := .cells #[.string a0_0, .string a0_1, .slice A0_2 l0_2.length c0_2, .slice A0_3 l0_3.length c0_3, .slice A0_4 l0_4.length c0_4] 26 (0, 0)) (by (with_reducible repeat (first | refine Sq.d ?_ _ | refine Sq.e ?_ | refine Sq.f ?_ _)); exact BK185.out) hb); have n1_ := Sq.l (Sq.a4 (by repeat (first | (with_reducible first | exact HB.out | apply Sq.i | apply Sq.j | apply Sq.k | refine Sq.h ?_ GE185.out) | exact HB.out)) hb); clear BK185; clear HB; have BK185 := n0_; have HB := n1_; clear n0_ n1_; (try clear hb); (try clear hb2); (try clear hk); (try clear hi)))
 (try simp only [Act.put, List.setIfInBounds_toArray, List.set_cons_zero, List.set_cons_succ])
 have H := HC3.out
 clear HC3
 by_cases c7 : t186 < 0
 ·rw [if_pos c7] at H
  have c7b0 : decide (t186 < 0) = true := decide_eq_true c7
  clear c7
  (first | rw [c7b0] | (simp only [i64_w, i32_w]; rw [c7b0]) | skip)
  obtain rfl := Option.some.inj H
  go_wp2
  go_ret
  exact ⟨by first | rfl | (simp [errW_none, errW_some] <;> rfl) | (simp [*, errW_none, errW_some] <;> rfl), by repeat (first | (with_reducible first | exact HB.out | apply Sq.i | apply Sq.j | apply Sq.k | refine Sq.h ?_ GE185.out) | exact HB.out)⟩
 ·rw [if_neg c7] at H
  have c7b0 : decide (t186 < 0) = false := decide_eq_false c7
  clear c7
  (first | rw [c7b0] | (simp only [i64_w, i32_w]; rw [c7b0]) | skip)
  replace H := Option.bind_eq_some_iff.mp H
  obtain ⟨⟨t187, t188, t189, t192, t195⟩, A80, H⟩ := H
  (try dsimp only at H)
  have A8 := Sq.l A80
  clear A80
  replace H := Option.bind_eq_some_iff.mp H
  obtain ⟨t198, A90, H⟩ := H
  (try dsimp only at H)
  have A9 := Sq.l A90
  clear A90
  replace H := Option.bind_eq_some_iff.mp H
  obtain ⟨⟨t199, t200, t201, t204, t207⟩, A100, H⟩ := H
  (try dsimp only at H)
  have A10 := Sq.l A100
  clear A100
  replace H := Option.bind_eq_some_iff.mp H
  obtain ⟨t211, A110, H⟩ := H
  (try dsimp only at H)
  have A11 := Sq.l A110
  clear A110
  have HC12 := Sq.l H
  clear H
  have hcz13_0 : w6.cell? ⟨gb185, 0, none⟩ = some (.string a0_0) := (Sq.o BK185.out 0).trans rfl
  have hcz13_1 : w6.cell? ⟨gb185, 1, none⟩ = some (.string a0_1) := (Sq.o BK185.out 1).trans rfl
  have hcz13_2 : w6.cell? ⟨gb185, 2, none⟩ = some (.slice A0_2 l0_2.length c0_2) := (Sq.o BK185.out 2).trans rfl
  have hcz13_3 : w6.cell? ⟨gb185, 3, none⟩ = some (.slice A0_3 l0_3.length c0_3) := (Sq.o BK185.out 3).trans rfl
  have hcz13_4 : w6.cell? ⟨gb185, 4, none⟩ = some (.slice A0_4 l0_4.length c0_4) := (Sq.o BK185.out 4).trans rfl
  have hfz13_0 := Sq.r BK185.out 0
  have hfz13_1 := Sq.r BK185.out 1
  have hfz13_2 := Sq.r BK185.out 2
  have hfz13_3 := Sq.r BK185.out 3
  have hfz13_4 := Sq.r BK185.out 4
  go_upto_if 21 with (first | ((with_reducible refine gate_callee (f := 7) rfl ?_); refine goesL_ (some 13) rfl rfl Try.func7 (by kernel_rfl) rfl #[.agg #[.string a0_0, .string a0_1, .slice A0_2 l0_2.length c0_2, .slice A0_3 l0_3.length c0_3, .slice A0_4 l0_4.length c0_4]] rfl (by (try simp only [List.map_toArray, List.map_cons, List.map_nil]); first | done | rfl | (simp only [List.length_drop, List.length_take]; rfl)) ?_; (with_reducible refine (laws_toImage.calls k a0_0 a0_1 _ _ l0_2 _ _ l0_3 _ _ l0_4 t187 t188 t189 t192 t195 _ ?side1 ?side2 ?side3 ?side4 ?side5 ?side6 A8.out).mono ?_); (case side1 => repeat (first | exact (Sq.a1 HR0_2.out HB.out) | (with_reducible refine Sq.s ?_ _) | (with_reducible refine Sq.t ?_ _) | (with_reducible refine Sq.u ?_))); (case side2 => exact HC0_2.out); (case side3 => repeat (first | exact (Sq.a1 HR0_3.out HB.out) | (with_reducible refine Sq.s ?_ _) | (with_reducible refine Sq.t ?_ _) | (with_reducible refine Sq.u ?_))); (case side4 => exact HC0_3.out); (case side5 => repeat (first | exact (Sq.a1 HR0_4.out HB.out) | (with_reducible refine Sq.s ?_ _) | (with_reducible refine Sq.t ?_ _) | (with_reducible refine Sq.u ?_))); (case side6 => exact HC0_4.out); rintro e w14 ⟨v190, v193, v196, rfl, ho0, ho1, ho2, hb⟩; refine ⟨_, rfl, ?_⟩; have n0_ := Sq.l (Sq.a2 ho0 (Sq.a5 (by repeat (first | (with_reducible first | exact HB.out | apply Sq.i | apply Sq.j | apply Sq.k | refine Sq.h ?_ GE185.out) | exact HB.out)))); have n1_ := Sq.l (Sq.a2 ho1 (Sq.a5 (by repeat (first | (with_reducible first | exact HB.out | apply Sq.i | apply Sq.j | apply Sq.k | refine Sq.h ?_ GE185.out) | exact HB.out)))); have n2_ := Sq.l (Kd.S_lower ho2 (Sq.a5 (by repeat (first | (with_reducible first | exact HB.out | apply Sq.i | apply Sq.j | apply Sq.k | refine Sq.h ?_ GE185.out) | exact HB.out)))); have n3_ := Sq.l (Sq.m (g := gb185) (o := .cells #[.string a0_0, .string a0_1, .slice A0_2 l0_2.length c0_2, .slice A0_3 l0_3.length c0_3, .slice A0_4 l0_4.length c0_4] 26 (0, 0)) (by (with_reducible repeat (first | refine Sq.d ?_ _ | refine Sq.e ?_ | refine Sq.f ?_ _)); exact BK185.out) hb); have n4_ := Sq.l (Sq.a4 (by repeat (first | (with_reducible first | exact HB.out | apply Sq.i | apply Sq.j | apply Sq.k | refine Sq.h ?_ GE185.out) | exact HB.out)) hb); clear BK185; clear HB; have HO191 := n0_; have HO194 := n1_; have HO197 := n2_; have BK185 := n3_; have HB := n4_; clear n0_ n1_ n2_ n3_ n4_; (try clear hb); (try clear hb2); (try clear hk); (try clear hi); (try clear ho0); (try clear ho1); (try clear ho2); obtain ⟨Ao15, co15, eo15⟩ := Kd.R_slice HO191.out; subst eo15; obtain ⟨Ao16, co16, eo16⟩ := Kd.R_slice HO194.out; subst eo16; obtain ⟨Ao17, co17, eo17⟩ := Kd.S_slice HO197.out; subst eo17) | ((with_reducible refine gate_callee (f := 6) rfl ?_); refine goesL_ (some 14) rfl rfl Try.func6 (by kernel_rfl) rfl #[.agg #[.string t187, .string t188, .slice Ao15 t189.length co15, .slice Ao16 t192.length co16, .slice Ao17 t195.length co17]] rfl (by (try simp only [List.map_toArray, List.map_cons, List.map_nil]); first | done | rfl | (simp only [List.length_drop, List.length_take]; rfl)) ?_; (with_reducible refine (spec_ImageFault.calls k t187 t188 _ _ t189 _ _ t192 _ _ t195 t198 _ ?side1 ?side2 ?side3 ?side4 ?side5 ?side6 A9.out).mono ?_); (case side1 => repeat (first | exact (Sq.b4 HO191.out).2.2 | (with_reducible refine Sq.s ?_ _) | (with_reducible refine Sq.t ?_ _) | (with_reducible refine Sq.u ?_))); (case side2 => exact (Sq.b4 HO191.out).2.1); (case side3 => repeat (first | exact (Sq.b4 HO194.out).2.2 | (with_reducible refine Sq.s ?_ _) | (with_reducible refine Sq.t ?_ _) | (with_reducible refine Sq.u ?_))); (case side4 => exact (Sq.b4 HO194.out).2.1); (case side5 => repeat (first | exact (Kd.S_reads' HO197.out).2.2 | (with_reducible refine Sq.s ?_ _) | (with_reducible refine Sq.t ?_ _) | (with_reducible refine Sq.u ?_))); (case side6 => exact (Kd.S_reads' HO197.out).2.1); rintro e w18 ⟨rfl, hb⟩; refine ⟨_, rfl, ?_⟩; have n0_ := Sq.l (Sq.n (by (with_reducible repeat (first | apply Sq.a | apply Sq.b | apply Sq.c)); exact HO191.out) hb); have n1_ := Sq.l (Sq.n (by (with_reducible repeat (first | apply Sq.a | apply Sq.b | apply Sq.c)); exact HO194.out) hb); have n2_ := Sq.l (Kd.S_below (by (with_reducible repeat (first | apply Sq.a7 | apply Sq.a8 | apply Sq.a9)); exact HO197.out) hb); have n3_ := Sq.l (Sq.m (g := gb185) (o := .cells #[.string a0_0, .string a0_1, .slice A0_2 l0_2.length c0_2, .slice A0_3 l0_3.length c0_3, .slice A0_4 l0_4.length c0_4] 26 (0, 0)) (by (with_reducible repeat (first | refine Sq.d ?_ _ | refine Sq.e ?_ | refine Sq.f ?_ _)); exact BK185.out) hb); have n4_ := Sq.l (Sq.a4 (by repeat (first | (with_reducible first | exact HB.out | apply Sq.i | apply Sq.j | apply Sq.k | refine Sq.h ?_ GE185.out) | exact HB.out)) hb); clear HO191; clear HO194; clear HO197; clear BK185; clear HB; have HO191 := n0_; have HO194 := n1_; have HO197 := n2_; have BK185 := n3_; have HB := n4_; clear n0_ n1_ n2_ n3_ n4_; (try clear hb); (try clear hb2); (try clear hk); (try clear hi); have hcz19_0 : w18.cell? ⟨gb185, 0, none⟩ = some (.string a0_0) := (Sq.o BK185.out 0).trans rfl; have hcz19_1 : w18.cell? ⟨gb185, 1, none⟩ = some (.string a0_1) := (Sq.o BK185.out 1).trans rfl; have hcz19_2 : w18.cell? ⟨gb185, 2, none⟩ = some (.slice A0_2 l0_2.length c0_2) := (Sq.o BK185.out 2).trans rfl; have hcz19_3 : w18.cell? ⟨gb185, 3, none⟩ = some (.slice A0_3 l0_3.length c0_3) := (Sq.o BK185.out 3).trans rfl; have hcz19_4 : w18.cell? ⟨gb185, 4, none⟩ = some (.slice A0_4 l0_4.length c0_4) := (Sq.o BK185.out 4).trans rfl; have hfz19_0 := Sq.r BK185.out 0; have hfz19_1 := Sq.r BK185.out 1; have hfz19_2 := Sq.r BK185.out 2; have hfz19_3 := Sq.r BK185.out 3; have hfz19_4 := Sq.r BK185.out 4) | ((with_reducible refine gate_callee (f := 7) rfl ?_); refine goesL_ (some 16) rfl rfl Try.func7 (by kernel_rfl) rfl #[.agg #[.string a0_0, .string a0_1, .slice A0_2 l0_2.length c0_2, .slice A0_3 l0_3.length c0_3, .slice A0_4 l0_4.length c0_4]] rfl (by (try simp only [List.map_toArray, List.map_cons, List.map_nil]); first | done | rfl | (simp only [List.length_drop, List.length_take]; rfl)) ?_; (with_reducible refine (laws_toImage.calls k a0_0 a0_1 _ _ l0_2 _ _ l0_3 _ _ l0_4 t199 t200 t201 t204 t207 _ ?side1 ?side2 ?side3 ?side4 ?side5 ?side6 A10.out).mono ?_); (case side1 => repeat (first | exact (Sq.a1 HR0_2.out HB.out) | (with_reducible refine Sq.s ?_ _) | (with_reducible refine Sq.t ?_ _) | (with_reducible refine Sq.u ?_))); (case side2 => exact HC0_2.out); (case side3 => repeat (first | exact (Sq.a1 HR0_3.out HB.out) | (with_reducible refine Sq.s ?_ _) | (with_reducible refine Sq.t ?_ _) | (with_reducible refine Sq.u ?_))); (case side4 => exact HC0_3.out); (case side5 => repeat (first | exact (Sq.a1 HR0_4.out HB.out) | (with_reducible refine Sq.s ?_ _) | (with_reducible refine Sq.t ?_ _) | (with_reducible refine Sq.u ?_))); (case side6 => exact HC0_4.out); rintro e w20 ⟨v202, v205, v208, rfl, ho0, ho1, ho2, hb⟩; refine ⟨_, rfl, ?_⟩; have n0_ := Sq.l (Sq.p (by (with_reducible repeat (first | apply Sq.a | apply Sq.b | apply Sq.c)); exact HO191.out) (Sq.b7 ho0) hb); have n1_ := Sq.l (Sq.p (by (with_reducible repeat (first | apply Sq.a | apply Sq.b | apply Sq.c)); exact HO194.out) (Sq.b7 ho1) hb); have n2_ := Sq.l (Kd.S_mono (Kd.S_told (Kd.S_told (Kd.S_old (by (with_reducible repeat (first | apply Sq.a7 | apply Sq.a8 | apply Sq.a9)); exact HO197.out) hb) (Sq.b7 ho0)) (Kd.S_base ho2)) (fun _ h_ => h_.1)); have n3_ := Sq.l (Sq.a2 (Sq.c1 ho0 (Sq.c2 (by (with_reducible repeat (first | apply Sq.a | apply Sq.b | apply Sq.c)); exact HO191.out))) (Sq.a5 (by repeat (first | (with_reducible first | exact HB.out | apply Sq.i | apply Sq.j | apply Sq.k | refine Sq.h ?_ GE185.out) | exact HB.out)))); have n4_ := Sq.l (Sq.a2 (Sq.c1 ho1 (Sq.c2 (by (with_reducible repeat (first | apply Sq.a | apply Sq.b | apply Sq.c)); exact HO194.out))) (Sq.a5 (by repeat (first | (with_reducible first | exact HB.out | apply Sq.i | apply Sq.j | apply Sq.k | refine Sq.h ?_ GE185.out) | exact HB.out)))); have n5_ := Sq.l (Kd.S_lower (Kd.S_new' (Kd.S_new' ho2 (Sq.c2 (by (with_reducible repeat (first | apply Sq.a | apply Sq.b | apply Sq.c)); exact HO191.out))) (Kd.S_lt (by (with_reducible repeat (first | apply Sq.a7 | apply Sq.a8 | apply Sq.a9)); exact HO197.out))) (Sq.a5 (by repeat (first | (with_reducible first | exact HB.out | apply Sq.i | apply Sq.j | apply Sq.k | refine Sq.h ?_ GE185.out) | exact HB.out)))); have n6_ := Sq.l (Sq.m (g := gb185) (o := .cells #[.string a0_0, .string a0_1, .slice A0_2 l0_2.length c0_2, .slice A0_3 l0_3.length c0_3, .slice A0_4 l0_4.length c0_4] 26 (0, 0)) (by (with_reducible repeat (first | refine Sq.d ?_ _ | refine Sq.e ?_ | refine Sq.f ?_ _)); exact BK185.out) hb); have n7_ := Sq.l (Sq.a4 (by repeat (first | (with_reducible first | exact HB.out | apply Sq.i | apply Sq.j | apply Sq.k | refine Sq.h ?_ GE185.out) | exact HB.out)) hb); clear HO191; clear HO194; clear HO197; clear BK185; clear HB; have HO191 := n0_; have HO194 := n1_; have HO197 := n2_; have HO203 := n3_; have HO206 := n4_; have HO209 := n5_; have BK185 := n6_; have HB := n7_; clear n0_ n1_ n2_ n3_ n4_ n5_ n6_ n7_; (try clear hb); (try clear hb2); (try clear hk); (try clear hi); (try clear ho0); (try clear ho1); (try clear ho2)) | ((with_reducible refine gate_dst (N := 5) rfl ?_); refine box_event ?hg (N := 5) ?hd (cs := #[.string (⟨#[]⟩ : ByteArray), .string (⟨#[]⟩ : ByteArray), .slice none 0 0, .slice none 0 0, .slice none 0 0]) (t := 31) ?hr ?_; (case hd => rfl); (case hg => rfl); (case hr => first | (go_simp; done) | (go_simp; rfl)); intro gb210 hg w21 hbox hb; have n0_ := Sq.l (Sq.n (by (with_reducible repeat (first | apply Sq.a | apply Sq.b | apply Sq.c)); exact HO191.out) hb); have n1_ := Sq.l (Sq.n (by (with_reducible repeat (first | apply Sq.a | apply Sq.b | apply Sq.c)); exact HO194.out) hb); have n2_ := Sq.l (Kd.S_below (by (with_reducible repeat (first | apply Sq.a7 | apply Sq.a8 | apply Sq.a9)); exact HO197.out) hb); have n3_ := Sq.l (Sq.n (by (with_reducible repeat (first | apply Sq.a | apply Sq.b | apply Sq.c)); exact HO203.out) hb); have n4_ := Sq.l (Sq.n (by (with_reducible repeat (first | apply Sq.a | apply Sq.b | apply Sq.c)); exact HO206.out) hb); have n5_ := Sq.l (Kd.S_below (by (with_reducible repeat (first | apply Sq.a7 | apply Sq.a8 | apply Sq.a9)); exact HO209.out) hb); have n6_ := Sq.l (Sq.m (g := gb185) (o := .cells #[.string a0_0, .string a0_1, .slice A0_2 l0_2.length c0_2, .slice A0_3 l0_3.length c0_3, .slice A0_4 l0_4.length c0_4] 26 (0, 0)) (by (with_reducible repeat (first | refine Sq.d ?_ _ | refine Sq.e ?_ | refine Sq.f ?_ _)); exact BK185.out) hb); have n7_ := Sq.l (Sq.a4 (by repeat (first | (with_reducible first | exact HB.out | apply Sq.i | apply Sq.j | apply Sq.k | refine Sq.h ?_ GE185.out) | exact HB.out)) hb); have n8_ := Sq.l (hbox); have n9_ := Sq.l ((by rw [hg]; exact (Sq.a5 (by repeat (first | (with_reducible first | exact HB.out | apply Sq.i | apply Sq.j | apply Sq.k | refine Sq.h ?_ GE185.out) | exact HB.out))) : w.heap.size ≤ gb210)); have n10_ := Sq.l ((by rw [hg]; exact (Sq.a5 (by repeat (first | (with_reducible first | exact HB.out | apply Sq.i | apply Sq.j | apply Sq.k | refine Sq.h ?_ GE185.out) | exact HB.out))) : w.heap.size ≤ gb210)); have n11_ := Sq.l ((by rw [hg]; exact Nat.ne_of_lt (blk_lt (g := gb185) (o := .cells #[.string a0_0, .string a0_1, .slice A0_2 l0_2.length c0_2, .slice A0_3 l0_3.length c0_3, .slice A0_4 l0_4.length c0_4] 26 (0, 0)) (by (with_reducible repeat (first | refine Sq.d ?_ _ | refine Sq.e ?_ | refine Sq.f ?_ _)); exact BK185.out)) : gb185 ≠ gb210)); have n12_ := Sq.l ((by rw [hg]; exact Nat.ne_of_gt (blk_lt (g := gb185) (o := .cells #[.string a0_0, .string a0_1, .slice A0_2 l0_2.length c0_2, .slice A0_3 l0_3.length c0_3, .slice A0_4 l0_4.length c0_4] 26 (0, 0)) (by (with_reducible repeat (first | refine Sq.d ?_ _ | refine Sq.e ?_ | refine Sq.f ?_ _)); exact BK185.out)) : gb210 ≠ gb185)); clear HO191; clear HO194; clear HO197; clear HO203; clear HO206; clear HO209; clear BK185; clear HB; have HO191 := n0_; have HO194 := n1_; have HO197 := n2_; have HO203 := n3_; have HO206 := n4_; have HO209 := n5_; have BK185 := n6_; have HB := n7_; have BK210 := n8_; have GW210 := n9_; have GE210 := n10_; have NB185_210 := n11_; have NB210_185 := n12_; clear n0_ n1_ n2_ n3_ n4_ n5_ n6_ n7_ n8_ n9_ n10_ n11_ n12_; clear hb hbox hg; have hnb22 := NB210_185.out; have hnc22 := NB185_210.out; have hcz23_0 : w21.cell? ⟨gb210, 0, none⟩ = some (.string (⟨#[]⟩ : ByteArray)) := (Sq.o BK210.out 0).trans rfl; have hcz23_1 : w21.cell? ⟨gb210, 1, none⟩ = some (.string (⟨#[]⟩ : ByteArray)) := (Sq.o BK210.out 1).trans rfl; have hcz23_2 : w21.cell? ⟨gb210, 2, none⟩ = some (.slice none 0 0) := (Sq.o BK210.out 2).trans rfl; have hcz23_3 : w21.cell? ⟨gb210, 3, none⟩ = some (.slice none 0 0) := (Sq.o BK210.out 3).trans rfl; have hcz23_4 : w21.cell? ⟨gb210, 4, none⟩ = some (.slice none 0 0) := (Sq.o BK210.out 4).trans rfl; have hfz23_0 := Sq.r BK210.out 0; have hfz23_1 := Sq.r BK210.out 1; have hfz23_2 := Sq.r BK210.out 2; have hfz23_3 := Sq.r BK210.out 3; have hfz23_4 := Sq.r BK210.out 4; obtain ⟨Ao24, co24, eo24⟩ := Kd.R_slice HO203.out; subst eo24; obtain ⟨Ao25, co25, eo25⟩ := Kd.R_slice HO206.out; subst eo25; obtain ⟨Ao26, co26, eo26⟩ := Kd.S_slice HO209.out; subst eo26) | ((with_reducible refine gate_callee (f := 8) rfl ?_); refine goesL_ (some 18) rfl rfl Try.func8 (by kernel_rfl) rfl #[.agg #[.string t199, .string t200, .slice Ao24 t201.length co24, .slice Ao25 t204.length co25, .slice Ao26 t207.length co26]] rfl (by (try simp only [List.map_toArray, List.map_cons, List.map_nil]); first | done | rfl | (simp only [List.length_drop, List.length_take]; rfl)) ?_; (with_reducible refine (impl_ImageFault.calls t199 t200 _ _ t201 _ _ t204 _ _ t207 t211 _ ?side1 ?side2 ?side3 ?side4 ?side5 ?side6 A11.out).mono ?_); (case side1 => refine (Sq.b4 (e := 2) (base := w.heap.size) (ok := fun k_ => (True ∧ some k_ ≠ (.slice Ao15 t189.length co15 : Value).ownBlock)) (n := t201.length) (c := co24) ?_).2.2; exact (by (with_reducible repeat (first | apply Sq.a | apply Sq.b | apply Sq.c)); exact (Sq.a3 (Sq.R5 (Sq.b5 HO203.out BK210.out (by decide)) (fun _ hk => hk.2)) (fun _ h_ => h_.1)))); (case side2 => exact (Sq.b4 HO203.out).2.1); (case side3 => refine (Sq.b4 (e := 9) (base := w.heap.size) (ok := fun k_ => (True ∧ some k_ ≠ (.slice Ao16 t192.length co16 : Value).ownBlock)) (n := t204.length) (c := co25) ?_).2.2; exact (by (with_reducible repeat (first | apply Sq.a | apply Sq.b | apply Sq.c)); exact (Sq.a3 (Sq.R5 (Sq.b5 HO206.out BK210.out (by decide)) (fun _ hk => hk.2)) (fun _ h_ => h_.1)))); (case side4 => exact (Sq.b4 HO206.out).2.1); (case side5 => refine (Kd.S_reads' (e := 42) (base := w.heap.size) (ok := fun k_ => ((some k_ ≠ (.slice Ao24 t201.length co24 : Value).ownBlock ∧ some k_ ≠ (.slice Ao15 t189.length co15 : Value).ownBlock) ∧ some k_ ≠ (.slice Ao17 t195.length co17 : Value).ownBlock)) (n := t207.length) (c := co26) ?_).2.2; exact (by (with_reducible repeat (first | apply Sq.a7 | apply Sq.a8 | apply Sq.a9)); exact (Kd.S_mono (Sq.S5 (Kd.S_types HO209.out BK210.out (by decide)) (fun _ hk => hk.2)) (fun _ h_ => h_.1)))); (case side6 => exact (Kd.S_reads' HO209.out).2.1); rintro e w27 ⟨rfl, hb⟩; refine ⟨_, rfl, ?_⟩; have n0_ := Sq.l (Sq.n (by (with_reducible repeat (first | apply Sq.a | apply Sq.b | apply Sq.c)); exact (Sq.a3 (Sq.R5 (Sq.b5 HO191.out BK210.out (by decide)) (fun _ hk => hk.2)) (fun _ h_ => h_.1))) hb); have n1_ := Sq.l (Sq.n (by (with_reducible repeat (first | apply Sq.a | apply Sq.b | apply Sq.c)); exact (Sq.a3 (Sq.R5 (Sq.b5 HO194.out BK210.out (by decide)) (fun _ hk => hk.2)) (fun _ h_ => h_.1))) hb); have n2_ := Sq.l (Kd.S_below (by (with_reducible repeat (first | apply Sq.a7 | apply Sq.a8 | apply Sq.a9)); exact (Kd.S_mono (Sq.S5 (Kd.S_types HO197.out BK210.out (by decide)) (fun _ hk => hk.2)) (fun _ h_ => h_.1))) hb); have n3_ := Sq.l (Sq.n (by (with_reducible repeat (first | apply Sq.a | apply Sq.b | apply Sq.c)); exact (Sq.a3 (Sq.R5 (Sq.b5 HO203.out BK210.out (by decide)) (fun _ hk => hk.2)) (fun _ h_ => h_.1))) hb); have n4_ := Sq.l (Sq.n (by (with_reducible repeat (first | apply Sq.a | apply Sq.b | apply Sq.c)); exact (Sq.a3 (Sq.R5 (Sq.b5 HO206.out BK210.out (by decide)) (fun _ hk => hk.2)) (fun _ h_ => h_.1))) hb); have n5_ := Sq.l (Kd.S_below (by (with_reducible repeat (first | apply Sq.a7 | apply Sq.a8 | apply Sq.a9)); exact (Kd.S_mono (Sq.S5 (Kd.S_types HO209.out BK210.out (by decide)) (fun _ hk => hk.2)) (fun _ h_ => h_.1))) hb); have n6_ := Sq.l (Sq.m (g := gb185) (o := .cells #[.string a0_0, .string a0_1, .slice A0_2 l0_2.length c0_2, .slice A0_3 l0_3.length c0_3, .slice A0_4 l0_4.length c0_4] 26 (0, 0)) (by (with_reducible repeat (first | refine Sq.d ?_ _ | refine Sq.e ?_ | refine Sq.f ?_ _)); refine Sq.B5 ?_ NB185_210.out; (with_reducible repeat (first | refine Sq.d ?_ _ | refine Sq.e ?_ | refine Sq.f ?_ _)); exact BK185.out) hb); have n7_ := Sq.l (Sq.m (g := gb210) (o := .cells #[.string t199, .string t200, .slice Ao24 t201.length co24, .slice Ao25 t204.length co25, .slice Ao26 t207.length co26] 31 (0, 0)) (by (with_reducible repeat (first | refine Sq.d ?_ _ | refine Sq.e ?_ | refine Sq.f ?_ _)); refine Sq.v (cs := #[.string t199, .string t200, .slice Ao24 t201.length co24, .slice Ao25 t204.length co25, .slice none 0 0]) ?_ 4 _ rfl; (with_reducible repeat (first | refine Sq.d ?_ _ | refine Sq.e ?_ | refine Sq.f ?_ _)); refine Sq.v (cs := #[.string t199, .string t200, .slice Ao24 t201.length co24, .slice none 0 0, .slice none 0 0]) ?_ 3 _ rfl; (with_reducible repeat (first | refine Sq.d ?_ _ | refine Sq.e ?_ | refine Sq.f ?_ _)); refine Sq.v (cs := #[.string t199, .string t200, .slice none 0 0, .slice none 0 0, .slice none 0 0]) ?_ 2 _ rfl; (with_reducible repeat (first | refine Sq.d ?_ _ | refine Sq.e ?_ | refine Sq.f ?_ _)); refine Sq.v (cs := #[.string t199, .string (⟨#[]⟩ : ByteArray), .slice none 0 0, .slice none 0 0, .slice none 0 0]) ?_ 1 _ rfl; (with_reducible repeat (first | refine Sq.d ?_ _ | refine Sq.e ?_ | refine Sq.f ?_ _)); refine Sq.v (cs := #[.string (⟨#[]⟩ : ByteArray), .string (⟨#[]⟩ : ByteArray), .slice none 0 0, .slice none 0 0, .slice none 0 0]) ?_ 0 _ rfl; (with_reducible repeat (first | refine Sq.d ?_ _ | refine Sq.e ?_ | refine Sq.f ?_ _)); exact BK210.out) hb); have n8_ := Sq.l (Sq.a4 (by repeat (first | (with_reducible first | exact HB.out | apply Sq.i | apply Sq.j | apply Sq.k | refine Sq.h ?_ GE185.out | refine Sq.h ?_ GE210.out) | exact HB.out)) hb); clear HO191; clear HO194; clear HO197; clear HO203; clear HO206; clear HO209; clear BK185; clear BK210; clear HB; have HO191 := n0_; have HO194 := n1_; have HO197 := n2_; have HO203 := n3_; have HO206 := n4_; have HO209 := n5_; have BK185 := n6_; have BK210 := n7_; have HB := n8_; clear n0_ n1_ n2_ n3_ n4_ n5_ n6_ n7_ n8_; (try clear hb); (try clear hb2); (try clear hk); (try clear hi)))
  (try simp only [Act.put, List.setIfInBounds_toArray, List.set_cons_zero, List.set_cons_succ])
  have H := HC12.out
  clear HC12
  by_cases c28 : t211 = t198
  ·rw [if_pos c28] at H
   have c28b0 : (t211 == t198) = true := beq_iff_eq.mpr c28
   have c28b1 : (t211 != t198) = false := bne_eq_false_iff_eq.mpr c28
   clear c28
   (first | rw [c28b0] | (simp only [i64_w, i32_w]; rw [c28b0]) | skip)
   replace H := Option.bind_eq_some_iff.mp H
   obtain ⟨⟨t212, t213, t214, t217, t220⟩, A290, H⟩ := H
   (try dsimp only at H)
   have A29 := Sq.l A290
   clear A290
   replace H := Option.bind_eq_some_iff.mp H
   obtain ⟨t223, A300, H⟩ := H
   (try dsimp only at H)
   have A30 := Sq.l A300
   clear A300
   have HC31 := Sq.l H
   clear H
   try go_wp2
   have n0_ := Sq.l (Sq.c HO191.out)
   have n1_ := Sq.l (Sq.c HO194.out)
   have n2_ := Sq.l (Sq.a9 HO197.out)
   have n3_ := Sq.l (Sq.c HO203.out)
   have n4_ := Sq.l (Sq.c HO206.out)
   have n5_ := Sq.l (Sq.a9 HO209.out)
   have n6_ := Sq.l (Sq.e BK185.out)
   have n7_ := Sq.l (Sq.e BK210.out)
   have n8_ := Sq.l (Sq.k HB.out)
   clear HO191 HO194 HO197 HO203 HO206 HO209 BK185 BK210 HB; have HO191 := n0_; have HO194 := n1_; have HO197 := n2_; have HO203 := n3_; have HO206 := n4_; have HO209 := n5_; have BK185 := n6_; have BK210 := n7_; have HB := n8_; clear n0_ n1_ n2_ n3_ n4_ n5_ n6_ n7_ n8_
   refine start_ (n := 5) (S := fun w' => w'.cell? ⟨gb210, 0, none⟩ = some (.string t199) ∧ w'.cell? ⟨gb210, 1, none⟩ = some (.string t200) ∧ w'.cell? ⟨gb210, 2, none⟩ = some (.slice Ao24 t201.length co24) ∧ w'.cell? ⟨gb210, 3, none⟩ = some (.slice Ao25 t204.length co25) ∧ w'.cell? ⟨gb210, 4, none⟩ = some (.slice Ao26 t207.length co26) ∧ w'.cell? ⟨gb185, 0, none⟩ = some (.string a0_0) ∧ w'.cell? ⟨gb185, 1, none⟩ = some (.string a0_1) ∧ w'.cell? ⟨gb185, 2, none⟩ = some (.slice A0_2 l0_2.length c0_2) ∧ w'.cell? ⟨gb185, 3, none⟩ = some (.slice A0_3 l0_3.length c0_3) ∧ w'.cell? ⟨gb185, 4, none⟩ = some (.slice A0_4 l0_4.length c0_4)) (ds := []) #[false, false, false, false, false] (by kernel_rfl) rfl rfl ⟨(Sq.o BK210.out 0).trans rfl, (Sq.o BK210.out 1).trans rfl, (Sq.o BK210.out 2).trans rfl, (Sq.o BK210.out 3).trans rfl, (Sq.o BK210.out 4).trans rfl, (Sq.o BK185.out 0).trans rfl, (Sq.o BK185.out 1).trans rfl, (Sq.o BK185.out 2).trans rfl, (Sq.o BK185.out 3).trans rfl, (Sq.o BK185.out 4).trans rfl⟩ (fun hHeld => ?_)
   generalize w27.drew = w32 at HO191 HO194 HO197 HO203 HO206 HO209 BK185 BK210 HB hHeld ⊢
   refine take_ (i := 0) (N := some 22) (v := ?_) (a' := ?_) #[true, false, false, false, false] rfl rfl (by kernel_rfl) (fun _ _ _ h => h) (Or.inl ⟨by rfl, ?_⟩) hHeld ?_ ?_
   rotate_left
   ·rintro w' ⟨s0, s1, s2, s3, s4, s5, s6, s7, s8, s9⟩
    go_simp
    with_reducible rfl
   rotate_left
   ·simp only [Act.put, List.setIfInBounds_toArray, List.set_cons_zero, List.set_cons_succ, i64_w, i32_w]
    rfl
   refine take_ (i := 1) (N := some 23) (v := ?_) (a' := ?_) #[true, true, false, false, false] rfl rfl (by kernel_rfl) (fun _ _ _ h => h) (Or.inl ⟨by rfl, ?_⟩) hHeld ?_ ?_
   rotate_left
   ·rintro w' ⟨s0, s1, s2, s3, s4, s5, s6, s7, s8, s9⟩
    go_simp
    with_reducible rfl
   rotate_left
   ·simp only [Act.put, List.setIfInBounds_toArray, List.set_cons_zero, List.set_cons_succ, i64_w, i32_w]
    rfl
   refine one_ (i := 2) (N := some 24) #[true, true, true, false, false] rfl rfl (by kernel_rfl) (by decide) (fun K hK => ?_)
   refine goes_ Try.func7 (by kernel_rfl) rfl #[.agg #[.string a0_0, .string a0_1, .slice A0_2 l0_2.length c0_2, .slice A0_3 l0_3.length c0_3, .slice A0_4 l0_4.length c0_4]] (by rfl) rfl rfl (by (try simp only [List.map_toArray, List.map_cons, List.map_nil]); first | done | rfl | (simp only [List.length_drop, List.length_take]; rfl)) ?_
   with_reducible refine (laws_toImage.calls k a0_0 a0_1 _ _ l0_2 _ _ l0_3 _ _ l0_4 t212 t213 t214 t217 t220 _ ?side1 ?side2 ?side3 ?side4 ?side5 ?side6 A29.out).mono ?_
   (case side1 => repeat (first | exact (Sq.a1 HR0_2.out HB.out) | (with_reducible refine Sq.s ?_ _) | (with_reducible refine Sq.t ?_ _) | (with_reducible refine Sq.u ?_)))
   (case side2 => exact HC0_2.out)
   (case side3 => repeat (first | exact (Sq.a1 HR0_3.out HB.out) | (with_reducible refine Sq.s ?_ _) | (with_reducible refine Sq.t ?_ _) | (with_reducible refine Sq.u ?_)))
   (case side4 => exact HC0_3.out)
   (case side5 => repeat (first | exact (Sq.a1 HR0_4.out HB.out) | (with_reducible refine Sq.s ?_ _) | (with_reducible refine Sq.t ?_ _) | (with_reducible refine Sq.u ?_)))
   (case side6 => exact HC0_4.out)
   rintro e w33 ⟨v215, v218, v221, rfl, ho0, ho1, ho2, hb⟩
   refine ⟨_, rfl, ?_⟩
   have n0_ := Sq.l (Sq.p (by (with_reducible repeat (first | apply Sq.a | apply Sq.b | apply Sq.c)); exact HO191.out) (Sq.b7 ho0) hb)
   have n1_ := Sq.l (Sq.p (by (with_reducible repeat (first | apply Sq.a | apply Sq.b | apply Sq.c)); exact HO194.out) (Sq.b7 ho1) hb)
   have n2_ := Sq.l (Kd.S_mono (Kd.S_told (Kd.S_told (Kd.S_old (by (with_reducible repeat (first | apply Sq.a7 | apply Sq.a8 | apply Sq.a9)); exact HO197.out) hb) (Sq.b7 ho0)) (Kd.S_base ho2)) (fun _ h_ => h_.1))
   have n3_ := Sq.l (Sq.p (by (with_reducible repeat (first | apply Sq.a | apply Sq.b | apply Sq.c)); exact HO203.out) (Sq.b7 ho0) hb)
   have n4_ := Sq.l (Sq.p (by (with_reducible repeat (first | apply Sq.a | apply Sq.b | apply Sq.c)); exact HO206.out) (Sq.b7 ho1) hb)
   have n5_ := Sq.l (Kd.S_mono (Kd.S_told (Kd.S_told (Kd.S_old (by (with_reducible repeat (first | apply Sq.a7 | apply Sq.a8 | apply Sq.a9)); exact HO209.out) hb) (Sq.b7 ho0)) (Kd.S_base ho2)) (fun _ h_ => h_.1))
   have n6_ := Sq.l (Sq.a2 (Sq.c1 (Sq.c1 ho0 (Sq.c2 (by (with_reducible repeat (first | apply Sq.a | apply Sq.b | apply Sq.c)); exact HO191.out))) (Sq.c2 (by (with_reducible repeat (first | apply Sq.a | apply Sq.b | apply Sq.c)); exact HO203.out))) (Sq.a5 (by repeat (first | (with_reducible first | exact HB.out | apply Sq.i | apply Sq.j | apply Sq.k | refine Sq.h ?_ GE185.out | refine Sq.h ?_ GE210.out) | exact HB.out))))
   have n7_ := Sq.l (Sq.a2 (Sq.c1 (Sq.c1 ho1 (Sq.c2 (by (with_reducible repeat (first | apply Sq.a | apply Sq.b | apply Sq.c)); exact HO194.out))) (Sq.c2 (by (with_reducible repeat (first | apply Sq.a | apply Sq.b | apply Sq.c)); exact HO206.out))) (Sq.a5 (by repeat (first | (with_reducible first | exact HB.out | apply Sq.i | apply Sq.j | apply Sq.k | refine Sq.h ?_ GE185.out | refine Sq.h ?_ GE210.out) | exact HB.out))))
   have n8_ := Sq.l (Kd.S_lower (Kd.S_new' (Kd.S_new' (Kd.S_new' (Kd.S_new' ho2 (Sq.c2 (by (with_reducible repeat (first | apply Sq.a | apply Sq.b | apply Sq.c)); exact HO191.out))) (Kd.S_lt (by (with_reducible repeat (first | apply Sq.a7 | apply Sq.a8 | apply Sq.a9)); exact HO197.out))) (Sq.c2 (by (with_reducible repeat (first | apply Sq.a | apply Sq.b | apply Sq.c)); exact HO203.out))) (Kd.S_lt (by (with_reducible repeat (first | apply Sq.a7 | apply Sq.a8 | apply Sq.a9)); exact HO209.out))) (Sq.a5 (by repeat (first | (with_reducible first | exact HB.out | apply Sq.i | apply Sq.j | apply Sq.k | refine Sq.h ?_ GE185.out | refine Sq.h ?_ GE210.out) | exact HB.out))))
   have n9_ := Sq.l (Sq.m (g := gb185) (o := .cells #[.string a0_0, .string a0_1, .slice A0_2 l0_2.length c0_2, .slice A0_3 l0_3.length c0_3, .slice A0_4 l0_4.length c0_4] 26 (0, 0)) (by (with_reducible repeat (first | refine Sq.d ?_ _ | refine Sq.e ?_ | refine Sq.f ?_ _)); exact BK185.out) hb)
   have n10_ := Sq.l (Sq.m (g := gb210) (o := .cells #[.string t199, .string t200, .slice Ao24 t201.length co24, .slice Ao25 t204.length co25, .slice Ao26 t207.length co26] 31 (0, 0)) (by (with_reducible repeat (first | refine Sq.d ?_ _ | refine Sq.e ?_ | refine Sq.f ?_ _)); exact BK210.out) hb)
   have n11_ := Sq.l (Sq.a4 (by repeat (first | (with_reducible first | exact HB.out | apply Sq.i | apply Sq.j | apply Sq.k | refine Sq.h ?_ GE185.out | refine Sq.h ?_ GE210.out) | exact HB.out)) hb)
   clear HO191 HO194 HO197 HO203 HO206 HO209 BK185 BK210 HB; have HO191 := n0_; have HO194 := n1_; have HO197 := n2_; have HO203 := n3_; have HO206 := n4_; have HO209 := n5_; have HO216 := n6_; have HO219 := n7_; have HO222 := n8_; have BK185 := n9_; have BK210 := n10_; have HB := n11_; clear n0_ n1_ n2_ n3_ n4_ n5_ n6_ n7_ n8_ n9_ n10_ n11_; (try clear hb); (try clear hb2); (try clear hk); (try clear hi); (try clear ho0); (try clear ho1); (try clear ho2)
   obtain ⟨Ao34, co34, eo34⟩ := Kd.R_slice HO216.out
   (first | subst eo34 | (injection eo34 with f1_ f2_ f3_; have f4_ := f1_.symm; have f5_ := f3_.symm; clear f1_ f2_ f3_; subst f4_; subst f5_))
   obtain ⟨Ao35, co35, eo35⟩ := Kd.R_slice HO219.out
   (first | subst eo35 | (injection eo35 with f1_ f2_ f3_; have f4_ := f1_.symm; have f5_ := f3_.symm; clear f1_ f2_ f3_; subst f4_; subst f5_))
   obtain ⟨Ao36, co36, eo36⟩ := Kd.S_slice HO222.out
   (first | subst eo36 | (injection eo36 with f1_ f2_ f3_; have f4_ := f1_.symm; have f5_ := f3_.symm; clear f1_ f2_ f3_; subst f4_; subst f5_))
   refine hK.out _ _ ⟨(Sq.o BK210.out 0).trans rfl, (Sq.o BK210.out 1).trans rfl, (Sq.o BK210.out 2).trans rfl, (Sq.o BK210.out 3).trans rfl, (Sq.o BK210.out 4).trans rfl, (Sq.o BK185.out 0).trans rfl, (Sq.o BK185.out 1).trans rfl, (Sq.o BK185.out 2).trans rfl, (Sq.o BK185.out 3).trans rfl, (Sq.o BK185.out 4).trans rfl⟩ (fun hHeld => ?_)
   clear hK K
   refine norm_ (a' := ?_) ?_ ?_
   rotate_left
   ·show Act.put _ (some 24) _ = _
    simp only [Act.put, List.setIfInBounds_toArray, List.set_cons_zero, List.set_cons_succ, i64_w, i32_w]
    rfl
   refine one_ (i := 3) (N := some 25) #[true, true, true, true, false] rfl rfl (by kernel_rfl) (by decide) (fun K hK => ?_)
   refine goes_ Try.func9 (by kernel_rfl) rfl #[.agg #[.string t199, .string t200, .slice Ao24 t201.length co24, .slice Ao25 t204.length co25, .slice Ao26 t207.length co26], .agg #[.string t212, .string t213, .slice Ao34 t214.length co34, .slice Ao35 t217.length co35, .slice Ao36 t220.length co36]] (by rfl) rfl rfl (by (try simp only [List.map_toArray, List.map_cons, List.map_nil]); first | done | rfl | (simp only [List.length_drop, List.length_take]; rfl)) ?_
   with_reducible refine (laws_eqImage.calls k t199 t200 _ _ t201 _ _ t204 _ _ t207 t212 t213 _ _ t214 _ _ t217 _ _ t220 t223 _ ?side1 ?side2 ?side3 ?side4 ?side5 ?side6 ?side7 ?side8 ?side9 ?side10 ?side11 ?side12 A30.out).mono ?_
   (case side1 => repeat (first | exact (Sq.b4 HO203.out).2.2 | (with_reducible refine Sq.s ?_ _) | (with_reducible refine Sq.t ?_ _) | (with_reducible refine Sq.u ?_)))
   (case side2 => exact (Sq.b4 HO203.out).2.1)
   (case side3 => repeat (first | exact (Sq.b4 HO206.out).2.2 | (with_reducible refine Sq.s ?_ _) | (with_reducible refine Sq.t ?_ _) | (with_reducible refine Sq.u ?_)))
   (case side4 => exact (Sq.b4 HO206.out).2.1)
   (case side5 => repeat (first | exact (Kd.S_reads' HO209.out).2.2 | (with_reducible refine Sq.s ?_ _) | (with_reducible refine Sq.t ?_ _) | (with_reducible refine Sq.u ?_)))
   (case side6 => exact (Kd.S_reads' HO209.out).2.1)
   (case side7 => repeat (first | exact (Sq.b4 HO216.out).2.2 | (with_reducible refine Sq.s ?_ _) | (with_reducible refine Sq.t ?_ _) | (with_reducible refine Sq.u ?_)))
   (case side8 => exact (Sq.b4 HO216.out).2.1)
   (case side9 => repeat (first | exact (Sq.b4 HO219.out).2.2 | (with_reducible refine Sq.s ?_ _) | (with_reducible refine Sq.t ?_ _) | (with_reducible refine Sq.u ?_)))
   (case side10 => exact (Sq.b4 HO219.out).2.1)
   (case side11 => repeat (first | exact (Kd.S_reads' HO222.out).2.2 | (with_reducible refine Sq.s ?_ _) | (with_reducible refine Sq.t ?_ _) | (with_reducible refine Sq.u ?_)))
   (case side12 => exact (Kd.S_reads' HO222.out).2.1)
   rintro e w37 ⟨rfl, hb⟩
   refine ⟨_, rfl, ?_⟩
   have n0_ := Sq.l (Sq.n (by (with_reducible repeat (first | apply Sq.a | apply Sq.b | apply Sq.c)); exact HO191.out) hb)
   have n1_ := Sq.l (Sq.n (by (with_reducible repeat (first | apply Sq.a | apply Sq.b | apply Sq.c)); exact HO194.out) hb)
   have n2_ := Sq.l (Kd.S_below (by (with_reducible repeat (first | apply Sq.a7 | apply Sq.a8 | apply Sq.a9)); exact HO197.out) hb)
   have n3_ := Sq.l (Sq.n (by (with_reducible repeat (first | apply Sq.a | apply Sq.b | apply Sq.c)); exact HO203.out) hb)
   have n4_ := Sq.l (Sq.n (by (with_reducible repeat (first | apply Sq.a | apply Sq.b | apply Sq.c)); exact HO206.out) hb)
   have n5_ := Sq.l (Kd.S_below (by (with_reducible repeat (first | apply Sq.a7 | apply Sq.a8 | apply Sq.a9)); exact HO209.out) hb)
   have n6_ := Sq.l (Sq.n (by (with_reducible repeat (first | apply Sq.a | apply Sq.b | apply Sq.c)); exact HO216.out) hb)
   have n7_ := Sq.l (Sq.n (by (with_reducible repeat (first | apply Sq.a | apply Sq.b | apply Sq.c)); exact HO219.out) hb)
   have n8_ := Sq.l (Kd.S_below (by (with_reducible repeat (first | apply Sq.a7 | apply Sq.a8 | apply Sq.a9)); exact HO222.out) hb)
   have n9_ := Sq.l (Sq.m (g := gb185) (o := .cells #[.string a0_0, .string a0_1, .slice A0_2 l0_2.length c0_2, .slice A0_3 l0_3.length c0_3, .slice A0_4 l0_4.length c0_4] 26 (0, 0)) (by (with_reducible repeat (first | refine Sq.d ?_ _ | refine Sq.e ?_ | refine Sq.f ?_ _)); exact BK185.out) hb)
   have n10_ := Sq.l (Sq.m (g := gb210) (o := .cells #[.string t199, .string t200, .slice Ao24 t201.length co24, .slice Ao25 t204.length co25, .slice Ao26 t207.length co26] 31 (0, 0)) (by (with_reducible repeat (first | refine Sq.d ?_ _ | refine Sq.e ?_ | refine Sq.f ?_ _)); exact BK210.out) hb)
   have n11_ := Sq.l (Sq.a4 (by repeat (first | (with_reducible first | exact HB.out | apply Sq.i | apply Sq.j | apply Sq.k | refine Sq.h ?_ GE185.out | refine Sq.h ?_ GE210.out) | exact HB.out)) hb)
   clear HO191 HO194 HO197 HO203 HO206 HO209 HO216 HO219 HO222 BK185 BK210 HB; have HO191 := n0_; have HO194 := n1_; have HO197 := n2_; have HO203 := n3_; have HO206 := n4_; have HO209 := n5_; have HO216 := n6_; have HO219 := n7_; have HO222 := n8_; have BK185 := n9_; have BK210 := n10_; have HB := n11_; clear n0_ n1_ n2_ n3_ n4_ n5_ n6_ n7_ n8_ n9_ n10_ n11_; (try clear hb); (try clear hb2); (try clear hk); (try clear hi)
   refine hK.out _ _ ⟨(Sq.o BK210.out 0).trans rfl, (Sq.o BK210.out 1).trans rfl, (Sq.o BK210.out 2).trans rfl, (Sq.o BK210.out 3).trans rfl, (Sq.o BK210.out 4).trans rfl, (Sq.o BK185.out 0).trans rfl, (Sq.o BK185.out 1).trans rfl, (Sq.o BK185.out 2).trans rfl, (Sq.o BK185.out 3).trans rfl, (Sq.o BK185.out 4).trans rfl⟩ (fun hHeld => ?_)
   clear hK K
   refine norm_ (a' := ?_) ?_ ?_
   rotate_left
   ·show Act.put _ (some 25) _ = _
    simp only [Act.put, List.setIfInBounds_toArray, List.set_cons_zero, List.set_cons_succ, i64_w, i32_w]
    rfl
   refine pure_ (i := 4) (N := some 26) (v := ?_) (a' := ?_) #[true, true, true, true, true] rfl rfl (by kernel_rfl) (fun _ _ _ h => h) (Or.inl ⟨by rfl, ?_⟩) ?_ ?_
   rotate_left
   ·intro w'
    go_simp
    with_reducible rfl
   rotate_left
   ·simp only [Act.put, List.setIfInBounds_toArray, List.set_cons_zero, List.set_cons_succ, i64_w, i32_w]
    rfl
   refine done_ (by kernel_rfl) ?_
   go_upto_if 26 with (fail)
   have H := HC31.out
   clear HC31
   by_cases c38 : t223 = true
   ·subst c38
    rw [if_pos rfl] at H
    obtain rfl := Option.some.inj H
    go_wp2
    go_ret
    exact ⟨by first | rfl | (simp [errW_none, errW_some] <;> rfl) | (simp [*, errW_none, errW_some] <;> rfl), by repeat (first | (with_reducible first | exact HB.out | apply Sq.i | apply Sq.j | apply Sq.k | refine Sq.h ?_ GE185.out | refine Sq.h ?_ GE210.out) | exact HB.out)⟩
   ·replace c38 := Bool.eq_false_iff.mpr c38
    subst c38
    rw [if_neg (show ¬ (false = true) by decide)] at H
    obtain rfl := Option.some.inj H
    go_wp2
    go_ret
    exact ⟨by first | rfl | (simp [errW_none, errW_some] <;> rfl) | (simp [*, errW_none, errW_some] <;> rfl), by repeat (first | (with_reducible first | exact HB.out | apply Sq.i | apply Sq.j | apply Sq.k | refine Sq.h ?_ GE185.out | refine Sq.h ?_ GE210.out) | exact HB.out)⟩
  ·rw [if_neg c28] at H
   have c28b0 : (t211 == t198) = false := beq_eq_false_iff_ne.mpr c28
   have c28b1 : (t211 != t198) = true := bne_iff_ne.mpr c28
   (first | rw [c28b0] | (simp only [i64_w, i32_w]; rw [c28b0]) | skip)
   obtain rfl := Option.some.inj H
   go_wp2
   go_ret
   exact ⟨by first | rfl | (simp [errW_none, errW_some] <;> rfl) | (simp [*, errW_none, errW_some] <;> rfl), by repeat (first | (with_reducible first | exact HB.out | apply Sq.i | apply Sq.j | apply Sq.k | refine Sq.h ?_ GE185.out | refine Sq.h ?_ GE210.out) | exact HB.out)⟩

end Go.Proofs.Ytoifdnnjdohfmaa.QFnExactImageFault
