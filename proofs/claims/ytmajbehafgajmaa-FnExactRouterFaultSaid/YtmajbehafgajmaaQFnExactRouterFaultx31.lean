-- Written for this claim by this session's own driver (wip/xprint.py).
import Derived.Test.YtmajbehafgajmaaQFnExactRouterFaultx0
import Derived.Test.YtmajbehafgajmaaQFnExactRouterFaultx6
import Derived.Test.YtmajbehafgajmaaQFnExactRouterFaultx10
import Derived.Test.YtmajbehafgajmaaQFnExactRouterFaultx18
import Derived.Test.YtmajbehafgajmaaQFnExactRouterFaultx22
import Derived.Test.YtmajbehafgajmaaQFnExactRouterFaultx30
namespace Go.Proofs.Ytmajbehafgajmaa.QFnExactRouterFault
open Go.RowKit Go.Proofs.YtmajbehafgajmaaW.PrintWords Go.Proofs.YtmajbehafgajmaaW.PrintLast Go.Proofs.YtmajbehafgajmaaW.PrintMore
attribute [local go_sem] max2_int min2_int max_two min_two max_three min_three max_four min_four   -- for this text's walks alone
set_option linter.unusedVariables false
set_option linter.unusedSimpArgs false

/-! ### laws_FnExactRouterFault: function 4 -/
def laws_FnExactRouterFault.f (k : Nat) (l0_0 : List (S166)) (l0_1 : List (S164)) (l0_2 : List (S169)) : Option (Bool) := (laws_szRouter.f k l0_0 l0_1 l0_2 1048576).bind fun t244 => (if t244 < 0 then (some true) else ((laws_toRouter.f k l0_0 l0_1 l0_2).bind fun bt245 => ((spec_RouterFault.f k bt245.1 bt245.2.1 bt245.2.2).bind fun t254 => ((laws_toRouter.f k l0_0 l0_1 l0_2).bind fun bt255 => ((impl_RouterFault.f k bt255.1 bt255.2.1 bt255.2.2).bind fun t265 => (if t265 = t254 then ((laws_toRouter.f k l0_0 l0_1 l0_2).bind fun bt266 => ((laws_eqRouter.f k bt255.1 bt255.2.1 bt255.2.2 bt266.1 bt266.2.1 bt266.2.2).bind fun t275 => (if t275 = true then (some true) else (some false)))) else (some false)))))))
theorem laws_FnExactRouterFault.mono : ∀ a0 a1 a2 k, LeO (laws_FnExactRouterFault.f k a0 a1 a2) (laws_FnExactRouterFault.f (k + 1) a0 a1 a2) := by
 intro a0 a1 a2 k
 unfold laws_FnExactRouterFault.f
 repeat' first
   | (with_reducible exact impl_RouterFault.mono _ _ _ _)
   | (with_reducible exact laws_eqRouter.mono _ _ _ _ _ _ _)
   | (with_reducible exact laws_szRouter.mono _ _ _ _ _)
   | (with_reducible exact laws_toRouter.mono _ _ _ _)
   | (with_reducible exact spec_RouterFault.mono _ _ _ _)
   | (with_reducible exact LeO.refl _)
   | (with_reducible exact LeO.none _)
   | (with_reducible refine LeO.ite ?_ ?_)
   | (with_reducible refine LeO.bind ?_ (fun _ => ?_))
   | exact impl_RouterFault.mono _ _ _ _
   | exact laws_eqRouter.mono _ _ _ _ _ _ _
   | exact laws_szRouter.mono _ _ _ _ _
   | exact laws_toRouter.mono _ _ _ _
   | exact spec_RouterFault.mono _ _ _ _
   | exact LeO.none _
   | refine LeO.ite ?_ ?_
   | refine LeO.bind ?_ (fun _ => ?_)
set_option maxHeartbeats 8000000 in
set_option maxRecDepth 100000 in
theorem laws_FnExactRouterFault.calls (k : Nat) (A0_0 : Option Addr) (c0_0 : Nat) (l0_0 : List (S166)) (A0_1 : Option Addr) (c0_1 : Nat) (l0_1 : List (S164)) (A0_2 : Option Addr) (c0_2 : Nat) (l0_2 : List (S169)) (r : Bool) (w : World) (hr0_0 : Kd.C k166 w A0_0 l0_0.length l0_0) (hc0_0 : l0_0.length ≤ c0_0) (hr0_1 : Kd.C k164 w A0_1 l0_1.length l0_1) (hc0_1 : l0_1.length ≤ c0_1) (hr0_2 : Kd.C k169 w A0_2 l0_2.length l0_2) (hc0_2 : l0_2.length ≤ c0_2) (h : laws_FnExactRouterFault.f k l0_0 l0_1 l0_2 = some r) :
  Calls Try.prog 4 #[.agg #[.slice A0_0 l0_0.length c0_0, .slice A0_1 l0_1.length c0_1, .slice A0_2 l0_2.length c0_2]] w fun e w' => e = .returned (.bool r) ∧ Below w.heap.size w w' := by
 have hu38 := Try.underlying38
 have hu45 := Try.underlying45
 have HR0_0 := Sq.l hr0_0
 have HC0_0 := Sq.l hc0_0
 clear hr0_0 hc0_0
 have HR0_1 := Sq.l hr0_1
 have HC0_1 := Sq.l hc0_1
 clear hr0_1 hc0_1
 have HR0_2 := Sq.l hr0_2
 have HC0_2 := Sq.l hc0_2
 clear hr0_2 hc0_2
 have HB := Sq.l (Below.refl w.heap.size w)
 have H : ((laws_szRouter.f k l0_0 l0_1 l0_2 1048576).bind fun t244 => (if t244 < 0 then (some true) else ((laws_toRouter.f k l0_0 l0_1 l0_2).bind fun bt245 => ((spec_RouterFault.f k bt245.1 bt245.2.1 bt245.2.2).bind fun t254 => ((laws_toRouter.f k l0_0 l0_1 l0_2).bind fun bt255 => ((impl_RouterFault.f k bt255.1 bt255.2.1 bt255.2.2).bind fun t265 => (if t265 = t254 then ((laws_toRouter.f k l0_0 l0_1 l0_2).bind fun bt266 => ((laws_eqRouter.f k bt255.1 bt255.2.1 bt255.2.2 bt266.1 bt266.2.1 bt266.2.2).bind fun t275 => (if t275 = true then (some true) else (some false)))) else (some false)))))))) = some r := h
 clear h
 replace H := Option.bind_eq_some_iff.mp H
 obtain ⟨t244, A20, H⟩ := H
 (try dsimp only at H)
 have A2 := Sq.l A20
 clear A20
 have HC3 := Sq.l H
 clear H
 go_enter Try.func4, Try.ntmps4
 go_upto_if 11 with (first | ((with_reducible refine gate_dst (N := 1) rfl ?_); refine box_event ?hg (N := 1) ?hd (cs := #[.slice A0_0 l0_0.length c0_0, .slice A0_1 l0_1.length c0_1, .slice A0_2 l0_2.length c0_2]) (t := 38) ?hr ?_; (case hd => rfl); (case hg => rfl); (case hr => first | (go_simp; done) | (go_simp; rfl)); intro gb243 hg w4 hbox hb; have n0_ := Sq.l (Sq.a4 (by repeat (first | (with_reducible first | exact HB.out | apply Sq.i | apply Sq.j | apply Sq.k) | exact HB.out)) hb); have n1_ := Sq.l (hbox); have n2_ := Sq.l ((by rw [hg]; exact (Sq.a5 (by repeat (first | (with_reducible first | exact HB.out | apply Sq.i | apply Sq.j | apply Sq.k) | exact HB.out))) : w.heap.size ≤ gb243)); have n3_ := Sq.l ((by rw [hg]; exact (Sq.a5 (by repeat (first | (with_reducible first | exact HB.out | apply Sq.i | apply Sq.j | apply Sq.k) | exact HB.out))) : w.heap.size ≤ gb243)); clear HB; have HB := n0_; have BK243 := n1_; have GW243 := n2_; have GE243 := n3_; clear n0_ n1_ n2_ n3_; clear hb hbox hg; have hcz5_0 : w4.cell? ⟨gb243, 0, none⟩ = some (.slice A0_0 l0_0.length c0_0) := (Sq.o BK243.out 0).trans rfl; have hcz5_1 : w4.cell? ⟨gb243, 1, none⟩ = some (.slice A0_1 l0_1.length c0_1) := (Sq.o BK243.out 1).trans rfl; have hcz5_2 : w4.cell? ⟨gb243, 2, none⟩ = some (.slice A0_2 l0_2.length c0_2) := (Sq.o BK243.out 2).trans rfl; have hfz5_0 := Sq.r BK243.out 0; have hfz5_1 := Sq.r BK243.out 1; have hfz5_2 := Sq.r BK243.out 2) | ((with_reducible refine gate_callee (f := 13) rfl ?_); refine goesL_ (some 9) rfl rfl Try.func13 (by kernel_rfl) rfl #[.agg #[.slice A0_0 l0_0.length c0_0, .slice A0_1 l0_1.length c0_1, .slice A0_2 l0_2.length c0_2], .int .i64 1048576] rfl (by (try simp only [List.map_toArray, List.map_cons, List.map_nil]); first | done | rfl | (simp only [List.length_drop, List.length_take]; rfl)) ?_; (with_reducible refine (laws_szRouter.calls k _ _ l0_0 _ _ l0_1 _ _ l0_2 1048576 t244 _ ?side1 ?side2 ?side3 ?side4 ?side5 ?side6 A2.out).mono ?_); (case side1 => repeat (first | exact (Sq.a1 HR0_0.out HB.out) | (with_reducible refine Sq.s ?_ _) | (with_reducible refine Sq.t ?_ _) | (with_reducible refine Sq.u ?_))); (case side2 => exact HC0_0.out); (case side3 => repeat (first | exact (Sq.a1 HR0_1.out HB.out) | (with_reducible refine Sq.s ?_ _) | (with_reducible refine Sq.t ?_ _) | (with_reducible refine Sq.u ?_))); (case side4 => exact HC0_1.out); (case side5 => repeat (first | exact (Sq.a1 HR0_2.out HB.out) | (with_reducible refine Sq.s ?_ _) | (with_reducible refine Sq.t ?_ _) | (with_reducible refine Sq.u ?_))); (case side6 => exact HC0_2.out); rintro e w6 ⟨rfl, hb⟩; refine ⟨_, rfl, ?_⟩; have n0_ := Sq.l (Sq.m (g := gb243) (o := .cells #[.slice A0_0 l0_0.length c0_0, .slice A0_1 l0_1.length c0_1, .slice A0_2 l0_2.length c0_2] 38 (0, 0)) (by (with_reducible repeat (first | refine Sq.d ?_ _ | refine Sq.e ?_ | refine Sq.f ?_ _)); exact BK243.out) hb); have n1_ := Sq.l (Sq.a4 (by repeat (first | (with_reducible first | exact HB.out | apply Sq.i | apply Sq.j | apply Sq.k | refine Sq.h ?_ GE243.out) | exact HB.out)) hb); clear BK243; clear HB; have BK243 := n0_; have HB := n1_; clear n0_ n1_; (try clear hb); (try clear hb2); (try clear hk); (try clear hi)))
 (try simp only [Act.put, List.setIfInBounds_toArray, List.set_cons_zero, List.set_cons_succ])
 have H := HC3.out
 clear HC3
 by_cases c7 : t244 < 0
 ·rw [if_pos c7] at H
  have c7b0 : decide (t244 < 0) = true := decide_eq_true c7
  clear c7
  (first | rw [c7b0] | (simp only [i64_w, i32_w]; rw [c7b0]) | skip)
  obtain rfl := Option.some.inj H
  go_wp2
  go_ret
  exact ⟨by first | rfl | (simp [errW_none, errW_some] <;> rfl) | (simp [*, errW_none, errW_some] <;> rfl), by repeat (first | (with_reducible first | exact HB.out | apply Sq.i | apply Sq.j | apply Sq.k | refine Sq.h ?_ GE243.out) | exact HB.out)⟩
 ·rw [if_neg c7] at H
  have c7b0 : decide (t244 < 0) = false := decide_eq_false c7
  clear c7
  (first | rw [c7b0] | (simp only [i64_w, i32_w]; rw [c7b0]) | skip)
  replace H := Option.bind_eq_some_iff.mp H
  obtain ⟨⟨t245, t248, t251⟩, A80, H⟩ := H
  (try dsimp only at H)
  have A8 := Sq.l A80
  clear A80
  replace H := Option.bind_eq_some_iff.mp H
  obtain ⟨t254, A90, H⟩ := H
  (try dsimp only at H)
  have A9 := Sq.l A90
  clear A90
  replace H := Option.bind_eq_some_iff.mp H
  obtain ⟨⟨t255, t258, t261⟩, A100, H⟩ := H
  (try dsimp only at H)
  have A10 := Sq.l A100
  clear A100
  replace H := Option.bind_eq_some_iff.mp H
  obtain ⟨t265, A110, H⟩ := H
  (try dsimp only at H)
  have A11 := Sq.l A110
  clear A110
  have HC12 := Sq.l H
  clear H
  have hcz13_0 : w6.cell? ⟨gb243, 0, none⟩ = some (.slice A0_0 l0_0.length c0_0) := (Sq.o BK243.out 0).trans rfl
  have hcz13_1 : w6.cell? ⟨gb243, 1, none⟩ = some (.slice A0_1 l0_1.length c0_1) := (Sq.o BK243.out 1).trans rfl
  have hcz13_2 : w6.cell? ⟨gb243, 2, none⟩ = some (.slice A0_2 l0_2.length c0_2) := (Sq.o BK243.out 2).trans rfl
  have hfz13_0 := Sq.r BK243.out 0
  have hfz13_1 := Sq.r BK243.out 1
  have hfz13_2 := Sq.r BK243.out 2
  go_upto_if 21 with (first | ((with_reducible refine gate_callee (f := 15) rfl ?_); refine goesL_ (some 13) rfl rfl Try.func15 (by kernel_rfl) rfl #[.agg #[.slice A0_0 l0_0.length c0_0, .slice A0_1 l0_1.length c0_1, .slice A0_2 l0_2.length c0_2]] rfl (by (try simp only [List.map_toArray, List.map_cons, List.map_nil]); first | done | rfl | (simp only [List.length_drop, List.length_take]; rfl)) ?_; (with_reducible refine (laws_toRouter.calls k _ _ l0_0 _ _ l0_1 _ _ l0_2 t245 t248 t251 _ ?side1 ?side2 ?side3 ?side4 ?side5 ?side6 A8.out).mono ?_); (case side1 => repeat (first | exact (Sq.a1 HR0_0.out HB.out) | (with_reducible refine Sq.s ?_ _) | (with_reducible refine Sq.t ?_ _) | (with_reducible refine Sq.u ?_))); (case side2 => exact HC0_0.out); (case side3 => repeat (first | exact (Sq.a1 HR0_1.out HB.out) | (with_reducible refine Sq.s ?_ _) | (with_reducible refine Sq.t ?_ _) | (with_reducible refine Sq.u ?_))); (case side4 => exact HC0_1.out); (case side5 => repeat (first | exact (Sq.a1 HR0_2.out HB.out) | (with_reducible refine Sq.s ?_ _) | (with_reducible refine Sq.t ?_ _) | (with_reducible refine Sq.u ?_))); (case side6 => exact HC0_2.out); rintro e w14 ⟨v246, v249, v252, rfl, ho0, ho1, ho2, hb⟩; refine ⟨_, rfl, ?_⟩; have n0_ := Sq.l (Sq.a2 ho0 (Sq.a5 (by repeat (first | (with_reducible first | exact HB.out | apply Sq.i | apply Sq.j | apply Sq.k | refine Sq.h ?_ GE243.out) | exact HB.out)))); have n1_ := Sq.l (Kd.S_lower ho1 (Sq.a5 (by repeat (first | (with_reducible first | exact HB.out | apply Sq.i | apply Sq.j | apply Sq.k | refine Sq.h ?_ GE243.out) | exact HB.out)))); have n2_ := Sq.l (Sq.a2 ho2 (Sq.a5 (by repeat (first | (with_reducible first | exact HB.out | apply Sq.i | apply Sq.j | apply Sq.k | refine Sq.h ?_ GE243.out) | exact HB.out)))); have n3_ := Sq.l (Sq.m (g := gb243) (o := .cells #[.slice A0_0 l0_0.length c0_0, .slice A0_1 l0_1.length c0_1, .slice A0_2 l0_2.length c0_2] 38 (0, 0)) (by (with_reducible repeat (first | refine Sq.d ?_ _ | refine Sq.e ?_ | refine Sq.f ?_ _)); exact BK243.out) hb); have n4_ := Sq.l (Sq.a4 (by repeat (first | (with_reducible first | exact HB.out | apply Sq.i | apply Sq.j | apply Sq.k | refine Sq.h ?_ GE243.out) | exact HB.out)) hb); clear BK243; clear HB; have HO247 := n0_; have HO250 := n1_; have HO253 := n2_; have BK243 := n3_; have HB := n4_; clear n0_ n1_ n2_ n3_ n4_; (try clear hb); (try clear hb2); (try clear hk); (try clear hi); (try clear ho0); (try clear ho1); (try clear ho2); obtain ⟨Ao15, co15, eo15⟩ := Kd.R_slice HO247.out; subst eo15; obtain ⟨Ao16, co16, eo16⟩ := Kd.S_slice HO250.out; subst eo16; obtain ⟨Ao17, co17, eo17⟩ := Kd.R_slice HO253.out; subst eo17) | ((with_reducible refine gate_callee (f := 14) rfl ?_); refine goesL_ (some 14) rfl rfl Try.func14 (by kernel_rfl) rfl #[.agg #[.slice Ao15 t245.length co15, .slice Ao16 t248.length co16, .slice Ao17 t251.length co17]] rfl (by (try simp only [List.map_toArray, List.map_cons, List.map_nil]); first | done | rfl | (simp only [List.length_drop, List.length_take]; rfl)) ?_; (with_reducible refine (spec_RouterFault.calls k _ _ t245 _ _ t248 _ _ t251 t254 _ ?side1 ?side2 ?side3 ?side4 ?side5 ?side6 A9.out).mono ?_); (case side1 => repeat (first | exact (Sq.b4 HO247.out).2.2 | (with_reducible refine Sq.s ?_ _) | (with_reducible refine Sq.t ?_ _) | (with_reducible refine Sq.u ?_))); (case side2 => exact (Sq.b4 HO247.out).2.1); (case side3 => repeat (first | exact (Kd.S_reads' HO250.out).2.2 | (with_reducible refine Sq.s ?_ _) | (with_reducible refine Sq.t ?_ _) | (with_reducible refine Sq.u ?_))); (case side4 => exact (Kd.S_reads' HO250.out).2.1); (case side5 => repeat (first | exact (Sq.b4 HO253.out).2.2 | (with_reducible refine Sq.s ?_ _) | (with_reducible refine Sq.t ?_ _) | (with_reducible refine Sq.u ?_))); (case side6 => exact (Sq.b4 HO253.out).2.1); rintro e w18 ⟨rfl, hb⟩; refine ⟨_, rfl, ?_⟩; have n0_ := Sq.l (Sq.n (by (with_reducible repeat (first | apply Sq.a | apply Sq.b | apply Sq.c)); exact HO247.out) hb); have n1_ := Sq.l (Kd.S_below (by (with_reducible repeat (first | apply Sq.a7 | apply Sq.a8 | apply Sq.a9)); exact HO250.out) hb); have n2_ := Sq.l (Sq.n (by (with_reducible repeat (first | apply Sq.a | apply Sq.b | apply Sq.c)); exact HO253.out) hb); have n3_ := Sq.l (Sq.m (g := gb243) (o := .cells #[.slice A0_0 l0_0.length c0_0, .slice A0_1 l0_1.length c0_1, .slice A0_2 l0_2.length c0_2] 38 (0, 0)) (by (with_reducible repeat (first | refine Sq.d ?_ _ | refine Sq.e ?_ | refine Sq.f ?_ _)); exact BK243.out) hb); have n4_ := Sq.l (Sq.a4 (by repeat (first | (with_reducible first | exact HB.out | apply Sq.i | apply Sq.j | apply Sq.k | refine Sq.h ?_ GE243.out) | exact HB.out)) hb); clear HO247; clear HO250; clear HO253; clear BK243; clear HB; have HO247 := n0_; have HO250 := n1_; have HO253 := n2_; have BK243 := n3_; have HB := n4_; clear n0_ n1_ n2_ n3_ n4_; (try clear hb); (try clear hb2); (try clear hk); (try clear hi); have hcz19_0 : w18.cell? ⟨gb243, 0, none⟩ = some (.slice A0_0 l0_0.length c0_0) := (Sq.o BK243.out 0).trans rfl; have hcz19_1 : w18.cell? ⟨gb243, 1, none⟩ = some (.slice A0_1 l0_1.length c0_1) := (Sq.o BK243.out 1).trans rfl; have hcz19_2 : w18.cell? ⟨gb243, 2, none⟩ = some (.slice A0_2 l0_2.length c0_2) := (Sq.o BK243.out 2).trans rfl; have hfz19_0 := Sq.r BK243.out 0; have hfz19_1 := Sq.r BK243.out 1; have hfz19_2 := Sq.r BK243.out 2) | ((with_reducible refine gate_callee (f := 15) rfl ?_); refine goesL_ (some 16) rfl rfl Try.func15 (by kernel_rfl) rfl #[.agg #[.slice A0_0 l0_0.length c0_0, .slice A0_1 l0_1.length c0_1, .slice A0_2 l0_2.length c0_2]] rfl (by (try simp only [List.map_toArray, List.map_cons, List.map_nil]); first | done | rfl | (simp only [List.length_drop, List.length_take]; rfl)) ?_; (with_reducible refine (laws_toRouter.calls k _ _ l0_0 _ _ l0_1 _ _ l0_2 t255 t258 t261 _ ?side1 ?side2 ?side3 ?side4 ?side5 ?side6 A10.out).mono ?_); (case side1 => repeat (first | exact (Sq.a1 HR0_0.out HB.out) | (with_reducible refine Sq.s ?_ _) | (with_reducible refine Sq.t ?_ _) | (with_reducible refine Sq.u ?_))); (case side2 => exact HC0_0.out); (case side3 => repeat (first | exact (Sq.a1 HR0_1.out HB.out) | (with_reducible refine Sq.s ?_ _) | (with_reducible refine Sq.t ?_ _) | (with_reducible refine Sq.u ?_))); (case side4 => exact HC0_1.out); (case side5 => repeat (first | exact (Sq.a1 HR0_2.out HB.out) | (with_reducible refine Sq.s ?_ _) | (with_reducible refine Sq.t ?_ _) | (with_reducible refine Sq.u ?_))); (case side6 => exact HC0_2.out); rintro e w20 ⟨v256, v259, v262, rfl, ho0, ho1, ho2, hb⟩; refine ⟨_, rfl, ?_⟩; have n0_ := Sq.l (Sq.p (by (with_reducible repeat (first | apply Sq.a | apply Sq.b | apply Sq.c)); exact HO247.out) (Sq.b7 ho0) hb); have n1_ := Sq.l (Kd.S_elder' (by (with_reducible repeat (first | apply Sq.a7 | apply Sq.a8 | apply Sq.a9)); exact HO250.out) (Kd.S_base ho1) hb); have n2_ := Sq.l (Sq.p (by (with_reducible repeat (first | apply Sq.a | apply Sq.b | apply Sq.c)); exact HO253.out) (Sq.b7 ho2) hb); have n3_ := Sq.l (Sq.a2 (Sq.c1 ho0 (Sq.c2 (by (with_reducible repeat (first | apply Sq.a | apply Sq.b | apply Sq.c)); exact HO247.out))) (Sq.a5 (by repeat (first | (with_reducible first | exact HB.out | apply Sq.i | apply Sq.j | apply Sq.k | refine Sq.h ?_ GE243.out) | exact HB.out)))); have n4_ := Sq.l (Kd.S_lower (Kd.S_new' ho1 (Kd.S_lt (by (with_reducible repeat (first | apply Sq.a7 | apply Sq.a8 | apply Sq.a9)); exact HO250.out))) (Sq.a5 (by repeat (first | (with_reducible first | exact HB.out | apply Sq.i | apply Sq.j | apply Sq.k | refine Sq.h ?_ GE243.out) | exact HB.out)))); have n5_ := Sq.l (Sq.a2 (Sq.c1 ho2 (Sq.c2 (by (with_reducible repeat (first | apply Sq.a | apply Sq.b | apply Sq.c)); exact HO253.out))) (Sq.a5 (by repeat (first | (with_reducible first | exact HB.out | apply Sq.i | apply Sq.j | apply Sq.k | refine Sq.h ?_ GE243.out) | exact HB.out)))); have n6_ := Sq.l (Sq.m (g := gb243) (o := .cells #[.slice A0_0 l0_0.length c0_0, .slice A0_1 l0_1.length c0_1, .slice A0_2 l0_2.length c0_2] 38 (0, 0)) (by (with_reducible repeat (first | refine Sq.d ?_ _ | refine Sq.e ?_ | refine Sq.f ?_ _)); exact BK243.out) hb); have n7_ := Sq.l (Sq.a4 (by repeat (first | (with_reducible first | exact HB.out | apply Sq.i | apply Sq.j | apply Sq.k | refine Sq.h ?_ GE243.out) | exact HB.out)) hb); clear HO247; clear HO250; clear HO253; clear BK243; clear HB; have HO247 := n0_; have HO250 := n1_; have HO253 := n2_; have HO257 := n3_; have HO260 := n4_; have HO263 := n5_; have BK243 := n6_; have HB := n7_; clear n0_ n1_ n2_ n3_ n4_ n5_ n6_ n7_; (try clear hb); (try clear hb2); (try clear hk); (try clear hi); (try clear ho0); (try clear ho1); (try clear ho2)) | ((with_reducible refine gate_dst (N := 5) rfl ?_); refine box_event ?hg (N := 5) ?hd (cs := #[.slice none 0 0, .slice none 0 0, .slice none 0 0]) (t := 45) ?hr ?_; (case hd => rfl); (case hg => rfl); (case hr => first | (go_simp; done) | (go_simp; rfl)); intro gb264 hg w21 hbox hb; have n0_ := Sq.l (Sq.n (by (with_reducible repeat (first | apply Sq.a | apply Sq.b | apply Sq.c)); exact HO247.out) hb); have n1_ := Sq.l (Kd.S_below (by (with_reducible repeat (first | apply Sq.a7 | apply Sq.a8 | apply Sq.a9)); exact HO250.out) hb); have n2_ := Sq.l (Sq.n (by (with_reducible repeat (first | apply Sq.a | apply Sq.b | apply Sq.c)); exact HO253.out) hb); have n3_ := Sq.l (Sq.n (by (with_reducible repeat (first | apply Sq.a | apply Sq.b | apply Sq.c)); exact HO257.out) hb); have n4_ := Sq.l (Kd.S_below (by (with_reducible repeat (first | apply Sq.a7 | apply Sq.a8 | apply Sq.a9)); exact HO260.out) hb); have n5_ := Sq.l (Sq.n (by (with_reducible repeat (first | apply Sq.a | apply Sq.b | apply Sq.c)); exact HO263.out) hb); have n6_ := Sq.l (Sq.m (g := gb243) (o := .cells #[.slice A0_0 l0_0.length c0_0, .slice A0_1 l0_1.length c0_1, .slice A0_2 l0_2.length c0_2] 38 (0, 0)) (by (with_reducible repeat (first | refine Sq.d ?_ _ | refine Sq.e ?_ | refine Sq.f ?_ _)); exact BK243.out) hb); have n7_ := Sq.l (Sq.a4 (by repeat (first | (with_reducible first | exact HB.out | apply Sq.i | apply Sq.j | apply Sq.k | refine Sq.h ?_ GE243.out) | exact HB.out)) hb); have n8_ := Sq.l (hbox); have n9_ := Sq.l ((by rw [hg]; exact (Sq.a5 (by repeat (first | (with_reducible first | exact HB.out | apply Sq.i | apply Sq.j | apply Sq.k | refine Sq.h ?_ GE243.out) | exact HB.out))) : w.heap.size ≤ gb264)); have n10_ := Sq.l ((by rw [hg]; exact (Sq.a5 (by repeat (first | (with_reducible first | exact HB.out | apply Sq.i | apply Sq.j | apply Sq.k | refine Sq.h ?_ GE243.out) | exact HB.out))) : w.heap.size ≤ gb264)); have n11_ := Sq.l ((by rw [hg]; exact Nat.ne_of_lt (blk_lt (g := gb243) (o := .cells #[.slice A0_0 l0_0.length c0_0, .slice A0_1 l0_1.length c0_1, .slice A0_2 l0_2.length c0_2] 38 (0, 0)) (by (with_reducible repeat (first | refine Sq.d ?_ _ | refine Sq.e ?_ | refine Sq.f ?_ _)); exact BK243.out)) : gb243 ≠ gb264)); have n12_ := Sq.l ((by rw [hg]; exact Nat.ne_of_gt (blk_lt (g := gb243) (o := .cells #[.slice A0_0 l0_0.length c0_0, .slice A0_1 l0_1.length c0_1, .slice A0_2 l0_2.length c0_2] 38 (0, 0)) (by (with_reducible repeat (first | refine Sq.d ?_ _ | refine Sq.e ?_ | refine Sq.f ?_ _)); exact BK243.out)) : gb264 ≠ gb243)); clear HO247; clear HO250; clear HO253; clear HO257; clear HO260; clear HO263; clear BK243; clear HB; have HO247 := n0_; have HO250 := n1_; have HO253 := n2_; have HO257 := n3_; have HO260 := n4_; have HO263 := n5_; have BK243 := n6_; have HB := n7_; have BK264 := n8_; have GW264 := n9_; have GE264 := n10_; have NB243_264 := n11_; have NB264_243 := n12_; clear n0_ n1_ n2_ n3_ n4_ n5_ n6_ n7_ n8_ n9_ n10_ n11_ n12_; clear hb hbox hg; obtain ⟨Ao22, co22, eo22⟩ := Kd.R_slice HO257.out; subst eo22; have hnb23 := NB264_243.out; have hnc23 := NB243_264.out; have hcz24_0 : w21.cell? ⟨gb264, 0, none⟩ = some (.slice none 0 0) := (Sq.o BK264.out 0).trans rfl; have hcz24_1 : w21.cell? ⟨gb264, 1, none⟩ = some (.slice none 0 0) := (Sq.o BK264.out 1).trans rfl; have hcz24_2 : w21.cell? ⟨gb264, 2, none⟩ = some (.slice none 0 0) := (Sq.o BK264.out 2).trans rfl; have hfz24_0 := Sq.r BK264.out 0; have hfz24_1 := Sq.r BK264.out 1; have hfz24_2 := Sq.r BK264.out 2; obtain ⟨Ao25, co25, eo25⟩ := Kd.S_slice HO260.out; subst eo25; obtain ⟨Ao26, co26, eo26⟩ := Kd.R_slice HO263.out; subst eo26) | ((with_reducible refine gate_callee (f := 16) rfl ?_); refine goesL_ (some 18) rfl rfl Try.func16 (by kernel_rfl) rfl #[.agg #[.slice Ao22 t255.length co22, .slice Ao25 t258.length co25, .slice Ao26 t261.length co26]] rfl (by (try simp only [List.map_toArray, List.map_cons, List.map_nil]); first | done | rfl | (simp only [List.length_drop, List.length_take]; rfl)) ?_; (with_reducible refine (impl_RouterFault.calls k _ _ t255 _ _ t258 _ _ t261 t265 _ ?side1 ?side2 ?side3 ?side4 ?side5 ?side6 A11.out).mono ?_); (case side1 => refine (Sq.b4 (e := 107) (base := w.heap.size) (ok := fun k_ => (True ∧ some k_ ≠ (.slice Ao15 t245.length co15 : Value).ownBlock)) (n := t255.length) (c := co22) ?_).2.2; exact (by (with_reducible repeat (first | apply Sq.a | apply Sq.b | apply Sq.c)); exact (Sq.a3 (Sq.R3 (Sq.b5 HO257.out BK264.out (by decide)) (fun _ hk => hk.2)) (fun _ h_ => h_.1)))); (case side2 => exact (Sq.b4 HO257.out).2.1); (case side3 => refine (Kd.S_reads' (e := 111) (base := w.heap.size) (ok := fun k_ => (True ∧ some k_ ≠ (.slice Ao16 t248.length co16 : Value).ownBlock)) (n := t258.length) (c := co25) ?_).2.2; exact (by (with_reducible repeat (first | apply Sq.a7 | apply Sq.a8 | apply Sq.a9)); exact (Kd.S_mono (Sq.S3 (Kd.S_types HO260.out BK264.out (by decide)) (fun _ hk => hk.2)) (fun _ h_ => h_.1)))); (case side4 => exact (Kd.S_reads' HO260.out).2.1); (case side5 => refine (Sq.b4 (e := 113) (base := w.heap.size) (ok := fun k_ => (True ∧ some k_ ≠ (.slice Ao17 t251.length co17 : Value).ownBlock)) (n := t261.length) (c := co26) ?_).2.2; exact (by (with_reducible repeat (first | apply Sq.a | apply Sq.b | apply Sq.c)); exact (Sq.a3 (Sq.R3 (Sq.b5 HO263.out BK264.out (by decide)) (fun _ hk => hk.2)) (fun _ h_ => h_.1)))); (case side6 => exact (Sq.b4 HO263.out).2.1); rintro e w27 ⟨rfl, hb⟩; refine ⟨_, rfl, ?_⟩; have n0_ := Sq.l (Sq.n (by (with_reducible repeat (first | apply Sq.a | apply Sq.b | apply Sq.c)); exact (Sq.a3 (Sq.R3 (Sq.b5 HO247.out BK264.out (by decide)) (fun _ hk => hk.2)) (fun _ h_ => h_.1))) hb); have n1_ := Sq.l (Kd.S_below (by (with_reducible repeat (first | apply Sq.a7 | apply Sq.a8 | apply Sq.a9)); exact (Kd.S_mono (Sq.S3 (Kd.S_types HO250.out BK264.out (by decide)) (fun _ hk => hk.2)) (fun _ h_ => h_.1))) hb); have n2_ := Sq.l (Sq.n (by (with_reducible repeat (first | apply Sq.a | apply Sq.b | apply Sq.c)); exact (Sq.a3 (Sq.R3 (Sq.b5 HO253.out BK264.out (by decide)) (fun _ hk => hk.2)) (fun _ h_ => h_.1))) hb); have n3_ := Sq.l (Sq.n (by (with_reducible repeat (first | apply Sq.a | apply Sq.b | apply Sq.c)); exact (Sq.a3 (Sq.R3 (Sq.b5 HO257.out BK264.out (by decide)) (fun _ hk => hk.2)) (fun _ h_ => h_.1))) hb); have n4_ := Sq.l (Kd.S_below (by (with_reducible repeat (first | apply Sq.a7 | apply Sq.a8 | apply Sq.a9)); exact (Kd.S_mono (Sq.S3 (Kd.S_types HO260.out BK264.out (by decide)) (fun _ hk => hk.2)) (fun _ h_ => h_.1))) hb); have n5_ := Sq.l (Sq.n (by (with_reducible repeat (first | apply Sq.a | apply Sq.b | apply Sq.c)); exact (Sq.a3 (Sq.R3 (Sq.b5 HO263.out BK264.out (by decide)) (fun _ hk => hk.2)) (fun _ h_ => h_.1))) hb); have n6_ := Sq.l (Sq.m (g := gb243) (o := .cells #[.slice A0_0 l0_0.length c0_0, .slice A0_1 l0_1.length c0_1, .slice A0_2 l0_2.length c0_2] 38 (0, 0)) (by (with_reducible repeat (first | refine Sq.d ?_ _ | refine Sq.e ?_ | refine Sq.f ?_ _)); refine Sq.B3 ?_ NB243_264.out; (with_reducible repeat (first | refine Sq.d ?_ _ | refine Sq.e ?_ | refine Sq.f ?_ _)); exact BK243.out) hb); have n7_ := Sq.l (Sq.m (g := gb264) (o := .cells #[.slice Ao22 t255.length co22, .slice Ao25 t258.length co25, .slice Ao26 t261.length co26] 45 (0, 0)) (by (with_reducible repeat (first | refine Sq.d ?_ _ | refine Sq.e ?_ | refine Sq.f ?_ _)); refine Sq.v (cs := #[.slice Ao22 t255.length co22, .slice Ao25 t258.length co25, .slice none 0 0]) ?_ 2 _ rfl; (with_reducible repeat (first | refine Sq.d ?_ _ | refine Sq.e ?_ | refine Sq.f ?_ _)); refine Sq.v (cs := #[.slice Ao22 t255.length co22, .slice none 0 0, .slice none 0 0]) ?_ 1 _ rfl; (with_reducible repeat (first | refine Sq.d ?_ _ | refine Sq.e ?_ | refine Sq.f ?_ _)); refine Sq.v (cs := #[.slice none 0 0, .slice none 0 0, .slice none 0 0]) ?_ 0 _ rfl; (with_reducible repeat (first | refine Sq.d ?_ _ | refine Sq.e ?_ | refine Sq.f ?_ _)); exact BK264.out) hb); have n8_ := Sq.l (Sq.a4 (by repeat (first | (with_reducible first | exact HB.out | apply Sq.i | apply Sq.j | apply Sq.k | refine Sq.h ?_ GE243.out | refine Sq.h ?_ GE264.out) | exact HB.out)) hb); clear HO247; clear HO250; clear HO253; clear HO257; clear HO260; clear HO263; clear BK243; clear BK264; clear HB; have HO247 := n0_; have HO250 := n1_; have HO253 := n2_; have HO257 := n3_; have HO260 := n4_; have HO263 := n5_; have BK243 := n6_; have BK264 := n7_; have HB := n8_; clear n0_ n1_ n2_ n3_ n4_ n5_ n6_ n7_ n8_; (try clear hb); (try clear hb2); (try clear hk); (try clear hi)))
  (try simp only [Act.put, List.setIfInBounds_toArray, List.set_cons_zero, List.set_cons_succ])
  have H := HC12.out
  clear HC12
  by_cases c28 : t265 = t254
  ·rw [if_pos c28] at H
   have c28b0 : (t265 == t254) = true := beq_iff_eq.mpr c28
   have c28b1 : (t265 != t254) = false := bne_eq_false_iff_eq.mpr c28
   clear c28
   (first | rw [c28b0] | (simp only [i64_w, i32_w]; rw [c28b0]) | skip)
   replace H := Option.bind_eq_some_iff.mp H
   obtain ⟨⟨t266, t269, t272⟩, A290, H⟩ := H
   (try dsimp only at H)
   have A29 := Sq.l A290
   clear A290
   replace H := Option.bind_eq_some_iff.mp H
   obtain ⟨t275, A300, H⟩ := H
   (try dsimp only at H)
   have A30 := Sq.l A300
   clear A300
   have HC31 := Sq.l H
   clear H
   try go_wp2
   have n0_ := Sq.l (Sq.c HO247.out)
   have n1_ := Sq.l (Sq.a9 HO250.out)
   have n2_ := Sq.l (Sq.c HO253.out)
   have n3_ := Sq.l (Sq.c HO257.out)
   have n4_ := Sq.l (Sq.a9 HO260.out)
   have n5_ := Sq.l (Sq.c HO263.out)
   have n6_ := Sq.l (Sq.e BK243.out)
   have n7_ := Sq.l (Sq.e BK264.out)
   have n8_ := Sq.l (Sq.k HB.out)
   clear HO247 HO250 HO253 HO257 HO260 HO263 BK243 BK264 HB; have HO247 := n0_; have HO250 := n1_; have HO253 := n2_; have HO257 := n3_; have HO260 := n4_; have HO263 := n5_; have BK243 := n6_; have BK264 := n7_; have HB := n8_; clear n0_ n1_ n2_ n3_ n4_ n5_ n6_ n7_ n8_
   refine start_ (n := 5) (S := fun w' => w'.cell? ⟨gb264, 0, none⟩ = some (.slice Ao22 t255.length co22) ∧ w'.cell? ⟨gb264, 1, none⟩ = some (.slice Ao25 t258.length co25) ∧ w'.cell? ⟨gb264, 2, none⟩ = some (.slice Ao26 t261.length co26) ∧ w'.cell? ⟨gb243, 0, none⟩ = some (.slice A0_0 l0_0.length c0_0) ∧ w'.cell? ⟨gb243, 1, none⟩ = some (.slice A0_1 l0_1.length c0_1) ∧ w'.cell? ⟨gb243, 2, none⟩ = some (.slice A0_2 l0_2.length c0_2)) (ds := []) #[false, false, false, false, false] (by kernel_rfl) rfl rfl ⟨(Sq.o BK264.out 0).trans rfl, (Sq.o BK264.out 1).trans rfl, (Sq.o BK264.out 2).trans rfl, (Sq.o BK243.out 0).trans rfl, (Sq.o BK243.out 1).trans rfl, (Sq.o BK243.out 2).trans rfl⟩ (fun hHeld => ?_)
   generalize w27.drew = w32 at HO247 HO250 HO253 HO257 HO260 HO263 BK243 BK264 HB hHeld ⊢
   refine take_ (i := 0) (N := some 22) (v := ?_) (a' := ?_) #[true, false, false, false, false] rfl rfl (by kernel_rfl) (fun _ _ _ h => h) (Or.inl ⟨by rfl, ?_⟩) hHeld ?_ ?_
   rotate_left
   ·rintro w' ⟨s0, s1, s2, s3, s4, s5⟩
    go_simp
    with_reducible rfl
   rotate_left
   ·simp only [Act.put, List.setIfInBounds_toArray, List.set_cons_zero, List.set_cons_succ, i64_w, i32_w]
    rfl
   refine take_ (i := 1) (N := some 23) (v := ?_) (a' := ?_) #[true, true, false, false, false] rfl rfl (by kernel_rfl) (fun _ _ _ h => h) (Or.inl ⟨by rfl, ?_⟩) hHeld ?_ ?_
   rotate_left
   ·rintro w' ⟨s0, s1, s2, s3, s4, s5⟩
    go_simp
    with_reducible rfl
   rotate_left
   ·simp only [Act.put, List.setIfInBounds_toArray, List.set_cons_zero, List.set_cons_succ, i64_w, i32_w]
    rfl
   refine one_ (i := 2) (N := some 24) #[true, true, true, false, false] rfl rfl (by kernel_rfl) (by decide) (fun K hK => ?_)
   refine goes_ Try.func15 (by kernel_rfl) rfl #[.agg #[.slice A0_0 l0_0.length c0_0, .slice A0_1 l0_1.length c0_1, .slice A0_2 l0_2.length c0_2]] (by rfl) rfl rfl (by (try simp only [List.map_toArray, List.map_cons, List.map_nil]); first | done | rfl | (simp only [List.length_drop, List.length_take]; rfl)) ?_
   with_reducible refine (laws_toRouter.calls k _ _ l0_0 _ _ l0_1 _ _ l0_2 t266 t269 t272 _ ?side1 ?side2 ?side3 ?side4 ?side5 ?side6 A29.out).mono ?_
   (case side1 => repeat (first | exact (Sq.a1 HR0_0.out HB.out) | (with_reducible refine Sq.s ?_ _) | (with_reducible refine Sq.t ?_ _) | (with_reducible refine Sq.u ?_)))
   (case side2 => exact HC0_0.out)
   (case side3 => repeat (first | exact (Sq.a1 HR0_1.out HB.out) | (with_reducible refine Sq.s ?_ _) | (with_reducible refine Sq.t ?_ _) | (with_reducible refine Sq.u ?_)))
   (case side4 => exact HC0_1.out)
   (case side5 => repeat (first | exact (Sq.a1 HR0_2.out HB.out) | (with_reducible refine Sq.s ?_ _) | (with_reducible refine Sq.t ?_ _) | (with_reducible refine Sq.u ?_)))
   (case side6 => exact HC0_2.out)
   rintro e w33 ⟨v267, v270, v273, rfl, ho0, ho1, ho2, hb⟩
   refine ⟨_, rfl, ?_⟩
   have n0_ := Sq.l (Sq.p (by (with_reducible repeat (first | apply Sq.a | apply Sq.b | apply Sq.c)); exact HO247.out) (Sq.b7 ho0) hb)
   have n1_ := Sq.l (Kd.S_elder' (by (with_reducible repeat (first | apply Sq.a7 | apply Sq.a8 | apply Sq.a9)); exact HO250.out) (Kd.S_base ho1) hb)
   have n2_ := Sq.l (Sq.p (by (with_reducible repeat (first | apply Sq.a | apply Sq.b | apply Sq.c)); exact HO253.out) (Sq.b7 ho2) hb)
   have n3_ := Sq.l (Sq.p (by (with_reducible repeat (first | apply Sq.a | apply Sq.b | apply Sq.c)); exact HO257.out) (Sq.b7 ho0) hb)
   have n4_ := Sq.l (Kd.S_elder' (by (with_reducible repeat (first | apply Sq.a7 | apply Sq.a8 | apply Sq.a9)); exact HO260.out) (Kd.S_base ho1) hb)
   have n5_ := Sq.l (Sq.p (by (with_reducible repeat (first | apply Sq.a | apply Sq.b | apply Sq.c)); exact HO263.out) (Sq.b7 ho2) hb)
   have n6_ := Sq.l (Sq.a2 (Sq.c1 (Sq.c1 ho0 (Sq.c2 (by (with_reducible repeat (first | apply Sq.a | apply Sq.b | apply Sq.c)); exact HO247.out))) (Sq.c2 (by (with_reducible repeat (first | apply Sq.a | apply Sq.b | apply Sq.c)); exact HO257.out))) (Sq.a5 (by repeat (first | (with_reducible first | exact HB.out | apply Sq.i | apply Sq.j | apply Sq.k | refine Sq.h ?_ GE243.out | refine Sq.h ?_ GE264.out) | exact HB.out))))
   have n7_ := Sq.l (Kd.S_lower (Kd.S_new' (Kd.S_new' ho1 (Kd.S_lt (by (with_reducible repeat (first | apply Sq.a7 | apply Sq.a8 | apply Sq.a9)); exact HO250.out))) (Kd.S_lt (by (with_reducible repeat (first | apply Sq.a7 | apply Sq.a8 | apply Sq.a9)); exact HO260.out))) (Sq.a5 (by repeat (first | (with_reducible first | exact HB.out | apply Sq.i | apply Sq.j | apply Sq.k | refine Sq.h ?_ GE243.out | refine Sq.h ?_ GE264.out) | exact HB.out))))
   have n8_ := Sq.l (Sq.a2 (Sq.c1 (Sq.c1 ho2 (Sq.c2 (by (with_reducible repeat (first | apply Sq.a | apply Sq.b | apply Sq.c)); exact HO253.out))) (Sq.c2 (by (with_reducible repeat (first | apply Sq.a | apply Sq.b | apply Sq.c)); exact HO263.out))) (Sq.a5 (by repeat (first | (with_reducible first | exact HB.out | apply Sq.i | apply Sq.j | apply Sq.k | refine Sq.h ?_ GE243.out | refine Sq.h ?_ GE264.out) | exact HB.out))))
   have n9_ := Sq.l (Sq.m (g := gb243) (o := .cells #[.slice A0_0 l0_0.length c0_0, .slice A0_1 l0_1.length c0_1, .slice A0_2 l0_2.length c0_2] 38 (0, 0)) (by (with_reducible repeat (first | refine Sq.d ?_ _ | refine Sq.e ?_ | refine Sq.f ?_ _)); exact BK243.out) hb)
   have n10_ := Sq.l (Sq.m (g := gb264) (o := .cells #[.slice Ao22 t255.length co22, .slice Ao25 t258.length co25, .slice Ao26 t261.length co26] 45 (0, 0)) (by (with_reducible repeat (first | refine Sq.d ?_ _ | refine Sq.e ?_ | refine Sq.f ?_ _)); exact BK264.out) hb)
   have n11_ := Sq.l (Sq.a4 (by repeat (first | (with_reducible first | exact HB.out | apply Sq.i | apply Sq.j | apply Sq.k | refine Sq.h ?_ GE243.out | refine Sq.h ?_ GE264.out) | exact HB.out)) hb)
   clear HO247 HO250 HO253 HO257 HO260 HO263 BK243 BK264 HB; have HO247 := n0_; have HO250 := n1_; have HO253 := n2_; have HO257 := n3_; have HO260 := n4_; have HO263 := n5_; have HO268 := n6_; have HO271 := n7_; have HO274 := n8_; have BK243 := n9_; have BK264 := n10_; have HB := n11_; clear n0_ n1_ n2_ n3_ n4_ n5_ n6_ n7_ n8_ n9_ n10_ n11_; (try clear hb); (try clear hb2); (try clear hk); (try clear hi); (try clear ho0); (try clear ho1); (try clear ho2)
   obtain ⟨Ao34, co34, eo34⟩ := Kd.R_slice HO268.out
   (first | subst eo34 | (injection eo34 with f1_ f2_ f3_; have f4_ := f1_.symm; have f5_ := f3_.symm; clear f1_ f2_ f3_; subst f4_; subst f5_))
   obtain ⟨Ao35, co35, eo35⟩ := Kd.S_slice HO271.out
   (first | subst eo35 | (injection eo35 with f1_ f2_ f3_; have f4_ := f1_.symm; have f5_ := f3_.symm; clear f1_ f2_ f3_; subst f4_; subst f5_))
   obtain ⟨Ao36, co36, eo36⟩ := Kd.R_slice HO274.out
   (first | subst eo36 | (injection eo36 with f1_ f2_ f3_; have f4_ := f1_.symm; have f5_ := f3_.symm; clear f1_ f2_ f3_; subst f4_; subst f5_))
   refine hK.out _ _ ⟨(Sq.o BK264.out 0).trans rfl, (Sq.o BK264.out 1).trans rfl, (Sq.o BK264.out 2).trans rfl, (Sq.o BK243.out 0).trans rfl, (Sq.o BK243.out 1).trans rfl, (Sq.o BK243.out 2).trans rfl⟩ (fun hHeld => ?_)
   clear hK K
   refine norm_ (a' := ?_) ?_ ?_
   rotate_left
   ·show Act.put _ (some 24) _ = _
    simp only [Act.put, List.setIfInBounds_toArray, List.set_cons_zero, List.set_cons_succ, i64_w, i32_w]
    rfl
   refine one_ (i := 3) (N := some 25) #[true, true, true, true, false] rfl rfl (by kernel_rfl) (by decide) (fun K hK => ?_)
   refine goes_ Try.func17 (by kernel_rfl) rfl #[.agg #[.slice Ao22 t255.length co22, .slice Ao25 t258.length co25, .slice Ao26 t261.length co26], .agg #[.slice Ao34 t266.length co34, .slice Ao35 t269.length co35, .slice Ao36 t272.length co36]] (by rfl) rfl rfl (by (try simp only [List.map_toArray, List.map_cons, List.map_nil]); first | done | rfl | (simp only [List.length_drop, List.length_take]; rfl)) ?_
   with_reducible refine (laws_eqRouter.calls k _ _ t255 _ _ t258 _ _ t261 _ _ t266 _ _ t269 _ _ t272 t275 _ ?side1 ?side2 ?side3 ?side4 ?side5 ?side6 ?side7 ?side8 ?side9 ?side10 ?side11 ?side12 A30.out).mono ?_
   (case side1 => repeat (first | exact (Sq.b4 HO257.out).2.2 | (with_reducible refine Sq.s ?_ _) | (with_reducible refine Sq.t ?_ _) | (with_reducible refine Sq.u ?_)))
   (case side2 => exact (Sq.b4 HO257.out).2.1)
   (case side3 => repeat (first | exact (Kd.S_reads' HO260.out).2.2 | (with_reducible refine Sq.s ?_ _) | (with_reducible refine Sq.t ?_ _) | (with_reducible refine Sq.u ?_)))
   (case side4 => exact (Kd.S_reads' HO260.out).2.1)
   (case side5 => repeat (first | exact (Sq.b4 HO263.out).2.2 | (with_reducible refine Sq.s ?_ _) | (with_reducible refine Sq.t ?_ _) | (with_reducible refine Sq.u ?_)))
   (case side6 => exact (Sq.b4 HO263.out).2.1)
   (case side7 => repeat (first | exact (Sq.b4 HO268.out).2.2 | (with_reducible refine Sq.s ?_ _) | (with_reducible refine Sq.t ?_ _) | (with_reducible refine Sq.u ?_)))
   (case side8 => exact (Sq.b4 HO268.out).2.1)
   (case side9 => repeat (first | exact (Kd.S_reads' HO271.out).2.2 | (with_reducible refine Sq.s ?_ _) | (with_reducible refine Sq.t ?_ _) | (with_reducible refine Sq.u ?_)))
   (case side10 => exact (Kd.S_reads' HO271.out).2.1)
   (case side11 => repeat (first | exact (Sq.b4 HO274.out).2.2 | (with_reducible refine Sq.s ?_ _) | (with_reducible refine Sq.t ?_ _) | (with_reducible refine Sq.u ?_)))
   (case side12 => exact (Sq.b4 HO274.out).2.1)
   rintro e w37 ⟨rfl, hb⟩
   refine ⟨_, rfl, ?_⟩
   have n0_ := Sq.l (Sq.n (by (with_reducible repeat (first | apply Sq.a | apply Sq.b | apply Sq.c)); exact HO247.out) hb)
   have n1_ := Sq.l (Kd.S_below (by (with_reducible repeat (first | apply Sq.a7 | apply Sq.a8 | apply Sq.a9)); exact HO250.out) hb)
   have n2_ := Sq.l (Sq.n (by (with_reducible repeat (first | apply Sq.a | apply Sq.b | apply Sq.c)); exact HO253.out) hb)
   have n3_ := Sq.l (Sq.n (by (with_reducible repeat (first | apply Sq.a | apply Sq.b | apply Sq.c)); exact HO257.out) hb)
   have n4_ := Sq.l (Kd.S_below (by (with_reducible repeat (first | apply Sq.a7 | apply Sq.a8 | apply Sq.a9)); exact HO260.out) hb)
   have n5_ := Sq.l (Sq.n (by (with_reducible repeat (first | apply Sq.a | apply Sq.b | apply Sq.c)); exact HO263.out) hb)
   have n6_ := Sq.l (Sq.n (by (with_reducible repeat (first | apply Sq.a | apply Sq.b | apply Sq.c)); exact HO268.out) hb)
   have n7_ := Sq.l (Kd.S_below (by (with_reducible repeat (first | apply Sq.a7 | apply Sq.a8 | apply Sq.a9)); exact HO271.out) hb)
   have n8_ := Sq.l (Sq.n (by (with_reducible repeat (first | apply Sq.a | apply Sq.b | apply Sq.c)); exact HO274.out) hb)
   have n9_ := Sq.l (Sq.m (g := gb243) (o := .cells #[.slice A0_0 l0_0.length c0_0, .slice A0_1 l0_1.length c0_1, .slice A0_2 l0_2.length c0_2] 38 (0, 0)) (by (with_reducible repeat (first | refine Sq.d ?_ _ | refine Sq.e ?_ | refine Sq.f ?_ _)); exact BK243.out) hb)
   have n10_ := Sq.l (Sq.m (g := gb264) (o := .cells #[.slice Ao22 t255.length co22, .slice Ao25 t258.length co25, .slice Ao26 t261.length co26] 45 (0, 0)) (by (with_reducible repeat (first | refine Sq.d ?_ _ | refine Sq.e ?_ | refine Sq.f ?_ _)); exact BK264.out) hb)
   have n11_ := Sq.l (Sq.a4 (by repeat (first | (with_reducible first | exact HB.out | apply Sq.i | apply Sq.j | apply Sq.k | refine Sq.h ?_ GE243.out | refine Sq.h ?_ GE264.out) | exact HB.out)) hb)
   clear HO247 HO250 HO253 HO257 HO260 HO263 HO268 HO271 HO274 BK243 BK264 HB; have HO247 := n0_; have HO250 := n1_; have HO253 := n2_; have HO257 := n3_; have HO260 := n4_; have HO263 := n5_; have HO268 := n6_; have HO271 := n7_; have HO274 := n8_; have BK243 := n9_; have BK264 := n10_; have HB := n11_; clear n0_ n1_ n2_ n3_ n4_ n5_ n6_ n7_ n8_ n9_ n10_ n11_; (try clear hb); (try clear hb2); (try clear hk); (try clear hi)
   refine hK.out _ _ ⟨(Sq.o BK264.out 0).trans rfl, (Sq.o BK264.out 1).trans rfl, (Sq.o BK264.out 2).trans rfl, (Sq.o BK243.out 0).trans rfl, (Sq.o BK243.out 1).trans rfl, (Sq.o BK243.out 2).trans rfl⟩ (fun hHeld => ?_)
   clear hK K
   refine norm_ (a' := ?_) ?_ ?_
   rotate_left
   ·show Act.put _ (some 25) _ = _
    simp only [Act.put, List.setIfInBounds_toArray, List.set_cons_zero, List.set_cons_succ, i64_w, i32_w]
    rfl
   refine pure_ (i := 4) (N := some 26) (v := ?_) (a' := ?_) #[true, true, true, true, true] rfl rfl (by kernel_rfl) (fun _ _ _ h => h) (Or.inl ⟨by rfl, ?_⟩) ?_ ?_
   rotate_left
   ·intro w'
    go_simp
    with_reducible rfl
   rotate_left
   ·simp only [Act.put, List.setIfInBounds_toArray, List.set_cons_zero, List.set_cons_succ, i64_w, i32_w]
    rfl
   refine done_ (by kernel_rfl) ?_
   go_upto_if 26 with (fail)
   have H := HC31.out
   clear HC31
   by_cases c38 : t275 = true
   ·subst c38
    rw [if_pos rfl] at H
    obtain rfl := Option.some.inj H
    go_wp2
    go_ret
    exact ⟨by first | rfl | (simp [errW_none, errW_some] <;> rfl) | (simp [*, errW_none, errW_some] <;> rfl), by repeat (first | (with_reducible first | exact HB.out | apply Sq.i | apply Sq.j | apply Sq.k | refine Sq.h ?_ GE243.out | refine Sq.h ?_ GE264.out) | exact HB.out)⟩
   ·replace c38 := Bool.eq_false_iff.mpr c38
    subst c38
    rw [if_neg (show ¬ (false = true) by decide)] at H
    obtain rfl := Option.some.inj H
    go_wp2
    go_ret
    exact ⟨by first | rfl | (simp [errW_none, errW_some] <;> rfl) | (simp [*, errW_none, errW_some] <;> rfl), by repeat (first | (with_reducible first | exact HB.out | apply Sq.i | apply Sq.j | apply Sq.k | refine Sq.h ?_ GE243.out | refine Sq.h ?_ GE264.out) | exact HB.out)⟩
  ·rw [if_neg c28] at H
   have c28b0 : (t265 == t254) = false := beq_eq_false_iff_ne.mpr c28
   have c28b1 : (t265 != t254) = true := bne_iff_ne.mpr c28
   (first | rw [c28b0] | (simp only [i64_w, i32_w]; rw [c28b0]) | skip)
   obtain rfl := Option.some.inj H
   go_wp2
   go_ret
   exact ⟨by first | rfl | (simp [errW_none, errW_some] <;> rfl) | (simp [*, errW_none, errW_some] <;> rfl), by repeat (first | (with_reducible first | exact HB.out | apply Sq.i | apply Sq.j | apply Sq.k | refine Sq.h ?_ GE243.out | refine Sq.h ?_ GE264.out) | exact HB.out)⟩

end Go.Proofs.Ytmajbehafgajmaa.QFnExactRouterFault
