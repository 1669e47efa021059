-- Written for this claim by this session's own driver (wip/xprint.py).
import Derived.Test.YtopeblicjgbfcaaQFnSpreadx0
import Derived.Test.YtopeblicjgbfcaaQFnSpreadx3
import Derived.Test.YtopeblicjgbfcaaQFnSpreadx4
namespace Go.Proofs.Ytopeblicjgbfcaa.QFnSpread
open Go.RowKit Go.Proofs.YtopeblicjgbfcaaW.PrintWords Go.Proofs.YtopeblicjgbfcaaW.PrintLast Go.Proofs.YtopeblicjgbfcaaW.PrintMore
attribute [local go_sem] max2_int min2_int max_two min_two max_three min_three max_four min_four   -- for this text's walks alone
set_option linter.unusedVariables false
set_option linter.unusedSimpArgs false

/-! ### laws_FnSpread: function 3 -/
mutual
def laws_FnSpread.l0 : Nat → ByteArray → List (S28) → ByteArray → Int → Option (Bool)
 | 0, _, _, _, _ => none
 | k + 1, x3, x4, x6, x7 => if x7 < (x3.size : Int) then (laws_FnSpread.l1 k x3 x4 x6 x7 false 0) else (some ((x6.size : Int) == (x3.size : Int)))
def laws_FnSpread.l1 : Nat → ByteArray → List (S28) → ByteArray → Int → Bool → Int → Option (Bool)
 | 0, _, _, _, _, _, _ => none
 | k + 1, x3, x4, x6, x7, x8, x9 => if x9 < (x4.length : Int) then (if x8 = true then (laws_FnSpread.l1 k x3 x4 x6 x7 true (wrap64 (x9 + 1))) else (if 0 ≤ x9 then (if (rd_T28 x4 x9).f2 = true then (if x7 ≥ ((rd_T28 x4 x9).f0) then (laws_FnSpread.l1 k x3 x4 x6 x7 (decide (x7 < (wrap64 (((rd_T28 x4 x9).f0) + ((rd_T28 x4 x9).f1))))) (wrap64 (x9 + 1))) else (laws_FnSpread.l1 k x3 x4 x6 x7 false (wrap64 (x9 + 1)))) else (laws_FnSpread.l1 k x3 x4 x6 x7 false (wrap64 (x9 + 1)))) else (none))) else (if x8 = true then (laws_FnSpread.l0 k x3 x4 x6 (wrap64 (x7 + 1))) else (if 0 ≤ x7 then (if x7 < (x3.size : Int) then (if x7 < (x6.size : Int) then (if (bt x3 x7) = (bt x6 x7) then (laws_FnSpread.l0 k x3 x4 x6 (wrap64 (x7 + 1))) else (some false)) else (none)) else (none)) else (none)))
end
def laws_FnSpread.f (k : Nat) (l0 : List Int) : Option (Bool) := if (l0.length : Int) > 1048576 then (some true) else ((spec_DrawSpreadBufs.f k l0).bind fun bt177 => ((impl_SpreadBufs.f k bt177.1 bt177.2.1 bt177.2.2).bind fun t182 => ((spec_SpreadBufs.f k bt177.1 bt177.2.1 bt177.2.2).bind fun t183 => (if t182.toList = t183.toList then (if t182.toList = ([] : List UInt8) then (some true) else (laws_FnSpread.l0 k bt177.1 bt177.2.1 t182 0)) else (some false)))))
theorem laws_FnSpread.mono_l : ∀ k, (∀ y0 y1 y2 y3, LeO (laws_FnSpread.l0 k y0 y1 y2 y3) (laws_FnSpread.l0 (k + 1) y0 y1 y2 y3)) ∧ (∀ y0 y1 y2 y3 y4 y5, LeO (laws_FnSpread.l1 k y0 y1 y2 y3 y4 y5) (laws_FnSpread.l1 (k + 1) y0 y1 y2 y3 y4 y5))
 | 0 => ⟨fun _ _ _ _ r h => by simp [laws_FnSpread.l0] at h, fun _ _ _ _ _ _ r h => by simp [laws_FnSpread.l1] at h⟩
 | k + 1 => by
  obtain ⟨ih0, ih1⟩ := laws_FnSpread.mono_l k
  refine ⟨?_, ?_⟩
  ·intro y0 y1 y2 y3
   unfold laws_FnSpread.l0
   repeat' first
   | (with_reducible exact ih0 _ _ _ _)
   | (with_reducible exact ih1 _ _ _ _ _ _)
   | (with_reducible exact impl_SpreadBufs.mono _ _ _ _)
   | (with_reducible exact spec_DrawSpreadBufs.mono _ _)
   | (with_reducible exact spec_SpreadBufs.mono _ _ _ _)
   | (with_reducible exact LeO.refl _)
   | (with_reducible exact LeO.none _)
   | (with_reducible refine LeO.ite ?_ ?_)
   | (with_reducible refine LeO.bind ?_ (fun _ => ?_))
   | exact ih0 _ _ _ _
   | exact ih1 _ _ _ _ _ _
   | exact impl_SpreadBufs.mono _ _ _ _
   | exact spec_DrawSpreadBufs.mono _ _
   | exact spec_SpreadBufs.mono _ _ _ _
   | exact LeO.none _
   | refine LeO.ite ?_ ?_
   | refine LeO.bind ?_ (fun _ => ?_)
  ·intro y0 y1 y2 y3 y4 y5
   unfold laws_FnSpread.l1
   repeat' first
   | (with_reducible exact ih0 _ _ _ _)
   | (with_reducible exact ih1 _ _ _ _ _ _)
   | (with_reducible exact impl_SpreadBufs.mono _ _ _ _)
   | (with_reducible exact spec_DrawSpreadBufs.mono _ _)
   | (with_reducible exact spec_SpreadBufs.mono _ _ _ _)
   | (with_reducible exact LeO.refl _)
   | (with_reducible exact LeO.none _)
   | (with_reducible refine LeO.ite ?_ ?_)
   | (with_reducible refine LeO.bind ?_ (fun _ => ?_))
   | exact ih0 _ _ _ _
   | exact ih1 _ _ _ _ _ _
   | exact impl_SpreadBufs.mono _ _ _ _
   | exact spec_DrawSpreadBufs.mono _ _
   | exact spec_SpreadBufs.mono _ _ _ _
   | exact LeO.none _
   | refine LeO.ite ?_ ?_
   | refine LeO.bind ?_ (fun _ => ?_)
theorem laws_FnSpread.mono : ∀ a0 k, LeO (laws_FnSpread.f k a0) (laws_FnSpread.f (k + 1) a0) := by
 intro a0 k
 obtain ⟨ih0, ih1⟩ := laws_FnSpread.mono_l k
 unfold laws_FnSpread.f
 repeat' first
   | (with_reducible exact ih0 _ _ _ _)
   | (with_reducible exact ih1 _ _ _ _ _ _)
   | (with_reducible exact impl_SpreadBufs.mono _ _ _ _)
   | (with_reducible exact spec_DrawSpreadBufs.mono _ _)
   | (with_reducible exact spec_SpreadBufs.mono _ _ _ _)
   | (with_reducible exact LeO.refl _)
   | (with_reducible exact LeO.none _)
   | (with_reducible refine LeO.ite ?_ ?_)
   | (with_reducible refine LeO.bind ?_ (fun _ => ?_))
   | exact ih0 _ _ _ _
   | exact ih1 _ _ _ _ _ _
   | exact impl_SpreadBufs.mono _ _ _ _
   | exact spec_DrawSpreadBufs.mono _ _
   | exact spec_SpreadBufs.mono _ _ _ _
   | exact LeO.none _
   | refine LeO.ite ?_ ?_
   | refine LeO.bind ?_ (fun _ => ?_)
set_option maxHeartbeats 8000000 in
set_option maxRecDepth 100000 in
theorem laws_FnSpread.calls (k : Nat) (A0 : Option Addr) (c0 : Nat) (l0 : List Int) (r : Bool) (w : World) (hr0 : Kd.C (Kd.int .u8) w A0 l0.length l0) (hc0 : l0.length ≤ c0) (h : laws_FnSpread.f k l0 = some r) :
  Calls Try.prog 3 #[.slice A0 l0.length c0] w fun e w' => e = .returned (.bool r) ∧ Below w.heap.size w w' := by
 have HR0 := Sq.l hr0
 have HC0 := Sq.l hc0
 clear hr0 hc0
 have HB := Sq.l (Below.refl w.heap.size w)
 have H : (if (l0.length : Int) > 1048576 then (some true) else ((spec_DrawSpreadBufs.f k l0).bind fun bt177 => ((impl_SpreadBufs.f k bt177.1 bt177.2.1 bt177.2.2).bind fun t182 => ((spec_SpreadBufs.f k bt177.1 bt177.2.1 bt177.2.2).bind fun t183 => (if t182.toList = t183.toList then (if t182.toList = ([] : List UInt8) then (some true) else (laws_FnSpread.l0 k bt177.1 bt177.2.1 t182 0)) else (some false)))))) = some r := h
 clear h
 by_cases c2 : (l0.length : Int) > 1048576
 ·rw [if_pos c2] at H
  have c2b0 : decide (1048576 < (l0.length : Int)) = true := decide_eq_true c2
  have c2b1 : decide (1048576 < l0.length) = true := decide_eq_true (by omega)
  clear c2
  obtain rfl := Option.some.inj H
  go_enter Try.func3, Try.ntmps3
  go_wp2
  repeat (go_quiet (fail); try go_wp2)
  go_ret
  exact ⟨by first | rfl | (simp [errW_none, errW_some] <;> rfl) | (simp [*, errW_none, errW_some] <;> rfl), by repeat (first | (with_reducible first | exact HB.out | apply Sq.i | apply Sq.j | apply Sq.k) | exact HB.out)⟩
 ·rw [if_neg c2] at H
  have c2b0 : decide (1048576 < (l0.length : Int)) = false := decide_eq_false c2
  have c2b1 : decide (1048576 < l0.length) = false := decide_eq_false (by omega)
  clear c2
  replace H := Option.bind_eq_some_iff.mp H
  obtain ⟨⟨t177, t178, t179⟩, A30, H⟩ := H
  (try dsimp only at H)
  have A3 := Sq.l A30
  clear A30
  replace H := Option.bind_eq_some_iff.mp H
  obtain ⟨t182, A40, H⟩ := H
  (try dsimp only at H)
  have A4 := Sq.l A40
  clear A40
  replace H := Option.bind_eq_some_iff.mp H
  obtain ⟨t183, A50, H⟩ := H
  (try dsimp only at H)
  have A5 := Sq.l A50
  clear A50
  by_cases c6 : t182.toList = t183.toList
  ·rw [if_pos c6] at H
   have c6b0 : (t182.toList == t183.toList) = true := beq_iff_eq.mpr c6
   have c6b1 : (t182.toList != t183.toList) = false := bne_eq_false_iff_eq.mpr c6
   clear c6
   by_cases c7 : t182.toList = ([] : List UInt8)
   ·rw [if_pos c7] at H
    have c7b0 : (t182.toList == ([] : List UInt8)) = true := beq_iff_eq.mpr c7
    have c7b1 : (t182.toList != ([] : List UInt8)) = false := bne_eq_false_iff_eq.mpr c7
    (try (have c7b2 : (t182.toList.isEmpty) = true := Sq.it c7))
    clear c7
    obtain rfl := Option.some.inj H
    go_enter Try.func3, Try.ntmps3
    go_wp2_with (first | (go_at_call 4; (with_reducible refine (spec_DrawSpreadBufs.calls k _ _ l0 t177 t178 t179 _ ?side1 ?side2 A3.out).mono ?_); (case side1 => repeat (first | exact HR0.out | (with_reducible refine Sq.s ?_ _) | (with_reducible refine Sq.t ?_ _) | (with_reducible refine Sq.u ?_))); (case side2 => exact HC0.out); rintro e w8 ⟨v180, rfl, ho0, hb⟩; have n0_ := Sq.l (Sq.a2 ho0 (Sq.a5 (by repeat (first | (with_reducible first | exact HB.out | apply Sq.i | apply Sq.j | apply Sq.k) | exact HB.out)))); have n1_ := Sq.l (Sq.a4 (by repeat (first | (with_reducible first | exact HB.out | apply Sq.i | apply Sq.j | apply Sq.k) | exact HB.out)) hb); clear HB; have HO181 := n0_; have HB := n1_; clear n0_ n1_; (try clear hb); (try clear hb2); (try clear hk); (try clear hi); (try clear ho0); obtain ⟨Ao9, co9, eo9⟩ := Kd.R_slice HO181.out; subst eo9) | (go_at_call 5; (with_reducible refine (impl_SpreadBufs.calls k t177 _ _ t178 t179 t182 _ ?side1 ?side2 A4.out).mono ?_); (case side1 => repeat (first | exact (Sq.b4 HO181.out).2.2 | (with_reducible refine Sq.s ?_ _) | (with_reducible refine Sq.t ?_ _) | (with_reducible refine Sq.u ?_))); (case side2 => exact (Sq.b4 HO181.out).2.1); rintro e w10 ⟨rfl, hb⟩; have n0_ := Sq.l (Sq.n (by (with_reducible repeat (first | apply Sq.a | apply Sq.b | apply Sq.c)); exact HO181.out) hb); have n1_ := Sq.l (Sq.a4 (by repeat (first | (with_reducible first | exact HB.out | apply Sq.i | apply Sq.j | apply Sq.k) | exact HB.out)) hb); clear HO181; clear HB; have HO181 := n0_; have HB := n1_; clear n0_ n1_; (try clear hb); (try clear hb2); (try clear hk); (try clear hi)) | (go_at_call 6; (with_reducible refine (spec_SpreadBufs.calls k t177 _ _ t178 t179 t183 _ ?side1 ?side2 A5.out).mono ?_); (case side1 => repeat (first | exact (Sq.b4 HO181.out).2.2 | (with_reducible refine Sq.s ?_ _) | (with_reducible refine Sq.t ?_ _) | (with_reducible refine Sq.u ?_))); (case side2 => exact (Sq.b4 HO181.out).2.1); rintro e w' ⟨rfl, ⟨nd, rfl⟩⟩; (try first | exact ⟨rfl, _, World.drewN_drewN _ _ _⟩ | exact ⟨rfl, _, Eq.trans (World.drewN_drewN _ _ _) (congrArg (World.drewN _) (Nat.add_assoc _ _ _))⟩)))
    repeat (go_quiet (first | (go_at_call 4; (with_reducible refine (spec_DrawSpreadBufs.calls k _ _ l0 t177 t178 t179 _ ?side1 ?side2 A3.out).mono ?_); (case side1 => repeat (first | exact HR0.out | (with_reducible refine Sq.s ?_ _) | (with_reducible refine Sq.t ?_ _) | (with_reducible refine Sq.u ?_))); (case side2 => exact HC0.out); rintro e w8 ⟨v180, rfl, ho0, hb⟩; have n0_ := Sq.l (Sq.a2 ho0 (Sq.a5 (by repeat (first | (with_reducible first | exact HB.out | apply Sq.i | apply Sq.j | apply Sq.k) | exact HB.out)))); have n1_ := Sq.l (Sq.a4 (by repeat (first | (with_reducible first | exact HB.out | apply Sq.i | apply Sq.j | apply Sq.k) | exact HB.out)) hb); clear HB; have HO181 := n0_; have HB := n1_; clear n0_ n1_; (try clear hb); (try clear hb2); (try clear hk); (try clear hi); (try clear ho0); obtain ⟨Ao9, co9, eo9⟩ := Kd.R_slice HO181.out; subst eo9) | (go_at_call 5; (with_reducible refine (impl_SpreadBufs.calls k t177 _ _ t178 t179 t182 _ ?side1 ?side2 A4.out).mono ?_); (case side1 => repeat (first | exact (Sq.b4 HO181.out).2.2 | (with_reducible refine Sq.s ?_ _) | (with_reducible refine Sq.t ?_ _) | (with_reducible refine Sq.u ?_))); (case side2 => exact (Sq.b4 HO181.out).2.1); rintro e w10 ⟨rfl, hb⟩; have n0_ := Sq.l (Sq.n (by (with_reducible repeat (first | apply Sq.a | apply Sq.b | apply Sq.c)); exact HO181.out) hb); have n1_ := Sq.l (Sq.a4 (by repeat (first | (with_reducible first | exact HB.out | apply Sq.i | apply Sq.j | apply Sq.k) | exact HB.out)) hb); clear HO181; clear HB; have HO181 := n0_; have HB := n1_; clear n0_ n1_; (try clear hb); (try clear hb2); (try clear hk); (try clear hi)) | (go_at_call 6; (with_reducible refine (spec_SpreadBufs.calls k t177 _ _ t178 t179 t183 _ ?side1 ?side2 A5.out).mono ?_); (case side1 => repeat (first | exact (Sq.b4 HO181.out).2.2 | (with_reducible refine Sq.s ?_ _) | (with_reducible refine Sq.t ?_ _) | (with_reducible refine Sq.u ?_))); (case side2 => exact (Sq.b4 HO181.out).2.1); rintro e w' ⟨rfl, ⟨nd, rfl⟩⟩; (try first | exact ⟨rfl, _, World.drewN_drewN _ _ _⟩ | exact ⟨rfl, _, Eq.trans (World.drewN_drewN _ _ _) (congrArg (World.drewN _) (Nat.add_assoc _ _ _))⟩))); try go_wp2_with (first | (go_at_call 4; (with_reducible refine (spec_DrawSpreadBufs.calls k _ _ l0 t177 t178 t179 _ ?side1 ?side2 A3.out).mono ?_); (case side1 => repeat (first | exact HR0.out | (with_reducible refine Sq.s ?_ _) | (with_reducible refine Sq.t ?_ _) | (with_reducible refine Sq.u ?_))); (case side2 => exact HC0.out); rintro e w8 ⟨v180, rfl, ho0, hb⟩; have n0_ := Sq.l (Sq.a2 ho0 (Sq.a5 (by repeat (first | (with_reducible first | exact HB.out | apply Sq.i | apply Sq.j | apply Sq.k) | exact HB.out)))); have n1_ := Sq.l (Sq.a4 (by repeat (first | (with_reducible first | exact HB.out | apply Sq.i | apply Sq.j | apply Sq.k) | exact HB.out)) hb); clear HB; have HO181 := n0_; have HB := n1_; clear n0_ n1_; (try clear hb); (try clear hb2); (try clear hk); (try clear hi); (try clear ho0); obtain ⟨Ao9, co9, eo9⟩ := Kd.R_slice HO181.out; subst eo9) | (go_at_call 5; (with_reducible refine (impl_SpreadBufs.calls k t177 _ _ t178 t179 t182 _ ?side1 ?side2 A4.out).mono ?_); (case side1 => repeat (first | exact (Sq.b4 HO181.out).2.2 | (with_reducible refine Sq.s ?_ _) | (with_reducible refine Sq.t ?_ _) | (with_reducible refine Sq.u ?_))); (case side2 => exact (Sq.b4 HO181.out).2.1); rintro e w10 ⟨rfl, hb⟩; have n0_ := Sq.l (Sq.n (by (with_reducible repeat (first | apply Sq.a | apply Sq.b | apply Sq.c)); exact HO181.out) hb); have n1_ := Sq.l (Sq.a4 (by repeat (first | (with_reducible first | exact HB.out | apply Sq.i | apply Sq.j | apply Sq.k) | exact HB.out)) hb); clear HO181; clear HB; have HO181 := n0_; have HB := n1_; clear n0_ n1_; (try clear hb); (try clear hb2); (try clear hk); (try clear hi)) | (go_at_call 6; (with_reducible refine (spec_SpreadBufs.calls k t177 _ _ t178 t179 t183 _ ?side1 ?side2 A5.out).mono ?_); (case side1 => repeat (first | exact (Sq.b4 HO181.out).2.2 | (with_reducible refine Sq.s ?_ _) | (with_reducible refine Sq.t ?_ _) | (with_reducible refine Sq.u ?_))); (case side2 => exact (Sq.b4 HO181.out).2.1); rintro e w' ⟨rfl, ⟨nd, rfl⟩⟩; (try first | exact ⟨rfl, _, World.drewN_drewN _ _ _⟩ | exact ⟨rfl, _, Eq.trans (World.drewN_drewN _ _ _) (congrArg (World.drewN _) (Nat.add_assoc _ _ _))⟩))))
    go_ret
    exact ⟨by first | rfl | (simp [errW_none, errW_some] <;> rfl) | (simp [*, errW_none, errW_some] <;> rfl), by repeat (first | (with_reducible first | exact HB.out | apply Sq.i | apply Sq.j | apply Sq.k) | exact HB.out)⟩
   ·rw [if_neg c7] at H
    have c7b0 : (t182.toList == ([] : List UInt8)) = false := beq_eq_false_iff_ne.mpr c7
    have c7b1 : (t182.toList != ([] : List UInt8)) = true := bne_iff_ne.mpr c7
    (try (have c7b2 : (t182.toList.isEmpty) = false := Sq.ie c7))
    have H' := Sq.l H
    clear H
    go_enter Try.func3, Try.ntmps3
    go_wp2_with (first | (go_at_call 4; (with_reducible refine (spec_DrawSpreadBufs.calls k _ _ l0 t177 t178 t179 _ ?side1 ?side2 A3.out).mono ?_); (case side1 => repeat (first | exact HR0.out | (with_reducible refine Sq.s ?_ _) | (with_reducible refine Sq.t ?_ _) | (with_reducible refine Sq.u ?_))); (case side2 => exact HC0.out); rintro e w11 ⟨v180, rfl, ho0, hb⟩; have n0_ := Sq.l (Sq.a2 ho0 (Sq.a5 (by repeat (first | (with_reducible first | exact HB.out | apply Sq.i | apply Sq.j | apply Sq.k) | exact HB.out)))); have n1_ := Sq.l (Sq.a4 (by repeat (first | (with_reducible first | exact HB.out | apply Sq.i | apply Sq.j | apply Sq.k) | exact HB.out)) hb); clear HB; have HO181 := n0_; have HB := n1_; clear n0_ n1_; (try clear hb); (try clear hb2); (try clear hk); (try clear hi); (try clear ho0); obtain ⟨Ao12, co12, eo12⟩ := Kd.R_slice HO181.out; subst eo12) | (go_at_call 5; (with_reducible refine (impl_SpreadBufs.calls k t177 _ _ t178 t179 t182 _ ?side1 ?side2 A4.out).mono ?_); (case side1 => repeat (first | exact (Sq.b4 HO181.out).2.2 | (with_reducible refine Sq.s ?_ _) | (with_reducible refine Sq.t ?_ _) | (with_reducible refine Sq.u ?_))); (case side2 => exact (Sq.b4 HO181.out).2.1); rintro e w13 ⟨rfl, hb⟩; have n0_ := Sq.l (Sq.n (by (with_reducible repeat (first | apply Sq.a | apply Sq.b | apply Sq.c)); exact HO181.out) hb); have n1_ := Sq.l (Sq.a4 (by repeat (first | (with_reducible first | exact HB.out | apply Sq.i | apply Sq.j | apply Sq.k) | exact HB.out)) hb); clear HO181; clear HB; have HO181 := n0_; have HB := n1_; clear n0_ n1_; (try clear hb); (try clear hb2); (try clear hk); (try clear hi)) | (go_at_call 6; (with_reducible refine (spec_SpreadBufs.calls k t177 _ _ t178 t179 t183 _ ?side1 ?side2 A5.out).mono ?_); (case side1 => repeat (first | exact (Sq.b4 HO181.out).2.2 | (with_reducible refine Sq.s ?_ _) | (with_reducible refine Sq.t ?_ _) | (with_reducible refine Sq.u ?_))); (case side2 => exact (Sq.b4 HO181.out).2.1); rintro e w' ⟨rfl, ⟨nd, rfl⟩⟩; (try first | exact ⟨rfl, _, World.drewN_drewN _ _ _⟩ | exact ⟨rfl, _, Eq.trans (World.drewN_drewN _ _ _) (congrArg (World.drewN _) (Nat.add_assoc _ _ _))⟩)))
    repeat (go_quiet (first | (go_at_call 4; (with_reducible refine (spec_DrawSpreadBufs.calls k _ _ l0 t177 t178 t179 _ ?side1 ?side2 A3.out).mono ?_); (case side1 => repeat (first | exact HR0.out | (with_reducible refine Sq.s ?_ _) | (with_reducible refine Sq.t ?_ _) | (with_reducible refine Sq.u ?_))); (case side2 => exact HC0.out); rintro e w11 ⟨v180, rfl, ho0, hb⟩; have n0_ := Sq.l (Sq.a2 ho0 (Sq.a5 (by repeat (first | (with_reducible first | exact HB.out | apply Sq.i | apply Sq.j | apply Sq.k) | exact HB.out)))); have n1_ := Sq.l (Sq.a4 (by repeat (first | (with_reducible first | exact HB.out | apply Sq.i | apply Sq.j | apply Sq.k) | exact HB.out)) hb); clear HB; have HO181 := n0_; have HB := n1_; clear n0_ n1_; (try clear hb); (try clear hb2); (try clear hk); (try clear hi); (try clear ho0); obtain ⟨Ao12, co12, eo12⟩ := Kd.R_slice HO181.out; subst eo12) | (go_at_call 5; (with_reducible refine (impl_SpreadBufs.calls k t177 _ _ t178 t179 t182 _ ?side1 ?side2 A4.out).mono ?_); (case side1 => repeat (first | exact (Sq.b4 HO181.out).2.2 | (with_reducible refine Sq.s ?_ _) | (with_reducible refine Sq.t ?_ _) | (with_reducible refine Sq.u ?_))); (case side2 => exact (Sq.b4 HO181.out).2.1); rintro e w13 ⟨rfl, hb⟩; have n0_ := Sq.l (Sq.n (by (with_reducible repeat (first | apply Sq.a | apply Sq.b | apply Sq.c)); exact HO181.out) hb); have n1_ := Sq.l (Sq.a4 (by repeat (first | (with_reducible first | exact HB.out | apply Sq.i | apply Sq.j | apply Sq.k) | exact HB.out)) hb); clear HO181; clear HB; have HO181 := n0_; have HB := n1_; clear n0_ n1_; (try clear hb); (try clear hb2); (try clear hk); (try clear hi)) | (go_at_call 6; (with_reducible refine (spec_SpreadBufs.calls k t177 _ _ t178 t179 t183 _ ?side1 ?side2 A5.out).mono ?_); (case side1 => repeat (first | exact (Sq.b4 HO181.out).2.2 | (with_reducible refine Sq.s ?_ _) | (with_reducible refine Sq.t ?_ _) | (with_reducible refine Sq.u ?_))); (case side2 => exact (Sq.b4 HO181.out).2.1); rintro e w' ⟨rfl, ⟨nd, rfl⟩⟩; (try first | exact ⟨rfl, _, World.drewN_drewN _ _ _⟩ | exact ⟨rfl, _, Eq.trans (World.drewN_drewN _ _ _) (congrArg (World.drewN _) (Nat.add_assoc _ _ _))⟩))); try go_wp2_with (first | (go_at_call 4; (with_reducible refine (spec_DrawSpreadBufs.calls k _ _ l0 t177 t178 t179 _ ?side1 ?side2 A3.out).mono ?_); (case side1 => repeat (first | exact HR0.out | (with_reducible refine Sq.s ?_ _) | (with_reducible refine Sq.t ?_ _) | (with_reducible refine Sq.u ?_))); (case side2 => exact HC0.out); rintro e w11 ⟨v180, rfl, ho0, hb⟩; have n0_ := Sq.l (Sq.a2 ho0 (Sq.a5 (by repeat (first | (with_reducible first | exact HB.out | apply Sq.i | apply Sq.j | apply Sq.k) | exact HB.out)))); have n1_ := Sq.l (Sq.a4 (by repeat (first | (with_reducible first | exact HB.out | apply Sq.i | apply Sq.j | apply Sq.k) | exact HB.out)) hb); clear HB; have HO181 := n0_; have HB := n1_; clear n0_ n1_; (try clear hb); (try clear hb2); (try clear hk); (try clear hi); (try clear ho0); obtain ⟨Ao12, co12, eo12⟩ := Kd.R_slice HO181.out; subst eo12) | (go_at_call 5; (with_reducible refine (impl_SpreadBufs.calls k t177 _ _ t178 t179 t182 _ ?side1 ?side2 A4.out).mono ?_); (case side1 => repeat (first | exact (Sq.b4 HO181.out).2.2 | (with_reducible refine Sq.s ?_ _) | (with_reducible refine Sq.t ?_ _) | (with_reducible refine Sq.u ?_))); (case side2 => exact (Sq.b4 HO181.out).2.1); rintro e w13 ⟨rfl, hb⟩; have n0_ := Sq.l (Sq.n (by (with_reducible repeat (first | apply Sq.a | apply Sq.b | apply Sq.c)); exact HO181.out) hb); have n1_ := Sq.l (Sq.a4 (by repeat (first | (with_reducible first | exact HB.out | apply Sq.i | apply Sq.j | apply Sq.k) | exact HB.out)) hb); clear HO181; clear HB; have HO181 := n0_; have HB := n1_; clear n0_ n1_; (try clear hb); (try clear hb2); (try clear hk); (try clear hi)) | (go_at_call 6; (with_reducible refine (spec_SpreadBufs.calls k t177 _ _ t178 t179 t183 _ ?side1 ?side2 A5.out).mono ?_); (case side1 => repeat (first | exact (Sq.b4 HO181.out).2.2 | (with_reducible refine Sq.s ?_ _) | (with_reducible refine Sq.t ?_ _) | (with_reducible refine Sq.u ?_))); (case side2 => exact (Sq.b4 HO181.out).2.1); rintro e w' ⟨rfl, ⟨nd, rfl⟩⟩; (try first | exact ⟨rfl, _, World.drewN_drewN _ _ _⟩ | exact ⟨rfl, _, Eq.trans (World.drewN_drewN _ _ _) (congrArg (World.drewN _) (Nat.add_assoc _ _ _))⟩))))
    go_loopg [7] k (fun kq v7 w' => ∃ (x7_1 : Int), v7 = .int .i64 x7_1 ∧ Aside0 (laws_FnSpread.l0 kq t177 t178 t182 x7_1 = some r) ∧ Aside0 (kq ≤ k) ∧ Aside0 (Kd.R k28 28 w' w.heap.size (fun _ => True) (.slice Ao12 t178.length co12) t178) ∧ Aside0 (Below w.heap.size w w'))
    case atStart => exact ⟨(0), (by first | rfl | (simp; done) | (simp [*]; done)), H', ⟨Nat.le_refl _⟩, ⟨by (with_reducible repeat (first | apply Sq.a | apply Sq.b | apply Sq.c)); exact HO181.out⟩, ⟨by repeat (first | (with_reducible first | exact HB.out | apply Sq.i | apply Sq.j | apply Sq.k) | exact HB.out)⟩⟩
    case round =>
     clear H'
     try clear c2; try clear c2b0; try clear c2b1; try clear p2; try clear c3; try clear c6; try clear c6b0; try clear c6b1; try clear c7; try clear c7b0; try clear c7b1; try clear c7b2
     obtain ⟨x7_1, rfl, HA, HK1, HO_4, HB⟩ := hrel
     cases gk with
     | zero => exact absurd HA.out (by simp [laws_FnSpread.l0])
     | succ k1 =>
      have H := HA.out
      clear HA
      simp only [laws_FnSpread.l0] at H
      by_cases c14 : x7_1 < (t177.size : Int)
      ·rw [if_pos c14] at H
       have c14b0 : decide (x7_1 < (t177.size : Int)) = true := decide_eq_true c14
       clear c14
       have H' := Sq.l H
       clear H
       go_wp2
       repeat (go_quiet (fail); try go_wp2)
       go_loopg [8, 9] k1 (fun kq v8 v9 w' => ∃ (x8_2 : Bool) (x9_2 : Int), v8 = .bool x8_2 ∧ v9 = .int .i64 x9_2 ∧ Aside0 (laws_FnSpread.l1 kq t177 t178 t182 x7_1 x8_2 x9_2 = some r) ∧ Aside0 (kq ≤ k1) ∧ Aside0 (Kd.R k28 28 w' w.heap.size (fun _ => True) (.slice Ao12 t178.length co12) t178) ∧ Aside0 (Below w.heap.size w w'))
       case atStart => exact ⟨(false), (0), (by first | rfl | (simp; done) | (simp [*]; done)), (by first | rfl | (simp; done) | (simp [*]; done)), H', ⟨Nat.le_refl _⟩, ⟨by (with_reducible repeat (first | apply Sq.a | apply Sq.b | apply Sq.c)); exact HO_4.out⟩, ⟨by repeat (first | (with_reducible first | exact HB.out | apply Sq.i | apply Sq.j | apply Sq.k) | exact HB.out)⟩⟩
       case round =>
        clear H'
        try clear c1; try clear c2; try clear c2b0; try clear c2b1; try clear p2; try clear c3; try clear c6; try clear c6b0; try clear c6b1; try clear c7; try clear c7b0; try clear c7b1; try clear c7b2; try clear c14; try clear c14b0; try clear p2
        obtain ⟨x8_2, x9_2, rfl, rfl, HA, HK2, HO_4, HB⟩ := hrel
        cases gk with
        | zero => exact absurd HA.out (by simp [laws_FnSpread.l1])
        | succ k2 =>
         have H := HA.out
         clear HA
         simp only [laws_FnSpread.l1] at H
         by_cases c15 : x9_2 < (t178.length : Int)
         ·rw [if_pos c15] at H
          have c15b0 : decide (x9_2 < (t178.length : Int)) = true := decide_eq_true c15
          clear c15
          by_cases c16 : x8_2 = true
          ·subst c16
           rw [if_pos rfl] at H
           have H' := Sq.l H
           clear H
           go_wp2
           repeat (go_quiet (fail); try go_wp2)
           go_roundg k2
           case measure => have := HK1.out; have := HK2.out; omega
           case rel => exact ⟨(true), (wrap64 (x9_2 + 1)), (by first | rfl | (simp; done) | (simp [*]; done)), (by first | rfl | (simp; done) | (simp [*]; done)), H', ⟨by have := HK1.out; have := HK2.out; omega⟩, ⟨by (with_reducible repeat (first | apply Sq.a | apply Sq.b | apply Sq.c)); exact HO_4.out⟩, ⟨by repeat (first | (with_reducible first | exact HB.out | apply Sq.i | apply Sq.j | apply Sq.k) | exact HB.out)⟩⟩
          ·replace c16 := Bool.eq_false_iff.mpr c16
           subst c16
           rw [if_neg (show ¬ (false = true) by decide)] at H
           by_cases c17 : 0 ≤ x9_2
           ·rw [if_pos c17] at H
            have c17b0 : decide (0 ≤ x9_2) = true := decide_eq_true c17
            clear c17
            obtain ⟨bq18, hbq18⟩ : ∃ b_ : Bool, b_ = ((rd_T28 t178 x9_2).f2) := ⟨_, rfl⟩
            replace H : (if bq18 = true then (if x7_1 ≥ ((rd_T28 t178 x9_2).f0) then (laws_FnSpread.l1 k2 t177 t178 t182 x7_1 (decide (x7_1 < (wrap64 (((rd_T28 t178 x9_2).f0) + ((rd_T28 t178 x9_2).f1))))) (wrap64 (x9_2 + 1))) else (laws_FnSpread.l1 k2 t177 t178 t182 x7_1 false (wrap64 (x9_2 + 1)))) else (laws_FnSpread.l1 k2 t177 t178 t182 x7_1 false (wrap64 (x9_2 + 1)))) = some r := by rw [← hbq18] at H; exact H
            have Nbq18 := Sq.l hbq18
            clear hbq18
            by_cases c19 : bq18 = true
            ·subst c19
             rw [if_pos rfl] at H
             by_cases c20 : x7_1 ≥ ((rd_T28 t178 x9_2).f0)
             ·rw [if_pos c20] at H
              have c20b0 : decide (((rd_T28 t178 x9_2).f0) ≤ x7_1) = true := decide_eq_true c20
              clear c20
              have H' := Sq.l H
              clear H
              have p184 : 0 ≤ (x9_2 : Int) := of_decide_eq_true (by first | (with_reducible assumption) | assumption)
              have q184 : x9_2 < (t178.length : Int) := of_decide_eq_true (by first | (with_reducible assumption) | assumption)
              obtain ⟨ad184, e184, hx184_0, hx184_1, hx184_2⟩ := at_T28 (Sq.b4 HO_4.out).2.2 x9_2 p184 q184
              (try rw [← Nbq18.out] at hx184_2)
              cases e184
              replace p184 := eq_true p184; replace q184 := eq_true q184
              have p185 : 0 ≤ (x9_2 : Int) := of_decide_eq_true (by first | (with_reducible assumption) | assumption)
              have q185 : x9_2 < (t178.length : Int) := of_decide_eq_true (by first | (with_reducible assumption) | assumption)
              obtain ⟨ad185, e185, hx185_0, hx185_1, hx185_2⟩ := at_T28 (Sq.b4 HO_4.out).2.2 x9_2 p185 q185
              (try rw [← Nbq18.out] at hx185_2)
              obtain rfl : ad184 = ad185 := (by injection e185)
              replace p185 := eq_true p185; replace q185 := eq_true q185
              have p186 : 0 ≤ (x9_2 : Int) := of_decide_eq_true (by first | (with_reducible assumption) | assumption)
              have q186 : x9_2 < (t178.length : Int) := of_decide_eq_true (by first | (with_reducible assumption) | assumption)
              obtain ⟨ad186, e186, hx186_0, hx186_1, hx186_2⟩ := at_T28 (Sq.b4 HO_4.out).2.2 x9_2 p186 q186
              (try rw [← Nbq18.out] at hx186_2)
              obtain rfl : ad184 = ad186 := (by injection e186)
              replace p186 := eq_true p186; replace q186 := eq_true q186
              have p187 : 0 ≤ (x9_2 : Int) := of_decide_eq_true (by first | (with_reducible assumption) | assumption)
              have q187 : x9_2 < (t178.length : Int) := of_decide_eq_true (by first | (with_reducible assumption) | assumption)
              obtain ⟨ad187, e187, hx187_0, hx187_1, hx187_2⟩ := at_T28 (Sq.b4 HO_4.out).2.2 x9_2 p187 q187
              (try rw [← Nbq18.out] at hx187_2)
              obtain rfl : ad184 = ad187 := (by injection e187)
              replace p187 := eq_true p187; replace q187 := eq_true q187
              go_wp2
              repeat (go_quiet (fail); try go_wp2)
              go_roundg k2
              case measure => have := HK1.out; have := HK2.out; omega
              case rel => exact ⟨(decide (x7_1 < (wrap64 (((rd_T28 t178 x9_2).f0) + ((rd_T28 t178 x9_2).f1))))), (wrap64 (x9_2 + 1)), (by first | rfl | (simp; done) | (simp [*]; done)), (by first | rfl | (simp; done) | (simp [*]; done)), H', ⟨by have := HK1.out; have := HK2.out; omega⟩, ⟨by (with_reducible repeat (first | apply Sq.a | apply Sq.b | apply Sq.c)); exact HO_4.out⟩, ⟨by repeat (first | (with_reducible first | exact HB.out | apply Sq.i | apply Sq.j | apply Sq.k) | exact HB.out)⟩⟩
             ·rw [if_neg c20] at H
              have c20b0 : decide (((rd_T28 t178 x9_2).f0) ≤ x7_1) = false := decide_eq_false c20
              clear c20
              have H' := Sq.l H
              clear H
              have p184 : 0 ≤ (x9_2 : Int) := of_decide_eq_true (by first | (with_reducible assumption) | assumption)
              have q184 : x9_2 < (t178.length : Int) := of_decide_eq_true (by first | (with_reducible assumption) | assumption)
              obtain ⟨ad184, e184, hx184_0, hx184_1, hx184_2⟩ := at_T28 (Sq.b4 HO_4.out).2.2 x9_2 p184 q184
              (try rw [← Nbq18.out] at hx184_2)
              cases e184
              replace p184 := eq_true p184; replace q184 := eq_true q184
              have p185 : 0 ≤ (x9_2 : Int) := of_decide_eq_true (by first | (with_reducible assumption) | assumption)
              have q185 : x9_2 < (t178.length : Int) := of_decide_eq_true (by first | (with_reducible assumption) | assumption)
              obtain ⟨ad185, e185, hx185_0, hx185_1, hx185_2⟩ := at_T28 (Sq.b4 HO_4.out).2.2 x9_2 p185 q185
              (try rw [← Nbq18.out] at hx185_2)
              obtain rfl : ad184 = ad185 := (by injection e185)
              replace p185 := eq_true p185; replace q185 := eq_true q185
              go_wp2
              repeat (go_quiet (fail); try go_wp2)
              go_roundg k2
              case measure => have := HK1.out; have := HK2.out; omega
              case rel => exact ⟨(false), (wrap64 (x9_2 + 1)), (by first | rfl | (simp; done) | (simp [*]; done)), (by first | rfl | (simp; done) | (simp [*]; done)), H', ⟨by have := HK1.out; have := HK2.out; omega⟩, ⟨by (with_reducible repeat (first | apply Sq.a | apply Sq.b | apply Sq.c)); exact HO_4.out⟩, ⟨by repeat (first | (with_reducible first | exact HB.out | apply Sq.i | apply Sq.j | apply Sq.k) | exact HB.out)⟩⟩
            ·replace c19 := Bool.eq_false_iff.mpr c19
             subst c19
             rw [if_neg (show ¬ (false = true) by decide)] at H
             have H' := Sq.l H
             clear H
             have p184 : 0 ≤ (x9_2 : Int) := of_decide_eq_true (by first | (with_reducible assumption) | assumption)
             have q184 : x9_2 < (t178.length : Int) := of_decide_eq_true (by first | (with_reducible assumption) | assumption)
             obtain ⟨ad184, e184, hx184_0, hx184_1, hx184_2⟩ := at_T28 (Sq.b4 HO_4.out).2.2 x9_2 p184 q184
             (try rw [← Nbq18.out] at hx184_2)
             cases e184
             replace p184 := eq_true p184; replace q184 := eq_true q184
             go_wp2
             repeat (go_quiet (fail); try go_wp2)
             go_roundg k2
             case measure => have := HK1.out; have := HK2.out; omega
             case rel => exact ⟨(false), (wrap64 (x9_2 + 1)), (by first | rfl | (simp; done) | (simp [*]; done)), (by first | rfl | (simp; done) | (simp [*]; done)), H', ⟨by have := HK1.out; have := HK2.out; omega⟩, ⟨by (with_reducible repeat (first | apply Sq.a | apply Sq.b | apply Sq.c)); exact HO_4.out⟩, ⟨by repeat (first | (with_reducible first | exact HB.out | apply Sq.i | apply Sq.j | apply Sq.k) | exact HB.out)⟩⟩
           ·rw [if_neg c17] at H
            exact absurd H (by simp)
         ·rw [if_neg c15] at H
          have c15b0 : decide (x9_2 < (t178.length : Int)) = false := decide_eq_false c15
          clear c15
          by_cases c21 : x8_2 = true
          ·subst c21
           rw [if_pos rfl] at H
           have H' := Sq.l H
           clear H
           go_wp2
           repeat (go_quiet (fail); try go_wp2)
           go_roundg k2
           case measure => have := HK1.out; have := HK2.out; omega
           case rel => exact ⟨(wrap64 (x7_1 + 1)), (by first | rfl | (simp; done) | (simp [*]; done)), H', ⟨by have := HK1.out; have := HK2.out; omega⟩, ⟨by (with_reducible repeat (first | apply Sq.a | apply Sq.b | apply Sq.c)); exact HO_4.out⟩, ⟨by repeat (first | (with_reducible first | exact HB.out | apply Sq.i | apply Sq.j | apply Sq.k) | exact HB.out)⟩⟩
          ·replace c21 := Bool.eq_false_iff.mpr c21
           subst c21
           rw [if_neg (show ¬ (false = true) by decide)] at H
           by_cases c22 : 0 ≤ x7_1
           ·rw [if_pos c22] at H
            have c22b0 : decide (0 ≤ x7_1) = true := decide_eq_true c22
            clear c22
            by_cases c23 : x7_1 < (t177.size : Int)
            ·rw [if_pos c23] at H
             have c23b0 : decide (x7_1 < (t177.size : Int)) = true := decide_eq_true c23
             clear c23
             by_cases c25 : x7_1 < (t182.size : Int)
             ·rw [if_pos c25] at H
              have c25b0 : decide (x7_1 < (t182.size : Int)) = true := decide_eq_true c25
              clear c25
              by_cases c27 : (bt t177 x7_1) = (bt t182 x7_1)
              ·rw [if_pos c27] at H
               have c27b0 : ((bt t177 x7_1) == (bt t182 x7_1)) = true := beq_iff_eq.mpr c27
               have c27b1 : ((bt t177 x7_1) != (bt t182 x7_1)) = false := bne_eq_false_iff_eq.mpr c27
               clear c27
               have H' := Sq.l H
               clear H
               have p24 : 0 ≤ (x7_1 : Int) := of_decide_eq_true (by first | (with_reducible assumption) | assumption)
               have q24 : x7_1 < (t177.size : Int) := of_decide_eq_true (by first | (with_reducible assumption) | assumption)
               have hx24 := bt_at t177 x7_1
               replace p24 := eq_true p24; replace q24 := eq_true q24
               have p26 : 0 ≤ (x7_1 : Int) := of_decide_eq_true (by first | (with_reducible assumption) | assumption)
               have q26 : x7_1 < (t182.size : Int) := of_decide_eq_true (by first | (with_reducible assumption) | assumption)
               have hx26 := bt_at t182 x7_1
               replace p26 := eq_true p26; replace q26 := eq_true q26
               go_wp2
               repeat (go_quiet (fail); try go_wp2)
               go_roundg k2
               case measure => have := HK1.out; have := HK2.out; omega
               case rel => exact ⟨(wrap64 (x7_1 + 1)), (by first | rfl | (simp; done) | (simp [*]; done)), H', ⟨by have := HK1.out; have := HK2.out; omega⟩, ⟨by (with_reducible repeat (first | apply Sq.a | apply Sq.b | apply Sq.c)); exact HO_4.out⟩, ⟨by repeat (first | (with_reducible first | exact HB.out | apply Sq.i | apply Sq.j | apply Sq.k) | exact HB.out)⟩⟩
              ·rw [if_neg c27] at H
               have c27b0 : ((bt t177 x7_1) == (bt t182 x7_1)) = false := beq_eq_false_iff_ne.mpr c27
               have c27b1 : ((bt t177 x7_1) != (bt t182 x7_1)) = true := bne_iff_ne.mpr c27
               obtain rfl := Option.some.inj H
               have p24 : 0 ≤ (x7_1 : Int) := of_decide_eq_true (by first | (with_reducible assumption) | assumption)
               have q24 : x7_1 < (t177.size : Int) := of_decide_eq_true (by first | (with_reducible assumption) | assumption)
               have hx24 := bt_at t177 x7_1
               replace p24 := eq_true p24; replace q24 := eq_true q24
               have p26 : 0 ≤ (x7_1 : Int) := of_decide_eq_true (by first | (with_reducible assumption) | assumption)
               have q26 : x7_1 < (t182.size : Int) := of_decide_eq_true (by first | (with_reducible assumption) | assumption)
               have hx26 := bt_at t182 x7_1
               replace p26 := eq_true p26; replace q26 := eq_true q26
               go_wp2
               repeat (go_quiet (fail); try go_wp2)
               go_ret
               exact ⟨by first | rfl | (simp [errW_none, errW_some] <;> rfl) | (simp [*, errW_none, errW_some] <;> rfl), by repeat (first | (with_reducible first | exact HB.out | apply Sq.i | apply Sq.j | apply Sq.k) | exact HB.out)⟩
             ·rw [if_neg c25] at H
              exact absurd H (by simp)
            ·rw [if_neg c23] at H
             exact absurd H (by simp)
           ·rw [if_neg c22] at H
            exact absurd H (by simp)
      ·rw [if_neg c14] at H
       have c14b0 : decide (x7_1 < (t177.size : Int)) = false := decide_eq_false c14
       clear c14
       obtain rfl := Option.some.inj H
       go_wp2
       repeat (go_quiet (fail); try go_wp2)
       go_ret
       exact ⟨by first | rfl | (simp [errW_none, errW_some] <;> rfl) | (simp [*, errW_none, errW_some] <;> rfl), by repeat (first | (with_reducible first | exact HB.out | apply Sq.i | apply Sq.j | apply Sq.k) | exact HB.out)⟩
  ·rw [if_neg c6] at H
   have c6b0 : (t182.toList == t183.toList) = false := beq_eq_false_iff_ne.mpr c6
   have c6b1 : (t182.toList != t183.toList) = true := bne_iff_ne.mpr c6
   obtain rfl := Option.some.inj H
   go_enter Try.func3, Try.ntmps3
   go_wp2_with (first | (go_at_call 4; (with_reducible refine (spec_DrawSpreadBufs.calls k _ _ l0 t177 t178 t179 _ ?side1 ?side2 A3.out).mono ?_); (case side1 => repeat (first | exact HR0.out | (with_reducible refine Sq.s ?_ _) | (with_reducible refine Sq.t ?_ _) | (with_reducible refine Sq.u ?_))); (case side2 => exact HC0.out); rintro e w28 ⟨v180, rfl, ho0, hb⟩; have n0_ := Sq.l (Sq.a2 ho0 (Sq.a5 (by repeat (first | (with_reducible first | exact HB.out | apply Sq.i | apply Sq.j | apply Sq.k) | exact HB.out)))); have n1_ := Sq.l (Sq.a4 (by repeat (first | (with_reducible first | exact HB.out | apply Sq.i | apply Sq.j | apply Sq.k) | exact HB.out)) hb); clear HB; have HO181 := n0_; have HB := n1_; clear n0_ n1_; (try clear hb); (try clear hb2); (try clear hk); (try clear hi); (try clear ho0); obtain ⟨Ao29, co29, eo29⟩ := Kd.R_slice HO181.out; subst eo29) | (go_at_call 5; (with_reducible refine (impl_SpreadBufs.calls k t177 _ _ t178 t179 t182 _ ?side1 ?side2 A4.out).mono ?_); (case side1 => repeat (first | exact (Sq.b4 HO181.out).2.2 | (with_reducible refine Sq.s ?_ _) | (with_reducible refine Sq.t ?_ _) | (with_reducible refine Sq.u ?_))); (case side2 => exact (Sq.b4 HO181.out).2.1); rintro e w30 ⟨rfl, hb⟩; have n0_ := Sq.l (Sq.n (by (with_reducible repeat (first | apply Sq.a | apply Sq.b | apply Sq.c)); exact HO181.out) hb); have n1_ := Sq.l (Sq.a4 (by repeat (first | (with_reducible first | exact HB.out | apply Sq.i | apply Sq.j | apply Sq.k) | exact HB.out)) hb); clear HO181; clear HB; have HO181 := n0_; have HB := n1_; clear n0_ n1_; (try clear hb); (try clear hb2); (try clear hk); (try clear hi)) | (go_at_call 6; (with_reducible refine (spec_SpreadBufs.calls k t177 _ _ t178 t179 t183 _ ?side1 ?side2 A5.out).mono ?_); (case side1 => repeat (first | exact (Sq.b4 HO181.out).2.2 | (with_reducible refine Sq.s ?_ _) | (with_reducible refine Sq.t ?_ _) | (with_reducible refine Sq.u ?_))); (case side2 => exact (Sq.b4 HO181.out).2.1); rintro e w' ⟨rfl, ⟨nd, rfl⟩⟩; (try first | exact ⟨rfl, _, World.drewN_drewN _ _ _⟩ | exact ⟨rfl, _, Eq.trans (World.drewN_drewN _ _ _) (congrArg (World.drewN _) (Nat.add_assoc _ _ _))⟩)))
   repeat (go_quiet (first | (go_at_call 4; (with_reducible refine (spec_DrawSpreadBufs.calls k _ _ l0 t177 t178 t179 _ ?side1 ?side2 A3.out).mono ?_); (case side1 => repeat (first | exact HR0.out | (with_reducible refine Sq.s ?_ _) | (with_reducible refine Sq.t ?_ _) | (with_reducible refine Sq.u ?_))); (case side2 => exact HC0.out); rintro e w28 ⟨v180, rfl, ho0, hb⟩; have n0_ := Sq.l (Sq.a2 ho0 (Sq.a5 (by repeat (first | (with_reducible first | exact HB.out | apply Sq.i | apply Sq.j | apply Sq.k) | exact HB.out)))); have n1_ := Sq.l (Sq.a4 (by repeat (first | (with_reducible first | exact HB.out | apply Sq.i | apply Sq.j | apply Sq.k) | exact HB.out)) hb); clear HB; have HO181 := n0_; have HB := n1_; clear n0_ n1_; (try clear hb); (try clear hb2); (try clear hk); (try clear hi); (try clear ho0); obtain ⟨Ao29, co29, eo29⟩ := Kd.R_slice HO181.out; subst eo29) | (go_at_call 5; (with_reducible refine (impl_SpreadBufs.calls k t177 _ _ t178 t179 t182 _ ?side1 ?side2 A4.out).mono ?_); (case side1 => repeat (first | exact (Sq.b4 HO181.out).2.2 | (with_reducible refine Sq.s ?_ _) | (with_reducible refine Sq.t ?_ _) | (with_reducible refine Sq.u ?_))); (case side2 => exact (Sq.b4 HO181.out).2.1); rintro e w30 ⟨rfl, hb⟩; have n0_ := Sq.l (Sq.n (by (with_reducible repeat (first | apply Sq.a | apply Sq.b | apply Sq.c)); exact HO181.out) hb); have n1_ := Sq.l (Sq.a4 (by repeat (first | (with_reducible first | exact HB.out | apply Sq.i | apply Sq.j | apply Sq.k) | exact HB.out)) hb); clear HO181; clear HB; have HO181 := n0_; have HB := n1_; clear n0_ n1_; (try clear hb); (try clear hb2); (try clear hk); (try clear hi)) | (go_at_call 6; (with_reducible refine (spec_SpreadBufs.calls k t177 _ _ t178 t179 t183 _ ?side1 ?side2 A5.out).mono ?_); (case side1 => repeat (first | exact (Sq.b4 HO181.out).2.2 | (with_reducible refine Sq.s ?_ _) | (with_reducible refine Sq.t ?_ _) | (with_reducible refine Sq.u ?_))); (case side2 => exact (Sq.b4 HO181.out).2.1); rintro e w' ⟨rfl, ⟨nd, rfl⟩⟩; (try first | exact ⟨rfl, _, World.drewN_drewN _ _ _⟩ | exact ⟨rfl, _, Eq.trans (World.drewN_drewN _ _ _) (congrArg (World.drewN _) (Nat.add_assoc _ _ _))⟩))); try go_wp2_with (first | (go_at_call 4; (with_reducible refine (spec_DrawSpreadBufs.calls k _ _ l0 t177 t178 t179 _ ?side1 ?side2 A3.out).mono ?_); (case side1 => repeat (first | exact HR0.out | (with_reducible refine Sq.s ?_ _) | (with_reducible refine Sq.t ?_ _) | (with_reducible refine Sq.u ?_))); (case side2 => exact HC0.out); rintro e w28 ⟨v180, rfl, ho0, hb⟩; have n0_ := Sq.l (Sq.a2 ho0 (Sq.a5 (by repeat (first | (with_reducible first | exact HB.out | apply Sq.i | apply Sq.j | apply Sq.k) | exact HB.out)))); have n1_ := Sq.l (Sq.a4 (by repeat (first | (with_reducible first | exact HB.out | apply Sq.i | apply Sq.j | apply Sq.k) | exact HB.out)) hb); clear HB; have HO181 := n0_; have HB := n1_; clear n0_ n1_; (try clear hb); (try clear hb2); (try clear hk); (try clear hi); (try clear ho0); obtain ⟨Ao29, co29, eo29⟩ := Kd.R_slice HO181.out; subst eo29) | (go_at_call 5; (with_reducible refine (impl_SpreadBufs.calls k t177 _ _ t178 t179 t182 _ ?side1 ?side2 A4.out).mono ?_); (case side1 => repeat (first | exact (Sq.b4 HO181.out).2.2 | (with_reducible refine Sq.s ?_ _) | (with_reducible refine Sq.t ?_ _) | (with_reducible refine Sq.u ?_))); (case side2 => exact (Sq.b4 HO181.out).2.1); rintro e w30 ⟨rfl, hb⟩; have n0_ := Sq.l (Sq.n (by (with_reducible repeat (first | apply Sq.a | apply Sq.b | apply Sq.c)); exact HO181.out) hb); have n1_ := Sq.l (Sq.a4 (by repeat (first | (with_reducible first | exact HB.out | apply Sq.i | apply Sq.j | apply Sq.k) | exact HB.out)) hb); clear HO181; clear HB; have HO181 := n0_; have HB := n1_; clear n0_ n1_; (try clear hb); (try clear hb2); (try clear hk); (try clear hi)) | (go_at_call 6; (with_reducible refine (spec_SpreadBufs.calls k t177 _ _ t178 t179 t183 _ ?side1 ?side2 A5.out).mono ?_); (case side1 => repeat (first | exact (Sq.b4 HO181.out).2.2 | (with_reducible refine Sq.s ?_ _) | (with_reducible refine Sq.t ?_ _) | (with_reducible refine Sq.u ?_))); (case side2 => exact (Sq.b4 HO181.out).2.1); rintro e w' ⟨rfl, ⟨nd, rfl⟩⟩; (try first | exact ⟨rfl, _, World.drewN_drewN _ _ _⟩ | exact ⟨rfl, _, Eq.trans (World.drewN_drewN _ _ _) (congrArg (World.drewN _) (Nat.add_assoc _ _ _))⟩))))
   go_ret
   exact ⟨by first | rfl | (simp [errW_none, errW_some] <;> rfl) | (simp [*, errW_none, errW_some] <;> rfl), by repeat (first | (with_reducible first | exact HB.out | apply Sq.i | apply Sq.j | apply Sq.k) | exact HB.out)⟩

/-- THE ONE PURE STATEMENT of laws_FnSpread: yours. -/
def laws_FnSpread.Pure : Prop := ∀ (l0 : List Int), l0.length ≤ maxLen → l0.length * 1 ≤ 140737488351232 → (∀ x ∈ l0, (Lit.int .u8 x).wf = true) → ∃ k, laws_FnSpread.f k l0 = some true
theorem laws_FnSpread.walk (P : laws_FnSpread.Pure) (a0 : Option Addr) (len0 cap0 : Nat) (z0 : List Int) (w : World) (w0 : (a0 = none ∧ len0 = 0 ∧ cap0 = 0 ∧ z0 = []) ∨ ∃ x, a0 = some x ∧ len0 ≤ cap0 ∧ cap0 ≤ maxLen ∧ z0.length = cap0 ∧ (∀ i, i < z0.length → w.cell? (x.add i) = some (.int .u8 (z0.getD i 0))) ∧ ∀ n ∈ z0, (Lit.int .u8 n).wf = true) (y0 : len0 * 1 ≤ 140737488351232) :
  Calls Try.prog 3 #[.slice a0 len0 cap0] w fun e w' => e = .returned (.bool true) ∧ Below w.heap.size w w' := by
 obtain ⟨l0, rfl, hr0, hm0, hw0, hc0⟩ := ReadsInt.ofRowC w0
 obtain ⟨k, h⟩ := P l0 hm0 y0 hw0
 refine (laws_FnSpread.calls k _ _ l0 true w (Kd.C_of_reads (d := (0 : Int)) (h1 := fun _ => rfl) hr0) hc0 h).mono ?_
 rintro e w' ⟨rfl, hd⟩
 exact ⟨rfl, hd⟩

end Go.Proofs.Ytopeblicjgbfcaa.QFnSpread
