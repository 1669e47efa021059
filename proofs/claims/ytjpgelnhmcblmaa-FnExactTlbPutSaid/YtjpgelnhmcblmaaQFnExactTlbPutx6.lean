-- Written for this claim by this session's own driver (wip/xprint.py).
import Derived.Test.YtjpgelnhmcblmaaQFnExactTlbPutx0
import Derived.Test.YtjpgelnhmcblmaaQFnExactTlbPutx1
import Derived.Test.YtjpgelnhmcblmaaQFnExactTlbPutx3
import Derived.Test.YtjpgelnhmcblmaaQFnExactTlbPutx4
import Derived.Test.YtjpgelnhmcblmaaQFnExactTlbPutx5
namespace Go.Proofs.Ytjpgelnhmcblmaa.QFnExactTlbPut
open Go.RowKit Go.Proofs.YtjpgelnhmcblmaaW.PrintWords Go.Proofs.YtjpgelnhmcblmaaW.PrintLast Go.Proofs.YtjpgelnhmcblmaaW.PrintMore
attribute [local go_sem] max2_int min2_int max_two min_two max_three min_three max_four min_four   -- for this text's walks alone
set_option linter.unusedVariables false
set_option linter.unusedSimpArgs false

/-! ### laws_FnExactTlbPut: function 14 -/
def laws_FnExactTlbPut.j0 : Nat → Bool → List (S97) → Int → Int → Int → Int → Int → Bool → List (S99) → Int → List (S99) → Int → Option (Bool)
 | 0, _, _, _, _, _, _, _, _, _, _, _, _ => none
 | k + 1, x48, x182000, x182001, x183000, x183001, x183002, x183003, x183004, x198000, x198001, x213000, x213001 => if x48 = true then (some false) else ((laws_markTlb.f k x213000 x213001 1).bind fun bt222 => ((laws_heldTlb.f k bt222.2 x213001 1).bind fun t224 => (if t224 < 0 then (some false) else (if t224 = bt222.1 then ((laws_toTlb.f k x182000 x182001).bind fun bt225 => ((laws_toTlbEntry.f x183000 x183001 x183002 x183003 x183004).bind fun bt229 => ((impl_TlbPut.f bt225.1 bt225.2 bt229.1 bt229.2.1 bt229.2.2.1 bt229.2.2.2.1 bt229.2.2.2.2).bind fun bt234 => ((laws_eqTlb.f k bt234.1 bt234.2 x198000 x198001).bind fun t239 => (if t239 = true then ((laws_heldTlb.f k bt222.2 x213001 1).bind fun t240 => (if t240 < 0 then (some false) else (if t240 = bt222.1 then (some true) else (some false)))) else (some false)))))) else (some false)))))
def laws_FnExactTlbPut.f (k : Nat) (l0_0 : List (S97)) (a0_1 : Int) (a1_0 : Int) (a1_1 : Int) (a1_2 : Int) (a1_3 : Int) (a1_4 : Bool) : Option (Bool) := (laws_szTlb.f l0_0 a0_1 1048576).bind fun t183 => (if t183 < 0 then (some true) else ((laws_toTlb.f k l0_0 a0_1).bind fun bt184 => ((laws_toTlbEntry.f a1_0 a1_1 a1_2 a1_3 a1_4).bind fun bt188 => ((spec_TlbPut.f k bt184.1 bt184.2 bt188.1 bt188.2.1 bt188.2.2.1 bt188.2.2.2.1 bt188.2.2.2.2).bind fun bt193 => ((laws_toTlb.f k l0_0 a0_1).bind fun bt198 => ((laws_toTlbEntry.f a1_0 a1_1 a1_2 a1_3 a1_4).bind fun bt203 => ((impl_TlbPut.f bt198.1 bt198.2 bt203.1 bt203.2.1 bt203.2.2.1 bt203.2.2.2.1 bt203.2.2.2.2).bind fun bt208 => ((laws_eqTlb.f k bt208.1 bt208.2 bt193.1 bt193.2).bind fun t213 => (if t213 = true then ((laws_toTlb.f k l0_0 a0_1).bind fun bt214 => ((laws_eqTlb.f k bt198.1 bt198.2 bt214.1 bt214.2).bind fun t218 => (if t218 = true then ((laws_markTlb.f k bt198.1 bt198.2 1).bind fun bt219 => (if bt219.1 < 0 then (laws_FnExactTlbPut.j0 k true l0_0 a0_1 a1_0 a1_1 a1_2 a1_3 a1_4 bt193.1 bt193.2 bt208.1 bt208.2) else ((laws_eqTlb.f k bt208.1 bt208.2 bt193.1 bt193.2).bind fun t221 => (laws_FnExactTlbPut.j0 k (!t221) l0_0 a0_1 a1_0 a1_1 a1_2 a1_3 a1_4 bt193.1 bt193.2 bt208.1 bt208.2)))) else (some false)))) else (some false))))))))))
theorem laws_FnExactTlbPut.mono_l : ∀ k, (∀ y0 y1 y2 y3 y4 y5 y6 y7 y8 y9 y10 y11, LeO (laws_FnExactTlbPut.j0 k y0 y1 y2 y3 y4 y5 y6 y7 y8 y9 y10 y11) (laws_FnExactTlbPut.j0 (k + 1) y0 y1 y2 y3 y4 y5 y6 y7 y8 y9 y10 y11))
 | 0 => fun _ _ _ _ _ _ _ _ _ _ _ _ r h => by simp [laws_FnExactTlbPut.j0] at h
 | k + 1 => by
  have ih0 := laws_FnExactTlbPut.mono_l k
  ·intro y0 y1 y2 y3 y4 y5 y6 y7 y8 y9 y10 y11
   unfold laws_FnExactTlbPut.j0
   repeat' first
   | (with_reducible exact ih0 _ _ _ _ _ _ _ _ _ _ _ _)
   | (with_reducible exact laws_eqTlb.mono _ _ _ _ _)
   | (with_reducible exact laws_heldTlb.mono _ _ _ _)
   | (with_reducible exact laws_markTlb.mono _ _ _ _)
   | (with_reducible exact laws_toTlb.mono _ _ _)
   | (with_reducible exact spec_TlbPut.mono _ _ _ _ _ _ _ _)
   | (with_reducible exact LeO.refl _)
   | (with_reducible exact LeO.none _)
   | (with_reducible refine LeO.ite ?_ ?_)
   | (with_reducible refine LeO.bind ?_ (fun _ => ?_))
   | exact ih0 _ _ _ _ _ _ _ _ _ _ _ _
   | exact laws_eqTlb.mono _ _ _ _ _
   | exact laws_heldTlb.mono _ _ _ _
   | exact laws_markTlb.mono _ _ _ _
   | exact laws_toTlb.mono _ _ _
   | exact spec_TlbPut.mono _ _ _ _ _ _ _ _
   | exact LeO.none _
   | refine LeO.ite ?_ ?_
   | refine LeO.bind ?_ (fun _ => ?_)
theorem laws_FnExactTlbPut.mono : ∀ a0 a1 a2 a3 a4 a5 a6 k, LeO (laws_FnExactTlbPut.f k a0 a1 a2 a3 a4 a5 a6) (laws_FnExactTlbPut.f (k + 1) a0 a1 a2 a3 a4 a5 a6) := by
 intro a0 a1 a2 a3 a4 a5 a6 k
 have ih0 := laws_FnExactTlbPut.mono_l k
 unfold laws_FnExactTlbPut.f
 repeat' first
   | (with_reducible exact ih0 _ _ _ _ _ _ _ _ _ _ _ _)
   | (with_reducible exact laws_eqTlb.mono _ _ _ _ _)
   | (with_reducible exact laws_heldTlb.mono _ _ _ _)
   | (with_reducible exact laws_markTlb.mono _ _ _ _)
   | (with_reducible exact laws_toTlb.mono _ _ _)
   | (with_reducible exact spec_TlbPut.mono _ _ _ _ _ _ _ _)
   | (with_reducible exact LeO.refl _)
   | (with_reducible exact LeO.none _)
   | (with_reducible refine LeO.ite ?_ ?_)
   | (with_reducible refine LeO.bind ?_ (fun _ => ?_))
   | exact ih0 _ _ _ _ _ _ _ _ _ _ _ _
   | exact laws_eqTlb.mono _ _ _ _ _
   | exact laws_heldTlb.mono _ _ _ _
   | exact laws_markTlb.mono _ _ _ _
   | exact laws_toTlb.mono _ _ _
   | exact spec_TlbPut.mono _ _ _ _ _ _ _ _
   | exact LeO.none _
   | refine LeO.ite ?_ ?_
   | refine LeO.bind ?_ (fun _ => ?_)
set_option maxHeartbeats 8000000 in
set_option maxRecDepth 100000 in
theorem laws_FnExactTlbPut.calls (k : Nat) (A0_0 : Option Addr) (c0_0 : Nat) (l0_0 : List (S97)) (a0_1 : Int) (a1_0 : Int) (a1_1 : Int) (a1_2 : Int) (a1_3 : Int) (a1_4 : Bool) (r : Bool) (w : World) (hr0_0 : Kd.C k97 w A0_0 l0_0.length l0_0) (hc0_0 : l0_0.length ≤ c0_0) (h : laws_FnExactTlbPut.f k l0_0 a0_1 a1_0 a1_1 a1_2 a1_3 a1_4 = some r) :
  Calls Try.prog 14 #[.agg #[.slice A0_0 l0_0.length c0_0, .int .i64 a0_1], .agg #[.int .i64 a1_0, .int .i64 a1_1, .int .i64 a1_2, .int .i64 a1_3, .bool a1_4]] w fun e w' => e = .returned (.bool r) ∧ Below w.heap.size w w' := by
 have hu60 := Try.underlying60
 have hu97 := Try.underlying97
 have hu65 := Try.underlying65
 have HR0_0 := Sq.l hr0_0
 have HC0_0 := Sq.l hc0_0
 clear hr0_0 hc0_0
 have HB := Sq.l (Below.refl w.heap.size w)
 have H : ((laws_szTlb.f l0_0 a0_1 1048576).bind fun t183 => (if t183 < 0 then (some true) else ((laws_toTlb.f k l0_0 a0_1).bind fun bt184 => ((laws_toTlbEntry.f a1_0 a1_1 a1_2 a1_3 a1_4).bind fun bt188 => ((spec_TlbPut.f k bt184.1 bt184.2 bt188.1 bt188.2.1 bt188.2.2.1 bt188.2.2.2.1 bt188.2.2.2.2).bind fun bt193 => ((laws_toTlb.f k l0_0 a0_1).bind fun bt198 => ((laws_toTlbEntry.f a1_0 a1_1 a1_2 a1_3 a1_4).bind fun bt203 => ((impl_TlbPut.f bt198.1 bt198.2 bt203.1 bt203.2.1 bt203.2.2.1 bt203.2.2.2.1 bt203.2.2.2.2).bind fun bt208 => ((laws_eqTlb.f k bt208.1 bt208.2 bt193.1 bt193.2).bind fun t213 => (if t213 = true then ((laws_toTlb.f k l0_0 a0_1).bind fun bt214 => ((laws_eqTlb.f k bt198.1 bt198.2 bt214.1 bt214.2).bind fun t218 => (if t218 = true then ((laws_markTlb.f k bt198.1 bt198.2 1).bind fun bt219 => (if bt219.1 < 0 then (laws_FnExactTlbPut.j0 k true l0_0 a0_1 a1_0 a1_1 a1_2 a1_3 a1_4 bt193.1 bt193.2 bt208.1 bt208.2) else ((laws_eqTlb.f k bt208.1 bt208.2 bt193.1 bt193.2).bind fun t221 => (laws_FnExactTlbPut.j0 k (!t221) l0_0 a0_1 a1_0 a1_1 a1_2 a1_3 a1_4 bt193.1 bt193.2 bt208.1 bt208.2)))) else (some false)))) else (some false))))))))))) = some r := h
 clear h
 replace H := Option.bind_eq_some_iff.mp H
 obtain ⟨t183, A30, H⟩ := H
 (try dsimp only at H)
 have A3 := Sq.l A30
 clear A30
 have HC4 := Sq.l H
 clear H
 go_enter Try.func14, Try.ntmps14
 go_upto_if 17 with (first | ((with_reducible refine gate_dst (N := 2) rfl ?_); refine box_event ?hg (N := 2) ?hd (cs := #[.slice A0_0 l0_0.length c0_0, .int .i64 a0_1]) (t := 60) ?hr ?_; (case hd => rfl); (case hg => rfl); (case hr => first | (go_simp; done) | (go_simp; rfl)); intro gb181 hg w5 hbox hb; have n0_ := Sq.l (Sq.a4 (by repeat (first | (with_reducible first | exact HB.out | apply Sq.i | apply Sq.j | apply Sq.k) | exact HB.out)) hb); have n1_ := Sq.l (hbox); have n2_ := Sq.l ((by rw [hg]; exact (Sq.a5 (by repeat (first | (with_reducible first | exact HB.out | apply Sq.i | apply Sq.j | apply Sq.k) | exact HB.out))) : w.heap.size ≤ gb181)); have n3_ := Sq.l ((by rw [hg]; exact (Sq.a5 (by repeat (first | (with_reducible first | exact HB.out | apply Sq.i | apply Sq.j | apply Sq.k) | exact HB.out))) : w.heap.size ≤ gb181)); clear HB; have HB := n0_; have BK181 := n1_; have GW181 := n2_; have GE181 := n3_; clear n0_ n1_ n2_ n3_; clear hb hbox hg) | ((with_reducible refine gate_dst (N := 3) rfl ?_); refine box_event ?hg (N := 3) ?hd (cs := #[.int .i64 a1_0, .int .i64 a1_1, .int .i64 a1_2, .int .i64 a1_3, .bool a1_4]) (t := 97) ?hr ?_; (case hd => rfl); (case hg => rfl); (case hr => first | (go_simp; done) | (go_simp; rfl)); intro gb182 hg w6 hbox hb; have n0_ := Sq.l (Sq.m (g := gb181) (o := .cells #[.slice A0_0 l0_0.length c0_0, .int .i64 a0_1] 60 (0, 0)) (by (with_reducible repeat (first | refine Sq.d ?_ _ | refine Sq.e ?_ | refine Sq.f ?_ _)); exact BK181.out) hb); have n1_ := Sq.l (Sq.a4 (by repeat (first | (with_reducible first | exact HB.out | apply Sq.i | apply Sq.j | apply Sq.k | refine Sq.h ?_ GE181.out) | exact HB.out)) hb); have n2_ := Sq.l (hbox); have n3_ := Sq.l ((by rw [hg]; exact (Sq.a5 (by repeat (first | (with_reducible first | exact HB.out | apply Sq.i | apply Sq.j | apply Sq.k | refine Sq.h ?_ GE181.out) | exact HB.out))) : w.heap.size ≤ gb182)); have n4_ := Sq.l ((by rw [hg]; exact (Sq.a5 (by repeat (first | (with_reducible first | exact HB.out | apply Sq.i | apply Sq.j | apply Sq.k | refine Sq.h ?_ GE181.out) | exact HB.out))) : w.heap.size ≤ gb182)); have n5_ := Sq.l ((by rw [hg]; exact Nat.ne_of_lt (blk_lt (g := gb181) (o := .cells #[.slice A0_0 l0_0.length c0_0, .int .i64 a0_1] 60 (0, 0)) (by (with_reducible repeat (first | refine Sq.d ?_ _ | refine Sq.e ?_ | refine Sq.f ?_ _)); exact BK181.out)) : gb181 ≠ gb182)); have n6_ := Sq.l ((by rw [hg]; exact Nat.ne_of_gt (blk_lt (g := gb181) (o := .cells #[.slice A0_0 l0_0.length c0_0, .int .i64 a0_1] 60 (0, 0)) (by (with_reducible repeat (first | refine Sq.d ?_ _ | refine Sq.e ?_ | refine Sq.f ?_ _)); exact BK181.out)) : gb182 ≠ gb181)); clear BK181; clear HB; have BK181 := n0_; have HB := n1_; have BK182 := n2_; have GW182 := n3_; have GE182 := n4_; have NB181_182 := n5_; have NB182_181 := n6_; clear n0_ n1_ n2_ n3_ n4_ n5_ n6_; clear hb hbox hg; have hnb7 := NB181_182.out; have hnc7 := NB182_181.out; have hcz8_0 : w6.cell? ⟨gb181, 0, none⟩ = some (.slice A0_0 l0_0.length c0_0) := (Sq.o BK181.out 0).trans rfl; have hcz8_1 : w6.cell? ⟨gb181, 1, none⟩ = some (.int .i64 a0_1) := (Sq.o BK181.out 1).trans rfl; have hfz8_0 := Sq.r BK181.out 0; have hfz8_1 := Sq.r BK181.out 1) | ((with_reducible refine gate_callee (f := 36) rfl ?_); refine goesL_ (some 15) rfl rfl Try.func36 (by kernel_rfl) rfl #[.agg #[.slice A0_0 l0_0.length c0_0, .int .i64 a0_1], .int .i64 1048576] rfl (by (try simp only [List.map_toArray, List.map_cons, List.map_nil]); first | done | rfl | (simp only [List.length_drop, List.length_take]; rfl)) ?_; (with_reducible refine (laws_szTlb.calls _ _ l0_0 a0_1 1048576 t183 _ ?side1 ?side2 A3.out).mono ?_); (case side1 => repeat (first | exact (Sq.a1 HR0_0.out HB.out) | (with_reducible refine Sq.s ?_ _) | (with_reducible refine Sq.t ?_ _) | (with_reducible refine Sq.u ?_))); (case side2 => exact HC0_0.out); rintro e w9 ⟨rfl, hb⟩; refine ⟨_, rfl, ?_⟩; have n0_ := Sq.l (Sq.m (g := gb181) (o := .cells #[.slice A0_0 l0_0.length c0_0, .int .i64 a0_1] 60 (0, 0)) (by (with_reducible repeat (first | refine Sq.d ?_ _ | refine Sq.e ?_ | refine Sq.f ?_ _)); exact BK181.out) hb); have n1_ := Sq.l (Sq.m (g := gb182) (o := .cells #[.int .i64 a1_0, .int .i64 a1_1, .int .i64 a1_2, .int .i64 a1_3, .bool a1_4] 97 (0, 0)) (by (with_reducible repeat (first | refine Sq.d ?_ _ | refine Sq.e ?_ | refine Sq.f ?_ _)); exact BK182.out) hb); have n2_ := Sq.l (Sq.a4 (by repeat (first | (with_reducible first | exact HB.out | apply Sq.i | apply Sq.j | apply Sq.k | refine Sq.h ?_ GE181.out | refine Sq.h ?_ GE182.out) | exact HB.out)) hb); clear BK181; clear BK182; clear HB; have BK181 := n0_; have BK182 := n1_; have HB := n2_; clear n0_ n1_ n2_; (try clear hb); (try clear hb2); (try clear hk); (try clear hi)))
 (try simp only [Act.put, List.setIfInBounds_toArray, List.set_cons_zero, List.set_cons_succ])
 have H := HC4.out
 clear HC4
 by_cases c10 : t183 < 0
 ·rw [if_pos c10] at H
  have c10b0 : decide (t183 < 0) = true := decide_eq_true c10
  clear c10
  (first | rw [c10b0] | (simp only [i64_w, i32_w]; rw [c10b0]) | skip)
  obtain rfl := Option.some.inj H
  go_wp2
  go_ret
  exact ⟨by first | rfl | (simp [errW_none, errW_some] <;> rfl) | (simp [*, errW_none, errW_some] <;> rfl), by repeat (first | (with_reducible first | exact HB.out | apply Sq.i | apply Sq.j | apply Sq.k | refine Sq.h ?_ GE181.out | refine Sq.h ?_ GE182.out) | exact HB.out)⟩
 ·rw [if_neg c10] at H
  have c10b0 : decide (t183 < 0) = false := decide_eq_false c10
  clear c10
  (first | rw [c10b0] | (simp only [i64_w, i32_w]; rw [c10b0]) | skip)
  replace H := Option.bind_eq_some_iff.mp H
  obtain ⟨⟨t184, t187⟩, A110, H⟩ := H
  (try dsimp only at H)
  have A11 := Sq.l A110
  clear A110
  replace H := Option.bind_eq_some_iff.mp H
  obtain ⟨⟨t188, t189, t190, t191, t192⟩, A120, H⟩ := H
  (try dsimp only at H)
  have A12 := Sq.l A120
  clear A120
  replace H := Option.bind_eq_some_iff.mp H
  obtain ⟨⟨t193, t196⟩, A130, H⟩ := H
  (try dsimp only at H)
  have A13 := Sq.l A130
  clear A130
  replace H := Option.bind_eq_some_iff.mp H
  obtain ⟨⟨t198, t201⟩, A140, H⟩ := H
  (try dsimp only at H)
  have A14 := Sq.l A140
  clear A140
  replace H := Option.bind_eq_some_iff.mp H
  obtain ⟨⟨t203, t204, t205, t206, t207⟩, A150, H⟩ := H
  (try dsimp only at H)
  have A15 := Sq.l A150
  clear A150
  replace H := Option.bind_eq_some_iff.mp H
  obtain ⟨⟨t208, t211⟩, A160, H⟩ := H
  (try dsimp only at H)
  have A16 := Sq.l A160
  clear A160
  replace H := Option.bind_eq_some_iff.mp H
  obtain ⟨t213, A170, H⟩ := H
  (try dsimp only at H)
  have A17 := Sq.l A170
  clear A170
  have HC18 := Sq.l H
  clear H
  try go_wp2
  have n0_ := Sq.l (Sq.e BK181.out)
  have n1_ := Sq.l (Sq.e BK182.out)
  have n2_ := Sq.l (Sq.k HB.out)
  clear BK181 BK182 HB; have BK181 := n0_; have BK182 := n1_; have HB := n2_; clear n0_ n1_ n2_
  refine start_ (n := 7) (S := fun w' => w'.cell? ⟨gb181, 0, none⟩ = some (.slice A0_0 l0_0.length c0_0) ∧ w'.cell? ⟨gb181, 1, none⟩ = some (.int .i64 a0_1) ∧ w'.cell? ⟨gb182, 0, none⟩ = some (.int .i64 a1_0) ∧ w'.cell? ⟨gb182, 1, none⟩ = some (.int .i64 a1_1) ∧ w'.cell? ⟨gb182, 2, none⟩ = some (.int .i64 a1_2) ∧ w'.cell? ⟨gb182, 3, none⟩ = some (.int .i64 a1_3) ∧ w'.cell? ⟨gb182, 4, none⟩ = some (.bool a1_4)) (ds := []) #[false, false, false, false, false, false, false] (by kernel_rfl) rfl rfl ⟨(Sq.o BK181.out 0).trans rfl, (Sq.o BK181.out 1).trans rfl, (Sq.o BK182.out 0).trans rfl, (Sq.o BK182.out 1).trans rfl, (Sq.o BK182.out 2).trans rfl, (Sq.o BK182.out 3).trans rfl, (Sq.o BK182.out 4).trans rfl⟩ (fun hHeld => ?_)
  generalize w9.drew = w19 at BK181 BK182 HB hHeld ⊢
  refine take_ (i := 0) (N := some 18) (v := ?_) (a' := ?_) #[true, false, false, false, false, false, false] rfl rfl (by kernel_rfl) (fun _ _ _ h => h) (Or.inl ⟨by rfl, ?_⟩) hHeld ?_ ?_
  rotate_left
  ·rintro w' ⟨s0, s1, s2, s3, s4, s5, s6⟩
   go_simp
   with_reducible rfl
  rotate_left
  ·simp only [Act.put, List.setIfInBounds_toArray, List.set_cons_zero, List.set_cons_succ, i64_w, i32_w]
   rfl
  refine take_ (i := 2) (N := some 20) (v := ?_) (a' := ?_) #[true, false, true, false, false, false, false] rfl rfl (by kernel_rfl) (fun _ _ _ h => h) (Or.inl ⟨by rfl, ?_⟩) hHeld ?_ ?_
  rotate_left
  ·rintro w' ⟨s0, s1, s2, s3, s4, s5, s6⟩
   go_simp
   with_reducible rfl
  rotate_left
  ·simp only [Act.put, List.setIfInBounds_toArray, List.set_cons_zero, List.set_cons_succ, i64_w, i32_w]
   rfl
  refine join_ (σ := Value × Value × Nat) 1 #[true, true, true, true, true, true, false] (fun s_ => [(19, .agg #[s_.1, .int .i64 t187]), (21, .agg #[.int .i64 t188, .int .i64 t189, .int .i64 t190, .int .i64 t191, .bool t192]), (22, .agg #[s_.2.1, .int .i64 t196]), (6, .pointer (some ⟨s_.2.2, 0, none⟩))]) (fun s_ w' => (w'.cell? ⟨gb181, 0, none⟩ = some (.slice A0_0 l0_0.length c0_0) ∧ w'.cell? ⟨gb181, 1, none⟩ = some (.int .i64 a0_1) ∧ w'.cell? ⟨gb182, 0, none⟩ = some (.int .i64 a1_0) ∧ w'.cell? ⟨gb182, 1, none⟩ = some (.int .i64 a1_1) ∧ w'.cell? ⟨gb182, 2, none⟩ = some (.int .i64 a1_2) ∧ w'.cell? ⟨gb182, 3, none⟩ = some (.int .i64 a1_3) ∧ w'.cell? ⟨gb182, 4, none⟩ = some (.bool a1_4)) ∧ (Kd.R k99 99 w' w.heap.size (fun k_ => some k_ ≠ (s_.2.1 : Value).ownBlock) s_.1 t184) ∧ (Kd.R k99 99 w' w.heap.size (fun k_ => some k_ ≠ (s_.1 : Value).ownBlock) s_.2.1 t193) ∧ (w'.heap[gb181]? = some (.cells #[.slice A0_0 l0_0.length c0_0, .int .i64 a0_1] 60 (0, 0))) ∧ (w'.heap[gb182]? = some (.cells #[.int .i64 a1_0, .int .i64 a1_1, .int .i64 a1_2, .int .i64 a1_3, .bool a1_4] 97 (0, 0))) ∧ (w'.heap[s_.2.2]? = some (.cells #[.slice none 0 0, .int .i64 0] 65 (0, 0))) ∧ (w.heap.size ≤ s_.2.2) ∧ (w.heap.size ≤ s_.2.2) ∧ (gb181 ≠ s_.2.2) ∧ (s_.2.2 ≠ gb181) ∧ (gb182 ≠ s_.2.2) ∧ (s_.2.2 ≠ gb182) ∧ (Below w.heap.size w w')) ?_ ?_
  rotate_left
  ·intro hCont
   refine two_ (i := 1) (j := 5) (Ni := some 19) (Nj := some 6) #[true, true, true, false, false, false, false] #[true, false, true, false, false, true, false] rfl rfl rfl rfl (by kernel_rfl) (by decide) (by decide) (fun K hK => ?_) (fun K hK => ?_)
   ·skip
    refine goes_ Try.func38 (by kernel_rfl) rfl #[.agg #[.slice A0_0 l0_0.length c0_0, .int .i64 a0_1]] (by rfl) rfl rfl (by (try simp only [List.map_toArray, List.map_cons, List.map_nil]); first | done | rfl | (simp only [List.length_drop, List.length_take]; rfl)) ?_
    with_reducible refine (laws_toTlb.calls k _ _ l0_0 a0_1 t184 t187 _ ?side1 ?side2 A11.out).mono ?_
    (case side1 => repeat (first | exact (Sq.a1 HR0_0.out HB.out) | (with_reducible refine Sq.s ?_ _) | (with_reducible refine Sq.t ?_ _) | (with_reducible refine Sq.u ?_)))
    (case side2 => exact HC0_0.out)
    rintro e w20 ⟨v185, rfl, ho0, hb⟩
    refine ⟨_, rfl, ?_⟩
    have n0_ := Sq.l (Sq.a2 ho0 (Sq.a5 (by repeat (first | (with_reducible first | exact HB.out | apply Sq.i | apply Sq.j | apply Sq.k | refine Sq.h ?_ GE181.out | refine Sq.h ?_ GE182.out) | exact HB.out))))
    have n1_ := Sq.l (Sq.m (g := gb181) (o := .cells #[.slice A0_0 l0_0.length c0_0, .int .i64 a0_1] 60 (0, 0)) (by (with_reducible repeat (first | refine Sq.d ?_ _ | refine Sq.e ?_ | refine Sq.f ?_ _)); exact BK181.out) hb)
    have n2_ := Sq.l (Sq.m (g := gb182) (o := .cells #[.int .i64 a1_0, .int .i64 a1_1, .int .i64 a1_2, .int .i64 a1_3, .bool a1_4] 97 (0, 0)) (by (with_reducible repeat (first | refine Sq.d ?_ _ | refine Sq.e ?_ | refine Sq.f ?_ _)); exact BK182.out) hb)
    have n3_ := Sq.l (Sq.a4 (by repeat (first | (with_reducible first | exact HB.out | apply Sq.i | apply Sq.j | apply Sq.k | refine Sq.h ?_ GE181.out | refine Sq.h ?_ GE182.out) | exact HB.out)) hb)
    clear BK181 BK182 HB; have HO186 := n0_; have BK181 := n1_; have BK182 := n2_; have HB := n3_; clear n0_ n1_ n2_ n3_; (try clear hb); (try clear hb2); (try clear hk); (try clear hi); (try clear ho0)
    refine hK.out _ _ ⟨(Sq.o BK181.out 0).trans rfl, (Sq.o BK181.out 1).trans rfl, (Sq.o BK182.out 0).trans rfl, (Sq.o BK182.out 1).trans rfl, (Sq.o BK182.out 2).trans rfl, (Sq.o BK182.out 3).trans rfl, (Sq.o BK182.out 4).trans rfl⟩ (fun hHeld => ?_)
    clear hK K
    refine norm_ (a' := ?_) ?_ ?_
    rotate_left
    ·show Act.put _ (some 19) _ = _
     simp only [Act.put, List.setIfInBounds_toArray, List.set_cons_zero, List.set_cons_succ, i64_w, i32_w]
     rfl
    refine two_ (i := 3) (j := 5) (Ni := some 21) (Nj := some 6) #[true, true, true, true, false, false, false] #[true, true, true, false, false, true, false] rfl rfl rfl rfl (by kernel_rfl) (by decide) (by decide) (fun K hK => ?_) (fun K hK => ?_)
    ·skip
     refine goes_ Try.func59 (by kernel_rfl) rfl #[.agg #[.int .i64 a1_0, .int .i64 a1_1, .int .i64 a1_2, .int .i64 a1_3, .bool a1_4]] (by rfl) rfl rfl (by (try simp only [List.map_toArray, List.map_cons, List.map_nil]); first | done | rfl | (simp only [List.length_drop, List.length_take]; rfl)) ?_
     with_reducible refine (laws_toTlbEntry.calls a1_0 a1_1 a1_2 a1_3 a1_4 t188 t189 t190 t191 t192 _ A12.out).mono ?_
     rintro e w21 ⟨rfl, hb⟩
     refine ⟨_, rfl, ?_⟩
     have n0_ := Sq.l (Sq.n (by (with_reducible repeat (first | apply Sq.a | apply Sq.b | apply Sq.c)); exact HO186.out) hb)
     have n1_ := Sq.l (Sq.m (g := gb181) (o := .cells #[.slice A0_0 l0_0.length c0_0, .int .i64 a0_1] 60 (0, 0)) (by (with_reducible repeat (first | refine Sq.d ?_ _ | refine Sq.e ?_ | refine Sq.f ?_ _)); exact BK181.out) hb)
     have n2_ := Sq.l (Sq.m (g := gb182) (o := .cells #[.int .i64 a1_0, .int .i64 a1_1, .int .i64 a1_2, .int .i64 a1_3, .bool a1_4] 97 (0, 0)) (by (with_reducible repeat (first | refine Sq.d ?_ _ | refine Sq.e ?_ | refine Sq.f ?_ _)); exact BK182.out) hb)
     have n3_ := Sq.l (Sq.a4 (by repeat (first | (with_reducible first | exact HB.out | apply Sq.i | apply Sq.j | apply Sq.k | refine Sq.h ?_ GE181.out | refine Sq.h ?_ GE182.out) | exact HB.out)) hb)
     clear HO186 BK181 BK182 HB; have HO186 := n0_; have BK181 := n1_; have BK182 := n2_; have HB := n3_; clear n0_ n1_ n2_ n3_; (try clear hb); (try clear hb2); (try clear hk); (try clear hi)
     obtain ⟨Ao22, co22, eo22⟩ := Kd.R_slice HO186.out
     (first | subst eo22 | (injection eo22 with f1_ f2_ f3_; have f4_ := f1_.symm; have f5_ := f3_.symm; clear f1_ f2_ f3_; subst f4_; subst f5_))
     refine hK.out _ _ ⟨(Sq.o BK181.out 0).trans rfl, (Sq.o BK181.out 1).trans rfl, (Sq.o BK182.out 0).trans rfl, (Sq.o BK182.out 1).trans rfl, (Sq.o BK182.out 2).trans rfl, (Sq.o BK182.out 3).trans rfl, (Sq.o BK182.out 4).trans rfl⟩ (fun hHeld => ?_)
     clear hK K
     refine norm_ (a' := ?_) ?_ ?_
     rotate_left
     ·show Act.put _ (some 21) _ = _
      simp only [Act.put, List.setIfInBounds_toArray, List.set_cons_zero, List.set_cons_succ, i64_w, i32_w]
      rfl
     refine two_ (i := 4) (j := 5) (Ni := some 22) (Nj := some 6) #[true, true, true, true, true, false, false] #[true, true, true, true, false, true, false] rfl rfl rfl rfl (by kernel_rfl) (by decide) (by decide) (fun K hK => ?_) (fun K hK => ?_)
     ·skip
      refine goes_ Try.func58 (by kernel_rfl) rfl #[.agg #[.slice Ao22 t184.length co22, .int .i64 t187], .agg #[.int .i64 t188, .int .i64 t189, .int .i64 t190, .int .i64 t191, .bool t192]] (by rfl) rfl rfl (by (try simp only [List.map_toArray, List.map_cons, List.map_nil]); first | done | rfl | (simp only [List.length_drop, List.length_take]; rfl)) ?_
      with_reducible refine (spec_TlbPut.calls k _ _ t184 t187 t188 t189 t190 t191 t192 t193 t196 _ ?side1 ?side2 A13.out).mono ?_
      (case side1 => repeat (first | exact (Sq.b4 HO186.out).2.2 | (with_reducible refine Sq.s ?_ _) | (with_reducible refine Sq.t ?_ _) | (with_reducible refine Sq.u ?_)))
      (case side2 => exact (Sq.b4 HO186.out).2.1)
      rintro e w23 ⟨v194, rfl, ho0, hb⟩
      refine ⟨_, rfl, ?_⟩
      have n0_ := Sq.l (Sq.p (by (with_reducible repeat (first | apply Sq.a | apply Sq.b | apply Sq.c)); exact HO186.out) (Sq.b7 ho0) hb)
      have n1_ := Sq.l (Sq.a2 (Sq.c1 ho0 (Sq.c2 (by (with_reducible repeat (first | apply Sq.a | apply Sq.b | apply Sq.c)); exact HO186.out))) (Sq.a5 (by repeat (first | (with_reducible first | exact HB.out | apply Sq.i | apply Sq.j | apply Sq.k | refine Sq.h ?_ GE181.out | refine Sq.h ?_ GE182.out) | exact HB.out))))
      have n2_ := Sq.l (Sq.m (g := gb181) (o := .cells #[.slice A0_0 l0_0.length c0_0, .int .i64 a0_1] 60 (0, 0)) (by (with_reducible repeat (first | refine Sq.d ?_ _ | refine Sq.e ?_ | refine Sq.f ?_ _)); exact BK181.out) hb)
      have n3_ := Sq.l (Sq.m (g := gb182) (o := .cells #[.int .i64 a1_0, .int .i64 a1_1, .int .i64 a1_2, .int .i64 a1_3, .bool a1_4] 97 (0, 0)) (by (with_reducible repeat (first | refine Sq.d ?_ _ | refine Sq.e ?_ | refine Sq.f ?_ _)); exact BK182.out) hb)
      have n4_ := Sq.l (Sq.a4 (by repeat (first | (with_reducible first | exact HB.out | apply Sq.i | apply Sq.j | apply Sq.k | refine Sq.h ?_ GE181.out | refine Sq.h ?_ GE182.out) | exact HB.out)) hb)
      clear HO186 BK181 BK182 HB; have HO186 := n0_; have HO195 := n1_; have BK181 := n2_; have BK182 := n3_; have HB := n4_; clear n0_ n1_ n2_ n3_ n4_; (try clear hb); (try clear hb2); (try clear hk); (try clear hi); (try clear ho0)
      refine hK.out _ _ ⟨(Sq.o BK181.out 0).trans rfl, (Sq.o BK181.out 1).trans rfl, (Sq.o BK182.out 0).trans rfl, (Sq.o BK182.out 1).trans rfl, (Sq.o BK182.out 2).trans rfl, (Sq.o BK182.out 3).trans rfl, (Sq.o BK182.out 4).trans rfl⟩ (fun hHeld => ?_)
      clear hK K
      refine norm_ (a' := ?_) ?_ ?_
      rotate_left
      ·show Act.put _ (some 22) _ = _
       simp only [Act.put, List.setIfInBounds_toArray, List.set_cons_zero, List.set_cons_succ, i64_w, i32_w]
       rfl
      refine one_ (i := 5) (N := some 6) #[true, true, true, true, true, true, false] rfl rfl (by kernel_rfl) (by decide) (fun K hK => ?_)
      refine box_step ?hg (N := 6) ?hd (cs := #[.slice none 0 0, .int .i64 0]) (t := 65) ?hr ?_; (case hd => rfl); (case hg => rfl); (case hr => first | (go_simp; done) | (go_simp; rfl))
      intro gb197 hg w24 hbox hb
      have n0_ := Sq.l (Sq.n (by (with_reducible repeat (first | apply Sq.a | apply Sq.b | apply Sq.c)); exact HO186.out) hb)
      have n1_ := Sq.l (Sq.n (by (with_reducible repeat (first | apply Sq.a | apply Sq.b | apply Sq.c)); exact HO195.out) hb)
      have n2_ := Sq.l (Sq.m (g := gb181) (o := .cells #[.slice A0_0 l0_0.length c0_0, .int .i64 a0_1] 60 (0, 0)) (by (with_reducible repeat (first | refine Sq.d ?_ _ | refine Sq.e ?_ | refine Sq.f ?_ _)); exact BK181.out) hb)
      have n3_ := Sq.l (Sq.m (g := gb182) (o := .cells #[.int .i64 a1_0, .int .i64 a1_1, .int .i64 a1_2, .int .i64 a1_3, .bool a1_4] 97 (0, 0)) (by (with_reducible repeat (first | refine Sq.d ?_ _ | refine Sq.e ?_ | refine Sq.f ?_ _)); exact BK182.out) hb)
      have n4_ := Sq.l (Sq.a4 (by repeat (first | (with_reducible first | exact HB.out | apply Sq.i | apply Sq.j | apply Sq.k | refine Sq.h ?_ GE181.out | refine Sq.h ?_ GE182.out) | exact HB.out)) hb)
      have n5_ := Sq.l (hbox)
      have n6_ := Sq.l ((by rw [hg]; exact (Sq.a5 (by repeat (first | (with_reducible first | exact HB.out | apply Sq.i | apply Sq.j | apply Sq.k | refine Sq.h ?_ GE181.out | refine Sq.h ?_ GE182.out) | exact HB.out))) : w.heap.size ≤ gb197))
      have n7_ := Sq.l ((by rw [hg]; exact (Sq.a5 (by repeat (first | (with_reducible first | exact HB.out | apply Sq.i | apply Sq.j | apply Sq.k | refine Sq.h ?_ GE181.out | refine Sq.h ?_ GE182.out) | exact HB.out))) : w.heap.size ≤ gb197))
      have n8_ := Sq.l ((by rw [hg]; exact Nat.ne_of_lt (blk_lt (g := gb181) (o := .cells #[.slice A0_0 l0_0.length c0_0, .int .i64 a0_1] 60 (0, 0)) (by (with_reducible repeat (first | refine Sq.d ?_ _ | refine Sq.e ?_ | refine Sq.f ?_ _)); exact BK181.out)) : gb181 ≠ gb197))
      have n9_ := Sq.l ((by rw [hg]; exact Nat.ne_of_gt (blk_lt (g := gb181) (o := .cells #[.slice A0_0 l0_0.length c0_0, .int .i64 a0_1] 60 (0, 0)) (by (with_reducible repeat (first | refine Sq.d ?_ _ | refine Sq.e ?_ | refine Sq.f ?_ _)); exact BK181.out)) : gb197 ≠ gb181))
      have n10_ := Sq.l ((by rw [hg]; exact Nat.ne_of_lt (blk_lt (g := gb182) (o := .cells #[.int .i64 a1_0, .int .i64 a1_1, .int .i64 a1_2, .int .i64 a1_3, .bool a1_4] 97 (0, 0)) (by (with_reducible repeat (first | refine Sq.d ?_ _ | refine Sq.e ?_ | refine Sq.f ?_ _)); exact BK182.out)) : gb182 ≠ gb197))
      have n11_ := Sq.l ((by rw [hg]; exact Nat.ne_of_gt (blk_lt (g := gb182) (o := .cells #[.int .i64 a1_0, .int .i64 a1_1, .int .i64 a1_2, .int .i64 a1_3, .bool a1_4] 97 (0, 0)) (by (with_reducible repeat (first | refine Sq.d ?_ _ | refine Sq.e ?_ | refine Sq.f ?_ _)); exact BK182.out)) : gb197 ≠ gb182))
      clear HO186 HO195 BK181 BK182 HB; have HO186 := n0_; have HO195 := n1_; have BK181 := n2_; have BK182 := n3_; have HB := n4_; have BK197 := n5_; have GW197 := n6_; have GE197 := n7_; have NB181_197 := n8_; have NB197_181 := n9_; have NB182_197 := n10_; have NB197_182 := n11_; clear n0_ n1_ n2_ n3_ n4_ n5_ n6_ n7_ n8_ n9_ n10_ n11_ hb hbox hg
      refine hK.out _ _ ⟨(Sq.o BK181.out 0).trans rfl, (Sq.o BK181.out 1).trans rfl, (Sq.o BK182.out 0).trans rfl, (Sq.o BK182.out 1).trans rfl, (Sq.o BK182.out 2).trans rfl, (Sq.o BK182.out 3).trans rfl, (Sq.o BK182.out 4).trans rfl⟩ (fun hHeld => ?_)
      clear hK K
      refine norm_ (a' := ?_) ?_ ?_
      rotate_left
      ·show Act.put _ (some 6) _ = _
       simp only [Act.put, List.setIfInBounds_toArray, List.set_cons_zero, List.set_cons_succ, i64_w, i32_w]
       rfl
      exact norm_ (by simp only [putAll, Act.put, List.setIfInBounds_toArray, List.set_cons_zero, List.set_cons_succ]) (hCont (.slice Ao22 t184.length co22, v194, gb197) _ ⟨hHeld, (by (with_reducible repeat (first | apply Sq.a | apply Sq.b | apply Sq.c)); exact Sq.a3 HO186.out (fun _ hk => hk.2)), (by (with_reducible repeat (first | apply Sq.a | apply Sq.b | apply Sq.c)); exact Sq.a3 HO195.out (fun _ hk => hk.2)), (by (with_reducible repeat (first | refine Sq.d ?_ _ | refine Sq.e ?_ | refine Sq.f ?_ _)); exact BK181.out), (by (with_reducible repeat (first | refine Sq.d ?_ _ | refine Sq.e ?_ | refine Sq.f ?_ _)); exact BK182.out), (by (with_reducible repeat (first | refine Sq.d ?_ _ | refine Sq.e ?_ | refine Sq.f ?_ _)); exact BK197.out), GW197.out, GE197.out, NB181_197.out, NB197_181.out, NB182_197.out, NB197_182.out, (by repeat (first | (with_reducible first | exact HB.out | apply Sq.i | apply Sq.j | apply Sq.k | refine Sq.h ?_ GE181.out | refine Sq.h ?_ GE182.out | refine Sq.h ?_ GE197.out) | exact HB.out))⟩)
     ·skip
      refine box_step ?hg (N := 6) ?hd (cs := #[.slice none 0 0, .int .i64 0]) (t := 65) ?hr ?_; (case hd => rfl); (case hg => rfl); (case hr => first | (go_simp; done) | (go_simp; rfl))
      intro gb197 hg w22 hbox hb
      have n0_ := Sq.l (Sq.n (by (with_reducible repeat (first | apply Sq.a | apply Sq.b | apply Sq.c)); exact HO186.out) hb)
      have n1_ := Sq.l (Sq.m (g := gb181) (o := .cells #[.slice A0_0 l0_0.length c0_0, .int .i64 a0_1] 60 (0, 0)) (by (with_reducible repeat (first | refine Sq.d ?_ _ | refine Sq.e ?_ | refine Sq.f ?_ _)); exact BK181.out) hb)
      have n2_ := Sq.l (Sq.m (g := gb182) (o := .cells #[.int .i64 a1_0, .int .i64 a1_1, .int .i64 a1_2, .int .i64 a1_3, .bool a1_4] 97 (0, 0)) (by (with_reducible repeat (first | refine Sq.d ?_ _ | refine Sq.e ?_ | refine Sq.f ?_ _)); exact BK182.out) hb)
      have n3_ := Sq.l (Sq.a4 (by repeat (first | (with_reducible first | exact HB.out | apply Sq.i | apply Sq.j | apply Sq.k | refine Sq.h ?_ GE181.out | refine Sq.h ?_ GE182.out) | exact HB.out)) hb)
      have n4_ := Sq.l (hbox)
      have n5_ := Sq.l ((by rw [hg]; exact (Sq.a5 (by repeat (first | (with_reducible first | exact HB.out | apply Sq.i | apply Sq.j | apply Sq.k | refine Sq.h ?_ GE181.out | refine Sq.h ?_ GE182.out) | exact HB.out))) : w.heap.size ≤ gb197))
      have n6_ := Sq.l ((by rw [hg]; exact (Sq.a5 (by repeat (first | (with_reducible first | exact HB.out | apply Sq.i | apply Sq.j | apply Sq.k | refine Sq.h ?_ GE181.out | refine Sq.h ?_ GE182.out) | exact HB.out))) : w.heap.size ≤ gb197))
      have n7_ := Sq.l ((by rw [hg]; exact Nat.ne_of_lt (blk_lt (g := gb181) (o := .cells #[.slice A0_0 l0_0.length c0_0, .int .i64 a0_1] 60 (0, 0)) (by (with_reducible repeat (first | refine Sq.d ?_ _ | refine Sq.e ?_ | refine Sq.f ?_ _)); exact BK181.out)) : gb181 ≠ gb197))
      have n8_ := Sq.l ((by rw [hg]; exact Nat.ne_of_gt (blk_lt (g := gb181) (o := .cells #[.slice A0_0 l0_0.length c0_0, .int .i64 a0_1] 60 (0, 0)) (by (with_reducible repeat (first | refine Sq.d ?_ _ | refine Sq.e ?_ | refine Sq.f ?_ _)); exact BK181.out)) : gb197 ≠ gb181))
      have n9_ := Sq.l ((by rw [hg]; exact Nat.ne_of_lt (blk_lt (g := gb182) (o := .cells #[.int .i64 a1_0, .int .i64 a1_1, .int .i64 a1_2, .int .i64 a1_3, .bool a1_4] 97 (0, 0)) (by (with_reducible repeat (first | refine Sq.d ?_ _ | refine Sq.e ?_ | refine Sq.f ?_ _)); exact BK182.out)) : gb182 ≠ gb197))
      have n10_ := Sq.l ((by rw [hg]; exact Nat.ne_of_gt (blk_lt (g := gb182) (o := .cells #[.int .i64 a1_0, .int .i64 a1_1, .int .i64 a1_2, .int .i64 a1_3, .bool a1_4] 97 (0, 0)) (by (with_reducible repeat (first | refine Sq.d ?_ _ | refine Sq.e ?_ | refine Sq.f ?_ _)); exact BK182.out)) : gb197 ≠ gb182))
      clear HO186 BK181 BK182 HB; have HO186 := n0_; have BK181 := n1_; have BK182 := n2_; have HB := n3_; have BK197 := n4_; have GW197 := n5_; have GE197 := n6_; have NB181_197 := n7_; have NB197_181 := n8_; have NB182_197 := n9_; have NB197_182 := n10_; clear n0_ n1_ n2_ n3_ n4_ n5_ n6_ n7_ n8_ n9_ n10_ hb hbox hg
      obtain ⟨Ao23, co23, eo23⟩ := Kd.R_slice HO186.out
      (first | subst eo23 | (injection eo23 with f1_ f2_ f3_; have f4_ := f1_.symm; have f5_ := f3_.symm; clear f1_ f2_ f3_; subst f4_; subst f5_))
      refine hK.out _ _ ⟨(Sq.o BK181.out 0).trans rfl, (Sq.o BK181.out 1).trans rfl, (Sq.o BK182.out 0).trans rfl, (Sq.o BK182.out 1).trans rfl, (Sq.o BK182.out 2).trans rfl, (Sq.o BK182.out 3).trans rfl, (Sq.o BK182.out 4).trans rfl⟩ (fun hHeld => ?_)
      clear hK K
      refine norm_ (a' := ?_) ?_ ?_
      rotate_left
      ·show Act.put _ (some 6) _ = _
       simp only [Act.put, List.setIfInBounds_toArray, List.set_cons_zero, List.set_cons_succ, i64_w, i32_w]
       rfl
      refine one_ (i := 4) (N := some 22) #[true, true, true, true, true, true, false] rfl rfl (by kernel_rfl) (by decide) (fun K hK => ?_)
      refine goes_ Try.func58 (by kernel_rfl) rfl #[.agg #[.slice Ao23 t184.length co23, .int .i64 t187], .agg #[.int .i64 t188, .int .i64 t189, .int .i64 t190, .int .i64 t191, .bool t192]] (by rfl) rfl rfl (by (try simp only [List.map_toArray, List.map_cons, List.map_nil]); first | done | rfl | (simp only [List.length_drop, List.length_take]; rfl)) ?_
      with_reducible refine (spec_TlbPut.calls k _ _ t184 t187 t188 t189 t190 t191 t192 t193 t196 _ ?side1 ?side2 A13.out).mono ?_
      (case side1 => repeat (first | exact (Sq.b4 HO186.out).2.2 | (with_reducible refine Sq.s ?_ _) | (with_reducible refine Sq.t ?_ _) | (with_reducible refine Sq.u ?_)))
      (case side2 => exact (Sq.b4 HO186.out).2.1)
      rintro e w24 ⟨v194, rfl, ho0, hb⟩
      refine ⟨_, rfl, ?_⟩
      have n0_ := Sq.l (Sq.p (by (with_reducible repeat (first | apply Sq.a | apply Sq.b | apply Sq.c)); exact HO186.out) (Sq.b7 ho0) hb)
      have n1_ := Sq.l (Sq.a2 (Sq.c1 ho0 (Sq.c2 (by (with_reducible repeat (first | apply Sq.a | apply Sq.b | apply Sq.c)); exact HO186.out))) (Sq.a5 (by repeat (first | (with_reducible first | exact HB.out | apply Sq.i | apply Sq.j | apply Sq.k | refine Sq.h ?_ GE181.out | refine Sq.h ?_ GE182.out | refine Sq.h ?_ GE197.out) | exact HB.out))))
      have n2_ := Sq.l (Sq.m (g := gb181) (o := .cells #[.slice A0_0 l0_0.length c0_0, .int .i64 a0_1] 60 (0, 0)) (by (with_reducible repeat (first | refine Sq.d ?_ _ | refine Sq.e ?_ | refine Sq.f ?_ _)); exact BK181.out) hb)
      have n3_ := Sq.l (Sq.m (g := gb182) (o := .cells #[.int .i64 a1_0, .int .i64 a1_1, .int .i64 a1_2, .int .i64 a1_3, .bool a1_4] 97 (0, 0)) (by (with_reducible repeat (first | refine Sq.d ?_ _ | refine Sq.e ?_ | refine Sq.f ?_ _)); exact BK182.out) hb)
      have n4_ := Sq.l (Sq.m (g := gb197) (o := .cells #[.slice none 0 0, .int .i64 0] 65 (0, 0)) (by (with_reducible repeat (first | refine Sq.d ?_ _ | refine Sq.e ?_ | refine Sq.f ?_ _)); exact BK197.out) hb)
      have n5_ := Sq.l (Sq.a4 (by repeat (first | (with_reducible first | exact HB.out | apply Sq.i | apply Sq.j | apply Sq.k | refine Sq.h ?_ GE181.out | refine Sq.h ?_ GE182.out | refine Sq.h ?_ GE197.out) | exact HB.out)) hb)
      clear HO186 BK181 BK182 BK197 HB; have HO186 := n0_; have HO195 := n1_; have BK181 := n2_; have BK182 := n3_; have BK197 := n4_; have HB := n5_; clear n0_ n1_ n2_ n3_ n4_ n5_; (try clear hb); (try clear hb2); (try clear hk); (try clear hi); (try clear ho0)
      refine hK.out _ _ ⟨(Sq.o BK181.out 0).trans rfl, (Sq.o BK181.out 1).trans rfl, (Sq.o BK182.out 0).trans rfl, (Sq.o BK182.out 1).trans rfl, (Sq.o BK182.out 2).trans rfl, (Sq.o BK182.out 3).trans rfl, (Sq.o BK182.out 4).trans rfl⟩ (fun hHeld => ?_)
      clear hK K
      refine norm_ (a' := ?_) ?_ ?_
      rotate_left
      ·show Act.put _ (some 22) _ = _
       simp only [Act.put, List.setIfInBounds_toArray, List.set_cons_zero, List.set_cons_succ, i64_w, i32_w]
       rfl
      exact norm_ (by simp only [putAll, Act.put, List.setIfInBounds_toArray, List.set_cons_zero, List.set_cons_succ]) (hCont (.slice Ao23 t184.length co23, v194, gb197) _ ⟨hHeld, (by (with_reducible repeat (first | apply Sq.a | apply Sq.b | apply Sq.c)); exact Sq.a3 HO186.out (fun _ hk => hk.2)), (by (with_reducible repeat (first | apply Sq.a | apply Sq.b | apply Sq.c)); exact Sq.a3 HO195.out (fun _ hk => hk.2)), (by (with_reducible repeat (first | refine Sq.d ?_ _ | refine Sq.e ?_ | refine Sq.f ?_ _)); exact BK181.out), (by (with_reducible repeat (first | refine Sq.d ?_ _ | refine Sq.e ?_ | refine Sq.f ?_ _)); exact BK182.out), (by (with_reducible repeat (first | refine Sq.d ?_ _ | refine Sq.e ?_ | refine Sq.f ?_ _)); exact BK197.out), GW197.out, GE197.out, NB181_197.out, NB197_181.out, NB182_197.out, NB197_182.out, (by repeat (first | (with_reducible first | exact HB.out | apply Sq.i | apply Sq.j | apply Sq.k | refine Sq.h ?_ GE181.out | refine Sq.h ?_ GE182.out | refine Sq.h ?_ GE197.out) | exact HB.out))⟩)
    ·skip
     refine box_step ?hg (N := 6) ?hd (cs := #[.slice none 0 0, .int .i64 0]) (t := 65) ?hr ?_; (case hd => rfl); (case hg => rfl); (case hr => first | (go_simp; done) | (go_simp; rfl))
     intro gb197 hg w21 hbox hb
     have n0_ := Sq.l (Sq.n (by (with_reducible repeat (first | apply Sq.a | apply Sq.b | apply Sq.c)); exact HO186.out) hb)
     have n1_ := Sq.l (Sq.m (g := gb181) (o := .cells #[.slice A0_0 l0_0.length c0_0, .int .i64 a0_1] 60 (0, 0)) (by (with_reducible repeat (first | refine Sq.d ?_ _ | refine Sq.e ?_ | refine Sq.f ?_ _)); exact BK181.out) hb)
     have n2_ := Sq.l (Sq.m (g := gb182) (o := .cells #[.int .i64 a1_0, .int .i64 a1_1, .int .i64 a1_2, .int .i64 a1_3, .bool a1_4] 97 (0, 0)) (by (with_reducible repeat (first | refine Sq.d ?_ _ | refine Sq.e ?_ | refine Sq.f ?_ _)); exact BK182.out) hb)
     have n3_ := Sq.l (Sq.a4 (by repeat (first | (with_reducible first | exact HB.out | apply Sq.i | apply Sq.j | apply Sq.k | refine Sq.h ?_ GE181.out | refine Sq.h ?_ GE182.out) | exact HB.out)) hb)
     have n4_ := Sq.l (hbox)
     have n5_ := Sq.l ((by rw [hg]; exact (Sq.a5 (by repeat (first | (with_reducible first | exact HB.out | apply Sq.i | apply Sq.j | apply Sq.k | refine Sq.h ?_ GE181.out | refine Sq.h ?_ GE182.out) | exact HB.out))) : w.heap.size ≤ gb197))
     have n6_ := Sq.l ((by rw [hg]; exact (Sq.a5 (by repeat (first | (with_reducible first | exact HB.out | apply Sq.i | apply Sq.j | apply Sq.k | refine Sq.h ?_ GE181.out | refine Sq.h ?_ GE182.out) | exact HB.out))) : w.heap.size ≤ gb197))
     have n7_ := Sq.l ((by rw [hg]; exact Nat.ne_of_lt (blk_lt (g := gb181) (o := .cells #[.slice A0_0 l0_0.length c0_0, .int .i64 a0_1] 60 (0, 0)) (by (with_reducible repeat (first | refine Sq.d ?_ _ | refine Sq.e ?_ | refine Sq.f ?_ _)); exact BK181.out)) : gb181 ≠ gb197))
     have n8_ := Sq.l ((by rw [hg]; exact Nat.ne_of_gt (blk_lt (g := gb181) (o := .cells #[.slice A0_0 l0_0.length c0_0, .int .i64 a0_1] 60 (0, 0)) (by (with_reducible repeat (first | refine Sq.d ?_ _ | refine Sq.e ?_ | refine Sq.f ?_ _)); exact BK181.out)) : gb197 ≠ gb181))
     have n9_ := Sq.l ((by rw [hg]; exact Nat.ne_of_lt (blk_lt (g := gb182) (o := .cells #[.int .i64 a1_0, .int .i64 a1_1, .int .i64 a1_2, .int .i64 a1_3, .bool a1_4] 97 (0, 0)) (by (with_reducible repeat (first | refine Sq.d ?_ _ | refine Sq.e ?_ | refine Sq.f ?_ _)); exact BK182.out)) : gb182 ≠ gb197))
     have n10_ := Sq.l ((by rw [hg]; exact Nat.ne_of_gt (blk_lt (g := gb182) (o := .cells #[.int .i64 a1_0, .int .i64 a1_1, .int .i64 a1_2, .int .i64 a1_3, .bool a1_4] 97 (0, 0)) (by (with_reducible repeat (first | refine Sq.d ?_ _ | refine Sq.e ?_ | refine Sq.f ?_ _)); exact BK182.out)) : gb197 ≠ gb182))
     clear HO186 BK181 BK182 HB; have HO186 := n0_; have BK181 := n1_; have BK182 := n2_; have HB := n3_; have BK197 := n4_; have GW197 := n5_; have GE197 := n6_; have NB181_197 := n7_; have NB197_181 := n8_; have NB182_197 := n9_; have NB197_182 := n10_; clear n0_ n1_ n2_ n3_ n4_ n5_ n6_ n7_ n8_ n9_ n10_ hb hbox hg
     refine hK.out _ _ ⟨(Sq.o BK181.out 0).trans rfl, (Sq.o BK181.out 1).trans rfl, (Sq.o BK182.out 0).trans rfl, (Sq.o BK182.out 1).trans rfl, (Sq.o BK182.out 2).trans rfl, (Sq.o BK182.out 3).trans rfl, (Sq.o BK182.out 4).trans rfl⟩ (fun hHeld => ?_)
     clear hK K
     refine norm_ (a' := ?_) ?_ ?_
     rotate_left
     ·show Act.put _ (some 6) _ = _
      simp only [Act.put, List.setIfInBounds_toArray, List.set_cons_zero, List.set_cons_succ, i64_w, i32_w]
      rfl
     refine one_ (i := 3) (N := some 21) #[true, true, true, true, false, true, false] rfl rfl (by kernel_rfl) (by decide) (fun K hK => ?_)
     refine goes_ Try.func59 (by kernel_rfl) rfl #[.agg #[.int .i64 a1_0, .int .i64 a1_1, .int .i64 a1_2, .int .i64 a1_3, .bool a1_4]] (by rfl) rfl rfl (by (try simp only [List.map_toArray, List.map_cons, List.map_nil]); first | done | rfl | (simp only [List.length_drop, List.length_take]; rfl)) ?_
     with_reducible refine (laws_toTlbEntry.calls a1_0 a1_1 a1_2 a1_3 a1_4 t188 t189 t190 t191 t192 _ A12.out).mono ?_
     rintro e w22 ⟨rfl, hb⟩
     refine ⟨_, rfl, ?_⟩
     have n0_ := Sq.l (Sq.n (by (with_reducible repeat (first | apply Sq.a | apply Sq.b | apply Sq.c)); exact HO186.out) hb)
     have n1_ := Sq.l (Sq.m (g := gb181) (o := .cells #[.slice A0_0 l0_0.length c0_0, .int .i64 a0_1] 60 (0, 0)) (by (with_reducible repeat (first | refine Sq.d ?_ _ | refine Sq.e ?_ | refine Sq.f ?_ _)); exact BK181.out) hb)
     have n2_ := Sq.l (Sq.m (g := gb182) (o := .cells #[.int .i64 a1_0, .int .i64 a1_1, .int .i64 a1_2, .int .i64 a1_3, .bool a1_4] 97 (0, 0)) (by (with_reducible repeat (first | refine Sq.d ?_ _ | refine Sq.e ?_ | refine Sq.f ?_ _)); exact BK182.out) hb)
     have n3_ := Sq.l (Sq.m (g := gb197) (o := .cells #[.slice none 0 0, .int .i64 0] 65 (0, 0)) (by (with_reducible repeat (first | refine Sq.d ?_ _ | refine Sq.e ?_ | refine Sq.f ?_ _)); exact BK197.out) hb)
     have n4_ := Sq.l (Sq.a4 (by repeat (first | (with_reducible first | exact HB.out | apply Sq.i | apply Sq.j | apply Sq.k | refine Sq.h ?_ GE181.out | refine Sq.h ?_ GE182.out | refine Sq.h ?_ GE197.out) | exact HB.out)) hb)
     clear HO186 BK181 BK182 BK197 HB; have HO186 := n0_; have BK181 := n1_; have BK182 := n2_; have BK197 := n3_; have HB := n4_; clear n0_ n1_ n2_ n3_ n4_; (try clear hb); (try clear hb2); (try clear hk); (try clear hi)
     obtain ⟨Ao23, co23, eo23⟩ := Kd.R_slice HO186.out
     (first | subst eo23 | (injection eo23 with f1_ f2_ f3_; have f4_ := f1_.symm; have f5_ := f3_.symm; clear f1_ f2_ f3_; subst f4_; subst f5_))
     refine hK.out _ _ ⟨(Sq.o BK181.out 0).trans rfl, (Sq.o BK181.out 1).trans rfl, (Sq.o BK182.out 0).trans rfl, (Sq.o BK182.out 1).trans rfl, (Sq.o BK182.out 2).trans rfl, (Sq.o BK182.out 3).trans rfl, (Sq.o BK182.out 4).trans rfl⟩ (fun hHeld => ?_)
     clear hK K
     refine norm_ (a' := ?_) ?_ ?_
     rotate_left
     ·show Act.put _ (some 21) _ = _
      simp only [Act.put, List.setIfInBounds_toArray, List.set_cons_zero, List.set_cons_succ, i64_w, i32_w]
      rfl
     refine one_ (i := 4) (N := some 22) #[true, true, true, true, true, true, false] rfl rfl (by kernel_rfl) (by decide) (fun K hK => ?_)
     refine goes_ Try.func58 (by kernel_rfl) rfl #[.agg #[.slice Ao23 t184.length co23, .int .i64 t187], .agg #[.int .i64 t188, .int .i64 t189, .int .i64 t190, .int .i64 t191, .bool t192]] (by rfl) rfl rfl (by (try simp only [List.map_toArray, List.map_cons, List.map_nil]); first | done | rfl | (simp only [List.length_drop, List.length_take]; rfl)) ?_
     with_reducible refine (spec_TlbPut.calls k _ _ t184 t187 t188 t189 t190 t191 t192 t193 t196 _ ?side1 ?side2 A13.out).mono ?_
     (case side1 => repeat (first | exact (Sq.b4 HO186.out).2.2 | (with_reducible refine Sq.s ?_ _) | (with_reducible refine Sq.t ?_ _) | (with_reducible refine Sq.u ?_)))
     (case side2 => exact (Sq.b4 HO186.out).2.1)
     rintro e w24 ⟨v194, rfl, ho0, hb⟩
     refine ⟨_, rfl, ?_⟩
     have n0_ := Sq.l (Sq.p (by (with_reducible repeat (first | apply Sq.a | apply Sq.b | apply Sq.c)); exact HO186.out) (Sq.b7 ho0) hb)
     have n1_ := Sq.l (Sq.a2 (Sq.c1 ho0 (Sq.c2 (by (with_reducible repeat (first | apply Sq.a | apply Sq.b | apply Sq.c)); exact HO186.out))) (Sq.a5 (by repeat (first | (with_reducible first | exact HB.out | apply Sq.i | apply Sq.j | apply Sq.k | refine Sq.h ?_ GE181.out | refine Sq.h ?_ GE182.out | refine Sq.h ?_ GE197.out) | exact HB.out))))
     have n2_ := Sq.l (Sq.m (g := gb181) (o := .cells #[.slice A0_0 l0_0.length c0_0, .int .i64 a0_1] 60 (0, 0)) (by (with_reducible repeat (first | refine Sq.d ?_ _ | refine Sq.e ?_ | refine Sq.f ?_ _)); exact BK181.out) hb)
     have n3_ := Sq.l (Sq.m (g := gb182) (o := .cells #[.int .i64 a1_0, .int .i64 a1_1, .int .i64 a1_2, .int .i64 a1_3, .bool a1_4] 97 (0, 0)) (by (with_reducible repeat (first | refine Sq.d ?_ _ | refine Sq.e ?_ | refine Sq.f ?_ _)); exact BK182.out) hb)
     have n4_ := Sq.l (Sq.m (g := gb197) (o := .cells #[.slice none 0 0, .int .i64 0] 65 (0, 0)) (by (with_reducible repeat (first | refine Sq.d ?_ _ | refine Sq.e ?_ | refine Sq.f ?_ _)); exact BK197.out) hb)
     have n5_ := Sq.l (Sq.a4 (by repeat (first | (with_reducible first | exact HB.out | apply Sq.i | apply Sq.j | apply Sq.k | refine Sq.h ?_ GE181.out | refine Sq.h ?_ GE182.out | refine Sq.h ?_ GE197.out) | exact HB.out)) hb)
     clear HO186 BK181 BK182 BK197 HB; have HO186 := n0_; have HO195 := n1_; have BK181 := n2_; have BK182 := n3_; have BK197 := n4_; have HB := n5_; clear n0_ n1_ n2_ n3_ n4_ n5_; (try clear hb); (try clear hb2); (try clear hk); (try clear hi); (try clear ho0)
     refine hK.out _ _ ⟨(Sq.o BK181.out 0).trans rfl, (Sq.o BK181.out 1).trans rfl, (Sq.o BK182.out 0).trans rfl, (Sq.o BK182.out 1).trans rfl, (Sq.o BK182.out 2).trans rfl, (Sq.o BK182.out 3).trans rfl, (Sq.o BK182.out 4).trans rfl⟩ (fun hHeld => ?_)
     clear hK K
     refine norm_ (a' := ?_) ?_ ?_
     rotate_left
     ·show Act.put _ (some 22) _ = _
      simp only [Act.put, List.setIfInBounds_toArray, List.set_cons_zero, List.set_cons_succ, i64_w, i32_w]
      rfl
     exact norm_ (by simp only [putAll, Act.put, List.setIfInBounds_toArray, List.set_cons_zero, List.set_cons_succ]) (hCont (.slice Ao23 t184.length co23, v194, gb197) _ ⟨hHeld, (by (with_reducible repeat (first | apply Sq.a | apply Sq.b | apply Sq.c)); exact Sq.a3 HO186.out (fun _ hk => hk.2)), (by (with_reducible repeat (first | apply Sq.a | apply Sq.b | apply Sq.c)); exact Sq.a3 HO195.out (fun _ hk => hk.2)), (by (with_reducible repeat (first | refine Sq.d ?_ _ | refine Sq.e ?_ | refine Sq.f ?_ _)); exact BK181.out), (by (with_reducible repeat (first | refine Sq.d ?_ _ | refine Sq.e ?_ | refine Sq.f ?_ _)); exact BK182.out), (by (with_reducible repeat (first | refine Sq.d ?_ _ | refine Sq.e ?_ | refine Sq.f ?_ _)); exact BK197.out), GW197.out, GE197.out, NB181_197.out, NB197_181.out, NB182_197.out, NB197_182.out, (by repeat (first | (with_reducible first | exact HB.out | apply Sq.i | apply Sq.j | apply Sq.k | refine Sq.h ?_ GE181.out | refine Sq.h ?_ GE182.out | refine Sq.h ?_ GE197.out) | exact HB.out))⟩)
   ·skip
    refine box_step ?hg (N := 6) ?hd (cs := #[.slice none 0 0, .int .i64 0]) (t := 65) ?hr ?_; (case hd => rfl); (case hg => rfl); (case hr => first | (go_simp; done) | (go_simp; rfl))
    intro gb197 hg w20 hbox hb
    have n0_ := Sq.l (Sq.m (g := gb181) (o := .cells #[.slice A0_0 l0_0.length c0_0, .int .i64 a0_1] 60 (0, 0)) (by (with_reducible repeat (first | refine Sq.d ?_ _ | refine Sq.e ?_ | refine Sq.f ?_ _)); exact BK181.out) hb)
    have n1_ := Sq.l (Sq.m (g := gb182) (o := .cells #[.int .i64 a1_0, .int .i64 a1_1, .int .i64 a1_2, .int .i64 a1_3, .bool a1_4] 97 (0, 0)) (by (with_reducible repeat (first | refine Sq.d ?_ _ | refine Sq.e ?_ | refine Sq.f ?_ _)); exact BK182.out) hb)
    have n2_ := Sq.l (Sq.a4 (by repeat (first | (with_reducible first | exact HB.out | apply Sq.i | apply Sq.j | apply Sq.k | refine Sq.h ?_ GE181.out | refine Sq.h ?_ GE182.out) | exact HB.out)) hb)
    have n3_ := Sq.l (hbox)
    have n4_ := Sq.l ((by rw [hg]; exact (Sq.a5 (by repeat (first | (with_reducible first | exact HB.out | apply Sq.i | apply Sq.j | apply Sq.k | refine Sq.h ?_ GE181.out | refine Sq.h ?_ GE182.out) | exact HB.out))) : w.heap.size ≤ gb197))
    have n5_ := Sq.l ((by rw [hg]; exact (Sq.a5 (by repeat (first | (with_reducible first | exact HB.out | apply Sq.i | apply Sq.j | apply Sq.k | refine Sq.h ?_ GE181.out | refine Sq.h ?_ GE182.out) | exact HB.out))) : w.heap.size ≤ gb197))
    have n6_ := Sq.l ((by rw [hg]; exact Nat.ne_of_lt (blk_lt (g := gb181) (o := .cells #[.slice A0_0 l0_0.length c0_0, .int .i64 a0_1] 60 (0, 0)) (by (with_reducible repeat (first | refine Sq.d ?_ _ | refine Sq.e ?_ | refine Sq.f ?_ _)); exact BK181.out)) : gb181 ≠ gb197))
    have n7_ := Sq.l ((by rw [hg]; exact Nat.ne_of_gt (blk_lt (g := gb181) (o := .cells #[.slice A0_0 l0_0.length c0_0, .int .i64 a0_1] 60 (0, 0)) (by (with_reducible repeat (first | refine Sq.d ?_ _ | refine Sq.e ?_ | refine Sq.f ?_ _)); exact BK181.out)) : gb197 ≠ gb181))
    have n8_ := Sq.l ((by rw [hg]; exact Nat.ne_of_lt (blk_lt (g := gb182) (o := .cells #[.int .i64 a1_0, .int .i64 a1_1, .int .i64 a1_2, .int .i64 a1_3, .bool a1_4] 97 (0, 0)) (by (with_reducible repeat (first | refine Sq.d ?_ _ | refine Sq.e ?_ | refine Sq.f ?_ _)); exact BK182.out)) : gb182 ≠ gb197))
    have n9_ := Sq.l ((by rw [hg]; exact Nat.ne_of_gt (blk_lt (g := gb182) (o := .cells #[.int .i64 a1_0, .int .i64 a1_1, .int .i64 a1_2, .int .i64 a1_3, .bool a1_4] 97 (0, 0)) (by (with_reducible repeat (first | refine Sq.d ?_ _ | refine Sq.e ?_ | refine Sq.f ?_ _)); exact BK182.out)) : gb197 ≠ gb182))
    clear BK181 BK182 HB; have BK181 := n0_; have BK182 := n1_; have HB := n2_; have BK197 := n3_; have GW197 := n4_; have GE197 := n5_; have NB181_197 := n6_; have NB197_181 := n7_; have NB182_197 := n8_; have NB197_182 := n9_; clear n0_ n1_ n2_ n3_ n4_ n5_ n6_ n7_ n8_ n9_ hb hbox hg
    refine hK.out _ _ ⟨(Sq.o BK181.out 0).trans rfl, (Sq.o BK181.out 1).trans rfl, (Sq.o BK182.out 0).trans rfl, (Sq.o BK182.out 1).trans rfl, (Sq.o BK182.out 2).trans rfl, (Sq.o BK182.out 3).trans rfl, (Sq.o BK182.out 4).trans rfl⟩ (fun hHeld => ?_)
    clear hK K
    refine norm_ (a' := ?_) ?_ ?_
    rotate_left
    ·show Act.put _ (some 6) _ = _
     simp only [Act.put, List.setIfInBounds_toArray, List.set_cons_zero, List.set_cons_succ, i64_w, i32_w]
     rfl
    refine one_ (i := 1) (N := some 19) #[true, true, true, false, false, true, false] rfl rfl (by kernel_rfl) (by decide) (fun K hK => ?_)
    refine goes_ Try.func38 (by kernel_rfl) rfl #[.agg #[.slice A0_0 l0_0.length c0_0, .int .i64 a0_1]] (by rfl) rfl rfl (by (try simp only [List.map_toArray, List.map_cons, List.map_nil]); first | done | rfl | (simp only [List.length_drop, List.length_take]; rfl)) ?_
    with_reducible refine (laws_toTlb.calls k _ _ l0_0 a0_1 t184 t187 _ ?side1 ?side2 A11.out).mono ?_
    (case side1 => repeat (first | exact (Sq.a1 HR0_0.out HB.out) | (with_reducible refine Sq.s ?_ _) | (with_reducible refine Sq.t ?_ _) | (with_reducible refine Sq.u ?_)))
    (case side2 => exact HC0_0.out)
    rintro e w21 ⟨v185, rfl, ho0, hb⟩
    refine ⟨_, rfl, ?_⟩
    have n0_ := Sq.l (Sq.a2 ho0 (Sq.a5 (by repeat (first | (with_reducible first | exact HB.out | apply Sq.i | apply Sq.j | apply Sq.k | refine Sq.h ?_ GE181.out | refine Sq.h ?_ GE182.out | refine Sq.h ?_ GE197.out) | exact HB.out))))
    have n1_ := Sq.l (Sq.m (g := gb181) (o := .cells #[.slice A0_0 l0_0.length c0_0, .int .i64 a0_1] 60 (0, 0)) (by (with_reducible repeat (first | refine Sq.d ?_ _ | refine Sq.e ?_ | refine Sq.f ?_ _)); exact BK181.out) hb)
    have n2_ := Sq.l (Sq.m (g := gb182) (o := .cells #[.int .i64 a1_0, .int .i64 a1_1, .int .i64 a1_2, .int .i64 a1_3, .bool a1_4] 97 (0, 0)) (by (with_reducible repeat (first | refine Sq.d ?_ _ | refine Sq.e ?_ | refine Sq.f ?_ _)); exact BK182.out) hb)
    have n3_ := Sq.l (Sq.m (g := gb197) (o := .cells #[.slice none 0 0, .int .i64 0] 65 (0, 0)) (by (with_reducible repeat (first | refine Sq.d ?_ _ | refine Sq.e ?_ | refine Sq.f ?_ _)); exact BK197.out) hb)
    have n4_ := Sq.l (Sq.a4 (by repeat (first | (with_reducible first | exact HB.out | apply Sq.i | apply Sq.j | apply Sq.k | refine Sq.h ?_ GE181.out | refine Sq.h ?_ GE182.out | refine Sq.h ?_ GE197.out) | exact HB.out)) hb)
    clear BK181 BK182 BK197 HB; have HO186 := n0_; have BK181 := n1_; have BK182 := n2_; have BK197 := n3_; have HB := n4_; clear n0_ n1_ n2_ n3_ n4_; (try clear hb); (try clear hb2); (try clear hk); (try clear hi); (try clear ho0)
    refine hK.out _ _ ⟨(Sq.o BK181.out 0).trans rfl, (Sq.o BK181.out 1).trans rfl, (Sq.o BK182.out 0).trans rfl, (Sq.o BK182.out 1).trans rfl, (Sq.o BK182.out 2).trans rfl, (Sq.o BK182.out 3).trans rfl, (Sq.o BK182.out 4).trans rfl⟩ (fun hHeld => ?_)
    clear hK K
    refine norm_ (a' := ?_) ?_ ?_
    rotate_left
    ·show Act.put _ (some 19) _ = _
     simp only [Act.put, List.setIfInBounds_toArray, List.set_cons_zero, List.set_cons_succ, i64_w, i32_w]
     rfl
    refine one_ (i := 3) (N := some 21) #[true, true, true, true, false, true, false] rfl rfl (by kernel_rfl) (by decide) (fun K hK => ?_)
    refine goes_ Try.func59 (by kernel_rfl) rfl #[.agg #[.int .i64 a1_0, .int .i64 a1_1, .int .i64 a1_2, .int .i64 a1_3, .bool a1_4]] (by rfl) rfl rfl (by (try simp only [List.map_toArray, List.map_cons, List.map_nil]); first | done | rfl | (simp only [List.length_drop, List.length_take]; rfl)) ?_
    with_reducible refine (laws_toTlbEntry.calls a1_0 a1_1 a1_2 a1_3 a1_4 t188 t189 t190 t191 t192 _ A12.out).mono ?_
    rintro e w22 ⟨rfl, hb⟩
    refine ⟨_, rfl, ?_⟩
    have n0_ := Sq.l (Sq.n (by (with_reducible repeat (first | apply Sq.a | apply Sq.b | apply Sq.c)); exact HO186.out) hb)
    have n1_ := Sq.l (Sq.m (g := gb181) (o := .cells #[.slice A0_0 l0_0.length c0_0, .int .i64 a0_1] 60 (0, 0)) (by (with_reducible repeat (first | refine Sq.d ?_ _ | refine Sq.e ?_ | refine Sq.f ?_ _)); exact BK181.out) hb)
    have n2_ := Sq.l (Sq.m (g := gb182) (o := .cells #[.int .i64 a1_0, .int .i64 a1_1, .int .i64 a1_2, .int .i64 a1_3, .bool a1_4] 97 (0, 0)) (by (with_reducible repeat (first | refine Sq.d ?_ _ | refine Sq.e ?_ | refine Sq.f ?_ _)); exact BK182.out) hb)
    have n3_ := Sq.l (Sq.m (g := gb197) (o := .cells #[.slice none 0 0, .int .i64 0] 65 (0, 0)) (by (with_reducible repeat (first | refine Sq.d ?_ _ | refine Sq.e ?_ | refine Sq.f ?_ _)); exact BK197.out) hb)
    have n4_ := Sq.l (Sq.a4 (by repeat (first | (with_reducible first | exact HB.out | apply Sq.i | apply Sq.j | apply Sq.k | refine Sq.h ?_ GE181.out | refine Sq.h ?_ GE182.out | refine Sq.h ?_ GE197.out) | exact HB.out)) hb)
    clear HO186 BK181 BK182 BK197 HB; have HO186 := n0_; have BK181 := n1_; have BK182 := n2_; have BK197 := n3_; have HB := n4_; clear n0_ n1_ n2_ n3_ n4_; (try clear hb); (try clear hb2); (try clear hk); (try clear hi)
    obtain ⟨Ao23, co23, eo23⟩ := Kd.R_slice HO186.out
    (first | subst eo23 | (injection eo23 with f1_ f2_ f3_; have f4_ := f1_.symm; have f5_ := f3_.symm; clear f1_ f2_ f3_; subst f4_; subst f5_))
    refine hK.out _ _ ⟨(Sq.o BK181.out 0).trans rfl, (Sq.o BK181.out 1).trans rfl, (Sq.o BK182.out 0).trans rfl, (Sq.o BK182.out 1).trans rfl, (Sq.o BK182.out 2).trans rfl, (Sq.o BK182.out 3).trans rfl, (Sq.o BK182.out 4).trans rfl⟩ (fun hHeld => ?_)
    clear hK K
    refine norm_ (a' := ?_) ?_ ?_
    rotate_left
    ·show Act.put _ (some 21) _ = _
     simp only [Act.put, List.setIfInBounds_toArray, List.set_cons_zero, List.set_cons_succ, i64_w, i32_w]
     rfl
    refine one_ (i := 4) (N := some 22) #[true, true, true, true, true, true, false] rfl rfl (by kernel_rfl) (by decide) (fun K hK => ?_)
    refine goes_ Try.func58 (by kernel_rfl) rfl #[.agg #[.slice Ao23 t184.length co23, .int .i64 t187], .agg #[.int .i64 t188, .int .i64 t189, .int .i64 t190, .int .i64 t191, .bool t192]] (by rfl) rfl rfl (by (try simp only [List.map_toArray, List.map_cons, List.map_nil]); first | done | rfl | (simp only [List.length_drop, List.length_take]; rfl)) ?_
    with_reducible refine (spec_TlbPut.calls k _ _ t184 t187 t188 t189 t190 t191 t192 t193 t196 _ ?side1 ?side2 A13.out).mono ?_
    (case side1 => repeat (first | exact (Sq.b4 HO186.out).2.2 | (with_reducible refine Sq.s ?_ _) | (with_reducible refine Sq.t ?_ _) | (with_reducible refine Sq.u ?_)))
    (case side2 => exact (Sq.b4 HO186.out).2.1)
    rintro e w24 ⟨v194, rfl, ho0, hb⟩
    refine ⟨_, rfl, ?_⟩
    have n0_ := Sq.l (Sq.p (by (with_reducible repeat (first | apply Sq.a | apply Sq.b | apply Sq.c)); exact HO186.out) (Sq.b7 ho0) hb)
    have n1_ := Sq.l (Sq.a2 (Sq.c1 ho0 (Sq.c2 (by (with_reducible repeat (first | apply Sq.a | apply Sq.b | apply Sq.c)); exact HO186.out))) (Sq.a5 (by repeat (first | (with_reducible first | exact HB.out | apply Sq.i | apply Sq.j | apply Sq.k | refine Sq.h ?_ GE181.out | refine Sq.h ?_ GE182.out | refine Sq.h ?_ GE197.out) | exact HB.out))))
    have n2_ := Sq.l (Sq.m (g := gb181) (o := .cells #[.slice A0_0 l0_0.length c0_0, .int .i64 a0_1] 60 (0, 0)) (by (with_reducible repeat (first | refine Sq.d ?_ _ | refine Sq.e ?_ | refine Sq.f ?_ _)); exact BK181.out) hb)
    have n3_ := Sq.l (Sq.m (g := gb182) (o := .cells #[.int .i64 a1_0, .int .i64 a1_1, .int .i64 a1_2, .int .i64 a1_3, .bool a1_4] 97 (0, 0)) (by (with_reducible repeat (first | refine Sq.d ?_ _ | refine Sq.e ?_ | refine Sq.f ?_ _)); exact BK182.out) hb)
    have n4_ := Sq.l (Sq.m (g := gb197) (o := .cells #[.slice none 0 0, .int .i64 0] 65 (0, 0)) (by (with_reducible repeat (first | refine Sq.d ?_ _ | refine Sq.e ?_ | refine Sq.f ?_ _)); exact BK197.out) hb)
    have n5_ := Sq.l (Sq.a4 (by repeat (first | (with_reducible first | exact HB.out | apply Sq.i | apply Sq.j | apply Sq.k | refine Sq.h ?_ GE181.out | refine Sq.h ?_ GE182.out | refine Sq.h ?_ GE197.out) | exact HB.out)) hb)
    clear HO186 BK181 BK182 BK197 HB; have HO186 := n0_; have HO195 := n1_; have BK181 := n2_; have BK182 := n3_; have BK197 := n4_; have HB := n5_; clear n0_ n1_ n2_ n3_ n4_ n5_; (try clear hb); (try clear hb2); (try clear hk); (try clear hi); (try clear ho0)
    refine hK.out _ _ ⟨(Sq.o BK181.out 0).trans rfl, (Sq.o BK181.out 1).trans rfl, (Sq.o BK182.out 0).trans rfl, (Sq.o BK182.out 1).trans rfl, (Sq.o BK182.out 2).trans rfl, (Sq.o BK182.out 3).trans rfl, (Sq.o BK182.out 4).trans rfl⟩ (fun hHeld => ?_)
    clear hK K
    refine norm_ (a' := ?_) ?_ ?_
    rotate_left
    ·show Act.put _ (some 22) _ = _
     simp only [Act.put, List.setIfInBounds_toArray, List.set_cons_zero, List.set_cons_succ, i64_w, i32_w]
     rfl
    exact norm_ (by simp only [putAll, Act.put, List.setIfInBounds_toArray, List.set_cons_zero, List.set_cons_succ]) (hCont (.slice Ao23 t184.length co23, v194, gb197) _ ⟨hHeld, (by (with_reducible repeat (first | apply Sq.a | apply Sq.b | apply Sq.c)); exact Sq.a3 HO186.out (fun _ hk => hk.2)), (by (with_reducible repeat (first | apply Sq.a | apply Sq.b | apply Sq.c)); exact Sq.a3 HO195.out (fun _ hk => hk.2)), (by (with_reducible repeat (first | refine Sq.d ?_ _ | refine Sq.e ?_ | refine Sq.f ?_ _)); exact BK181.out), (by (with_reducible repeat (first | refine Sq.d ?_ _ | refine Sq.e ?_ | refine Sq.f ?_ _)); exact BK182.out), (by (with_reducible repeat (first | refine Sq.d ?_ _ | refine Sq.e ?_ | refine Sq.f ?_ _)); exact BK197.out), GW197.out, GE197.out, NB181_197.out, NB197_181.out, NB182_197.out, NB197_182.out, (by repeat (first | (with_reducible first | exact HB.out | apply Sq.i | apply Sq.j | apply Sq.k | refine Sq.h ?_ GE181.out | refine Sq.h ?_ GE182.out | refine Sq.h ?_ GE197.out) | exact HB.out))⟩)
  rintro ⟨v185, v194, gb197⟩ w25 ⟨hS_, h0_, h1_, h2_, h3_, h4_, h5_, h6_, h7_, h8_, h9_, h10_, h11_⟩
  have n0_ : Aside0 (Kd.R k99 99 w25 w.heap.size (fun k_ => some k_ ≠ (v194 : Value).ownBlock) v185 t184) := ⟨h0_⟩
  have n1_ : Aside0 (Kd.R k99 99 w25 w.heap.size (fun k_ => some k_ ≠ (v185 : Value).ownBlock) v194 t193) := ⟨h1_⟩
  have n2_ : Aside0 (w25.heap[gb181]? = some (.cells #[.slice A0_0 l0_0.length c0_0, .int .i64 a0_1] 60 (0, 0))) := ⟨h2_⟩
  have n3_ : Aside0 (w25.heap[gb182]? = some (.cells #[.int .i64 a1_0, .int .i64 a1_1, .int .i64 a1_2, .int .i64 a1_3, .bool a1_4] 97 (0, 0))) := ⟨h3_⟩
  have n4_ : Aside0 (w25.heap[gb197]? = some (.cells #[.slice none 0 0, .int .i64 0] 65 (0, 0))) := ⟨h4_⟩
  have n5_ : Aside0 (w.heap.size ≤ gb197) := ⟨h5_⟩
  have n6_ : Aside0 (w.heap.size ≤ gb197) := ⟨h6_⟩
  have n7_ : Aside0 (gb181 ≠ gb197) := ⟨h7_⟩
  have n8_ : Aside0 (gb197 ≠ gb181) := ⟨h8_⟩
  have n9_ : Aside0 (gb182 ≠ gb197) := ⟨h9_⟩
  have n10_ : Aside0 (gb197 ≠ gb182) := ⟨h10_⟩
  have n11_ : Aside0 (Below w.heap.size w w25) := ⟨h11_⟩
  clear BK181 BK182 HB h0_ h1_ h2_ h3_ h4_ h5_ h6_ h7_ h8_ h9_ h10_ h11_; have HO186 := n0_; have HO195 := n1_; have BK181 := n2_; have BK182 := n3_; have BK197 := n4_; have GW197 := n5_; have GE197 := n6_; have NB181_197 := n7_; have NB197_181 := n8_; have NB182_197 := n9_; have NB197_182 := n10_; have HB := n11_; clear n0_ n1_ n2_ n3_ n4_ n5_ n6_ n7_ n8_ n9_ n10_ n11_
  have hHeld : w25.cell? ⟨gb181, 0, none⟩ = some (.slice A0_0 l0_0.length c0_0) ∧ w25.cell? ⟨gb181, 1, none⟩ = some (.int .i64 a0_1) ∧ w25.cell? ⟨gb182, 0, none⟩ = some (.int .i64 a1_0) ∧ w25.cell? ⟨gb182, 1, none⟩ = some (.int .i64 a1_1) ∧ w25.cell? ⟨gb182, 2, none⟩ = some (.int .i64 a1_2) ∧ w25.cell? ⟨gb182, 3, none⟩ = some (.int .i64 a1_3) ∧ w25.cell? ⟨gb182, 4, none⟩ = some (.bool a1_4) := hS_
  obtain ⟨Ao26, co26, eo26⟩ := Kd.R_slice HO195.out
  (first | subst eo26 | (injection eo26 with f1_ f2_ f3_; have f4_ := f1_.symm; have f5_ := f3_.symm; clear f1_ f2_ f3_; subst f4_; subst f5_))
  refine norm_ (a' := ?_) ?_ ?_
  rotate_left
  ·simp only [putAll, Act.put, List.setIfInBounds_toArray, List.set_cons_zero, List.set_cons_succ]
   rfl
  refine one_ (i := 6) (N := none) #[true, true, true, true, true, true, true] rfl rfl (by kernel_rfl) (by decide) (fun K hK => ?_)
  have hs27 : w25.cell? ⟨gb197, 0, none⟩ = some (.slice none 0 0) := (Sq.o BK197.out 0).trans rfl
  have hfs27 := Sq.r BK197.out 0
  have hns27_0 := NB181_197.out; have hns27_1 := NB182_197.out; have hms27_0 := NB197_181.out; have hms27_1 := NB197_182.out
  have hs28 : w25.cell? ⟨gb197, 1, none⟩ = some (.int .i64 0) := (Sq.o BK197.out 1).trans rfl
  have hfs28 := Sq.r BK197.out 1
  have hns28_0 := NB181_197.out; have hns28_1 := NB182_197.out; have hms28_0 := NB197_181.out; have hms28_1 := NB197_182.out
  refine skip_ (w1 := ?_) (by rfl) rfl ?_ ?_
  rotate_left
  ·go_simp
   rfl
  refine hK.out _ _ ⟨((cell_far (p := ⟨gb197, _, none⟩) NB181_197.out _).trans (((cell_far (p := ⟨gb197, _, none⟩) NB181_197.out _).trans (hHeld.1)))), ((cell_far (p := ⟨gb197, _, none⟩) NB181_197.out _).trans (((cell_far (p := ⟨gb197, _, none⟩) NB181_197.out _).trans (hHeld.2.1)))), ((cell_far (p := ⟨gb197, _, none⟩) NB182_197.out _).trans (((cell_far (p := ⟨gb197, _, none⟩) NB182_197.out _).trans (hHeld.2.2.1)))), ((cell_far (p := ⟨gb197, _, none⟩) NB182_197.out _).trans (((cell_far (p := ⟨gb197, _, none⟩) NB182_197.out _).trans (hHeld.2.2.2.1)))), ((cell_far (p := ⟨gb197, _, none⟩) NB182_197.out _).trans (((cell_far (p := ⟨gb197, _, none⟩) NB182_197.out _).trans (hHeld.2.2.2.2.1)))), ((cell_far (p := ⟨gb197, _, none⟩) NB182_197.out _).trans (((cell_far (p := ⟨gb197, _, none⟩) NB182_197.out _).trans (hHeld.2.2.2.2.2.1)))), ((cell_far (p := ⟨gb197, _, none⟩) NB182_197.out _).trans (((cell_far (p := ⟨gb197, _, none⟩) NB182_197.out _).trans (hHeld.2.2.2.2.2.2))))⟩ (fun hHeld => ?_)
  clear hK K
  refine done_ (by kernel_rfl) ?_
  have hnb29 := NB181_182.out; have hnc29 := NB182_181.out; have hnb30 := NB181_197.out; have hnc30 := NB197_181.out
  have hcz31_0 : w25.cell? ⟨gb181, 0, none⟩ = some (.slice A0_0 l0_0.length c0_0) := (Sq.o BK181.out 0).trans rfl
  have hcz31_1 : w25.cell? ⟨gb181, 1, none⟩ = some (.int .i64 a0_1) := (Sq.o BK181.out 1).trans rfl
  have hfz31_0 := Sq.r BK181.out 0
  have hfz31_1 := Sq.r BK181.out 1
  try go_wp2_with (first | ((with_reducible refine gate_callee (f := 38) rfl ?_); refine goesL_ (some 24) rfl rfl Try.func38 (by kernel_rfl) rfl #[.agg #[.slice A0_0 l0_0.length c0_0, .int .i64 a0_1]] rfl (by (try simp only [List.map_toArray, List.map_cons, List.map_nil]); first | done | rfl | (simp only [List.length_drop, List.length_take]; rfl)) ?_; (with_reducible refine (laws_toTlb.calls k _ _ l0_0 a0_1 t198 t201 _ ?side1 ?side2 A14.out).mono ?_); (case side1 => exact Sq.a1 HR0_0.out (by repeat (first | (with_reducible first | exact HB.out | apply Sq.i | apply Sq.j | apply Sq.k | refine Sq.h ?_ GE181.out | refine Sq.h ?_ GE182.out | refine Sq.h ?_ GE197.out) | exact HB.out))); (case side2 => exact HC0_0.out); rintro e w32 ⟨v199, rfl, ho0, hb⟩; refine ⟨_, rfl, ?_⟩; have n0_ := Sq.l (Sq.p (by (with_reducible repeat (first | apply Sq.a | apply Sq.b | apply Sq.c)); exact (Sq.a3 (Sq.R2 (Sq.b5 HO186.out BK197.out (by decide)) (fun _ hk => hk.2)) (fun _ h_ => h_.1))) (Sq.b7 ho0) hb); have n1_ := Sq.l (Sq.p (by (with_reducible repeat (first | apply Sq.a | apply Sq.b | apply Sq.c)); exact (Sq.a3 (Sq.R2 (Sq.b5 HO195.out BK197.out (by decide)) (fun _ hk => hk.2)) (fun _ h_ => h_.1))) (Sq.b7 ho0) hb); have n2_ := Sq.l (Sq.a2 (Sq.c1 (Sq.c1 ho0 (Sq.c2 (by (with_reducible repeat (first | apply Sq.a | apply Sq.b | apply Sq.c)); exact (Sq.a3 (Sq.R2 (Sq.b5 HO186.out BK197.out (by decide)) (fun _ hk => hk.2)) (fun _ h_ => h_.1))))) (Sq.c2 (by (with_reducible repeat (first | apply Sq.a | apply Sq.b | apply Sq.c)); exact (Sq.a3 (Sq.R2 (Sq.b5 HO195.out BK197.out (by decide)) (fun _ hk => hk.2)) (fun _ h_ => h_.1))))) (Sq.a5 (by repeat (first | (with_reducible first | exact HB.out | apply Sq.i | apply Sq.j | apply Sq.k | refine Sq.h ?_ GE181.out | refine Sq.h ?_ GE182.out | refine Sq.h ?_ GE197.out) | exact HB.out)))); have n3_ := Sq.l (Sq.m (g := gb181) (o := .cells #[.slice A0_0 l0_0.length c0_0, .int .i64 a0_1] 60 (0, 0)) (by (with_reducible repeat (first | refine Sq.d ?_ _ | refine Sq.e ?_ | refine Sq.f ?_ _)); refine Sq.B2 ?_ NB181_197.out; (with_reducible repeat (first | refine Sq.d ?_ _ | refine Sq.e ?_ | refine Sq.f ?_ _)); exact BK181.out) hb); have n4_ := Sq.l (Sq.m (g := gb182) (o := .cells #[.int .i64 a1_0, .int .i64 a1_1, .int .i64 a1_2, .int .i64 a1_3, .bool a1_4] 97 (0, 0)) (by (with_reducible repeat (first | refine Sq.d ?_ _ | refine Sq.e ?_ | refine Sq.f ?_ _)); refine Sq.B2 ?_ NB182_197.out; (with_reducible repeat (first | refine Sq.d ?_ _ | refine Sq.e ?_ | refine Sq.f ?_ _)); exact BK182.out) hb); have n5_ := Sq.l (Sq.m (g := gb197) (o := .cells #[.slice Ao26 t193.length co26, .int .i64 t196] 65 (0, 0)) (by (with_reducible repeat (first | refine Sq.d ?_ _ | refine Sq.e ?_ | refine Sq.f ?_ _)); refine Sq.v (cs := #[.slice Ao26 t193.length co26, .int .i64 0]) ?_ 1 _ rfl; (with_reducible repeat (first | refine Sq.d ?_ _ | refine Sq.e ?_ | refine Sq.f ?_ _)); refine Sq.v (cs := #[.slice none 0 0, .int .i64 0]) ?_ 0 _ rfl; (with_reducible repeat (first | refine Sq.d ?_ _ | refine Sq.e ?_ | refine Sq.f ?_ _)); exact BK197.out) hb); have n6_ := Sq.l (Sq.a4 (by repeat (first | (with_reducible first | exact HB.out | apply Sq.i | apply Sq.j | apply Sq.k | refine Sq.h ?_ GE181.out | refine Sq.h ?_ GE182.out | refine Sq.h ?_ GE197.out) | exact HB.out)) hb); clear HO186; clear HO195; clear BK181; clear BK182; clear BK197; clear HB; have HO186 := n0_; have HO195 := n1_; have HO200 := n2_; have BK181 := n3_; have BK182 := n4_; have BK197 := n5_; have HB := n6_; clear n0_ n1_ n2_ n3_ n4_ n5_ n6_; (try clear hb); (try clear hb2); (try clear hk); (try clear hi); (try clear ho0)) | ((with_reducible refine gate_dst (N := 7) rfl ?_); refine box_event ?hg (N := 7) ?hd (cs := #[.slice none 0 0, .int .i64 0]) (t := 65) ?hr ?_; (case hd => rfl); (case hg => rfl); (case hr => first | (go_simp; done) | (go_simp; rfl)); intro gb202 hg w33 hbox hb; have n0_ := Sq.l (Sq.n (by (with_reducible repeat (first | apply Sq.a | apply Sq.b | apply Sq.c)); exact HO186.out) hb); have n1_ := Sq.l (Sq.n (by (with_reducible repeat (first | apply Sq.a | apply Sq.b | apply Sq.c)); exact HO195.out) hb); have n2_ := Sq.l (Sq.n (by (with_reducible repeat (first | apply Sq.a | apply Sq.b | apply Sq.c)); exact HO200.out) hb); have n3_ := Sq.l (Sq.m (g := gb181) (o := .cells #[.slice A0_0 l0_0.length c0_0, .int .i64 a0_1] 60 (0, 0)) (by (with_reducible repeat (first | refine Sq.d ?_ _ | refine Sq.e ?_ | refine Sq.f ?_ _)); exact BK181.out) hb); have n4_ := Sq.l (Sq.m (g := gb182) (o := .cells #[.int .i64 a1_0, .int .i64 a1_1, .int .i64 a1_2, .int .i64 a1_3, .bool a1_4] 97 (0, 0)) (by (with_reducible repeat (first | refine Sq.d ?_ _ | refine Sq.e ?_ | refine Sq.f ?_ _)); exact BK182.out) hb); have n5_ := Sq.l (Sq.m (g := gb197) (o := .cells #[.slice Ao26 t193.length co26, .int .i64 t196] 65 (0, 0)) (by (with_reducible repeat (first | refine Sq.d ?_ _ | refine Sq.e ?_ | refine Sq.f ?_ _)); exact BK197.out) hb); have n6_ := Sq.l (Sq.a4 (by repeat (first | (with_reducible first | exact HB.out | apply Sq.i | apply Sq.j | apply Sq.k | refine Sq.h ?_ GE181.out | refine Sq.h ?_ GE182.out | refine Sq.h ?_ GE197.out) | exact HB.out)) hb); have n7_ := Sq.l (hbox); have n8_ := Sq.l ((by rw [hg]; exact (Sq.a5 (by repeat (first | (with_reducible first | exact HB.out | apply Sq.i | apply Sq.j | apply Sq.k | refine Sq.h ?_ GE181.out | refine Sq.h ?_ GE182.out | refine Sq.h ?_ GE197.out) | exact HB.out))) : w.heap.size ≤ gb202)); have n9_ := Sq.l ((by rw [hg]; exact (Sq.a5 (by repeat (first | (with_reducible first | exact HB.out | apply Sq.i | apply Sq.j | apply Sq.k | refine Sq.h ?_ GE181.out | refine Sq.h ?_ GE182.out | refine Sq.h ?_ GE197.out) | exact HB.out))) : w.heap.size ≤ gb202)); have n10_ := Sq.l ((by rw [hg]; exact Nat.ne_of_lt (blk_lt (g := gb181) (o := .cells #[.slice A0_0 l0_0.length c0_0, .int .i64 a0_1] 60 (0, 0)) (by (with_reducible repeat (first | refine Sq.d ?_ _ | refine Sq.e ?_ | refine Sq.f ?_ _)); exact BK181.out)) : gb181 ≠ gb202)); have n11_ := Sq.l ((by rw [hg]; exact Nat.ne_of_gt (blk_lt (g := gb181) (o := .cells #[.slice A0_0 l0_0.length c0_0, .int .i64 a0_1] 60 (0, 0)) (by (with_reducible repeat (first | refine Sq.d ?_ _ | refine Sq.e ?_ | refine Sq.f ?_ _)); exact BK181.out)) : gb202 ≠ gb181)); have n12_ := Sq.l ((by rw [hg]; exact Nat.ne_of_lt (blk_lt (g := gb182) (o := .cells #[.int .i64 a1_0, .int .i64 a1_1, .int .i64 a1_2, .int .i64 a1_3, .bool a1_4] 97 (0, 0)) (by (with_reducible repeat (first | refine Sq.d ?_ _ | refine Sq.e ?_ | refine Sq.f ?_ _)); exact BK182.out)) : gb182 ≠ gb202)); have n13_ := Sq.l ((by rw [hg]; exact Nat.ne_of_gt (blk_lt (g := gb182) (o := .cells #[.int .i64 a1_0, .int .i64 a1_1, .int .i64 a1_2, .int .i64 a1_3, .bool a1_4] 97 (0, 0)) (by (with_reducible repeat (first | refine Sq.d ?_ _ | refine Sq.e ?_ | refine Sq.f ?_ _)); exact BK182.out)) : gb202 ≠ gb182)); have n14_ := Sq.l ((by rw [hg]; exact Nat.ne_of_lt (blk_lt (g := gb197) (o := .cells #[.slice Ao26 t193.length co26, .int .i64 t196] 65 (0, 0)) (by (with_reducible repeat (first | refine Sq.d ?_ _ | refine Sq.e ?_ | refine Sq.f ?_ _)); exact BK197.out)) : gb197 ≠ gb202)); have n15_ := Sq.l ((by rw [hg]; exact Nat.ne_of_gt (blk_lt (g := gb197) (o := .cells #[.slice Ao26 t193.length co26, .int .i64 t196] 65 (0, 0)) (by (with_reducible repeat (first | refine Sq.d ?_ _ | refine Sq.e ?_ | refine Sq.f ?_ _)); exact BK197.out)) : gb202 ≠ gb197)); clear HO186; clear HO195; clear HO200; clear BK181; clear BK182; clear BK197; clear HB; have HO186 := n0_; have HO195 := n1_; have HO200 := n2_; have BK181 := n3_; have BK182 := n4_; have BK197 := n5_; have HB := n6_; have BK202 := n7_; have GW202 := n8_; have GE202 := n9_; have NB181_202 := n10_; have NB202_181 := n11_; have NB182_202 := n12_; have NB202_182 := n13_; have NB197_202 := n14_; have NB202_197 := n15_; clear n0_ n1_ n2_ n3_ n4_ n5_ n6_ n7_ n8_ n9_ n10_ n11_ n12_ n13_ n14_ n15_; clear hb hbox hg; obtain ⟨Ao34, co34, eo34⟩ := Kd.R_slice HO200.out; subst eo34; have hnb35 := NB202_181.out; have hnc35 := NB181_202.out; have hnb36 := NB202_182.out; have hnc36 := NB182_202.out; have hnb37 := NB202_197.out; have hnc37 := NB197_202.out; have hcz38_0 : w33.cell? ⟨gb202, 0, none⟩ = some (.slice none 0 0) := (Sq.o BK202.out 0).trans rfl; have hcz38_1 : w33.cell? ⟨gb202, 1, none⟩ = some (.int .i64 0) := (Sq.o BK202.out 1).trans rfl; have hfz38_0 := Sq.r BK202.out 0; have hfz38_1 := Sq.r BK202.out 1))
  have n0_ : Aside0 (Kd.R k99 99 ((w33.setCell ⟨gb202, 0, none⟩ (.slice Ao34 t198.length co34)).setCell ⟨gb202, 1, none⟩ (.int .i64 t201)) w.heap.size (fun k_ => some k_ ≠ (.slice Ao26 t193.length co26 : Value).ownBlock ∧ some k_ ≠ (.slice Ao34 t198.length co34 : Value).ownBlock) v185 t184) := ⟨by (with_reducible repeat (first | apply Sq.a | apply Sq.b | apply Sq.c)); exact Sq.a3 (Sq.R2 (Sq.b5 HO186.out BK202.out (by decide)) (fun _ hk => hk.2)) (fun _ hk => ⟨hk.1.1, hk.1.2⟩)⟩
  have n1_ : Aside0 (Kd.R k99 99 ((w33.setCell ⟨gb202, 0, none⟩ (.slice Ao34 t198.length co34)).setCell ⟨gb202, 1, none⟩ (.int .i64 t201)) w.heap.size (fun k_ => some k_ ≠ (v185 : Value).ownBlock ∧ some k_ ≠ (.slice Ao34 t198.length co34 : Value).ownBlock) (.slice Ao26 t193.length co26) t193) := ⟨by (with_reducible repeat (first | apply Sq.a | apply Sq.b | apply Sq.c)); exact Sq.a3 (Sq.R2 (Sq.b5 HO195.out BK202.out (by decide)) (fun _ hk => hk.2)) (fun _ hk => ⟨hk.1.1, hk.1.2⟩)⟩
  have n2_ : Aside0 (Kd.R k99 99 ((w33.setCell ⟨gb202, 0, none⟩ (.slice Ao34 t198.length co34)).setCell ⟨gb202, 1, none⟩ (.int .i64 t201)) w.heap.size (fun k_ => some k_ ≠ (v185 : Value).ownBlock ∧ some k_ ≠ (.slice Ao26 t193.length co26 : Value).ownBlock) (.slice Ao34 t198.length co34) t198) := ⟨by (with_reducible repeat (first | apply Sq.a | apply Sq.b | apply Sq.c)); exact Sq.a3 (Sq.R2 (Sq.b5 HO200.out BK202.out (by decide)) (fun _ hk => hk.2)) (fun _ hk => ⟨hk.1.1.2, hk.1.2⟩)⟩
  have n3_ : Aside0 (((w33.setCell ⟨gb202, 0, none⟩ (.slice Ao34 t198.length co34)).setCell ⟨gb202, 1, none⟩ (.int .i64 t201)).heap[gb181]? = some (.cells #[.slice A0_0 l0_0.length c0_0, .int .i64 a0_1] 60 (0, 0))) := ⟨by (with_reducible repeat (first | refine Sq.d ?_ _ | refine Sq.e ?_ | refine Sq.f ?_ _)); refine Sq.B2 ?_ NB181_202.out; (with_reducible repeat (first | refine Sq.d ?_ _ | refine Sq.e ?_ | refine Sq.f ?_ _)); exact BK181.out⟩
  have n4_ : Aside0 (((w33.setCell ⟨gb202, 0, none⟩ (.slice Ao34 t198.length co34)).setCell ⟨gb202, 1, none⟩ (.int .i64 t201)).heap[gb182]? = some (.cells #[.int .i64 a1_0, .int .i64 a1_1, .int .i64 a1_2, .int .i64 a1_3, .bool a1_4] 97 (0, 0))) := ⟨by (with_reducible repeat (first | refine Sq.d ?_ _ | refine Sq.e ?_ | refine Sq.f ?_ _)); refine Sq.B2 ?_ NB182_202.out; (with_reducible repeat (first | refine Sq.d ?_ _ | refine Sq.e ?_ | refine Sq.f ?_ _)); exact BK182.out⟩
  have n5_ : Aside0 (((w33.setCell ⟨gb202, 0, none⟩ (.slice Ao34 t198.length co34)).setCell ⟨gb202, 1, none⟩ (.int .i64 t201)).heap[gb197]? = some (.cells #[.slice Ao26 t193.length co26, .int .i64 t196] 65 (0, 0))) := ⟨by (with_reducible repeat (first | refine Sq.d ?_ _ | refine Sq.e ?_ | refine Sq.f ?_ _)); refine Sq.B2 ?_ NB197_202.out; (with_reducible repeat (first | refine Sq.d ?_ _ | refine Sq.e ?_ | refine Sq.f ?_ _)); exact BK197.out⟩
  have n6_ : Aside0 (((w33.setCell ⟨gb202, 0, none⟩ (.slice Ao34 t198.length co34)).setCell ⟨gb202, 1, none⟩ (.int .i64 t201)).heap[gb202]? = some (.cells #[.slice Ao34 t198.length co34, .int .i64 t201] 65 (0, 0))) := ⟨by (with_reducible repeat (first | refine Sq.d ?_ _ | refine Sq.e ?_ | refine Sq.f ?_ _)); refine Sq.v (cs := #[.slice Ao34 t198.length co34, .int .i64 0]) ?_ 1 _ rfl; (with_reducible repeat (first | refine Sq.d ?_ _ | refine Sq.e ?_ | refine Sq.f ?_ _)); refine Sq.v (cs := #[.slice none 0 0, .int .i64 0]) ?_ 0 _ rfl; (with_reducible repeat (first | refine Sq.d ?_ _ | refine Sq.e ?_ | refine Sq.f ?_ _)); exact BK202.out⟩
  have n7_ : Aside0 (Below w.heap.size w ((w33.setCell ⟨gb202, 0, none⟩ (.slice Ao34 t198.length co34)).setCell ⟨gb202, 1, none⟩ (.int .i64 t201))) := ⟨by repeat (first | (with_reducible first | exact HB.out | apply Sq.i | apply Sq.j | apply Sq.k | refine Sq.h ?_ GE181.out | refine Sq.h ?_ GE182.out | refine Sq.h ?_ GE197.out | refine Sq.h ?_ GE202.out) | exact HB.out)⟩
  (try clear HO186); (try clear HO195); (try clear HO200); (try clear BK181); (try clear BK182); (try clear BK197); (try clear BK202); (try clear HB)
  generalize ((w33.setCell ⟨gb202, 0, none⟩ (.slice Ao34 t198.length co34)).setCell ⟨gb202, 1, none⟩ (.int .i64 t201)) = w39 at n0_ n1_ n2_ n3_ n4_ n5_ n6_ n7_ ⊢
  have HO186 := n0_; have HO195 := n1_; have HO200 := n2_; have BK181 := n3_; have BK182 := n4_; have BK197 := n5_; have BK202 := n6_; have HB := n7_; clear n0_ n1_ n2_ n3_ n4_ n5_ n6_ n7_
  have n0_ := Sq.l (Sq.c HO186.out)
  have n1_ := Sq.l (Sq.c HO195.out)
  have n2_ := Sq.l (Sq.c HO200.out)
  have n3_ := Sq.l (Sq.e BK181.out)
  have n4_ := Sq.l (Sq.e BK182.out)
  have n5_ := Sq.l (Sq.e BK197.out)
  have n6_ := Sq.l (Sq.e BK202.out)
  have n7_ := Sq.l (Sq.k HB.out)
  clear HO186 HO195 HO200 BK181 BK182 BK197 BK202 HB; have HO186 := n0_; have HO195 := n1_; have HO200 := n2_; have BK181 := n3_; have BK182 := n4_; have BK197 := n5_; have BK202 := n6_; have HB := n7_; clear n0_ n1_ n2_ n3_ n4_ n5_ n6_ n7_
  refine start_ (n := 6) (S := fun w' => w'.cell? ⟨gb202, 0, none⟩ = some (.slice Ao34 t198.length co34) ∧ w'.cell? ⟨gb202, 1, none⟩ = some (.int .i64 t201) ∧ w'.cell? ⟨gb182, 0, none⟩ = some (.int .i64 a1_0) ∧ w'.cell? ⟨gb182, 1, none⟩ = some (.int .i64 a1_1) ∧ w'.cell? ⟨gb182, 2, none⟩ = some (.int .i64 a1_2) ∧ w'.cell? ⟨gb182, 3, none⟩ = some (.int .i64 a1_3) ∧ w'.cell? ⟨gb182, 4, none⟩ = some (.bool a1_4)) (ds := []) #[false, false, false, false, false, false] (by kernel_rfl) rfl rfl ⟨(Sq.o BK202.out 0).trans rfl, (Sq.o BK202.out 1).trans rfl, (Sq.o BK182.out 0).trans rfl, (Sq.o BK182.out 1).trans rfl, (Sq.o BK182.out 2).trans rfl, (Sq.o BK182.out 3).trans rfl, (Sq.o BK182.out 4).trans rfl⟩ (fun hHeld => ?_)
  generalize w39.drew = w40 at HO186 HO195 HO200 BK181 BK182 BK197 BK202 HB hHeld ⊢
  refine take_ (i := 0) (N := some 25) (v := ?_) (a' := ?_) #[true, false, false, false, false, false] rfl rfl (by kernel_rfl) (fun _ _ _ h => h) (Or.inl ⟨by rfl, ?_⟩) hHeld ?_ ?_
  rotate_left
  ·rintro w' ⟨s0, s1, s2, s3, s4, s5, s6⟩
   go_simp
   with_reducible rfl
  rotate_left
  ·simp only [Act.put, List.setIfInBounds_toArray, List.set_cons_zero, List.set_cons_succ, i64_w, i32_w]
   rfl
  refine take_ (i := 1) (N := some 26) (v := ?_) (a' := ?_) #[true, true, false, false, false, false] rfl rfl (by kernel_rfl) (fun _ _ _ h => h) (Or.inl ⟨by rfl, ?_⟩) hHeld ?_ ?_
  rotate_left
  ·rintro w' ⟨s0, s1, s2, s3, s4, s5, s6⟩
   go_simp
   with_reducible rfl
  rotate_left
  ·simp only [Act.put, List.setIfInBounds_toArray, List.set_cons_zero, List.set_cons_succ, i64_w, i32_w]
   rfl
  refine join_ (σ := Value × Nat) 1 #[true, true, true, true, true, false] (fun s_ => [(27, .agg #[.int .i64 t203, .int .i64 t204, .int .i64 t205, .int .i64 t206, .bool t207]), (28, .agg #[s_.1, .int .i64 t211]), (8, .pointer (some ⟨s_.2, 0, none⟩))]) (fun s_ w' => (w'.cell? ⟨gb202, 0, none⟩ = some (.slice Ao34 t198.length co34) ∧ w'.cell? ⟨gb202, 1, none⟩ = some (.int .i64 t201) ∧ w'.cell? ⟨gb182, 0, none⟩ = some (.int .i64 a1_0) ∧ w'.cell? ⟨gb182, 1, none⟩ = some (.int .i64 a1_1) ∧ w'.cell? ⟨gb182, 2, none⟩ = some (.int .i64 a1_2) ∧ w'.cell? ⟨gb182, 3, none⟩ = some (.int .i64 a1_3) ∧ w'.cell? ⟨gb182, 4, none⟩ = some (.bool a1_4)) ∧ (Kd.R k99 99 w' w.heap.size (fun k_ => some k_ ≠ (.slice Ao26 t193.length co26 : Value).ownBlock ∧ some k_ ≠ (.slice Ao34 t198.length co34 : Value).ownBlock ∧ some k_ ≠ (s_.1 : Value).ownBlock) v185 t184) ∧ (Kd.R k99 99 w' w.heap.size (fun k_ => some k_ ≠ (v185 : Value).ownBlock ∧ some k_ ≠ (.slice Ao34 t198.length co34 : Value).ownBlock ∧ some k_ ≠ (s_.1 : Value).ownBlock) (.slice Ao26 t193.length co26) t193) ∧ (Kd.R k99 99 w' w.heap.size (fun k_ => some k_ ≠ (v185 : Value).ownBlock ∧ some k_ ≠ (.slice Ao26 t193.length co26 : Value).ownBlock ∧ some k_ ≠ (s_.1 : Value).ownBlock) (.slice Ao34 t198.length co34) t198) ∧ (Kd.R k99 99 w' w.heap.size (fun k_ => some k_ ≠ (v185 : Value).ownBlock ∧ some k_ ≠ (.slice Ao26 t193.length co26 : Value).ownBlock ∧ some k_ ≠ (.slice Ao34 t198.length co34 : Value).ownBlock) s_.1 t208) ∧ (w'.heap[gb181]? = some (.cells #[.slice A0_0 l0_0.length c0_0, .int .i64 a0_1] 60 (0, 0))) ∧ (w'.heap[gb182]? = some (.cells #[.int .i64 a1_0, .int .i64 a1_1, .int .i64 a1_2, .int .i64 a1_3, .bool a1_4] 97 (0, 0))) ∧ (w'.heap[gb197]? = some (.cells #[.slice Ao26 t193.length co26, .int .i64 t196] 65 (0, 0))) ∧ (w'.heap[gb202]? = some (.cells #[.slice Ao34 t198.length co34, .int .i64 t201] 65 (0, 0))) ∧ (w'.heap[s_.2]? = some (.cells #[.slice none 0 0, .int .i64 0] 65 (0, 0))) ∧ (w.heap.size ≤ s_.2) ∧ (w.heap.size ≤ s_.2) ∧ (gb181 ≠ s_.2) ∧ (s_.2 ≠ gb181) ∧ (gb182 ≠ s_.2) ∧ (s_.2 ≠ gb182) ∧ (gb197 ≠ s_.2) ∧ (s_.2 ≠ gb197) ∧ (gb202 ≠ s_.2) ∧ (s_.2 ≠ gb202) ∧ (Below w.heap.size w w')) ?_ ?_
  rotate_left
  ·intro hCont
   refine two_ (i := 2) (j := 4) (Ni := some 27) (Nj := some 8) #[true, true, true, false, false, false] #[true, true, false, false, true, false] rfl rfl rfl rfl (by kernel_rfl) (by decide) (by decide) (fun K hK => ?_) (fun K hK => ?_)
   ·skip
    refine goes_ Try.func59 (by kernel_rfl) rfl #[.agg #[.int .i64 a1_0, .int .i64 a1_1, .int .i64 a1_2, .int .i64 a1_3, .bool a1_4]] (by rfl) rfl rfl (by (try simp only [List.map_toArray, List.map_cons, List.map_nil]); first | done | rfl | (simp only [List.length_drop, List.length_take]; rfl)) ?_
    with_reducible refine (laws_toTlbEntry.calls a1_0 a1_1 a1_2 a1_3 a1_4 t203 t204 t205 t206 t207 _ A15.out).mono ?_
    rintro e w41 ⟨rfl, hb⟩
    refine ⟨_, rfl, ?_⟩
    have n0_ := Sq.l (Sq.n (by (with_reducible repeat (first | apply Sq.a | apply Sq.b | apply Sq.c)); exact HO186.out) hb)
    have n1_ := Sq.l (Sq.n (by (with_reducible repeat (first | apply Sq.a | apply Sq.b | apply Sq.c)); exact HO195.out) hb)
    have n2_ := Sq.l (Sq.n (by (with_reducible repeat (first | apply Sq.a | apply Sq.b | apply Sq.c)); exact HO200.out) hb)
    have n3_ := Sq.l (Sq.m (g := gb181) (o := .cells #[.slice A0_0 l0_0.length c0_0, .int .i64 a0_1] 60 (0, 0)) (by (with_reducible repeat (first | refine Sq.d ?_ _ | refine Sq.e ?_ | refine Sq.f ?_ _)); exact BK181.out) hb)
    have n4_ := Sq.l (Sq.m (g := gb182) (o := .cells #[.int .i64 a1_0, .int .i64 a1_1, .int .i64 a1_2, .int .i64 a1_3, .bool a1_4] 97 (0, 0)) (by (with_reducible repeat (first | refine Sq.d ?_ _ | refine Sq.e ?_ | refine Sq.f ?_ _)); exact BK182.out) hb)
    have n5_ := Sq.l (Sq.m (g := gb197) (o := .cells #[.slice Ao26 t193.length co26, .int .i64 t196] 65 (0, 0)) (by (with_reducible repeat (first | refine Sq.d ?_ _ | refine Sq.e ?_ | refine Sq.f ?_ _)); exact BK197.out) hb)
    have n6_ := Sq.l (Sq.m (g := gb202) (o := .cells #[.slice Ao34 t198.length co34, .int .i64 t201] 65 (0, 0)) (by (with_reducible repeat (first | refine Sq.d ?_ _ | refine Sq.e ?_ | refine Sq.f ?_ _)); exact BK202.out) hb)
    have n7_ := Sq.l (Sq.a4 (by repeat (first | (with_reducible first | exact HB.out | apply Sq.i | apply Sq.j | apply Sq.k | refine Sq.h ?_ GE181.out | refine Sq.h ?_ GE182.out | refine Sq.h ?_ GE197.out | refine Sq.h ?_ GE202.out) | exact HB.out)) hb)
    clear HO186 HO195 HO200 BK181 BK182 BK197 BK202 HB; have HO186 := n0_; have HO195 := n1_; have HO200 := n2_; have BK181 := n3_; have BK182 := n4_; have BK197 := n5_; have BK202 := n6_; have HB := n7_; clear n0_ n1_ n2_ n3_ n4_ n5_ n6_ n7_; (try clear hb); (try clear hb2); (try clear hk); (try clear hi)
    refine hK.out _ _ ⟨(Sq.o BK202.out 0).trans rfl, (Sq.o BK202.out 1).trans rfl, (Sq.o BK182.out 0).trans rfl, (Sq.o BK182.out 1).trans rfl, (Sq.o BK182.out 2).trans rfl, (Sq.o BK182.out 3).trans rfl, (Sq.o BK182.out 4).trans rfl⟩ (fun hHeld => ?_)
    clear hK K
    refine norm_ (a' := ?_) ?_ ?_
    rotate_left
    ·show Act.put _ (some 27) _ = _
     simp only [Act.put, List.setIfInBounds_toArray, List.set_cons_zero, List.set_cons_succ, i64_w, i32_w]
     rfl
    refine two_ (i := 3) (j := 4) (Ni := some 28) (Nj := some 8) #[true, true, true, true, false, false] #[true, true, true, false, true, false] rfl rfl rfl rfl (by kernel_rfl) (by decide) (by decide) (fun K hK => ?_) (fun K hK => ?_)
    ·skip
     refine goes_ Try.func60 (by kernel_rfl) rfl #[.agg #[.slice Ao34 t198.length co34, .int .i64 t201], .agg #[.int .i64 t203, .int .i64 t204, .int .i64 t205, .int .i64 t206, .bool t207]] (by rfl) rfl rfl (by (try simp only [List.map_toArray, List.map_cons, List.map_nil]); first | done | rfl | (simp only [List.length_drop, List.length_take]; rfl)) ?_
     with_reducible refine (impl_TlbPut.calls _ _ t198 t201 t203 t204 t205 t206 t207 t208 t211 _ ?side1 ?side2 A16.out).mono ?_
     (case side1 => repeat (first | exact (Sq.b4 HO200.out).2.2 | (with_reducible refine Sq.s ?_ _) | (with_reducible refine Sq.t ?_ _) | (with_reducible refine Sq.u ?_)))
     (case side2 => exact (Sq.b4 HO200.out).2.1)
     rintro e w42 ⟨v209, rfl, ho0, hb⟩
     refine ⟨_, rfl, ?_⟩
     have n0_ := Sq.l (Sq.p (by (with_reducible repeat (first | apply Sq.a | apply Sq.b | apply Sq.c)); exact HO186.out) (Sq.b7 ho0) hb)
     have n1_ := Sq.l (Sq.p (by (with_reducible repeat (first | apply Sq.a | apply Sq.b | apply Sq.c)); exact HO195.out) (Sq.b7 ho0) hb)
     have n2_ := Sq.l (Sq.p (by (with_reducible repeat (first | apply Sq.a | apply Sq.b | apply Sq.c)); exact HO200.out) (Sq.b7 ho0) hb)
     have n3_ := Sq.l (Sq.a2 (Sq.c1 (Sq.c1 (Sq.c1 ho0 (Sq.c2 (by (with_reducible repeat (first | apply Sq.a | apply Sq.b | apply Sq.c)); exact HO186.out))) (Sq.c2 (by (with_reducible repeat (first | apply Sq.a | apply Sq.b | apply Sq.c)); exact HO195.out))) (Sq.c2 (by (with_reducible repeat (first | apply Sq.a | apply Sq.b | apply Sq.c)); exact HO200.out))) (Sq.a5 (by repeat (first | (with_reducible first | exact HB.out | apply Sq.i | apply Sq.j | apply Sq.k | refine Sq.h ?_ GE181.out | refine Sq.h ?_ GE182.out | refine Sq.h ?_ GE197.out | refine Sq.h ?_ GE202.out) | exact HB.out))))
     have n4_ := Sq.l (Sq.m (g := gb181) (o := .cells #[.slice A0_0 l0_0.length c0_0, .int .i64 a0_1] 60 (0, 0)) (by (with_reducible repeat (first | refine Sq.d ?_ _ | refine Sq.e ?_ | refine Sq.f ?_ _)); exact BK181.out) hb)
     have n5_ := Sq.l (Sq.m (g := gb182) (o := .cells #[.int .i64 a1_0, .int .i64 a1_1, .int .i64 a1_2, .int .i64 a1_3, .bool a1_4] 97 (0, 0)) (by (with_reducible repeat (first | refine Sq.d ?_ _ | refine Sq.e ?_ | refine Sq.f ?_ _)); exact BK182.out) hb)
     have n6_ := Sq.l (Sq.m (g := gb197) (o := .cells #[.slice Ao26 t193.length co26, .int .i64 t196] 65 (0, 0)) (by (with_reducible repeat (first | refine Sq.d ?_ _ | refine Sq.e ?_ | refine Sq.f ?_ _)); exact BK197.out) hb)
     have n7_ := Sq.l (Sq.m (g := gb202) (o := .cells #[.slice Ao34 t198.length co34, .int .i64 t201] 65 (0, 0)) (by (with_reducible repeat (first | refine Sq.d ?_ _ | refine Sq.e ?_ | refine Sq.f ?_ _)); exact BK202.out) hb)
     have n8_ := Sq.l (Sq.a4 (by repeat (first | (with_reducible first | exact HB.out | apply Sq.i | apply Sq.j | apply Sq.k | refine Sq.h ?_ GE181.out | refine Sq.h ?_ GE182.out | refine Sq.h ?_ GE197.out | refine Sq.h ?_ GE202.out) | exact HB.out)) hb)
     clear HO186 HO195 HO200 BK181 BK182 BK197 BK202 HB; have HO186 := n0_; have HO195 := n1_; have HO200 := n2_; have HO210 := n3_; have BK181 := n4_; have BK182 := n5_; have BK197 := n6_; have BK202 := n7_; have HB := n8_; clear n0_ n1_ n2_ n3_ n4_ n5_ n6_ n7_ n8_; (try clear hb); (try clear hb2); (try clear hk); (try clear hi); (try clear ho0)
     refine hK.out _ _ ⟨(Sq.o BK202.out 0).trans rfl, (Sq.o BK202.out 1).trans rfl, (Sq.o BK182.out 0).trans rfl, (Sq.o BK182.out 1).trans rfl, (Sq.o BK182.out 2).trans rfl, (Sq.o BK182.out 3).trans rfl, (Sq.o BK182.out 4).trans rfl⟩ (fun hHeld => ?_)
     clear hK K
     refine norm_ (a' := ?_) ?_ ?_
     rotate_left
     ·show Act.put _ (some 28) _ = _
      simp only [Act.put, List.setIfInBounds_toArray, List.set_cons_zero, List.set_cons_succ, i64_w, i32_w]
      rfl
     refine one_ (i := 4) (N := some 8) #[true, true, true, true, true, false] rfl rfl (by kernel_rfl) (by decide) (fun K hK => ?_)
     refine box_step ?hg (N := 8) ?hd (cs := #[.slice none 0 0, .int .i64 0]) (t := 65) ?hr ?_; (case hd => rfl); (case hg => rfl); (case hr => first | (go_simp; done) | (go_simp; rfl))
     intro gb212 hg w43 hbox hb
     have n0_ := Sq.l (Sq.n (by (with_reducible repeat (first | apply Sq.a | apply Sq.b | apply Sq.c)); exact HO186.out) hb)
     have n1_ := Sq.l (Sq.n (by (with_reducible repeat (first | apply Sq.a | apply Sq.b | apply Sq.c)); exact HO195.out) hb)
     have n2_ := Sq.l (Sq.n (by (with_reducible repeat (first | apply Sq.a | apply Sq.b | apply Sq.c)); exact HO200.out) hb)
     have n3_ := Sq.l (Sq.n (by (with_reducible repeat (first | apply Sq.a | apply Sq.b | apply Sq.c)); exact HO210.out) hb)
     have n4_ := Sq.l (Sq.m (g := gb181) (o := .cells #[.slice A0_0 l0_0.length c0_0, .int .i64 a0_1] 60 (0, 0)) (by (with_reducible repeat (first | refine Sq.d ?_ _ | refine Sq.e ?_ | refine Sq.f ?_ _)); exact BK181.out) hb)
     have n5_ := Sq.l (Sq.m (g := gb182) (o := .cells #[.int .i64 a1_0, .int .i64 a1_1, .int .i64 a1_2, .int .i64 a1_3, .bool a1_4] 97 (0, 0)) (by (with_reducible repeat (first | refine Sq.d ?_ _ | refine Sq.e ?_ | refine Sq.f ?_ _)); exact BK182.out) hb)
     have n6_ := Sq.l (Sq.m (g := gb197) (o := .cells #[.slice Ao26 t193.length co26, .int .i64 t196] 65 (0, 0)) (by (with_reducible repeat (first | refine Sq.d ?_ _ | refine Sq.e ?_ | refine Sq.f ?_ _)); exact BK197.out) hb)
     have n7_ := Sq.l (Sq.m (g := gb202) (o := .cells #[.slice Ao34 t198.length co34, .int .i64 t201] 65 (0, 0)) (by (with_reducible repeat (first | refine Sq.d ?_ _ | refine Sq.e ?_ | refine Sq.f ?_ _)); exact BK202.out) hb)
     have n8_ := Sq.l (Sq.a4 (by repeat (first | (with_reducible first | exact HB.out | apply Sq.i | apply Sq.j | apply Sq.k | refine Sq.h ?_ GE181.out | refine Sq.h ?_ GE182.out | refine Sq.h ?_ GE197.out | refine Sq.h ?_ GE202.out) | exact HB.out)) hb)
     have n9_ := Sq.l (hbox)
     have n10_ := Sq.l ((by rw [hg]; exact (Sq.a5 (by repeat (first | (with_reducible first | exact HB.out | apply Sq.i | apply Sq.j | apply Sq.k | refine Sq.h ?_ GE181.out | refine Sq.h ?_ GE182.out | refine Sq.h ?_ GE197.out | refine Sq.h ?_ GE202.out) | exact HB.out))) : w.heap.size ≤ gb212))
     have n11_ := Sq.l ((by rw [hg]; exact (Sq.a5 (by repeat (first | (with_reducible first | exact HB.out | apply Sq.i | apply Sq.j | apply Sq.k | refine Sq.h ?_ GE181.out | refine Sq.h ?_ GE182.out | refine Sq.h ?_ GE197.out | refine Sq.h ?_ GE202.out) | exact HB.out))) : w.heap.size ≤ gb212))
     have n12_ := Sq.l ((by rw [hg]; exact Nat.ne_of_lt (blk_lt (g := gb181) (o := .cells #[.slice A0_0 l0_0.length c0_0, .int .i64 a0_1] 60 (0, 0)) (by (with_reducible repeat (first | refine Sq.d ?_ _ | refine Sq.e ?_ | refine Sq.f ?_ _)); exact BK181.out)) : gb181 ≠ gb212))
     have n13_ := Sq.l ((by rw [hg]; exact Nat.ne_of_gt (blk_lt (g := gb181) (o := .cells #[.slice A0_0 l0_0.length c0_0, .int .i64 a0_1] 60 (0, 0)) (by (with_reducible repeat (first | refine Sq.d ?_ _ | refine Sq.e ?_ | refine Sq.f ?_ _)); exact BK181.out)) : gb212 ≠ gb181))
     have n14_ := Sq.l ((by rw [hg]; exact Nat.ne_of_lt (blk_lt (g := gb182) (o := .cells #[.int .i64 a1_0, .int .i64 a1_1, .int .i64 a1_2, .int .i64 a1_3, .bool a1_4] 97 (0, 0)) (by (with_reducible repeat (first | refine Sq.d ?_ _ | refine Sq.e ?_ | refine Sq.f ?_ _)); exact BK182.out)) : gb182 ≠ gb212))
     have n15_ := Sq.l ((by rw [hg]; exact Nat.ne_of_gt (blk_lt (g := gb182) (o := .cells #[.int .i64 a1_0, .int .i64 a1_1, .int .i64 a1_2, .int .i64 a1_3, .bool a1_4] 97 (0, 0)) (by (with_reducible repeat (first | refine Sq.d ?_ _ | refine Sq.e ?_ | refine Sq.f ?_ _)); exact BK182.out)) : gb212 ≠ gb182))
     have n16_ := Sq.l ((by rw [hg]; exact Nat.ne_of_lt (blk_lt (g := gb197) (o := .cells #[.slice Ao26 t193.length co26, .int .i64 t196] 65 (0, 0)) (by (with_reducible repeat (first | refine Sq.d ?_ _ | refine Sq.e ?_ | refine Sq.f ?_ _)); exact BK197.out)) : gb197 ≠ gb212))
     have n17_ := Sq.l ((by rw [hg]; exact Nat.ne_of_gt (blk_lt (g := gb197) (o := .cells #[.slice Ao26 t193.length co26, .int .i64 t196] 65 (0, 0)) (by (with_reducible repeat (first | refine Sq.d ?_ _ | refine Sq.e ?_ | refine Sq.f ?_ _)); exact BK197.out)) : gb212 ≠ gb197))
     have n18_ := Sq.l ((by rw [hg]; exact Nat.ne_of_lt (blk_lt (g := gb202) (o := .cells #[.slice Ao34 t198.length co34, .int .i64 t201] 65 (0, 0)) (by (with_reducible repeat (first | refine Sq.d ?_ _ | refine Sq.e ?_ | refine Sq.f ?_ _)); exact BK202.out)) : gb202 ≠ gb212))
     have n19_ := Sq.l ((by rw [hg]; exact Nat.ne_of_gt (blk_lt (g := gb202) (o := .cells #[.slice Ao34 t198.length co34, .int .i64 t201] 65 (0, 0)) (by (with_reducible repeat (first | refine Sq.d ?_ _ | refine Sq.e ?_ | refine Sq.f ?_ _)); exact BK202.out)) : gb212 ≠ gb202))
     clear HO186 HO195 HO200 HO210 BK181 BK182 BK197 BK202 HB; have HO186 := n0_; have HO195 := n1_; have HO200 := n2_; have HO210 := n3_; have BK181 := n4_; have BK182 := n5_; have BK197 := n6_; have BK202 := n7_; have HB := n8_; have BK212 := n9_; have GW212 := n10_; have GE212 := n11_; have NB181_212 := n12_; have NB212_181 := n13_; have NB182_212 := n14_; have NB212_182 := n15_; have NB197_212 := n16_; have NB212_197 := n17_; have NB202_212 := n18_; have NB212_202 := n19_; clear n0_ n1_ n2_ n3_ n4_ n5_ n6_ n7_ n8_ n9_ n10_ n11_ n12_ n13_ n14_ n15_ n16_ n17_ n18_ n19_ hb hbox hg
     refine hK.out _ _ ⟨(Sq.o BK202.out 0).trans rfl, (Sq.o BK202.out 1).trans rfl, (Sq.o BK182.out 0).trans rfl, (Sq.o BK182.out 1).trans rfl, (Sq.o BK182.out 2).trans rfl, (Sq.o BK182.out 3).trans rfl, (Sq.o BK182.out 4).trans rfl⟩ (fun hHeld => ?_)
     clear hK K
     refine norm_ (a' := ?_) ?_ ?_
     rotate_left
     ·show Act.put _ (some 8) _ = _
      simp only [Act.put, List.setIfInBounds_toArray, List.set_cons_zero, List.set_cons_succ, i64_w, i32_w]
      rfl
     exact norm_ (by simp only [putAll, Act.put, List.setIfInBounds_toArray, List.set_cons_zero, List.set_cons_succ]) (hCont (v209, gb212) _ ⟨hHeld, (by (with_reducible repeat (first | apply Sq.a | apply Sq.b | apply Sq.c)); exact Sq.a3 HO186.out (fun _ hk => ⟨hk.1.1, ⟨hk.1.2, hk.2⟩⟩)), (by (with_reducible repeat (first | apply Sq.a | apply Sq.b | apply Sq.c)); exact Sq.a3 HO195.out (fun _ hk => ⟨hk.1.1, ⟨hk.1.2, hk.2⟩⟩)), (by (with_reducible repeat (first | apply Sq.a | apply Sq.b | apply Sq.c)); exact Sq.a3 HO200.out (fun _ hk => ⟨hk.1.1, ⟨hk.1.2, hk.2⟩⟩)), (by (with_reducible repeat (first | apply Sq.a | apply Sq.b | apply Sq.c)); exact Sq.a3 HO210.out (fun _ hk => ⟨hk.1.1.2, ⟨hk.1.2, hk.2⟩⟩)), (by (with_reducible repeat (first | refine Sq.d ?_ _ | refine Sq.e ?_ | refine Sq.f ?_ _)); exact BK181.out), (by (with_reducible repeat (first | refine Sq.d ?_ _ | refine Sq.e ?_ | refine Sq.f ?_ _)); exact BK182.out), (by (with_reducible repeat (first | refine Sq.d ?_ _ | refine Sq.e ?_ | refine Sq.f ?_ _)); exact BK197.out), (by (with_reducible repeat (first | refine Sq.d ?_ _ | refine Sq.e ?_ | refine Sq.f ?_ _)); exact BK202.out), (by (with_reducible repeat (first | refine Sq.d ?_ _ | refine Sq.e ?_ | refine Sq.f ?_ _)); exact BK212.out), GW212.out, GE212.out, NB181_212.out, NB212_181.out, NB182_212.out, NB212_182.out, NB197_212.out, NB212_197.out, NB202_212.out, NB212_202.out, (by repeat (first | (with_reducible first | exact HB.out | apply Sq.i | apply Sq.j | apply Sq.k | refine Sq.h ?_ GE181.out | refine Sq.h ?_ GE182.out | refine Sq.h ?_ GE197.out | refine Sq.h ?_ GE202.out | refine Sq.h ?_ GE212.out) | exact HB.out))⟩)
    ·skip
     refine box_step ?hg (N := 8) ?hd (cs := #[.slice none 0 0, .int .i64 0]) (t := 65) ?hr ?_; (case hd => rfl); (case hg => rfl); (case hr => first | (go_simp; done) | (go_simp; rfl))
     intro gb212 hg w42 hbox hb
     have n0_ := Sq.l (Sq.n (by (with_reducible repeat (first | apply Sq.a | apply Sq.b | apply Sq.c)); exact HO186.out) hb)
     have n1_ := Sq.l (Sq.n (by (with_reducible repeat (first | apply Sq.a | apply Sq.b | apply Sq.c)); exact HO195.out) hb)
     have n2_ := Sq.l (Sq.n (by (with_reducible repeat (first | apply Sq.a | apply Sq.b | apply Sq.c)); exact HO200.out) hb)
     have n3_ := Sq.l (Sq.m (g := gb181) (o := .cells #[.slice A0_0 l0_0.length c0_0, .int .i64 a0_1] 60 (0, 0)) (by (with_reducible repeat (first | refine Sq.d ?_ _ | refine Sq.e ?_ | refine Sq.f ?_ _)); exact BK181.out) hb)
     have n4_ := Sq.l (Sq.m (g := gb182) (o := .cells #[.int .i64 a1_0, .int .i64 a1_1, .int .i64 a1_2, .int .i64 a1_3, .bool a1_4] 97 (0, 0)) (by (with_reducible repeat (first | refine Sq.d ?_ _ | refine Sq.e ?_ | refine Sq.f ?_ _)); exact BK182.out) hb)
     have n5_ := Sq.l (Sq.m (g := gb197) (o := .cells #[.slice Ao26 t193.length co26, .int .i64 t196] 65 (0, 0)) (by (with_reducible repeat (first | refine Sq.d ?_ _ | refine Sq.e ?_ | refine Sq.f ?_ _)); exact BK197.out) hb)
     have n6_ := Sq.l (Sq.m (g := gb202) (o := .cells #[.slice Ao34 t198.length co34, .int .i64 t201] 65 (0, 0)) (by (with_reducible repeat (first | refine Sq.d ?_ _ | refine Sq.e ?_ | refine Sq.f ?_ _)); exact BK202.out) hb)
     have n7_ := Sq.l (Sq.a4 (by repeat (first | (with_reducible first | exact HB.out | apply Sq.i | apply Sq.j | apply Sq.k | refine Sq.h ?_ GE181.out | refine Sq.h ?_ GE182.out | refine Sq.h ?_ GE197.out | refine Sq.h ?_ GE202.out) | exact HB.out)) hb)
     have n8_ := Sq.l (hbox)
     have n9_ := Sq.l ((by rw [hg]; exact (Sq.a5 (by repeat (first | (with_reducible first | exact HB.out | apply Sq.i | apply Sq.j | apply Sq.k | refine Sq.h ?_ GE181.out | refine Sq.h ?_ GE182.out | refine Sq.h ?_ GE197.out | refine Sq.h ?_ GE202.out) | exact HB.out))) : w.heap.size ≤ gb212))
     have n10_ := Sq.l ((by rw [hg]; exact (Sq.a5 (by repeat (first | (with_reducible first | exact HB.out | apply Sq.i | apply Sq.j | apply Sq.k | refine Sq.h ?_ GE181.out | refine Sq.h ?_ GE182.out | refine Sq.h ?_ GE197.out | refine Sq.h ?_ GE202.out) | exact HB.out))) : w.heap.size ≤ gb212))
     have n11_ := Sq.l ((by rw [hg]; exact Nat.ne_of_lt (blk_lt (g := gb181) (o := .cells #[.slice A0_0 l0_0.length c0_0, .int .i64 a0_1] 60 (0, 0)) (by (with_reducible repeat (first | refine Sq.d ?_ _ | refine Sq.e ?_ | refine Sq.f ?_ _)); exact BK181.out)) : gb181 ≠ gb212))
     have n12_ := Sq.l ((by rw [hg]; exact Nat.ne_of_gt (blk_lt (g := gb181) (o := .cells #[.slice A0_0 l0_0.length c0_0, .int .i64 a0_1] 60 (0, 0)) (by (with_reducible repeat (first | refine Sq.d ?_ _ | refine Sq.e ?_ | refine Sq.f ?_ _)); exact BK181.out)) : gb212 ≠ gb181))
     have n13_ := Sq.l ((by rw [hg]; exact Nat.ne_of_lt (blk_lt (g := gb182) (o := .cells #[.int .i64 a1_0, .int .i64 a1_1, .int .i64 a1_2, .int .i64 a1_3, .bool a1_4] 97 (0, 0)) (by (with_reducible repeat (first | refine Sq.d ?_ _ | refine Sq.e ?_ | refine Sq.f ?_ _)); exact BK182.out)) : gb182 ≠ gb212))
     have n14_ := Sq.l ((by rw [hg]; exact Nat.ne_of_gt (blk_lt (g := gb182) (o := .cells #[.int .i64 a1_0, .int .i64 a1_1, .int .i64 a1_2, .int .i64 a1_3, .bool a1_4] 97 (0, 0)) (by (with_reducible repeat (first | refine Sq.d ?_ _ | refine Sq.e ?_ | refine Sq.f ?_ _)); exact BK182.out)) : gb212 ≠ gb182))
     have n15_ := Sq.l ((by rw [hg]; exact Nat.ne_of_lt (blk_lt (g := gb197) (o := .cells #[.slice Ao26 t193.length co26, .int .i64 t196] 65 (0, 0)) (by (with_reducible repeat (first | refine Sq.d ?_ _ | refine Sq.e ?_ | refine Sq.f ?_ _)); exact BK197.out)) : gb197 ≠ gb212))
     have n16_ := Sq.l ((by rw [hg]; exact Nat.ne_of_gt (blk_lt (g := gb197) (o := .cells #[.slice Ao26 t193.length co26, .int .i64 t196] 65 (0, 0)) (by (with_reducible repeat (first | refine Sq.d ?_ _ | refine Sq.e ?_ | refine Sq.f ?_ _)); exact BK197.out)) : gb212 ≠ gb197))
     have n17_ := Sq.l ((by rw [hg]; exact Nat.ne_of_lt (blk_lt (g := gb202) (o := .cells #[.slice Ao34 t198.length co34, .int .i64 t201] 65 (0, 0)) (by (with_reducible repeat (first | refine Sq.d ?_ _ | refine Sq.e ?_ | refine Sq.f ?_ _)); exact BK202.out)) : gb202 ≠ gb212))
     have n18_ := Sq.l ((by rw [hg]; exact Nat.ne_of_gt (blk_lt (g := gb202) (o := .cells #[.slice Ao34 t198.length co34, .int .i64 t201] 65 (0, 0)) (by (with_reducible repeat (first | refine Sq.d ?_ _ | refine Sq.e ?_ | refine Sq.f ?_ _)); exact BK202.out)) : gb212 ≠ gb202))
     clear HO186 HO195 HO200 BK181 BK182 BK197 BK202 HB; have HO186 := n0_; have HO195 := n1_; have HO200 := n2_; have BK181 := n3_; have BK182 := n4_; have BK197 := n5_; have BK202 := n6_; have HB := n7_; have BK212 := n8_; have GW212 := n9_; have GE212 := n10_; have NB181_212 := n11_; have NB212_181 := n12_; have NB182_212 := n13_; have NB212_182 := n14_; have NB197_212 := n15_; have NB212_197 := n16_; have NB202_212 := n17_; have NB212_202 := n18_; clear n0_ n1_ n2_ n3_ n4_ n5_ n6_ n7_ n8_ n9_ n10_ n11_ n12_ n13_ n14_ n15_ n16_ n17_ n18_ hb hbox hg
     refine hK.out _ _ ⟨(Sq.o BK202.out 0).trans rfl, (Sq.o BK202.out 1).trans rfl, (Sq.o BK182.out 0).trans rfl, (Sq.o BK182.out 1).trans rfl, (Sq.o BK182.out 2).trans rfl, (Sq.o BK182.out 3).trans rfl, (Sq.o BK182.out 4).trans rfl⟩ (fun hHeld => ?_)
     clear hK K
     refine norm_ (a' := ?_) ?_ ?_
     rotate_left
     ·show Act.put _ (some 8) _ = _
      simp only [Act.put, List.setIfInBounds_toArray, List.set_cons_zero, List.set_cons_succ, i64_w, i32_w]
      rfl
     refine one_ (i := 3) (N := some 28) #[true, true, true, true, true, false] rfl rfl (by kernel_rfl) (by decide) (fun K hK => ?_)
     refine goes_ Try.func60 (by kernel_rfl) rfl #[.agg #[.slice Ao34 t198.length co34, .int .i64 t201], .agg #[.int .i64 t203, .int .i64 t204, .int .i64 t205, .int .i64 t206, .bool t207]] (by rfl) rfl rfl (by (try simp only [List.map_toArray, List.map_cons, List.map_nil]); first | done | rfl | (simp only [List.length_drop, List.length_take]; rfl)) ?_
     with_reducible refine (impl_TlbPut.calls _ _ t198 t201 t203 t204 t205 t206 t207 t208 t211 _ ?side1 ?side2 A16.out).mono ?_
     (case side1 => repeat (first | exact (Sq.b4 HO200.out).2.2 | (with_reducible refine Sq.s ?_ _) | (with_reducible refine Sq.t ?_ _) | (with_reducible refine Sq.u ?_)))
     (case side2 => exact (Sq.b4 HO200.out).2.1)
     rintro e w43 ⟨v209, rfl, ho0, hb⟩
     refine ⟨_, rfl, ?_⟩
     have n0_ := Sq.l (Sq.p (by (with_reducible repeat (first | apply Sq.a | apply Sq.b | apply Sq.c)); exact HO186.out) (Sq.b7 ho0) hb)
     have n1_ := Sq.l (Sq.p (by (with_reducible repeat (first | apply Sq.a | apply Sq.b | apply Sq.c)); exact HO195.out) (Sq.b7 ho0) hb)
     have n2_ := Sq.l (Sq.p (by (with_reducible repeat (first | apply Sq.a | apply Sq.b | apply Sq.c)); exact HO200.out) (Sq.b7 ho0) hb)
     have n3_ := Sq.l (Sq.a2 (Sq.c1 (Sq.c1 (Sq.c1 ho0 (Sq.c2 (by (with_reducible repeat (first | apply Sq.a | apply Sq.b | apply Sq.c)); exact HO186.out))) (Sq.c2 (by (with_reducible repeat (first | apply Sq.a | apply Sq.b | apply Sq.c)); exact HO195.out))) (Sq.c2 (by (with_reducible repeat (first | apply Sq.a | apply Sq.b | apply Sq.c)); exact HO200.out))) (Sq.a5 (by repeat (first | (with_reducible first | exact HB.out | apply Sq.i | apply Sq.j | apply Sq.k | refine Sq.h ?_ GE181.out | refine Sq.h ?_ GE182.out | refine Sq.h ?_ GE197.out | refine Sq.h ?_ GE202.out | refine Sq.h ?_ GE212.out) | exact HB.out))))
     have n4_ := Sq.l (Sq.m (g := gb181) (o := .cells #[.slice A0_0 l0_0.length c0_0, .int .i64 a0_1] 60 (0, 0)) (by (with_reducible repeat (first | refine Sq.d ?_ _ | refine Sq.e ?_ | refine Sq.f ?_ _)); exact BK181.out) hb)
     have n5_ := Sq.l (Sq.m (g := gb182) (o := .cells #[.int .i64 a1_0, .int .i64 a1_1, .int .i64 a1_2, .int .i64 a1_3, .bool a1_4] 97 (0, 0)) (by (with_reducible repeat (first | refine Sq.d ?_ _ | refine Sq.e ?_ | refine Sq.f ?_ _)); exact BK182.out) hb)
     have n6_ := Sq.l (Sq.m (g := gb197) (o := .cells #[.slice Ao26 t193.length co26, .int .i64 t196] 65 (0, 0)) (by (with_reducible repeat (first | refine Sq.d ?_ _ | refine Sq.e ?_ | refine Sq.f ?_ _)); exact BK197.out) hb)
     have n7_ := Sq.l (Sq.m (g := gb202) (o := .cells #[.slice Ao34 t198.length co34, .int .i64 t201] 65 (0, 0)) (by (with_reducible repeat (first | refine Sq.d ?_ _ | refine Sq.e ?_ | refine Sq.f ?_ _)); exact BK202.out) hb)
     have n8_ := Sq.l (Sq.m (g := gb212) (o := .cells #[.slice none 0 0, .int .i64 0] 65 (0, 0)) (by (with_reducible repeat (first | refine Sq.d ?_ _ | refine Sq.e ?_ | refine Sq.f ?_ _)); exact BK212.out) hb)
     have n9_ := Sq.l (Sq.a4 (by repeat (first | (with_reducible first | exact HB.out | apply Sq.i | apply Sq.j | apply Sq.k | refine Sq.h ?_ GE181.out | refine Sq.h ?_ GE182.out | refine Sq.h ?_ GE197.out | refine Sq.h ?_ GE202.out | refine Sq.h ?_ GE212.out) | exact HB.out)) hb)
     clear HO186 HO195 HO200 BK181 BK182 BK197 BK202 BK212 HB; have HO186 := n0_; have HO195 := n1_; have HO200 := n2_; have HO210 := n3_; have BK181 := n4_; have BK182 := n5_; have BK197 := n6_; have BK202 := n7_; have BK212 := n8_; have HB := n9_; clear n0_ n1_ n2_ n3_ n4_ n5_ n6_ n7_ n8_ n9_; (try clear hb); (try clear hb2); (try clear hk); (try clear hi); (try clear ho0)
     refine hK.out _ _ ⟨(Sq.o BK202.out 0).trans rfl, (Sq.o BK202.out 1).trans rfl, (Sq.o BK182.out 0).trans rfl, (Sq.o BK182.out 1).trans rfl, (Sq.o BK182.out 2).trans rfl, (Sq.o BK182.out 3).trans rfl, (Sq.o BK182.out 4).trans rfl⟩ (fun hHeld => ?_)
     clear hK K
     refine norm_ (a' := ?_) ?_ ?_
     rotate_left
     ·show Act.put _ (some 28) _ = _
      simp only [Act.put, List.setIfInBounds_toArray, List.set_cons_zero, List.set_cons_succ, i64_w, i32_w]
      rfl
     exact norm_ (by simp only [putAll, Act.put, List.setIfInBounds_toArray, List.set_cons_zero, List.set_cons_succ]) (hCont (v209, gb212) _ ⟨hHeld, (by (with_reducible repeat (first | apply Sq.a | apply Sq.b | apply Sq.c)); exact Sq.a3 HO186.out (fun _ hk => ⟨hk.1.1, ⟨hk.1.2, hk.2⟩⟩)), (by (with_reducible repeat (first | apply Sq.a | apply Sq.b | apply Sq.c)); exact Sq.a3 HO195.out (fun _ hk => ⟨hk.1.1, ⟨hk.1.2, hk.2⟩⟩)), (by (with_reducible repeat (first | apply Sq.a | apply Sq.b | apply Sq.c)); exact Sq.a3 HO200.out (fun _ hk => ⟨hk.1.1, ⟨hk.1.2, hk.2⟩⟩)), (by (with_reducible repeat (first | apply Sq.a | apply Sq.b | apply Sq.c)); exact Sq.a3 HO210.out (fun _ hk => ⟨hk.1.1.2, ⟨hk.1.2, hk.2⟩⟩)), (by (with_reducible repeat (first | refine Sq.d ?_ _ | refine Sq.e ?_ | refine Sq.f ?_ _)); exact BK181.out), (by (with_reducible repeat (first | refine Sq.d ?_ _ | refine Sq.e ?_ | refine Sq.f ?_ _)); exact BK182.out), (by (with_reducible repeat (first | refine Sq.d ?_ _ | refine Sq.e ?_ | refine Sq.f ?_ _)); exact BK197.out), (by (with_reducible repeat (first | refine Sq.d ?_ _ | refine Sq.e ?_ | refine Sq.f ?_ _)); exact BK202.out), (by (with_reducible repeat (first | refine Sq.d ?_ _ | refine Sq.e ?_ | refine Sq.f ?_ _)); exact BK212.out), GW212.out, GE212.out, NB181_212.out, NB212_181.out, NB182_212.out, NB212_182.out, NB197_212.out, NB212_197.out, NB202_212.out, NB212_202.out, (by repeat (first | (with_reducible first | exact HB.out | apply Sq.i | apply Sq.j | apply Sq.k | refine Sq.h ?_ GE181.out | refine Sq.h ?_ GE182.out | refine Sq.h ?_ GE197.out | refine Sq.h ?_ GE202.out | refine Sq.h ?_ GE212.out) | exact HB.out))⟩)
   ·skip
    refine box_step ?hg (N := 8) ?hd (cs := #[.slice none 0 0, .int .i64 0]) (t := 65) ?hr ?_; (case hd => rfl); (case hg => rfl); (case hr => first | (go_simp; done) | (go_simp; rfl))
    intro gb212 hg w41 hbox hb
    have n0_ := Sq.l (Sq.n (by (with_reducible repeat (first | apply Sq.a | apply Sq.b | apply Sq.c)); exact HO186.out) hb)
    have n1_ := Sq.l (Sq.n (by (with_reducible repeat (first | apply Sq.a | apply Sq.b | apply Sq.c)); exact HO195.out) hb)
    have n2_ := Sq.l (Sq.n (by (with_reducible repeat (first | apply Sq.a | apply Sq.b | apply Sq.c)); exact HO200.out) hb)
    have n3_ := Sq.l (Sq.m (g := gb181) (o := .cells #[.slice A0_0 l0_0.length c0_0, .int .i64 a0_1] 60 (0, 0)) (by (with_reducible repeat (first | refine Sq.d ?_ _ | refine Sq.e ?_ | refine Sq.f ?_ _)); exact BK181.out) hb)
    have n4_ := Sq.l (Sq.m (g := gb182) (o := .cells #[.int .i64 a1_0, .int .i64 a1_1, .int .i64 a1_2, .int .i64 a1_3, .bool a1_4] 97 (0, 0)) (by (with_reducible repeat (first | refine Sq.d ?_ _ | refine Sq.e ?_ | refine Sq.f ?_ _)); exact BK182.out) hb)
    have n5_ := Sq.l (Sq.m (g := gb197) (o := .cells #[.slice Ao26 t193.length co26, .int .i64 t196] 65 (0, 0)) (by (with_reducible repeat (first | refine Sq.d ?_ _ | refine Sq.e ?_ | refine Sq.f ?_ _)); exact BK197.out) hb)
    have n6_ := Sq.l (Sq.m (g := gb202) (o := .cells #[.slice Ao34 t198.length co34, .int .i64 t201] 65 (0, 0)) (by (with_reducible repeat (first | refine Sq.d ?_ _ | refine Sq.e ?_ | refine Sq.f ?_ _)); exact BK202.out) hb)
    have n7_ := Sq.l (Sq.a4 (by repeat (first | (with_reducible first | exact HB.out | apply Sq.i | apply Sq.j | apply Sq.k | refine Sq.h ?_ GE181.out | refine Sq.h ?_ GE182.out | refine Sq.h ?_ GE197.out | refine Sq.h ?_ GE202.out) | exact HB.out)) hb)
    have n8_ := Sq.l (hbox)
    have n9_ := Sq.l ((by rw [hg]; exact (Sq.a5 (by repeat (first | (with_reducible first | exact HB.out | apply Sq.i | apply Sq.j | apply Sq.k | refine Sq.h ?_ GE181.out | refine Sq.h ?_ GE182.out | refine Sq.h ?_ GE197.out | refine Sq.h ?_ GE202.out) | exact HB.out))) : w.heap.size ≤ gb212))
    have n10_ := Sq.l ((by rw [hg]; exact (Sq.a5 (by repeat (first | (with_reducible first | exact HB.out | apply Sq.i | apply Sq.j | apply Sq.k | refine Sq.h ?_ GE181.out | refine Sq.h ?_ GE182.out | refine Sq.h ?_ GE197.out | refine Sq.h ?_ GE202.out) | exact HB.out))) : w.heap.size ≤ gb212))
    have n11_ := Sq.l ((by rw [hg]; exact Nat.ne_of_lt (blk_lt (g := gb181) (o := .cells #[.slice A0_0 l0_0.length c0_0, .int .i64 a0_1] 60 (0, 0)) (by (with_reducible repeat (first | refine Sq.d ?_ _ | refine Sq.e ?_ | refine Sq.f ?_ _)); exact BK181.out)) : gb181 ≠ gb212))
    have n12_ := Sq.l ((by rw [hg]; exact Nat.ne_of_gt (blk_lt (g := gb181) (o := .cells #[.slice A0_0 l0_0.length c0_0, .int .i64 a0_1] 60 (0, 0)) (by (with_reducible repeat (first | refine Sq.d ?_ _ | refine Sq.e ?_ | refine Sq.f ?_ _)); exact BK181.out)) : gb212 ≠ gb181))
    have n13_ := Sq.l ((by rw [hg]; exact Nat.ne_of_lt (blk_lt (g := gb182) (o := .cells #[.int .i64 a1_0, .int .i64 a1_1, .int .i64 a1_2, .int .i64 a1_3, .bool a1_4] 97 (0, 0)) (by (with_reducible repeat (first | refine Sq.d ?_ _ | refine Sq.e ?_ | refine Sq.f ?_ _)); exact BK182.out)) : gb182 ≠ gb212))
    have n14_ := Sq.l ((by rw [hg]; exact Nat.ne_of_gt (blk_lt (g := gb182) (o := .cells #[.int .i64 a1_0, .int .i64 a1_1, .int .i64 a1_2, .int .i64 a1_3, .bool a1_4] 97 (0, 0)) (by (with_reducible repeat (first | refine Sq.d ?_ _ | refine Sq.e ?_ | refine Sq.f ?_ _)); exact BK182.out)) : gb212 ≠ gb182))
    have n15_ := Sq.l ((by rw [hg]; exact Nat.ne_of_lt (blk_lt (g := gb197) (o := .cells #[.slice Ao26 t193.length co26, .int .i64 t196] 65 (0, 0)) (by (with_reducible repeat (first | refine Sq.d ?_ _ | refine Sq.e ?_ | refine Sq.f ?_ _)); exact BK197.out)) : gb197 ≠ gb212))
    have n16_ := Sq.l ((by rw [hg]; exact Nat.ne_of_gt (blk_lt (g := gb197) (o := .cells #[.slice Ao26 t193.length co26, .int .i64 t196] 65 (0, 0)) (by (with_reducible repeat (first | refine Sq.d ?_ _ | refine Sq.e ?_ | refine Sq.f ?_ _)); exact BK197.out)) : gb212 ≠ gb197))
    have n17_ := Sq.l ((by rw [hg]; exact Nat.ne_of_lt (blk_lt (g := gb202) (o := .cells #[.slice Ao34 t198.length co34, .int .i64 t201] 65 (0, 0)) (by (with_reducible repeat (first | refine Sq.d ?_ _ | refine Sq.e ?_ | refine Sq.f ?_ _)); exact BK202.out)) : gb202 ≠ gb212))
    have n18_ := Sq.l ((by rw [hg]; exact Nat.ne_of_gt (blk_lt (g := gb202) (o := .cells #[.slice Ao34 t198.length co34, .int .i64 t201] 65 (0, 0)) (by (with_reducible repeat (first | refine Sq.d ?_ _ | refine Sq.e ?_ | refine Sq.f ?_ _)); exact BK202.out)) : gb212 ≠ gb202))
    clear HO186 HO195 HO200 BK181 BK182 BK197 BK202 HB; have HO186 := n0_; have HO195 := n1_; have HO200 := n2_; have BK181 := n3_; have BK182 := n4_; have BK197 := n5_; have BK202 := n6_; have HB := n7_; have BK212 := n8_; have GW212 := n9_; have GE212 := n10_; have NB181_212 := n11_; have NB212_181 := n12_; have NB182_212 := n13_; have NB212_182 := n14_; have NB197_212 := n15_; have NB212_197 := n16_; have NB202_212 := n17_; have NB212_202 := n18_; clear n0_ n1_ n2_ n3_ n4_ n5_ n6_ n7_ n8_ n9_ n10_ n11_ n12_ n13_ n14_ n15_ n16_ n17_ n18_ hb hbox hg
    refine hK.out _ _ ⟨(Sq.o BK202.out 0).trans rfl, (Sq.o BK202.out 1).trans rfl, (Sq.o BK182.out 0).trans rfl, (Sq.o BK182.out 1).trans rfl, (Sq.o BK182.out 2).trans rfl, (Sq.o BK182.out 3).trans rfl, (Sq.o BK182.out 4).trans rfl⟩ (fun hHeld => ?_)
    clear hK K
    refine norm_ (a' := ?_) ?_ ?_
    rotate_left
    ·show Act.put _ (some 8) _ = _
     simp only [Act.put, List.setIfInBounds_toArray, List.set_cons_zero, List.set_cons_succ, i64_w, i32_w]
     rfl
    refine one_ (i := 2) (N := some 27) #[true, true, true, false, true, false] rfl rfl (by kernel_rfl) (by decide) (fun K hK => ?_)
    refine goes_ Try.func59 (by kernel_rfl) rfl #[.agg #[.int .i64 a1_0, .int .i64 a1_1, .int .i64 a1_2, .int .i64 a1_3, .bool a1_4]] (by rfl) rfl rfl (by (try simp only [List.map_toArray, List.map_cons, List.map_nil]); first | done | rfl | (simp only [List.length_drop, List.length_take]; rfl)) ?_
    with_reducible refine (laws_toTlbEntry.calls a1_0 a1_1 a1_2 a1_3 a1_4 t203 t204 t205 t206 t207 _ A15.out).mono ?_
    rintro e w42 ⟨rfl, hb⟩
    refine ⟨_, rfl, ?_⟩
    have n0_ := Sq.l (Sq.n (by (with_reducible repeat (first | apply Sq.a | apply Sq.b | apply Sq.c)); exact HO186.out) hb)
    have n1_ := Sq.l (Sq.n (by (with_reducible repeat (first | apply Sq.a | apply Sq.b | apply Sq.c)); exact HO195.out) hb)
    have n2_ := Sq.l (Sq.n (by (with_reducible repeat (first | apply Sq.a | apply Sq.b | apply Sq.c)); exact HO200.out) hb)
    have n3_ := Sq.l (Sq.m (g := gb181) (o := .cells #[.slice A0_0 l0_0.length c0_0, .int .i64 a0_1] 60 (0, 0)) (by (with_reducible repeat (first | refine Sq.d ?_ _ | refine Sq.e ?_ | refine Sq.f ?_ _)); exact BK181.out) hb)
    have n4_ := Sq.l (Sq.m (g := gb182) (o := .cells #[.int .i64 a1_0, .int .i64 a1_1, .int .i64 a1_2, .int .i64 a1_3, .bool a1_4] 97 (0, 0)) (by (with_reducible repeat (first | refine Sq.d ?_ _ | refine Sq.e ?_ | refine Sq.f ?_ _)); exact BK182.out) hb)
    have n5_ := Sq.l (Sq.m (g := gb197) (o := .cells #[.slice Ao26 t193.length co26, .int .i64 t196] 65 (0, 0)) (by (with_reducible repeat (first | refine Sq.d ?_ _ | refine Sq.e ?_ | refine Sq.f ?_ _)); exact BK197.out) hb)
    have n6_ := Sq.l (Sq.m (g := gb202) (o := .cells #[.slice Ao34 t198.length co34, .int .i64 t201] 65 (0, 0)) (by (with_reducible repeat (first | refine Sq.d ?_ _ | refine Sq.e ?_ | refine Sq.f ?_ _)); exact BK202.out) hb)
    have n7_ := Sq.l (Sq.m (g := gb212) (o := .cells #[.slice none 0 0, .int .i64 0] 65 (0, 0)) (by (with_reducible repeat (first | refine Sq.d ?_ _ | refine Sq.e ?_ | refine Sq.f ?_ _)); exact BK212.out) hb)
    have n8_ := Sq.l (Sq.a4 (by repeat (first | (with_reducible first | exact HB.out | apply Sq.i | apply Sq.j | apply Sq.k | refine Sq.h ?_ GE181.out | refine Sq.h ?_ GE182.out | refine Sq.h ?_ GE197.out | refine Sq.h ?_ GE202.out | refine Sq.h ?_ GE212.out) | exact HB.out)) hb)
    clear HO186 HO195 HO200 BK181 BK182 BK197 BK202 BK212 HB; have HO186 := n0_; have HO195 := n1_; have HO200 := n2_; have BK181 := n3_; have BK182 := n4_; have BK197 := n5_; have BK202 := n6_; have BK212 := n7_; have HB := n8_; clear n0_ n1_ n2_ n3_ n4_ n5_ n6_ n7_ n8_; (try clear hb); (try clear hb2); (try clear hk); (try clear hi)
    refine hK.out _ _ ⟨(Sq.o BK202.out 0).trans rfl, (Sq.o BK202.out 1).trans rfl, (Sq.o BK182.out 0).trans rfl, (Sq.o BK182.out 1).trans rfl, (Sq.o BK182.out 2).trans rfl, (Sq.o BK182.out 3).trans rfl, (Sq.o BK182.out 4).trans rfl⟩ (fun hHeld => ?_)
    clear hK K
    refine norm_ (a' := ?_) ?_ ?_
    rotate_left
    ·show Act.put _ (some 27) _ = _
     simp only [Act.put, List.setIfInBounds_toArray, List.set_cons_zero, List.set_cons_succ, i64_w, i32_w]
     rfl
    refine one_ (i := 3) (N := some 28) #[true, true, true, true, true, false] rfl rfl (by kernel_rfl) (by decide) (fun K hK => ?_)
    refine goes_ Try.func60 (by kernel_rfl) rfl #[.agg #[.slice Ao34 t198.length co34, .int .i64 t201], .agg #[.int .i64 t203, .int .i64 t204, .int .i64 t205, .int .i64 t206, .bool t207]] (by rfl) rfl rfl (by (try simp only [List.map_toArray, List.map_cons, List.map_nil]); first | done | rfl | (simp only [List.length_drop, List.length_take]; rfl)) ?_
    with_reducible refine (impl_TlbPut.calls _ _ t198 t201 t203 t204 t205 t206 t207 t208 t211 _ ?side1 ?side2 A16.out).mono ?_
    (case side1 => repeat (first | exact (Sq.b4 HO200.out).2.2 | (with_reducible refine Sq.s ?_ _) | (with_reducible refine Sq.t ?_ _) | (with_reducible refine Sq.u ?_)))
    (case side2 => exact (Sq.b4 HO200.out).2.1)
    rintro e w43 ⟨v209, rfl, ho0, hb⟩
    refine ⟨_, rfl, ?_⟩
    have n0_ := Sq.l (Sq.p (by (with_reducible repeat (first | apply Sq.a | apply Sq.b | apply Sq.c)); exact HO186.out) (Sq.b7 ho0) hb)
    have n1_ := Sq.l (Sq.p (by (with_reducible repeat (first | apply Sq.a | apply Sq.b | apply Sq.c)); exact HO195.out) (Sq.b7 ho0) hb)
    have n2_ := Sq.l (Sq.p (by (with_reducible repeat (first | apply Sq.a | apply Sq.b | apply Sq.c)); exact HO200.out) (Sq.b7 ho0) hb)
    have n3_ := Sq.l (Sq.a2 (Sq.c1 (Sq.c1 (Sq.c1 ho0 (Sq.c2 (by (with_reducible repeat (first | apply Sq.a | apply Sq.b | apply Sq.c)); exact HO186.out))) (Sq.c2 (by (with_reducible repeat (first | apply Sq.a | apply Sq.b | apply Sq.c)); exact HO195.out))) (Sq.c2 (by (with_reducible repeat (first | apply Sq.a | apply Sq.b | apply Sq.c)); exact HO200.out))) (Sq.a5 (by repeat (first | (with_reducible first | exact HB.out | apply Sq.i | apply Sq.j | apply Sq.k | refine Sq.h ?_ GE181.out | refine Sq.h ?_ GE182.out | refine Sq.h ?_ GE197.out | refine Sq.h ?_ GE202.out | refine Sq.h ?_ GE212.out) | exact HB.out))))
    have n4_ := Sq.l (Sq.m (g := gb181) (o := .cells #[.slice A0_0 l0_0.length c0_0, .int .i64 a0_1] 60 (0, 0)) (by (with_reducible repeat (first | refine Sq.d ?_ _ | refine Sq.e ?_ | refine Sq.f ?_ _)); exact BK181.out) hb)
    have n5_ := Sq.l (Sq.m (g := gb182) (o := .cells #[.int .i64 a1_0, .int .i64 a1_1, .int .i64 a1_2, .int .i64 a1_3, .bool a1_4] 97 (0, 0)) (by (with_reducible repeat (first | refine Sq.d ?_ _ | refine Sq.e ?_ | refine Sq.f ?_ _)); exact BK182.out) hb)
    have n6_ := Sq.l (Sq.m (g := gb197) (o := .cells #[.slice Ao26 t193.length co26, .int .i64 t196] 65 (0, 0)) (by (with_reducible repeat (first | refine Sq.d ?_ _ | refine Sq.e ?_ | refine Sq.f ?_ _)); exact BK197.out) hb)
    have n7_ := Sq.l (Sq.m (g := gb202) (o := .cells #[.slice Ao34 t198.length co34, .int .i64 t201] 65 (0, 0)) (by (with_reducible repeat (first | refine Sq.d ?_ _ | refine Sq.e ?_ | refine Sq.f ?_ _)); exact BK202.out) hb)
    have n8_ := Sq.l (Sq.m (g := gb212) (o := .cells #[.slice none 0 0, .int .i64 0] 65 (0, 0)) (by (with_reducible repeat (first | refine Sq.d ?_ _ | refine Sq.e ?_ | refine Sq.f ?_ _)); exact BK212.out) hb)
    have n9_ := Sq.l (Sq.a4 (by repeat (first | (with_reducible first | exact HB.out | apply Sq.i | apply Sq.j | apply Sq.k | refine Sq.h ?_ GE181.out | refine Sq.h ?_ GE182.out | refine Sq.h ?_ GE197.out | refine Sq.h ?_ GE202.out | refine Sq.h ?_ GE212.out) | exact HB.out)) hb)
    clear HO186 HO195 HO200 BK181 BK182 BK197 BK202 BK212 HB; have HO186 := n0_; have HO195 := n1_; have HO200 := n2_; have HO210 := n3_; have BK181 := n4_; have BK182 := n5_; have BK197 := n6_; have BK202 := n7_; have BK212 := n8_; have HB := n9_; clear n0_ n1_ n2_ n3_ n4_ n5_ n6_ n7_ n8_ n9_; (try clear hb); (try clear hb2); (try clear hk); (try clear hi); (try clear ho0)
    refine hK.out _ _ ⟨(Sq.o BK202.out 0).trans rfl, (Sq.o BK202.out 1).trans rfl, (Sq.o BK182.out 0).trans rfl, (Sq.o BK182.out 1).trans rfl, (Sq.o BK182.out 2).trans rfl, (Sq.o BK182.out 3).trans rfl, (Sq.o BK182.out 4).trans rfl⟩ (fun hHeld => ?_)
    clear hK K
    refine norm_ (a' := ?_) ?_ ?_
    rotate_left
    ·show Act.put _ (some 28) _ = _
     simp only [Act.put, List.setIfInBounds_toArray, List.set_cons_zero, List.set_cons_succ, i64_w, i32_w]
     rfl
    exact norm_ (by simp only [putAll, Act.put, List.setIfInBounds_toArray, List.set_cons_zero, List.set_cons_succ]) (hCont (v209, gb212) _ ⟨hHeld, (by (with_reducible repeat (first | apply Sq.a | apply Sq.b | apply Sq.c)); exact Sq.a3 HO186.out (fun _ hk => ⟨hk.1.1, ⟨hk.1.2, hk.2⟩⟩)), (by (with_reducible repeat (first | apply Sq.a | apply Sq.b | apply Sq.c)); exact Sq.a3 HO195.out (fun _ hk => ⟨hk.1.1, ⟨hk.1.2, hk.2⟩⟩)), (by (with_reducible repeat (first | apply Sq.a | apply Sq.b | apply Sq.c)); exact Sq.a3 HO200.out (fun _ hk => ⟨hk.1.1, ⟨hk.1.2, hk.2⟩⟩)), (by (with_reducible repeat (first | apply Sq.a | apply Sq.b | apply Sq.c)); exact Sq.a3 HO210.out (fun _ hk => ⟨hk.1.1.2, ⟨hk.1.2, hk.2⟩⟩)), (by (with_reducible repeat (first | refine Sq.d ?_ _ | refine Sq.e ?_ | refine Sq.f ?_ _)); exact BK181.out), (by (with_reducible repeat (first | refine Sq.d ?_ _ | refine Sq.e ?_ | refine Sq.f ?_ _)); exact BK182.out), (by (with_reducible repeat (first | refine Sq.d ?_ _ | refine Sq.e ?_ | refine Sq.f ?_ _)); exact BK197.out), (by (with_reducible repeat (first | refine Sq.d ?_ _ | refine Sq.e ?_ | refine Sq.f ?_ _)); exact BK202.out), (by (with_reducible repeat (first | refine Sq.d ?_ _ | refine Sq.e ?_ | refine Sq.f ?_ _)); exact BK212.out), GW212.out, GE212.out, NB181_212.out, NB212_181.out, NB182_212.out, NB212_182.out, NB197_212.out, NB212_197.out, NB202_212.out, NB212_202.out, (by repeat (first | (with_reducible first | exact HB.out | apply Sq.i | apply Sq.j | apply Sq.k | refine Sq.h ?_ GE181.out | refine Sq.h ?_ GE182.out | refine Sq.h ?_ GE197.out | refine Sq.h ?_ GE202.out | refine Sq.h ?_ GE212.out) | exact HB.out))⟩)
  rintro ⟨v209, gb212⟩ w44 ⟨hS_, h0_, h1_, h2_, h3_, h4_, h5_, h6_, h7_, h8_, h9_, h10_, h11_, h12_, h13_, h14_, h15_, h16_, h17_, h18_, h19_⟩
  have n0_ : Aside0 (Kd.R k99 99 w44 w.heap.size (fun k_ => some k_ ≠ (.slice Ao26 t193.length co26 : Value).ownBlock ∧ some k_ ≠ (.slice Ao34 t198.length co34 : Value).ownBlock ∧ some k_ ≠ (v209 : Value).ownBlock) v185 t184) := ⟨h0_⟩
  have n1_ : Aside0 (Kd.R k99 99 w44 w.heap.size (fun k_ => some k_ ≠ (v185 : Value).ownBlock ∧ some k_ ≠ (.slice Ao34 t198.length co34 : Value).ownBlock ∧ some k_ ≠ (v209 : Value).ownBlock) (.slice Ao26 t193.length co26) t193) := ⟨h1_⟩
  have n2_ : Aside0 (Kd.R k99 99 w44 w.heap.size (fun k_ => some k_ ≠ (v185 : Value).ownBlock ∧ some k_ ≠ (.slice Ao26 t193.length co26 : Value).ownBlock ∧ some k_ ≠ (v209 : Value).ownBlock) (.slice Ao34 t198.length co34) t198) := ⟨h2_⟩
  have n3_ : Aside0 (Kd.R k99 99 w44 w.heap.size (fun k_ => some k_ ≠ (v185 : Value).ownBlock ∧ some k_ ≠ (.slice Ao26 t193.length co26 : Value).ownBlock ∧ some k_ ≠ (.slice Ao34 t198.length co34 : Value).ownBlock) v209 t208) := ⟨h3_⟩
  have n4_ : Aside0 (w44.heap[gb181]? = some (.cells #[.slice A0_0 l0_0.length c0_0, .int .i64 a0_1] 60 (0, 0))) := ⟨h4_⟩
  have n5_ : Aside0 (w44.heap[gb182]? = some (.cells #[.int .i64 a1_0, .int .i64 a1_1, .int .i64 a1_2, .int .i64 a1_3, .bool a1_4] 97 (0, 0))) := ⟨h5_⟩
  have n6_ : Aside0 (w44.heap[gb197]? = some (.cells #[.slice Ao26 t193.length co26, .int .i64 t196] 65 (0, 0))) := ⟨h6_⟩
  have n7_ : Aside0 (w44.heap[gb202]? = some (.cells #[.slice Ao34 t198.length co34, .int .i64 t201] 65 (0, 0))) := ⟨h7_⟩
  have n8_ : Aside0 (w44.heap[gb212]? = some (.cells #[.slice none 0 0, .int .i64 0] 65 (0, 0))) := ⟨h8_⟩
  have n9_ : Aside0 (w.heap.size ≤ gb212) := ⟨h9_⟩
  have n10_ : Aside0 (w.heap.size ≤ gb212) := ⟨h10_⟩
  have n11_ : Aside0 (gb181 ≠ gb212) := ⟨h11_⟩
  have n12_ : Aside0 (gb212 ≠ gb181) := ⟨h12_⟩
  have n13_ : Aside0 (gb182 ≠ gb212) := ⟨h13_⟩
  have n14_ : Aside0 (gb212 ≠ gb182) := ⟨h14_⟩
  have n15_ : Aside0 (gb197 ≠ gb212) := ⟨h15_⟩
  have n16_ : Aside0 (gb212 ≠ gb197) := ⟨h16_⟩
  have n17_ : Aside0 (gb202 ≠ gb212) := ⟨h17_⟩
  have n18_ : Aside0 (gb212 ≠ gb202) := ⟨h18_⟩
  have n19_ : Aside0 (Below w.heap.size w w44) := ⟨h19_⟩
  clear HO186 HO195 HO200 BK181 BK182 BK197 BK202 HB h0_ h1_ h2_ h3_ h4_ h5_ h6_ h7_ h8_ h9_ h10_ h11_ h12_ h13_ h14_ h15_ h16_ h17_ h18_ h19_; have HO186 := n0_; have HO195 := n1_; have HO200 := n2_; have HO210 := n3_; have BK181 := n4_; have BK182 := n5_; have BK197 := n6_; have BK202 := n7_; have BK212 := n8_; have GW212 := n9_; have GE212 := n10_; have NB181_212 := n11_; have NB212_181 := n12_; have NB182_212 := n13_; have NB212_182 := n14_; have NB197_212 := n15_; have NB212_197 := n16_; have NB202_212 := n17_; have NB212_202 := n18_; have HB := n19_; clear n0_ n1_ n2_ n3_ n4_ n5_ n6_ n7_ n8_ n9_ n10_ n11_ n12_ n13_ n14_ n15_ n16_ n17_ n18_ n19_
  have hHeld : w44.cell? ⟨gb202, 0, none⟩ = some (.slice Ao34 t198.length co34) ∧ w44.cell? ⟨gb202, 1, none⟩ = some (.int .i64 t201) ∧ w44.cell? ⟨gb182, 0, none⟩ = some (.int .i64 a1_0) ∧ w44.cell? ⟨gb182, 1, none⟩ = some (.int .i64 a1_1) ∧ w44.cell? ⟨gb182, 2, none⟩ = some (.int .i64 a1_2) ∧ w44.cell? ⟨gb182, 3, none⟩ = some (.int .i64 a1_3) ∧ w44.cell? ⟨gb182, 4, none⟩ = some (.bool a1_4) := hS_
  obtain ⟨Ao45, co45, eo45⟩ := Kd.R_slice HO210.out
  (first | subst eo45 | (injection eo45 with f1_ f2_ f3_; have f4_ := f1_.symm; have f5_ := f3_.symm; clear f1_ f2_ f3_; subst f4_; subst f5_))
  refine norm_ (a' := ?_) ?_ ?_
  rotate_left
  ·simp only [putAll, Act.put, List.setIfInBounds_toArray, List.set_cons_zero, List.set_cons_succ]
   rfl
  refine one_ (i := 5) (N := none) #[true, true, true, true, true, true] rfl rfl (by kernel_rfl) (by decide) (fun K hK => ?_)
  have hs46 : w44.cell? ⟨gb212, 0, none⟩ = some (.slice none 0 0) := (Sq.o BK212.out 0).trans rfl
  have hfs46 := Sq.r BK212.out 0
  have hns46_0 := NB181_212.out; have hns46_1 := NB182_212.out; have hns46_2 := NB197_212.out; have hns46_3 := NB202_212.out; have hms46_0 := NB212_181.out; have hms46_1 := NB212_182.out; have hms46_2 := NB212_197.out; have hms46_3 := NB212_202.out
  have hs47 : w44.cell? ⟨gb212, 1, none⟩ = some (.int .i64 0) := (Sq.o BK212.out 1).trans rfl
  have hfs47 := Sq.r BK212.out 1
  have hns47_0 := NB181_212.out; have hns47_1 := NB182_212.out; have hns47_2 := NB197_212.out; have hns47_3 := NB202_212.out; have hms47_0 := NB212_181.out; have hms47_1 := NB212_182.out; have hms47_2 := NB212_197.out; have hms47_3 := NB212_202.out
  refine skip_ (w1 := ?_) (by rfl) rfl ?_ ?_
  rotate_left
  ·go_simp
   rfl
  refine hK.out _ _ ⟨((cell_far (p := ⟨gb212, _, none⟩) NB202_212.out _).trans (((cell_far (p := ⟨gb212, _, none⟩) NB202_212.out _).trans (hHeld.1)))), ((cell_far (p := ⟨gb212, _, none⟩) NB202_212.out _).trans (((cell_far (p := ⟨gb212, _, none⟩) NB202_212.out _).trans (hHeld.2.1)))), ((cell_far (p := ⟨gb212, _, none⟩) NB182_212.out _).trans (((cell_far (p := ⟨gb212, _, none⟩) NB182_212.out _).trans (hHeld.2.2.1)))), ((cell_far (p := ⟨gb212, _, none⟩) NB182_212.out _).trans (((cell_far (p := ⟨gb212, _, none⟩) NB182_212.out _).trans (hHeld.2.2.2.1)))), ((cell_far (p := ⟨gb212, _, none⟩) NB182_212.out _).trans (((cell_far (p := ⟨gb212, _, none⟩) NB182_212.out _).trans (hHeld.2.2.2.2.1)))), ((cell_far (p := ⟨gb212, _, none⟩) NB182_212.out _).trans (((cell_far (p := ⟨gb212, _, none⟩) NB182_212.out _).trans (hHeld.2.2.2.2.2.1)))), ((cell_far (p := ⟨gb212, _, none⟩) NB182_212.out _).trans (((cell_far (p := ⟨gb212, _, none⟩) NB182_212.out _).trans (hHeld.2.2.2.2.2.2))))⟩ (fun hHeld => ?_)
  clear hK K
  refine done_ (by kernel_rfl) ?_
  have hnb48 := NB212_181.out; have hnc48 := NB181_212.out; have hnb49 := NB212_182.out; have hnc49 := NB182_212.out; have hnb50 := NB212_197.out; have hnc50 := NB197_212.out; have hnb51 := NB212_202.out; have hnc51 := NB202_212.out
  have hcz52_0 : w44.cell? ⟨gb212, 0, none⟩ = some (.slice none 0 0) := (Sq.o BK212.out 0).trans rfl
  have hcz52_1 : w44.cell? ⟨gb212, 1, none⟩ = some (.int .i64 0) := (Sq.o BK212.out 1).trans rfl
  have hfz52_0 := Sq.r BK212.out 0
  have hfz52_1 := Sq.r BK212.out 1
  have hnb53 := NB197_182.out; have hnc53 := NB182_197.out
  have hcz54_0 : w44.cell? ⟨gb197, 0, none⟩ = some (.slice Ao26 t193.length co26) := (Sq.o BK197.out 0).trans rfl
  have hcz54_1 : w44.cell? ⟨gb197, 1, none⟩ = some (.int .i64 t196) := (Sq.o BK197.out 1).trans rfl
  have hfz54_0 := Sq.r BK197.out 0
  have hfz54_1 := Sq.r BK197.out 1
  go_upto_if 32 with (first | ((with_reducible refine gate_callee (f := 40) rfl ?_); refine goesL_ (some 31) rfl rfl Try.func40 (by kernel_rfl) rfl #[.agg #[.slice Ao45 t208.length co45, .int .i64 t211], .agg #[.slice Ao26 t193.length co26, .int .i64 t196]] rfl (by (try simp only [List.map_toArray, List.map_cons, List.map_nil]); first | done | rfl | (simp only [List.length_drop, List.length_take]; rfl)) ?_; (with_reducible refine (laws_eqTlb.calls k _ _ t208 t211 _ _ t193 t196 t213 _ ?side1 ?side2 ?side3 ?side4 A17.out).mono ?_); (case side1 => refine (Sq.b4 (e := 99) (base := w.heap.size) (ok := fun k_ => (some k_ ≠ (v185 : Value).ownBlock ∧ (some k_ ≠ (.slice Ao26 t193.length co26 : Value).ownBlock ∧ some k_ ≠ (.slice Ao34 t198.length co34 : Value).ownBlock))) (n := t208.length) (c := co45) ?_).2.2; exact (by (with_reducible repeat (first | apply Sq.a | apply Sq.b | apply Sq.c)); exact (Sq.a3 (Sq.R2 (Sq.b5 HO210.out BK212.out (by decide)) (fun _ hk => hk.2)) (fun _ h_ => h_.1)))); (case side2 => exact (Sq.b4 HO210.out).2.1); (case side3 => refine (Sq.b4 (e := 99) (base := w.heap.size) (ok := fun k_ => (some k_ ≠ (v185 : Value).ownBlock ∧ (some k_ ≠ (.slice Ao34 t198.length co34 : Value).ownBlock ∧ some k_ ≠ (.slice Ao45 t208.length co45 : Value).ownBlock))) (n := t193.length) (c := co26) ?_).2.2; exact (by (with_reducible repeat (first | apply Sq.a | apply Sq.b | apply Sq.c)); exact (Sq.a3 (Sq.R2 (Sq.b5 HO195.out BK212.out (by decide)) (fun _ hk => hk.2)) (fun _ h_ => h_.1)))); (case side4 => exact (Sq.b4 HO195.out).2.1); rintro e w55 ⟨rfl, hb⟩; refine ⟨_, rfl, ?_⟩; have n0_ := Sq.l (Sq.n (by (with_reducible repeat (first | apply Sq.a | apply Sq.b | apply Sq.c)); exact (Sq.a3 (Sq.R2 (Sq.b5 HO186.out BK212.out (by decide)) (fun _ hk => hk.2)) (fun _ h_ => h_.1))) hb); have n1_ := Sq.l (Sq.n (by (with_reducible repeat (first | apply Sq.a | apply Sq.b | apply Sq.c)); exact (Sq.a3 (Sq.R2 (Sq.b5 HO195.out BK212.out (by decide)) (fun _ hk => hk.2)) (fun _ h_ => h_.1))) hb); have n2_ := Sq.l (Sq.n (by (with_reducible repeat (first | apply Sq.a | apply Sq.b | apply Sq.c)); exact (Sq.a3 (Sq.R2 (Sq.b5 HO200.out BK212.out (by decide)) (fun _ hk => hk.2)) (fun _ h_ => h_.1))) hb); have n3_ := Sq.l (Sq.n (by (with_reducible repeat (first | apply Sq.a | apply Sq.b | apply Sq.c)); exact (Sq.a3 (Sq.R2 (Sq.b5 HO210.out BK212.out (by decide)) (fun _ hk => hk.2)) (fun _ h_ => h_.1))) hb); have n4_ := Sq.l (Sq.m (g := gb181) (o := .cells #[.slice A0_0 l0_0.length c0_0, .int .i64 a0_1] 60 (0, 0)) (by (with_reducible repeat (first | refine Sq.d ?_ _ | refine Sq.e ?_ | refine Sq.f ?_ _)); refine Sq.B2 ?_ NB181_212.out; (with_reducible repeat (first | refine Sq.d ?_ _ | refine Sq.e ?_ | refine Sq.f ?_ _)); exact BK181.out) hb); have n5_ := Sq.l (Sq.m (g := gb182) (o := .cells #[.int .i64 a1_0, .int .i64 a1_1, .int .i64 a1_2, .int .i64 a1_3, .bool a1_4] 97 (0, 0)) (by (with_reducible repeat (first | refine Sq.d ?_ _ | refine Sq.e ?_ | refine Sq.f ?_ _)); refine Sq.B2 ?_ NB182_212.out; (with_reducible repeat (first | refine Sq.d ?_ _ | refine Sq.e ?_ | refine Sq.f ?_ _)); exact BK182.out) hb); have n6_ := Sq.l (Sq.m (g := gb197) (o := .cells #[.slice Ao26 t193.length co26, .int .i64 t196] 65 (0, 0)) (by (with_reducible repeat (first | refine Sq.d ?_ _ | refine Sq.e ?_ | refine Sq.f ?_ _)); refine Sq.B2 ?_ NB197_212.out; (with_reducible repeat (first | refine Sq.d ?_ _ | refine Sq.e ?_ | refine Sq.f ?_ _)); exact BK197.out) hb); have n7_ := Sq.l (Sq.m (g := gb202) (o := .cells #[.slice Ao34 t198.length co34, .int .i64 t201] 65 (0, 0)) (by (with_reducible repeat (first | refine Sq.d ?_ _ | refine Sq.e ?_ | refine Sq.f ?_ _)); refine Sq.B2 ?_ NB202_212.out; (with_reducible repeat (first | refine Sq.d ?_ _ | refine Sq.e ?_ | refine Sq.f ?_ _)); exact BK202.out) hb); have n8_ := Sq.l (Sq.m (g := gb212) (o := .cells #[.slice Ao45 t208.length co45, .int .i64 t211] 65 (0, 0)) (by (with_reducible repeat (first | refine Sq.d ?_ _ | refine Sq.e ?_ | refine Sq.f ?_ _)); refine Sq.v (cs := #[.slice Ao45 t208.length co45, .int .i64 0]) ?_ 1 _ rfl; (with_reducible repeat (first | refine Sq.d ?_ _ | refine Sq.e ?_ | refine Sq.f ?_ _)); refine Sq.v (cs := #[.slice none 0 0, .int .i64 0]) ?_ 0 _ rfl; (with_reducible repeat (first | refine Sq.d ?_ _ | refine Sq.e ?_ | refine Sq.f ?_ _)); exact BK212.out) hb); have n9_ := Sq.l (Sq.a4 (by repeat (first | (with_reducible first | exact HB.out | apply Sq.i | apply Sq.j | apply Sq.k | refine Sq.h ?_ GE181.out | refine Sq.h ?_ GE182.out | refine Sq.h ?_ GE197.out | refine Sq.h ?_ GE202.out | refine Sq.h ?_ GE212.out) | exact HB.out)) hb); clear HO186; clear HO195; clear HO200; clear HO210; clear BK181; clear BK182; clear BK197; clear BK202; clear BK212; clear HB; have HO186 := n0_; have HO195 := n1_; have HO200 := n2_; have HO210 := n3_; have BK181 := n4_; have BK182 := n5_; have BK197 := n6_; have BK202 := n7_; have BK212 := n8_; have HB := n9_; clear n0_ n1_ n2_ n3_ n4_ n5_ n6_ n7_ n8_ n9_; (try clear hb); (try clear hb2); (try clear hk); (try clear hi)))
  (try simp only [Act.put, List.setIfInBounds_toArray, List.set_cons_zero, List.set_cons_succ])
  have H := HC18.out
  clear HC18
  by_cases c56 : t213 = true
  ·subst c56
   rw [if_pos rfl] at H
   replace H := Option.bind_eq_some_iff.mp H
   obtain ⟨⟨t214, t217⟩, A570, H⟩ := H
   (try dsimp only at H)
   have A57 := Sq.l A570
   clear A570
   replace H := Option.bind_eq_some_iff.mp H
   obtain ⟨t218, A580, H⟩ := H
   (try dsimp only at H)
   have A58 := Sq.l A580
   clear A580
   have HC59 := Sq.l H
   clear H
   try go_wp2
   have n0_ := Sq.l (Sq.c HO186.out)
   have n1_ := Sq.l (Sq.c HO195.out)
   have n2_ := Sq.l (Sq.c HO200.out)
   have n3_ := Sq.l (Sq.c HO210.out)
   have n4_ := Sq.l (Sq.e BK181.out)
   have n5_ := Sq.l (Sq.e BK182.out)
   have n6_ := Sq.l (Sq.e BK197.out)
   have n7_ := Sq.l (Sq.e BK202.out)
   have n8_ := Sq.l (Sq.e BK212.out)
   have n9_ := Sq.l (Sq.k HB.out)
   clear HO186 HO195 HO200 HO210 BK181 BK182 BK197 BK202 BK212 HB; have HO186 := n0_; have HO195 := n1_; have HO200 := n2_; have HO210 := n3_; have BK181 := n4_; have BK182 := n5_; have BK197 := n6_; have BK202 := n7_; have BK212 := n8_; have HB := n9_; clear n0_ n1_ n2_ n3_ n4_ n5_ n6_ n7_ n8_ n9_
   refine start_ (n := 5) (S := fun w' => w'.cell? ⟨gb202, 0, none⟩ = some (.slice Ao34 t198.length co34) ∧ w'.cell? ⟨gb202, 1, none⟩ = some (.int .i64 t201) ∧ w'.cell? ⟨gb181, 0, none⟩ = some (.slice A0_0 l0_0.length c0_0) ∧ w'.cell? ⟨gb181, 1, none⟩ = some (.int .i64 a0_1)) (ds := []) #[false, false, false, false, false] (by kernel_rfl) rfl rfl ⟨(Sq.o BK202.out 0).trans rfl, (Sq.o BK202.out 1).trans rfl, (Sq.o BK181.out 0).trans rfl, (Sq.o BK181.out 1).trans rfl⟩ (fun hHeld => ?_)
   generalize w55.drew = w60 at HO186 HO195 HO200 HO210 BK181 BK182 BK197 BK202 BK212 HB hHeld ⊢
   refine take_ (i := 0) (N := some 33) (v := ?_) (a' := ?_) #[true, false, false, false, false] rfl rfl (by kernel_rfl) (fun _ _ _ h => h) (Or.inl ⟨by rfl, ?_⟩) hHeld ?_ ?_
   rotate_left
   ·rintro w' ⟨s0, s1, s2, s3⟩
    go_simp
    with_reducible rfl
   rotate_left
   ·simp only [Act.put, List.setIfInBounds_toArray, List.set_cons_zero, List.set_cons_succ, i64_w, i32_w]
    rfl
   refine take_ (i := 1) (N := some 34) (v := ?_) (a' := ?_) #[true, true, false, false, false] rfl rfl (by kernel_rfl) (fun _ _ _ h => h) (Or.inl ⟨by rfl, ?_⟩) hHeld ?_ ?_
   rotate_left
   ·rintro w' ⟨s0, s1, s2, s3⟩
    go_simp
    with_reducible rfl
   rotate_left
   ·simp only [Act.put, List.setIfInBounds_toArray, List.set_cons_zero, List.set_cons_succ, i64_w, i32_w]
    rfl
   refine one_ (i := 2) (N := some 35) #[true, true, true, false, false] rfl rfl (by kernel_rfl) (by decide) (fun K hK => ?_)
   refine goes_ Try.func38 (by kernel_rfl) rfl #[.agg #[.slice A0_0 l0_0.length c0_0, .int .i64 a0_1]] (by rfl) rfl rfl (by (try simp only [List.map_toArray, List.map_cons, List.map_nil]); first | done | rfl | (simp only [List.length_drop, List.length_take]; rfl)) ?_
   with_reducible refine (laws_toTlb.calls k _ _ l0_0 a0_1 t214 t217 _ ?side1 ?side2 A57.out).mono ?_
   (case side1 => repeat (first | exact (Sq.a1 HR0_0.out HB.out) | (with_reducible refine Sq.s ?_ _) | (with_reducible refine Sq.t ?_ _) | (with_reducible refine Sq.u ?_)))
   (case side2 => exact HC0_0.out)
   rintro e w61 ⟨v215, rfl, ho0, hb⟩
   refine ⟨_, rfl, ?_⟩
   have n0_ := Sq.l (Sq.p (by (with_reducible repeat (first | apply Sq.a | apply Sq.b | apply Sq.c)); exact HO186.out) (Sq.b7 ho0) hb)
   have n1_ := Sq.l (Sq.p (by (with_reducible repeat (first | apply Sq.a | apply Sq.b | apply Sq.c)); exact HO195.out) (Sq.b7 ho0) hb)
   have n2_ := Sq.l (Sq.p (by (with_reducible repeat (first | apply Sq.a | apply Sq.b | apply Sq.c)); exact HO200.out) (Sq.b7 ho0) hb)
   have n3_ := Sq.l (Sq.p (by (with_reducible repeat (first | apply Sq.a | apply Sq.b | apply Sq.c)); exact HO210.out) (Sq.b7 ho0) hb)
   have n4_ := Sq.l (Sq.a2 (Sq.c1 (Sq.c1 (Sq.c1 (Sq.c1 ho0 (Sq.c2 (by (with_reducible repeat (first | apply Sq.a | apply Sq.b | apply Sq.c)); exact HO186.out))) (Sq.c2 (by (with_reducible repeat (first | apply Sq.a | apply Sq.b | apply Sq.c)); exact HO195.out))) (Sq.c2 (by (with_reducible repeat (first | apply Sq.a | apply Sq.b | apply Sq.c)); exact HO200.out))) (Sq.c2 (by (with_reducible repeat (first | apply Sq.a | apply Sq.b | apply Sq.c)); exact HO210.out))) (Sq.a5 (by repeat (first | (with_reducible first | exact HB.out | apply Sq.i | apply Sq.j | apply Sq.k | refine Sq.h ?_ GE181.out | refine Sq.h ?_ GE182.out | refine Sq.h ?_ GE197.out | refine Sq.h ?_ GE202.out | refine Sq.h ?_ GE212.out) | exact HB.out))))
   have n5_ := Sq.l (Sq.m (g := gb181) (o := .cells #[.slice A0_0 l0_0.length c0_0, .int .i64 a0_1] 60 (0, 0)) (by (with_reducible repeat (first | refine Sq.d ?_ _ | refine Sq.e ?_ | refine Sq.f ?_ _)); exact BK181.out) hb)
   have n6_ := Sq.l (Sq.m (g := gb182) (o := .cells #[.int .i64 a1_0, .int .i64 a1_1, .int .i64 a1_2, .int .i64 a1_3, .bool a1_4] 97 (0, 0)) (by (with_reducible repeat (first | refine Sq.d ?_ _ | refine Sq.e ?_ | refine Sq.f ?_ _)); exact BK182.out) hb)
   have n7_ := Sq.l (Sq.m (g := gb197) (o := .cells #[.slice Ao26 t193.length co26, .int .i64 t196] 65 (0, 0)) (by (with_reducible repeat (first | refine Sq.d ?_ _ | refine Sq.e ?_ | refine Sq.f ?_ _)); exact BK197.out) hb)
   have n8_ := Sq.l (Sq.m (g := gb202) (o := .cells #[.slice Ao34 t198.length co34, .int .i64 t201] 65 (0, 0)) (by (with_reducible repeat (first | refine Sq.d ?_ _ | refine Sq.e ?_ | refine Sq.f ?_ _)); exact BK202.out) hb)
   have n9_ := Sq.l (Sq.m (g := gb212) (o := .cells #[.slice Ao45 t208.length co45, .int .i64 t211] 65 (0, 0)) (by (with_reducible repeat (first | refine Sq.d ?_ _ | refine Sq.e ?_ | refine Sq.f ?_ _)); exact BK212.out) hb)
   have n10_ := Sq.l (Sq.a4 (by repeat (first | (with_reducible first | exact HB.out | apply Sq.i | apply Sq.j | apply Sq.k | refine Sq.h ?_ GE181.out | refine Sq.h ?_ GE182.out | refine Sq.h ?_ GE197.out | refine Sq.h ?_ GE202.out | refine Sq.h ?_ GE212.out) | exact HB.out)) hb)
   clear HO186 HO195 HO200 HO210 BK181 BK182 BK197 BK202 BK212 HB; have HO186 := n0_; have HO195 := n1_; have HO200 := n2_; have HO210 := n3_; have HO216 := n4_; have BK181 := n5_; have BK182 := n6_; have BK197 := n7_; have BK202 := n8_; have BK212 := n9_; have HB := n10_; clear n0_ n1_ n2_ n3_ n4_ n5_ n6_ n7_ n8_ n9_ n10_; (try clear hb); (try clear hb2); (try clear hk); (try clear hi); (try clear ho0)
   obtain ⟨Ao62, co62, eo62⟩ := Kd.R_slice HO216.out
   (first | subst eo62 | (injection eo62 with f1_ f2_ f3_; have f4_ := f1_.symm; have f5_ := f3_.symm; clear f1_ f2_ f3_; subst f4_; subst f5_))
   refine hK.out _ _ ⟨(Sq.o BK202.out 0).trans rfl, (Sq.o BK202.out 1).trans rfl, (Sq.o BK181.out 0).trans rfl, (Sq.o BK181.out 1).trans rfl⟩ (fun hHeld => ?_)
   clear hK K
   refine norm_ (a' := ?_) ?_ ?_
   rotate_left
   ·show Act.put _ (some 35) _ = _
    simp only [Act.put, List.setIfInBounds_toArray, List.set_cons_zero, List.set_cons_succ, i64_w, i32_w]
    rfl
   refine one_ (i := 3) (N := some 36) #[true, true, true, true, false] rfl rfl (by kernel_rfl) (by decide) (fun K hK => ?_)
   refine goes_ Try.func40 (by kernel_rfl) rfl #[.agg #[.slice Ao34 t198.length co34, .int .i64 t201], .agg #[.slice Ao62 t214.length co62, .int .i64 t217]] (by rfl) rfl rfl (by (try simp only [List.map_toArray, List.map_cons, List.map_nil]); first | done | rfl | (simp only [List.length_drop, List.length_take]; rfl)) ?_
   with_reducible refine (laws_eqTlb.calls k _ _ t198 t201 _ _ t214 t217 t218 _ ?side1 ?side2 ?side3 ?side4 A58.out).mono ?_
   (case side1 => repeat (first | exact (Sq.b4 HO200.out).2.2 | (with_reducible refine Sq.s ?_ _) | (with_reducible refine Sq.t ?_ _) | (with_reducible refine Sq.u ?_)))
   (case side2 => exact (Sq.b4 HO200.out).2.1)
   (case side3 => repeat (first | exact (Sq.b4 HO216.out).2.2 | (with_reducible refine Sq.s ?_ _) | (with_reducible refine Sq.t ?_ _) | (with_reducible refine Sq.u ?_)))
   (case side4 => exact (Sq.b4 HO216.out).2.1)
   rintro e w63 ⟨rfl, hb⟩
   refine ⟨_, rfl, ?_⟩
   have n0_ := Sq.l (Sq.n (by (with_reducible repeat (first | apply Sq.a | apply Sq.b | apply Sq.c)); exact HO186.out) hb)
   have n1_ := Sq.l (Sq.n (by (with_reducible repeat (first | apply Sq.a | apply Sq.b | apply Sq.c)); exact HO195.out) hb)
   have n2_ := Sq.l (Sq.n (by (with_reducible repeat (first | apply Sq.a | apply Sq.b | apply Sq.c)); exact HO200.out) hb)
   have n3_ := Sq.l (Sq.n (by (with_reducible repeat (first | apply Sq.a | apply Sq.b | apply Sq.c)); exact HO210.out) hb)
   have n4_ := Sq.l (Sq.n (by (with_reducible repeat (first | apply Sq.a | apply Sq.b | apply Sq.c)); exact HO216.out) hb)
   have n5_ := Sq.l (Sq.m (g := gb181) (o := .cells #[.slice A0_0 l0_0.length c0_0, .int .i64 a0_1] 60 (0, 0)) (by (with_reducible repeat (first | refine Sq.d ?_ _ | refine Sq.e ?_ | refine Sq.f ?_ _)); exact BK181.out) hb)
   have n6_ := Sq.l (Sq.m (g := gb182) (o := .cells #[.int .i64 a1_0, .int .i64 a1_1, .int .i64 a1_2, .int .i64 a1_3, .bool a1_4] 97 (0, 0)) (by (with_reducible repeat (first | refine Sq.d ?_ _ | refine Sq.e ?_ | refine Sq.f ?_ _)); exact BK182.out) hb)
   have n7_ := Sq.l (Sq.m (g := gb197) (o := .cells #[.slice Ao26 t193.length co26, .int .i64 t196] 65 (0, 0)) (by (with_reducible repeat (first | refine Sq.d ?_ _ | refine Sq.e ?_ | refine Sq.f ?_ _)); exact BK197.out) hb)
   have n8_ := Sq.l (Sq.m (g := gb202) (o := .cells #[.slice Ao34 t198.length co34, .int .i64 t201] 65 (0, 0)) (by (with_reducible repeat (first | refine Sq.d ?_ _ | refine Sq.e ?_ | refine Sq.f ?_ _)); exact BK202.out) hb)
   have n9_ := Sq.l (Sq.m (g := gb212) (o := .cells #[.slice Ao45 t208.length co45, .int .i64 t211] 65 (0, 0)) (by (with_reducible repeat (first | refine Sq.d ?_ _ | refine Sq.e ?_ | refine Sq.f ?_ _)); exact BK212.out) hb)
   have n10_ := Sq.l (Sq.a4 (by repeat (first | (with_reducible first | exact HB.out | apply Sq.i | apply Sq.j | apply Sq.k | refine Sq.h ?_ GE181.out | refine Sq.h ?_ GE182.out | refine Sq.h ?_ GE197.out | refine Sq.h ?_ GE202.out | refine Sq.h ?_ GE212.out) | exact HB.out)) hb)
   clear HO186 HO195 HO200 HO210 HO216 BK181 BK182 BK197 BK202 BK212 HB; have HO186 := n0_; have HO195 := n1_; have HO200 := n2_; have HO210 := n3_; have HO216 := n4_; have BK181 := n5_; have BK182 := n6_; have BK197 := n7_; have BK202 := n8_; have BK212 := n9_; have HB := n10_; clear n0_ n1_ n2_ n3_ n4_ n5_ n6_ n7_ n8_ n9_ n10_; (try clear hb); (try clear hb2); (try clear hk); (try clear hi)
   refine hK.out _ _ ⟨(Sq.o BK202.out 0).trans rfl, (Sq.o BK202.out 1).trans rfl, (Sq.o BK181.out 0).trans rfl, (Sq.o BK181.out 1).trans rfl⟩ (fun hHeld => ?_)
   clear hK K
   refine norm_ (a' := ?_) ?_ ?_
   rotate_left
   ·show Act.put _ (some 36) _ = _
    simp only [Act.put, List.setIfInBounds_toArray, List.set_cons_zero, List.set_cons_succ, i64_w, i32_w]
    rfl
   refine pure_ (i := 4) (N := some 37) (v := ?_) (a' := ?_) #[true, true, true, true, true] rfl rfl (by kernel_rfl) (fun _ _ _ h => h) (Or.inl ⟨by rfl, ?_⟩) ?_ ?_
   rotate_left
   ·intro w'
    go_simp
    with_reducible rfl
   rotate_left
   ·simp only [Act.put, List.setIfInBounds_toArray, List.set_cons_zero, List.set_cons_succ, i64_w, i32_w]
    rfl
   refine done_ (by kernel_rfl) ?_
   go_upto_if 37 with (fail)
   have H := HC59.out
   clear HC59
   by_cases c64 : t218 = true
   ·subst c64
    rw [if_pos rfl] at H
    replace H := Option.bind_eq_some_iff.mp H
    obtain ⟨⟨t219, t220⟩, A650, H⟩ := H
    (try dsimp only at H)
    have A65 := Sq.l A650
    clear A650
    have HC66 := Sq.l H
    clear H; have hnb67 := NB202_181.out; have hnc67 := NB181_202.out; have hnb68 := NB202_182.out; have hnc68 := NB182_202.out; have hnb69 := NB202_197.out; have hnc69 := NB197_202.out; have hnb70 := NB202_212.out; have hnc70 := NB212_202.out
    have hcz71_0 : w63.cell? ⟨gb202, 0, none⟩ = some (.slice Ao34 t198.length co34) := (Sq.o BK202.out 0).trans rfl
    have hcz71_1 : w63.cell? ⟨gb202, 1, none⟩ = some (.int .i64 t201) := (Sq.o BK202.out 1).trans rfl
    have hfz71_0 := Sq.r BK202.out 0
    have hfz71_1 := Sq.r BK202.out 1
    go_upto_region 14 with (first | ((with_reducible refine gate_callee (f := 61) rfl ?_); refine goesL_ (some 40) rfl rfl Try.func61 (by kernel_rfl) rfl #[.agg #[.slice Ao34 t198.length co34, .int .i64 t201], .int .i64 1] rfl (by (try simp only [List.map_toArray, List.map_cons, List.map_nil]); first | done | rfl | (simp only [List.length_drop, List.length_take]; rfl)) ?_; (with_reducible refine (laws_markTlb.calls k (fun k_ => some k_ = (.slice Ao34 t198.length co34 : Value).ownBlock) (.slice Ao34 t198.length co34) t198 t201 1 t219 t220 w _ ?side1 ?side2 A65.out).mono ?_); (case side1 => repeat (first | (with_reducible first | exact HB.out | apply Sq.i | apply Sq.j | apply Sq.k | refine Sq.h ?_ GE181.out | refine Sq.h ?_ GE182.out | refine Sq.h ?_ GE197.out | refine Sq.h ?_ GE202.out | refine Sq.h ?_ GE212.out) | exact HB.out)); (case side2 => exact Kd.R_tight rfl HO200.out); rintro e w72 ⟨rfl, hy0, hb, hkp⟩; refine ⟨_, rfl, ?_⟩; have n0_ := Sq.l (blk_kept (by (with_reducible repeat (first | refine Sq.d ?_ _ | refine Sq.e ?_ | refine Sq.f ?_ _)); exact BK181.out) hkp (fun hs_ => (fun e_ => (Kd.R_ne HO200.out BK181.out (by decide)) e_) hs_)); have n1_ := Sq.l (blk_kept (by (with_reducible repeat (first | refine Sq.d ?_ _ | refine Sq.e ?_ | refine Sq.f ?_ _)); exact BK182.out) hkp (fun hs_ => (fun e_ => (Kd.R_ne HO200.out BK182.out (by decide)) e_) hs_)); have n2_ := Sq.l (Sq.a3 (ok' := fun k_ => some k_ ≠ (.slice Ao26 t193.length co26 : Value).ownBlock ∧ some k_ ≠ (.slice Ao34 t198.length co34 : Value).ownBlock ∧ some k_ ≠ (.slice Ao45 t208.length co45 : Value).ownBlock ∧ some k_ ≠ (.slice Ao62 t214.length co62 : Value).ownBlock) (Kd.R_keptB (HO186.out) hkp (fun k_ hk_ hs_ => (hk_.1.2.1) hs_)) (fun k_ hk_ => ⟨hk_.1.1.1, hk_.1.1.2.1, hk_.1.1.2.2, hk_.1.2⟩)); have n3_ := Sq.l (Sq.a3 (ok' := fun k_ => some k_ ≠ (v185 : Value).ownBlock ∧ some k_ ≠ (.slice Ao34 t198.length co34 : Value).ownBlock ∧ some k_ ≠ (.slice Ao45 t208.length co45 : Value).ownBlock ∧ some k_ ≠ (.slice Ao62 t214.length co62 : Value).ownBlock) (Kd.R_keptB (HO195.out) hkp (fun k_ hk_ hs_ => (hk_.1.2.1) hs_)) (fun k_ hk_ => ⟨hk_.1.1.1, hk_.1.1.2.1, hk_.1.1.2.2, hk_.1.2⟩)); have n4_ := Sq.l (blk_kept (by (with_reducible repeat (first | refine Sq.d ?_ _ | refine Sq.e ?_ | refine Sq.f ?_ _)); exact BK197.out) hkp (fun hs_ => (fun e_ => (Kd.R_ne HO200.out BK197.out (by decide)) e_) hs_)); have n5_ := Sq.l (Kd.R_reok rfl hy0 (fun k_ e_ => HO200.out.1 k_ e_)); have n6_ := Sq.l (blk_kept (by (with_reducible repeat (first | refine Sq.d ?_ _ | refine Sq.e ?_ | refine Sq.f ?_ _)); exact BK202.out) hkp (fun hs_ => (fun e_ => (Kd.R_ne HO200.out BK202.out (by decide)) e_) hs_)); have n7_ := Sq.l (Sq.a3 (ok' := fun k_ => some k_ ≠ (v185 : Value).ownBlock ∧ some k_ ≠ (.slice Ao26 t193.length co26 : Value).ownBlock ∧ some k_ ≠ (.slice Ao34 t198.length co34 : Value).ownBlock ∧ some k_ ≠ (.slice Ao62 t214.length co62 : Value).ownBlock) (Kd.R_keptB (HO210.out) hkp (fun k_ hk_ hs_ => (hk_.1.2.2) hs_)) (fun k_ hk_ => ⟨hk_.1.1.1, hk_.1.1.2.1, hk_.1.1.2.2, hk_.1.2⟩)); have n8_ := Sq.l (blk_kept (by (with_reducible repeat (first | refine Sq.d ?_ _ | refine Sq.e ?_ | refine Sq.f ?_ _)); exact BK212.out) hkp (fun hs_ => (fun e_ => (Kd.R_ne HO200.out BK212.out (by decide)) e_) hs_)); have n9_ := Sq.l (Sq.a3 (ok' := fun k_ => some k_ ≠ (v185 : Value).ownBlock ∧ some k_ ≠ (.slice Ao26 t193.length co26 : Value).ownBlock ∧ some k_ ≠ (.slice Ao34 t198.length co34 : Value).ownBlock ∧ some k_ ≠ (.slice Ao45 t208.length co45 : Value).ownBlock) (Kd.R_keptB (HO216.out) hkp (fun k_ hk_ hs_ => (hk_.1.2) hs_)) (fun k_ hk_ => ⟨hk_.1.1.1.1.2, hk_.1.1.1.2, hk_.1.1.2, hk_.1.2⟩)); have n10_ := Sq.l (hb); clear BK181; clear BK182; clear HO186; clear HO195; clear BK197; clear HO200; clear BK202; clear HO210; clear BK212; clear HO216; clear HB; have BK181 := n0_; have BK182 := n1_; have HO186 := n2_; have HO195 := n3_; have BK197 := n4_; have HO200 := n5_; have BK202 := n6_; have HO210 := n7_; have BK212 := n8_; have HO216 := n9_; have HB := n10_; clear n0_ n1_ n2_ n3_ n4_ n5_ n6_ n7_ n8_ n9_ n10_; (try clear hb); (try clear hkp); (try clear hy0)))
    (try simp only [Act.put, List.setIfInBounds_toArray, List.set_cons_zero, List.set_cons_succ])
    go_cut [48] (fun v48 wc => ∃ (kq : Nat) (x48_65 : Bool), v48 = .bool x48_65 ∧ Aside0 (laws_FnExactTlbPut.j0 kq x48_65 l0_0 a0_1 a1_0 a1_1 a1_2 a1_3 a1_4 t193 t196 t208 t211 = some r) ∧ Aside0 (kq ≤ k) ∧ Aside0 (Kd.R k99 99 wc w.heap.size (fun k_ => some k_ ≠ ((.slice Ao34 t198.length co34) : Value).ownBlock ∧ some k_ ≠ ((.slice Ao45 t208.length co45) : Value).ownBlock) (.slice Ao26 t193.length co26) t193) ∧ Aside0 (Kd.R k99 99 wc w.heap.size (fun k_ => some k_ ≠ ((.slice Ao26 t193.length co26) : Value).ownBlock ∧ some k_ ≠ ((.slice Ao45 t208.length co45) : Value).ownBlock) (.slice Ao34 t198.length co34) t220) ∧ Aside0 (Kd.R k99 99 wc w.heap.size (fun k_ => some k_ ≠ ((.slice Ao26 t193.length co26) : Value).ownBlock ∧ some k_ ≠ ((.slice Ao34 t198.length co34) : Value).ownBlock) (.slice Ao45 t208.length co45) t208) ∧ Aside0 (wc.heap[gb181]? = some (.cells #[(.slice A0_0 l0_0.length c0_0), .int .i64 a0_1] 60 (0, 0))) ∧ Aside0 (wc.heap[gb182]? = some (.cells #[.int .i64 a1_0, .int .i64 a1_1, .int .i64 a1_2, .int .i64 a1_3, .bool a1_4] 97 (0, 0))) ∧ Aside0 (wc.heap[gb197]? = some (.cells #[(.slice Ao26 t193.length co26), .int .i64 t196] 65 (0, 0))) ∧ Aside0 (wc.heap[gb202]? = some (.cells #[(.slice Ao34 t198.length co34), .int .i64 t201] 65 (0, 0))) ∧ Aside0 (wc.heap[gb212]? = some (.cells #[(.slice Ao45 t208.length co45), .int .i64 t211] 65 (0, 0))) ∧ Aside0 (Below w.heap.size w wc))
    case first =>
     have H := HC66.out
     clear HC66
     by_cases c73 : t219 < 0
     ·rw [if_pos c73] at H
      have c73b0 : decide (t219 < 0) = true := decide_eq_true c73
      clear c73
      (first | rw [c73b0] | (simp only [i64_w, i32_w]; rw [c73b0]) | skip)
      have H' := Sq.l H
      clear H
      go_wp2
      go_meet
      case rel => exact ⟨_, (true), (by first | rfl | (simp; done) | (simp [*]; done)), H', ⟨by first | omega | exact Nat.le_refl _⟩, ⟨by (with_reducible repeat (first | apply Sq.a | apply Sq.b | apply Sq.c)); exact Sq.a3 HO195.out (fun _ hk => ⟨hk.2.1, hk.2.2.1⟩)⟩, ⟨by (with_reducible repeat (first | apply Sq.a | apply Sq.b | apply Sq.c)); exact Sq.a3 HO200.out (fun _ hk => ⟨hk.1.2.1, hk.1.2.2⟩)⟩, ⟨by (with_reducible repeat (first | apply Sq.a | apply Sq.b | apply Sq.c)); exact Sq.a3 HO210.out (fun _ hk => ⟨hk.2.1, hk.2.2.1⟩)⟩, ⟨by (with_reducible repeat (first | refine Sq.d ?_ _ | refine Sq.e ?_ | refine Sq.f ?_ _)); exact BK181.out⟩, ⟨by (with_reducible repeat (first | refine Sq.d ?_ _ | refine Sq.e ?_ | refine Sq.f ?_ _)); exact BK182.out⟩, ⟨by (with_reducible repeat (first | refine Sq.d ?_ _ | refine Sq.e ?_ | refine Sq.f ?_ _)); exact BK197.out⟩, ⟨by (with_reducible repeat (first | refine Sq.d ?_ _ | refine Sq.e ?_ | refine Sq.f ?_ _)); exact BK202.out⟩, ⟨by (with_reducible repeat (first | refine Sq.d ?_ _ | refine Sq.e ?_ | refine Sq.f ?_ _)); exact BK212.out⟩, ⟨by repeat (first | (with_reducible first | exact HB.out | apply Sq.i | apply Sq.j | apply Sq.k | refine Sq.h ?_ GE181.out | refine Sq.h ?_ GE182.out | refine Sq.h ?_ GE197.out | refine Sq.h ?_ GE202.out | refine Sq.h ?_ GE212.out) | exact HB.out)⟩⟩
     ·rw [if_neg c73] at H
      have c73b0 : decide (t219 < 0) = false := decide_eq_false c73
      clear c73
      (first | rw [c73b0] | (simp only [i64_w, i32_w]; rw [c73b0]) | skip)
      replace H := Option.bind_eq_some_iff.mp H
      obtain ⟨t221, A740, H⟩ := H
      (try dsimp only at H)
      have A74 := Sq.l A740
      clear A740
      have H' := Sq.l H
      clear H; have hnb75 := NB212_181.out; have hnc75 := NB181_212.out; have hnb76 := NB212_182.out; have hnc76 := NB182_212.out; have hnb77 := NB212_197.out; have hnc77 := NB197_212.out; have hnb78 := NB212_202.out; have hnc78 := NB202_212.out
      have hcz79_0 : w72.cell? ⟨gb212, 0, none⟩ = some (.slice Ao45 t208.length co45) := (Sq.o BK212.out 0).trans rfl
      have hcz79_1 : w72.cell? ⟨gb212, 1, none⟩ = some (.int .i64 t211) := (Sq.o BK212.out 1).trans rfl
      have hfz79_0 := Sq.r BK212.out 0
      have hfz79_1 := Sq.r BK212.out 1
      have hnb80 := NB197_181.out; have hnc80 := NB181_197.out; have hnb81 := NB197_182.out; have hnc81 := NB182_197.out; have hnb82 := NB197_202.out; have hnc82 := NB202_197.out
      have hcz83_0 : w72.cell? ⟨gb197, 0, none⟩ = some (.slice Ao26 t193.length co26) := (Sq.o BK197.out 0).trans rfl
      have hcz83_1 : w72.cell? ⟨gb197, 1, none⟩ = some (.int .i64 t196) := (Sq.o BK197.out 1).trans rfl
      have hfz83_0 := Sq.r BK197.out 0
      have hfz83_1 := Sq.r BK197.out 1
      go_wp2_with (first | (go_at_call 40; (with_reducible refine (laws_eqTlb.calls k _ _ t208 t211 _ _ t193 t196 t221 _ ?side1 ?side2 ?side3 ?side4 A74.out).mono ?_); (case side1 => repeat (first | exact (Sq.b4 HO210.out).2.2 | (with_reducible refine Sq.s ?_ _) | (with_reducible refine Sq.t ?_ _) | (with_reducible refine Sq.u ?_))); (case side2 => exact (Sq.b4 HO210.out).2.1); (case side3 => repeat (first | exact (Sq.b4 HO195.out).2.2 | (with_reducible refine Sq.s ?_ _) | (with_reducible refine Sq.t ?_ _) | (with_reducible refine Sq.u ?_))); (case side4 => exact (Sq.b4 HO195.out).2.1); rintro e w84 ⟨rfl, hb⟩; have n0_ := Sq.l (Sq.n (by (with_reducible repeat (first | apply Sq.a | apply Sq.b | apply Sq.c)); exact HO186.out) hb); have n1_ := Sq.l (Sq.n (by (with_reducible repeat (first | apply Sq.a | apply Sq.b | apply Sq.c)); exact HO195.out) hb); have n2_ := Sq.l (Sq.n (by (with_reducible repeat (first | apply Sq.a | apply Sq.b | apply Sq.c)); exact HO200.out) hb); have n3_ := Sq.l (Sq.n (by (with_reducible repeat (first | apply Sq.a | apply Sq.b | apply Sq.c)); exact HO210.out) hb); have n4_ := Sq.l (Sq.n (by (with_reducible repeat (first | apply Sq.a | apply Sq.b | apply Sq.c)); exact HO216.out) hb); have n5_ := Sq.l (Sq.m (g := gb181) (o := .cells #[.slice A0_0 l0_0.length c0_0, .int .i64 a0_1] 60 (0, 0)) (by (with_reducible repeat (first | refine Sq.d ?_ _ | refine Sq.e ?_ | refine Sq.f ?_ _)); exact BK181.out) hb); have n6_ := Sq.l (Sq.m (g := gb182) (o := .cells #[.int .i64 a1_0, .int .i64 a1_1, .int .i64 a1_2, .int .i64 a1_3, .bool a1_4] 97 (0, 0)) (by (with_reducible repeat (first | refine Sq.d ?_ _ | refine Sq.e ?_ | refine Sq.f ?_ _)); exact BK182.out) hb); have n7_ := Sq.l (Sq.m (g := gb197) (o := .cells #[.slice Ao26 t193.length co26, .int .i64 t196] 65 (0, 0)) (by (with_reducible repeat (first | refine Sq.d ?_ _ | refine Sq.e ?_ | refine Sq.f ?_ _)); exact BK197.out) hb); have n8_ := Sq.l (Sq.m (g := gb202) (o := .cells #[.slice Ao34 t198.length co34, .int .i64 t201] 65 (0, 0)) (by (with_reducible repeat (first | refine Sq.d ?_ _ | refine Sq.e ?_ | refine Sq.f ?_ _)); exact BK202.out) hb); have n9_ := Sq.l (Sq.m (g := gb212) (o := .cells #[.slice Ao45 t208.length co45, .int .i64 t211] 65 (0, 0)) (by (with_reducible repeat (first | refine Sq.d ?_ _ | refine Sq.e ?_ | refine Sq.f ?_ _)); exact BK212.out) hb); have n10_ := Sq.l (Sq.a4 (by repeat (first | (with_reducible first | exact HB.out | apply Sq.i | apply Sq.j | apply Sq.k | refine Sq.h ?_ GE181.out | refine Sq.h ?_ GE182.out | refine Sq.h ?_ GE197.out | refine Sq.h ?_ GE202.out | refine Sq.h ?_ GE212.out) | exact HB.out)) hb); clear HO186; clear HO195; clear HO200; clear HO210; clear HO216; clear BK181; clear BK182; clear BK197; clear BK202; clear BK212; clear HB; have HO186 := n0_; have HO195 := n1_; have HO200 := n2_; have HO210 := n3_; have HO216 := n4_; have BK181 := n5_; have BK182 := n6_; have BK197 := n7_; have BK202 := n8_; have BK212 := n9_; have HB := n10_; clear n0_ n1_ n2_ n3_ n4_ n5_ n6_ n7_ n8_ n9_ n10_; (try clear hb); (try clear hb2); (try clear hk); (try clear hi)))
      go_meet
      case rel => exact ⟨_, (!t221), (by first | rfl | (simp; done) | (simp [*]; done)), H', ⟨by first | omega | exact Nat.le_refl _⟩, ⟨by (with_reducible repeat (first | apply Sq.a | apply Sq.b | apply Sq.c)); exact Sq.a3 HO195.out (fun _ hk => ⟨hk.2.1, hk.2.2.1⟩)⟩, ⟨by (with_reducible repeat (first | apply Sq.a | apply Sq.b | apply Sq.c)); exact Sq.a3 HO200.out (fun _ hk => ⟨hk.1.2.1, hk.1.2.2⟩)⟩, ⟨by (with_reducible repeat (first | apply Sq.a | apply Sq.b | apply Sq.c)); exact Sq.a3 HO210.out (fun _ hk => ⟨hk.2.1, hk.2.2.1⟩)⟩, ⟨by (with_reducible repeat (first | refine Sq.d ?_ _ | refine Sq.e ?_ | refine Sq.f ?_ _)); exact BK181.out⟩, ⟨by (with_reducible repeat (first | refine Sq.d ?_ _ | refine Sq.e ?_ | refine Sq.f ?_ _)); exact BK182.out⟩, ⟨by (with_reducible repeat (first | refine Sq.d ?_ _ | refine Sq.e ?_ | refine Sq.f ?_ _)); exact BK197.out⟩, ⟨by (with_reducible repeat (first | refine Sq.d ?_ _ | refine Sq.e ?_ | refine Sq.f ?_ _)); exact BK202.out⟩, ⟨by (with_reducible repeat (first | refine Sq.d ?_ _ | refine Sq.e ?_ | refine Sq.f ?_ _)); exact BK212.out⟩, ⟨by repeat (first | (with_reducible first | exact HB.out | apply Sq.i | apply Sq.j | apply Sq.k | refine Sq.h ?_ GE181.out | refine Sq.h ?_ GE182.out | refine Sq.h ?_ GE197.out | refine Sq.h ?_ GE202.out | refine Sq.h ?_ GE212.out) | exact HB.out)⟩⟩
    case rest =>
     clear HC66; try clear p2; try clear c3; try clear c4; try clear c5; try clear c6; try clear c7; try clear c8; try clear c38; try clear c40; try clear c48; try clear c49; try clear c50; try clear c51; try clear c53; try clear c56; try clear c59; try clear c60; try clear c61; try clear c64; try clear c67; try clear c68; try clear c69; try clear c70; try clear c73; try clear c73b0; try clear c75; try clear c76; try clear c77; try clear c78; try clear c80; try clear c81; try clear c82; try clear hcz52_0; try clear hcz52_1; try clear hcz54_0; try clear hcz54_1; try clear hcz71_0; try clear hcz71_1; try clear hcz79_0; try clear hcz79_1; try clear hcz83_0; try clear hcz83_1; try clear hfz52_0; try clear hfz52_1; try clear hfz54_0; try clear hfz54_1; try clear hfz71_0; try clear hfz71_1; try clear hfz79_0; try clear hfz79_1; try clear hfz83_0; try clear hfz83_1
     obtain ⟨kq, x48_65, rfl, HA, HJ65, HO_198000, HO_203000, HO_213000, BK181, BK182, BK197, BK202, BK212, HB⟩ := hcut
     have hl203000_65 := (Sq.b4 HO_203000.out).1
     rw [hl203000_65] at HO_203000
     (try simp only [hl203000_65])
     (try simp only [hl203000_65] at BK181)
     (try simp only [hl203000_65] at BK182)
     (try simp only [hl203000_65] at BK197)
     (try simp only [hl203000_65] at BK202)
     (try simp only [hl203000_65] at BK212)
     (try simp only [hl203000_65] at HO_198000)
     (try simp only [hl203000_65] at HO_213000)
     cases kq with
     | zero => exact absurd HA.out (by simp [laws_FnExactTlbPut.j0])
     | succ kj65 =>
      have H := HA.out
      clear HA
      simp only [laws_FnExactTlbPut.j0] at H
      have HC85 := Sq.l H
      clear H
      go_upto_if 48 with (fail)
      have H := HC85.out
      clear HC85
      by_cases c86 : x48_65 = true
      ·subst c86
       rw [if_pos rfl] at H
       obtain rfl := Option.some.inj H
       go_wp2
       go_ret
       exact ⟨by first | rfl | (simp [errW_none, errW_some] <;> rfl) | (simp [*, errW_none, errW_some] <;> rfl), by repeat (first | (with_reducible first | exact HB.out | apply Sq.i | apply Sq.j | apply Sq.k | refine Sq.h ?_ GE181.out | refine Sq.h ?_ GE182.out | refine Sq.h ?_ GE197.out | refine Sq.h ?_ GE202.out | refine Sq.h ?_ GE212.out) | exact HB.out)⟩
      ·replace c86 := Bool.eq_false_iff.mpr c86
       subst c86
       rw [if_neg (show ¬ (false = true) by decide)] at H
       replace H := Option.bind_eq_some_iff.mp H
       obtain ⟨⟨t222, t223⟩, A870, H⟩ := H
       (try dsimp only at H)
       have A87 := Sq.l A870
       clear A870
       replace H := Option.bind_eq_some_iff.mp H
       obtain ⟨t224, A880, H⟩ := H
       (try dsimp only at H)
       have A88 := Sq.l A880
       clear A880
       have HC89 := Sq.l H
       clear H; have hnb90 := NB212_181.out; have hnc90 := NB181_212.out; have hnb91 := NB212_182.out; have hnc91 := NB182_212.out; have hnb92 := NB212_197.out; have hnc92 := NB197_212.out; have hnb93 := NB212_202.out; have hnc93 := NB202_212.out
       have hcz94_0 : wc.cell? ⟨gb212, 0, none⟩ = some (.slice Ao45 t208.length co45) := (Sq.o BK212.out 0).trans rfl
       have hcz94_1 : wc.cell? ⟨gb212, 1, none⟩ = some (.int .i64 t211) := (Sq.o BK212.out 1).trans rfl
       have hfz94_0 := Sq.r BK212.out 0
       have hfz94_1 := Sq.r BK212.out 1
       go_upto_if 56 with (first | ((with_reducible refine gate_callee (f := 61) rfl ?_); refine goesL_ (some 51) rfl rfl Try.func61 (by kernel_rfl) rfl #[.agg #[.slice Ao45 t208.length co45, .int .i64 t211], .int .i64 1] rfl (by (try simp only [List.map_toArray, List.map_cons, List.map_nil]); first | done | rfl | (simp only [List.length_drop, List.length_take]; rfl)) ?_; (with_reducible refine (laws_markTlb.calls kj65 (fun k_ => some k_ = (.slice Ao45 t208.length co45 : Value).ownBlock) (.slice Ao45 t208.length co45) t208 t211 1 t222 t223 w _ ?side1 ?side2 A87.out).mono ?_); (case side1 => repeat (first | (with_reducible first | exact HB.out | apply Sq.i | apply Sq.j | apply Sq.k | refine Sq.h ?_ GE181.out | refine Sq.h ?_ GE182.out | refine Sq.h ?_ GE197.out | refine Sq.h ?_ GE202.out | refine Sq.h ?_ GE212.out) | exact HB.out)); (case side2 => exact Kd.R_tight rfl HO_213000.out); rintro e w95 ⟨rfl, hy0, hb, hkp⟩; refine ⟨_, rfl, ?_⟩; have n0_ := Sq.l (Sq.a3 (ok' := fun k_ => some k_ ≠ (.slice Ao34 t220.length co34 : Value).ownBlock ∧ some k_ ≠ (.slice Ao45 t208.length co45 : Value).ownBlock) (Kd.R_keptB (HO_198000.out) hkp (fun k_ hk_ hs_ => (hk_.2) hs_)) (fun k_ hk_ => ⟨hk_.1.1, hk_.1.2⟩)); have n1_ := Sq.l (Sq.a3 (ok' := fun k_ => some k_ ≠ (.slice Ao26 t193.length co26 : Value).ownBlock ∧ some k_ ≠ (.slice Ao45 t208.length co45 : Value).ownBlock) (Kd.R_keptB (HO_203000.out) hkp (fun k_ hk_ hs_ => (hk_.2) hs_)) (fun k_ hk_ => ⟨hk_.1.1, hk_.1.2⟩)); have n2_ := Sq.l (Kd.R_reok rfl hy0 (fun k_ e_ => HO_213000.out.1 k_ e_)); have n3_ := Sq.l (blk_kept (by (with_reducible repeat (first | refine Sq.d ?_ _ | refine Sq.e ?_ | refine Sq.f ?_ _)); exact BK181.out) hkp (fun hs_ => (fun e_ => (Kd.R_ne HO_213000.out BK181.out (by decide)) e_) hs_)); have n4_ := Sq.l (blk_kept (by (with_reducible repeat (first | refine Sq.d ?_ _ | refine Sq.e ?_ | refine Sq.f ?_ _)); exact BK182.out) hkp (fun hs_ => (fun e_ => (Kd.R_ne HO_213000.out BK182.out (by decide)) e_) hs_)); have n5_ := Sq.l (blk_kept (by (with_reducible repeat (first | refine Sq.d ?_ _ | refine Sq.e ?_ | refine Sq.f ?_ _)); exact BK197.out) hkp (fun hs_ => (fun e_ => (Kd.R_ne HO_213000.out BK197.out (by decide)) e_) hs_)); have n6_ := Sq.l (blk_kept (by (with_reducible repeat (first | refine Sq.d ?_ _ | refine Sq.e ?_ | refine Sq.f ?_ _)); exact BK202.out) hkp (fun hs_ => (fun e_ => (Kd.R_ne HO_213000.out BK202.out (by decide)) e_) hs_)); have n7_ := Sq.l (blk_kept (by (with_reducible repeat (first | refine Sq.d ?_ _ | refine Sq.e ?_ | refine Sq.f ?_ _)); exact BK212.out) hkp (fun hs_ => (fun e_ => (Kd.R_ne HO_213000.out BK212.out (by decide)) e_) hs_)); have n8_ := Sq.l (hb); clear HO_198000; clear HO_203000; clear HO_213000; clear BK181; clear BK182; clear BK197; clear BK202; clear BK212; clear HB; have HO_198000 := n0_; have HO_203000 := n1_; have HO_213000 := n2_; have BK181 := n3_; have BK182 := n4_; have BK197 := n5_; have BK202 := n6_; have BK212 := n7_; have HB := n8_; clear n0_ n1_ n2_ n3_ n4_ n5_ n6_ n7_ n8_; (try clear hb); (try clear hkp); (try clear hy0); have hcz96_0 : w95.cell? ⟨gb212, 0, none⟩ = some (.slice Ao45 t208.length co45) := (Sq.o BK212.out 0).trans rfl; have hcz96_1 : w95.cell? ⟨gb212, 1, none⟩ = some (.int .i64 t211) := (Sq.o BK212.out 1).trans rfl; have hfz96_0 := Sq.r BK212.out 0; have hfz96_1 := Sq.r BK212.out 1) | ((with_reducible refine gate_callee (f := 62) rfl ?_); refine goesL_ (some 54) rfl rfl Try.func62 (by kernel_rfl) rfl #[.agg #[.slice Ao45 t223.length co45, .int .i64 t211], .int .i64 1] rfl (by (try simp only [List.map_toArray, List.map_cons, List.map_nil]); first | done | (rw [show t223.length = t208.length from (Sq.b4 HO_213000.out).1.symm] <;> rfl) | rfl | (simp only [List.length_drop, List.length_take]; rfl)) ?_; (with_reducible refine (laws_heldTlb.calls kj65 _ _ t223 t211 1 t224 _ ?side1 ?side2 A88.out).mono ?_); (case side1 => repeat (first | exact (Sq.b4 HO_213000.out).2.2 | (with_reducible refine Sq.s ?_ _) | (with_reducible refine Sq.t ?_ _) | (with_reducible refine Sq.u ?_))); (case side2 => rw [show t223.length = t208.length from (Sq.b4 HO_213000.out).1.symm]; exact (Sq.b4 HO_213000.out).2.1); rintro e w97 ⟨rfl, hb⟩; refine ⟨_, rfl, ?_⟩; have n0_ := Sq.l (Sq.n (by (with_reducible repeat (first | apply Sq.a | apply Sq.b | apply Sq.c)); exact HO_198000.out) hb); have n1_ := Sq.l (Sq.n (by (with_reducible repeat (first | apply Sq.a | apply Sq.b | apply Sq.c)); exact HO_203000.out) hb); have n2_ := Sq.l (Sq.n (by (with_reducible repeat (first | apply Sq.a | apply Sq.b | apply Sq.c)); exact HO_213000.out) hb); have n3_ := Sq.l (Sq.m (g := gb181) (o := .cells #[.slice A0_0 l0_0.length c0_0, .int .i64 a0_1] 60 (0, 0)) (by (with_reducible repeat (first | refine Sq.d ?_ _ | refine Sq.e ?_ | refine Sq.f ?_ _)); exact BK181.out) hb); have n4_ := Sq.l (Sq.m (g := gb182) (o := .cells #[.int .i64 a1_0, .int .i64 a1_1, .int .i64 a1_2, .int .i64 a1_3, .bool a1_4] 97 (0, 0)) (by (with_reducible repeat (first | refine Sq.d ?_ _ | refine Sq.e ?_ | refine Sq.f ?_ _)); exact BK182.out) hb); have n5_ := Sq.l (Sq.m (g := gb197) (o := .cells #[.slice Ao26 t193.length co26, .int .i64 t196] 65 (0, 0)) (by (with_reducible repeat (first | refine Sq.d ?_ _ | refine Sq.e ?_ | refine Sq.f ?_ _)); exact BK197.out) hb); have n6_ := Sq.l (Sq.m (g := gb202) (o := .cells #[.slice Ao34 t220.length co34, .int .i64 t201] 65 (0, 0)) (by (with_reducible repeat (first | refine Sq.d ?_ _ | refine Sq.e ?_ | refine Sq.f ?_ _)); exact BK202.out) hb); have n7_ := Sq.l (Sq.m (g := gb212) (o := .cells #[.slice Ao45 t208.length co45, .int .i64 t211] 65 (0, 0)) (by (with_reducible repeat (first | refine Sq.d ?_ _ | refine Sq.e ?_ | refine Sq.f ?_ _)); exact BK212.out) hb); have n8_ := Sq.l (Sq.a4 (by repeat (first | (with_reducible first | exact HB.out | apply Sq.i | apply Sq.j | apply Sq.k | refine Sq.h ?_ GE181.out | refine Sq.h ?_ GE182.out | refine Sq.h ?_ GE197.out | refine Sq.h ?_ GE202.out | refine Sq.h ?_ GE212.out) | exact HB.out)) hb); clear HO_198000; clear HO_203000; clear HO_213000; clear BK181; clear BK182; clear BK197; clear BK202; clear BK212; clear HB; have HO_198000 := n0_; have HO_203000 := n1_; have HO_213000 := n2_; have BK181 := n3_; have BK182 := n4_; have BK197 := n5_; have BK202 := n6_; have BK212 := n7_; have HB := n8_; clear n0_ n1_ n2_ n3_ n4_ n5_ n6_ n7_ n8_; (try clear hb); (try clear hb2); (try clear hk); (try clear hi)))
       (try simp only [Act.put, List.setIfInBounds_toArray, List.set_cons_zero, List.set_cons_succ])
       have H := HC89.out
       clear HC89
       by_cases c98 : t224 < 0
       ·rw [if_pos c98] at H
        have c98b0 : decide (t224 < 0) = true := decide_eq_true c98
        clear c98
        (first | rw [c98b0] | (simp only [i64_w, i32_w]; rw [c98b0]) | skip)
        obtain rfl := Option.some.inj H
        go_wp2
        go_ret
        exact ⟨by first | rfl | (simp [errW_none, errW_some] <;> rfl) | (simp [*, errW_none, errW_some] <;> rfl), by repeat (first | (with_reducible first | exact HB.out | apply Sq.i | apply Sq.j | apply Sq.k | refine Sq.h ?_ GE181.out | refine Sq.h ?_ GE182.out | refine Sq.h ?_ GE197.out | refine Sq.h ?_ GE202.out | refine Sq.h ?_ GE212.out) | exact HB.out)⟩
       ·rw [if_neg c98] at H
        have c98b0 : decide (t224 < 0) = false := decide_eq_false c98
        clear c98
        (first | rw [c98b0] | (simp only [i64_w, i32_w]; rw [c98b0]) | skip)
        have HC99 := Sq.l H
        clear H
        go_upto_if 59 with (fail)
        have H := HC99.out
        clear HC99
        by_cases c100 : t224 = t222
        ·rw [if_pos c100] at H
         have c100b0 : (t224 == t222) = true := beq_iff_eq.mpr c100
         have c100b1 : (t224 != t222) = false := bne_eq_false_iff_eq.mpr c100
         clear c100
         (first | rw [c100b0] | (simp only [i64_w, i32_w]; rw [c100b0]) | skip)
         replace H := Option.bind_eq_some_iff.mp H
         obtain ⟨⟨t225, t228⟩, A1010, H⟩ := H
         (try dsimp only at H)
         have A101 := Sq.l A1010
         clear A1010
         replace H := Option.bind_eq_some_iff.mp H
         obtain ⟨⟨t229, t230, t231, t232, t233⟩, A1020, H⟩ := H
         (try dsimp only at H)
         have A102 := Sq.l A1020
         clear A1020
         replace H := Option.bind_eq_some_iff.mp H
         obtain ⟨⟨t234, t237⟩, A1030, H⟩ := H
         (try dsimp only at H)
         have A103 := Sq.l A1030
         clear A1030
         replace H := Option.bind_eq_some_iff.mp H
         obtain ⟨t239, A1040, H⟩ := H
         (try dsimp only at H)
         have A104 := Sq.l A1040
         clear A1040
         have HC105 := Sq.l H
         clear H
         try go_wp2
         have n0_ := Sq.l (Sq.c HO_198000.out)
         have n1_ := Sq.l (Sq.c HO_203000.out)
         have n2_ := Sq.l (Sq.c HO_213000.out)
         have n3_ := Sq.l (Sq.e BK181.out)
         have n4_ := Sq.l (Sq.e BK182.out)
         have n5_ := Sq.l (Sq.e BK197.out)
         have n6_ := Sq.l (Sq.e BK202.out)
         have n7_ := Sq.l (Sq.e BK212.out)
         have n8_ := Sq.l (Sq.k HB.out)
         clear HO_198000 HO_203000 HO_213000 BK181 BK182 BK197 BK202 BK212 HB; have HO_198000 := n0_; have HO_203000 := n1_; have HO_213000 := n2_; have BK181 := n3_; have BK182 := n4_; have BK197 := n5_; have BK202 := n6_; have BK212 := n7_; have HB := n8_; clear n0_ n1_ n2_ n3_ n4_ n5_ n6_ n7_ n8_
         refine start_ (n := 7) (S := fun w' => w'.cell? ⟨gb181, 0, none⟩ = some (.slice A0_0 l0_0.length c0_0) ∧ w'.cell? ⟨gb181, 1, none⟩ = some (.int .i64 a0_1) ∧ w'.cell? ⟨gb182, 0, none⟩ = some (.int .i64 a1_0) ∧ w'.cell? ⟨gb182, 1, none⟩ = some (.int .i64 a1_1) ∧ w'.cell? ⟨gb182, 2, none⟩ = some (.int .i64 a1_2) ∧ w'.cell? ⟨gb182, 3, none⟩ = some (.int .i64 a1_3) ∧ w'.cell? ⟨gb182, 4, none⟩ = some (.bool a1_4)) (ds := []) #[false, false, false, false, false, false, false] (by kernel_rfl) rfl rfl ⟨(Sq.o BK181.out 0).trans rfl, (Sq.o BK181.out 1).trans rfl, (Sq.o BK182.out 0).trans rfl, (Sq.o BK182.out 1).trans rfl, (Sq.o BK182.out 2).trans rfl, (Sq.o BK182.out 3).trans rfl, (Sq.o BK182.out 4).trans rfl⟩ (fun hHeld => ?_)
         generalize w97.drew = w106 at HO_198000 HO_203000 HO_213000 BK181 BK182 BK197 BK202 BK212 HB hHeld ⊢
         refine take_ (i := 0) (N := some 60) (v := ?_) (a' := ?_) #[true, false, false, false, false, false, false] rfl rfl (by kernel_rfl) (fun _ _ _ h => h) (Or.inl ⟨by rfl, ?_⟩) hHeld ?_ ?_
         rotate_left
         ·rintro w' ⟨s0, s1, s2, s3, s4, s5, s6⟩
          go_simp
          with_reducible rfl
         rotate_left
         ·simp only [Act.put, List.setIfInBounds_toArray, List.set_cons_zero, List.set_cons_succ, i64_w, i32_w]
          rfl
         refine take_ (i := 2) (N := some 62) (v := ?_) (a' := ?_) #[true, false, true, false, false, false, false] rfl rfl (by kernel_rfl) (fun _ _ _ h => h) (Or.inl ⟨by rfl, ?_⟩) hHeld ?_ ?_
         rotate_left
         ·rintro w' ⟨s0, s1, s2, s3, s4, s5, s6⟩
          go_simp
          with_reducible rfl
         rotate_left
         ·simp only [Act.put, List.setIfInBounds_toArray, List.set_cons_zero, List.set_cons_succ, i64_w, i32_w]
          rfl
         refine join_ (σ := Value × Value × Nat) 1 #[true, true, true, true, true, true, false] (fun s_ => [(61, .agg #[s_.1, .int .i64 t228]), (63, .agg #[.int .i64 t229, .int .i64 t230, .int .i64 t231, .int .i64 t232, .bool t233]), (64, .agg #[s_.2.1, .int .i64 t237]), (12, .pointer (some ⟨s_.2.2, 0, none⟩))]) (fun s_ w' => (w'.cell? ⟨gb181, 0, none⟩ = some (.slice A0_0 l0_0.length c0_0) ∧ w'.cell? ⟨gb181, 1, none⟩ = some (.int .i64 a0_1) ∧ w'.cell? ⟨gb182, 0, none⟩ = some (.int .i64 a1_0) ∧ w'.cell? ⟨gb182, 1, none⟩ = some (.int .i64 a1_1) ∧ w'.cell? ⟨gb182, 2, none⟩ = some (.int .i64 a1_2) ∧ w'.cell? ⟨gb182, 3, none⟩ = some (.int .i64 a1_3) ∧ w'.cell? ⟨gb182, 4, none⟩ = some (.bool a1_4)) ∧ (Kd.R k99 99 w' w.heap.size (fun k_ => some k_ ≠ (s_.2.1 : Value).ownBlock ∧ some k_ ≠ (.slice Ao26 t193.length co26 : Value).ownBlock ∧ some k_ ≠ (.slice Ao34 t220.length co34 : Value).ownBlock ∧ some k_ ≠ (.slice Ao45 t208.length co45 : Value).ownBlock) s_.1 t225) ∧ (Kd.R k99 99 w' w.heap.size (fun k_ => some k_ ≠ (s_.1 : Value).ownBlock ∧ some k_ ≠ (.slice Ao26 t193.length co26 : Value).ownBlock ∧ some k_ ≠ (.slice Ao34 t220.length co34 : Value).ownBlock ∧ some k_ ≠ (.slice Ao45 t208.length co45 : Value).ownBlock) s_.2.1 t234) ∧ (Kd.R k99 99 w' w.heap.size (fun k_ => some k_ ≠ (s_.1 : Value).ownBlock ∧ some k_ ≠ (s_.2.1 : Value).ownBlock ∧ some k_ ≠ (.slice Ao34 t220.length co34 : Value).ownBlock ∧ some k_ ≠ (.slice Ao45 t208.length co45 : Value).ownBlock) (.slice Ao26 t193.length co26) t193) ∧ (Kd.R k99 99 w' w.heap.size (fun k_ => some k_ ≠ (s_.1 : Value).ownBlock ∧ some k_ ≠ (s_.2.1 : Value).ownBlock ∧ some k_ ≠ (.slice Ao26 t193.length co26 : Value).ownBlock ∧ some k_ ≠ (.slice Ao45 t208.length co45 : Value).ownBlock) (.slice Ao34 t220.length co34) t220) ∧ (Kd.R k99 99 w' w.heap.size (fun k_ => some k_ ≠ (s_.1 : Value).ownBlock ∧ some k_ ≠ (s_.2.1 : Value).ownBlock ∧ some k_ ≠ (.slice Ao26 t193.length co26 : Value).ownBlock ∧ some k_ ≠ (.slice Ao34 t220.length co34 : Value).ownBlock) (.slice Ao45 t208.length co45) t223) ∧ (w'.heap[gb181]? = some (.cells #[.slice A0_0 l0_0.length c0_0, .int .i64 a0_1] 60 (0, 0))) ∧ (w'.heap[gb182]? = some (.cells #[.int .i64 a1_0, .int .i64 a1_1, .int .i64 a1_2, .int .i64 a1_3, .bool a1_4] 97 (0, 0))) ∧ (w'.heap[gb197]? = some (.cells #[.slice Ao26 t193.length co26, .int .i64 t196] 65 (0, 0))) ∧ (w'.heap[gb202]? = some (.cells #[.slice Ao34 t220.length co34, .int .i64 t201] 65 (0, 0))) ∧ (w'.heap[gb212]? = some (.cells #[.slice Ao45 t208.length co45, .int .i64 t211] 65 (0, 0))) ∧ (w'.heap[s_.2.2]? = some (.cells #[.slice none 0 0, .int .i64 0] 65 (0, 0))) ∧ (w.heap.size ≤ s_.2.2) ∧ (w.heap.size ≤ s_.2.2) ∧ (gb181 ≠ s_.2.2) ∧ (s_.2.2 ≠ gb181) ∧ (gb182 ≠ s_.2.2) ∧ (s_.2.2 ≠ gb182) ∧ (gb197 ≠ s_.2.2) ∧ (s_.2.2 ≠ gb197) ∧ (gb202 ≠ s_.2.2) ∧ (s_.2.2 ≠ gb202) ∧ (gb212 ≠ s_.2.2) ∧ (s_.2.2 ≠ gb212) ∧ (Below w.heap.size w w')) ?_ ?_
         rotate_left
         ·intro hCont
          refine two_ (i := 1) (j := 5) (Ni := some 61) (Nj := some 12) #[true, true, true, false, false, false, false] #[true, false, true, false, false, true, false] rfl rfl rfl rfl (by kernel_rfl) (by decide) (by decide) (fun K hK => ?_) (fun K hK => ?_)
          ·skip
           refine goes_ Try.func38 (by kernel_rfl) rfl #[.agg #[.slice A0_0 l0_0.length c0_0, .int .i64 a0_1]] (by rfl) rfl rfl (by (try simp only [List.map_toArray, List.map_cons, List.map_nil]); first | done | rfl | (simp only [List.length_drop, List.length_take]; rfl)) ?_
           with_reducible refine (laws_toTlb.calls kj65 _ _ l0_0 a0_1 t225 t228 _ ?side1 ?side2 A101.out).mono ?_
           (case side1 => repeat (first | exact (Sq.a1 HR0_0.out HB.out) | (with_reducible refine Sq.s ?_ _) | (with_reducible refine Sq.t ?_ _) | (with_reducible refine Sq.u ?_)))
           (case side2 => exact HC0_0.out)
           rintro e w107 ⟨v226, rfl, ho0, hb⟩
           refine ⟨_, rfl, ?_⟩
           have n0_ := Sq.l (Sq.p (by (with_reducible repeat (first | apply Sq.a | apply Sq.b | apply Sq.c)); exact HO_198000.out) (Sq.b7 ho0) hb)
           have n1_ := Sq.l (Sq.p (by (with_reducible repeat (first | apply Sq.a | apply Sq.b | apply Sq.c)); exact HO_203000.out) (Sq.b7 ho0) hb)
           have n2_ := Sq.l (Sq.p (by (with_reducible repeat (first | apply Sq.a | apply Sq.b | apply Sq.c)); exact HO_213000.out) (Sq.b7 ho0) hb)
           have n3_ := Sq.l (Sq.a2 (Sq.c1 (Sq.c1 (Sq.c1 ho0 (Sq.c2 (by (with_reducible repeat (first | apply Sq.a | apply Sq.b | apply Sq.c)); exact HO_198000.out))) (Sq.c2 (by (with_reducible repeat (first | apply Sq.a | apply Sq.b | apply Sq.c)); exact HO_203000.out))) (Sq.c2 (by (with_reducible repeat (first | apply Sq.a | apply Sq.b | apply Sq.c)); exact HO_213000.out))) (Sq.a5 (by repeat (first | (with_reducible first | exact HB.out | apply Sq.i | apply Sq.j | apply Sq.k | refine Sq.h ?_ GE181.out | refine Sq.h ?_ GE182.out | refine Sq.h ?_ GE197.out | refine Sq.h ?_ GE202.out | refine Sq.h ?_ GE212.out) | exact HB.out))))
           have n4_ := Sq.l (Sq.m (g := gb181) (o := .cells #[.slice A0_0 l0_0.length c0_0, .int .i64 a0_1] 60 (0, 0)) (by (with_reducible repeat (first | refine Sq.d ?_ _ | refine Sq.e ?_ | refine Sq.f ?_ _)); exact BK181.out) hb)
           have n5_ := Sq.l (Sq.m (g := gb182) (o := .cells #[.int .i64 a1_0, .int .i64 a1_1, .int .i64 a1_2, .int .i64 a1_3, .bool a1_4] 97 (0, 0)) (by (with_reducible repeat (first | refine Sq.d ?_ _ | refine Sq.e ?_ | refine Sq.f ?_ _)); exact BK182.out) hb)
           have n6_ := Sq.l (Sq.m (g := gb197) (o := .cells #[.slice Ao26 t193.length co26, .int .i64 t196] 65 (0, 0)) (by (with_reducible repeat (first | refine Sq.d ?_ _ | refine Sq.e ?_ | refine Sq.f ?_ _)); exact BK197.out) hb)
           have n7_ := Sq.l (Sq.m (g := gb202) (o := .cells #[.slice Ao34 t220.length co34, .int .i64 t201] 65 (0, 0)) (by (with_reducible repeat (first | refine Sq.d ?_ _ | refine Sq.e ?_ | refine Sq.f ?_ _)); exact BK202.out) hb)
           have n8_ := Sq.l (Sq.m (g := gb212) (o := .cells #[.slice Ao45 t208.length co45, .int .i64 t211] 65 (0, 0)) (by (with_reducible repeat (first | refine Sq.d ?_ _ | refine Sq.e ?_ | refine Sq.f ?_ _)); exact BK212.out) hb)
           have n9_ := Sq.l (Sq.a4 (by repeat (first | (with_reducible first | exact HB.out | apply Sq.i | apply Sq.j | apply Sq.k | refine Sq.h ?_ GE181.out | refine Sq.h ?_ GE182.out | refine Sq.h ?_ GE197.out | refine Sq.h ?_ GE202.out | refine Sq.h ?_ GE212.out) | exact HB.out)) hb)
           clear HO_198000 HO_203000 HO_213000 BK181 BK182 BK197 BK202 BK212 HB; have HO_198000 := n0_; have HO_203000 := n1_; have HO_213000 := n2_; have HO227 := n3_; have BK181 := n4_; have BK182 := n5_; have BK197 := n6_; have BK202 := n7_; have BK212 := n8_; have HB := n9_; clear n0_ n1_ n2_ n3_ n4_ n5_ n6_ n7_ n8_ n9_; (try clear hb); (try clear hb2); (try clear hk); (try clear hi); (try clear ho0)
           refine hK.out _ _ ⟨(Sq.o BK181.out 0).trans rfl, (Sq.o BK181.out 1).trans rfl, (Sq.o BK182.out 0).trans rfl, (Sq.o BK182.out 1).trans rfl, (Sq.o BK182.out 2).trans rfl, (Sq.o BK182.out 3).trans rfl, (Sq.o BK182.out 4).trans rfl⟩ (fun hHeld => ?_)
           clear hK K
           refine norm_ (a' := ?_) ?_ ?_
           rotate_left
           ·show Act.put _ (some 61) _ = _
            simp only [Act.put, List.setIfInBounds_toArray, List.set_cons_zero, List.set_cons_succ, i64_w, i32_w]
            rfl
           refine two_ (i := 3) (j := 5) (Ni := some 63) (Nj := some 12) #[true, true, true, true, false, false, false] #[true, true, true, false, false, true, false] rfl rfl rfl rfl (by kernel_rfl) (by decide) (by decide) (fun K hK => ?_) (fun K hK => ?_)
           ·skip
            refine goes_ Try.func59 (by kernel_rfl) rfl #[.agg #[.int .i64 a1_0, .int .i64 a1_1, .int .i64 a1_2, .int .i64 a1_3, .bool a1_4]] (by rfl) rfl rfl (by (try simp only [List.map_toArray, List.map_cons, List.map_nil]); first | done | rfl | (simp only [List.length_drop, List.length_take]; rfl)) ?_
            with_reducible refine (laws_toTlbEntry.calls a1_0 a1_1 a1_2 a1_3 a1_4 t229 t230 t231 t232 t233 _ A102.out).mono ?_
            rintro e w108 ⟨rfl, hb⟩
            refine ⟨_, rfl, ?_⟩
            have n0_ := Sq.l (Sq.n (by (with_reducible repeat (first | apply Sq.a | apply Sq.b | apply Sq.c)); exact HO_198000.out) hb)
            have n1_ := Sq.l (Sq.n (by (with_reducible repeat (first | apply Sq.a | apply Sq.b | apply Sq.c)); exact HO_203000.out) hb)
            have n2_ := Sq.l (Sq.n (by (with_reducible repeat (first | apply Sq.a | apply Sq.b | apply Sq.c)); exact HO_213000.out) hb)
            have n3_ := Sq.l (Sq.n (by (with_reducible repeat (first | apply Sq.a | apply Sq.b | apply Sq.c)); exact HO227.out) hb)
            have n4_ := Sq.l (Sq.m (g := gb181) (o := .cells #[.slice A0_0 l0_0.length c0_0, .int .i64 a0_1] 60 (0, 0)) (by (with_reducible repeat (first | refine Sq.d ?_ _ | refine Sq.e ?_ | refine Sq.f ?_ _)); exact BK181.out) hb)
            have n5_ := Sq.l (Sq.m (g := gb182) (o := .cells #[.int .i64 a1_0, .int .i64 a1_1, .int .i64 a1_2, .int .i64 a1_3, .bool a1_4] 97 (0, 0)) (by (with_reducible repeat (first | refine Sq.d ?_ _ | refine Sq.e ?_ | refine Sq.f ?_ _)); exact BK182.out) hb)
            have n6_ := Sq.l (Sq.m (g := gb197) (o := .cells #[.slice Ao26 t193.length co26, .int .i64 t196] 65 (0, 0)) (by (with_reducible repeat (first | refine Sq.d ?_ _ | refine Sq.e ?_ | refine Sq.f ?_ _)); exact BK197.out) hb)
            have n7_ := Sq.l (Sq.m (g := gb202) (o := .cells #[.slice Ao34 t220.length co34, .int .i64 t201] 65 (0, 0)) (by (with_reducible repeat (first | refine Sq.d ?_ _ | refine Sq.e ?_ | refine Sq.f ?_ _)); exact BK202.out) hb)
            have n8_ := Sq.l (Sq.m (g := gb212) (o := .cells #[.slice Ao45 t208.length co45, .int .i64 t211] 65 (0, 0)) (by (with_reducible repeat (first | refine Sq.d ?_ _ | refine Sq.e ?_ | refine Sq.f ?_ _)); exact BK212.out) hb)
            have n9_ := Sq.l (Sq.a4 (by repeat (first | (with_reducible first | exact HB.out | apply Sq.i | apply Sq.j | apply Sq.k | refine Sq.h ?_ GE181.out | refine Sq.h ?_ GE182.out | refine Sq.h ?_ GE197.out | refine Sq.h ?_ GE202.out | refine Sq.h ?_ GE212.out) | exact HB.out)) hb)
            clear HO_198000 HO_203000 HO_213000 HO227 BK181 BK182 BK197 BK202 BK212 HB; have HO_198000 := n0_; have HO_203000 := n1_; have HO_213000 := n2_; have HO227 := n3_; have BK181 := n4_; have BK182 := n5_; have BK197 := n6_; have BK202 := n7_; have BK212 := n8_; have HB := n9_; clear n0_ n1_ n2_ n3_ n4_ n5_ n6_ n7_ n8_ n9_; (try clear hb); (try clear hb2); (try clear hk); (try clear hi)
            obtain ⟨Ao109, co109, eo109⟩ := Kd.R_slice HO227.out
            (first | subst eo109 | (injection eo109 with f1_ f2_ f3_; have f4_ := f1_.symm; have f5_ := f3_.symm; clear f1_ f2_ f3_; subst f4_; subst f5_))
            refine hK.out _ _ ⟨(Sq.o BK181.out 0).trans rfl, (Sq.o BK181.out 1).trans rfl, (Sq.o BK182.out 0).trans rfl, (Sq.o BK182.out 1).trans rfl, (Sq.o BK182.out 2).trans rfl, (Sq.o BK182.out 3).trans rfl, (Sq.o BK182.out 4).trans rfl⟩ (fun hHeld => ?_)
            clear hK K
            refine norm_ (a' := ?_) ?_ ?_
            rotate_left
            ·show Act.put _ (some 63) _ = _
             simp only [Act.put, List.setIfInBounds_toArray, List.set_cons_zero, List.set_cons_succ, i64_w, i32_w]
             rfl
            refine two_ (i := 4) (j := 5) (Ni := some 64) (Nj := some 12) #[true, true, true, true, true, false, false] #[true, true, true, true, false, true, false] rfl rfl rfl rfl (by kernel_rfl) (by decide) (by decide) (fun K hK => ?_) (fun K hK => ?_)
            ·skip
             refine goes_ Try.func60 (by kernel_rfl) rfl #[.agg #[.slice Ao109 t225.length co109, .int .i64 t228], .agg #[.int .i64 t229, .int .i64 t230, .int .i64 t231, .int .i64 t232, .bool t233]] (by rfl) rfl rfl (by (try simp only [List.map_toArray, List.map_cons, List.map_nil]); first | done | rfl | (simp only [List.length_drop, List.length_take]; rfl)) ?_
             with_reducible refine (impl_TlbPut.calls _ _ t225 t228 t229 t230 t231 t232 t233 t234 t237 _ ?side1 ?side2 A103.out).mono ?_
             (case side1 => repeat (first | exact (Sq.b4 HO227.out).2.2 | (with_reducible refine Sq.s ?_ _) | (with_reducible refine Sq.t ?_ _) | (with_reducible refine Sq.u ?_)))
             (case side2 => exact (Sq.b4 HO227.out).2.1)
             rintro e w110 ⟨v235, rfl, ho0, hb⟩
             refine ⟨_, rfl, ?_⟩
             have n0_ := Sq.l (Sq.p (by (with_reducible repeat (first | apply Sq.a | apply Sq.b | apply Sq.c)); exact HO_198000.out) (Sq.b7 ho0) hb)
             have n1_ := Sq.l (Sq.p (by (with_reducible repeat (first | apply Sq.a | apply Sq.b | apply Sq.c)); exact HO_203000.out) (Sq.b7 ho0) hb)
             have n2_ := Sq.l (Sq.p (by (with_reducible repeat (first | apply Sq.a | apply Sq.b | apply Sq.c)); exact HO_213000.out) (Sq.b7 ho0) hb)
             have n3_ := Sq.l (Sq.p (by (with_reducible repeat (first | apply Sq.a | apply Sq.b | apply Sq.c)); exact HO227.out) (Sq.b7 ho0) hb)
             have n4_ := Sq.l (Sq.a2 (Sq.c1 (Sq.c1 (Sq.c1 (Sq.c1 ho0 (Sq.c2 (by (with_reducible repeat (first | apply Sq.a | apply Sq.b | apply Sq.c)); exact HO_198000.out))) (Sq.c2 (by (with_reducible repeat (first | apply Sq.a | apply Sq.b | apply Sq.c)); exact HO_203000.out))) (Sq.c2 (by (with_reducible repeat (first | apply Sq.a | apply Sq.b | apply Sq.c)); exact HO_213000.out))) (Sq.c2 (by (with_reducible repeat (first | apply Sq.a | apply Sq.b | apply Sq.c)); exact HO227.out))) (Sq.a5 (by repeat (first | (with_reducible first | exact HB.out | apply Sq.i | apply Sq.j | apply Sq.k | refine Sq.h ?_ GE181.out | refine Sq.h ?_ GE182.out | refine Sq.h ?_ GE197.out | refine Sq.h ?_ GE202.out | refine Sq.h ?_ GE212.out) | exact HB.out))))
             have n5_ := Sq.l (Sq.m (g := gb181) (o := .cells #[.slice A0_0 l0_0.length c0_0, .int .i64 a0_1] 60 (0, 0)) (by (with_reducible repeat (first | refine Sq.d ?_ _ | refine Sq.e ?_ | refine Sq.f ?_ _)); exact BK181.out) hb)
             have n6_ := Sq.l (Sq.m (g := gb182) (o := .cells #[.int .i64 a1_0, .int .i64 a1_1, .int .i64 a1_2, .int .i64 a1_3, .bool a1_4] 97 (0, 0)) (by (with_reducible repeat (first | refine Sq.d ?_ _ | refine Sq.e ?_ | refine Sq.f ?_ _)); exact BK182.out) hb)
             have n7_ := Sq.l (Sq.m (g := gb197) (o := .cells #[.slice Ao26 t193.length co26, .int .i64 t196] 65 (0, 0)) (by (with_reducible repeat (first | refine Sq.d ?_ _ | refine Sq.e ?_ | refine Sq.f ?_ _)); exact BK197.out) hb)
             have n8_ := Sq.l (Sq.m (g := gb202) (o := .cells #[.slice Ao34 t220.length co34, .int .i64 t201] 65 (0, 0)) (by (with_reducible repeat (first | refine Sq.d ?_ _ | refine Sq.e ?_ | refine Sq.f ?_ _)); exact BK202.out) hb)
             have n9_ := Sq.l (Sq.m (g := gb212) (o := .cells #[.slice Ao45 t208.length co45, .int .i64 t211] 65 (0, 0)) (by (with_reducible repeat (first | refine Sq.d ?_ _ | refine Sq.e ?_ | refine Sq.f ?_ _)); exact BK212.out) hb)
             have n10_ := Sq.l (Sq.a4 (by repeat (first | (with_reducible first | exact HB.out | apply Sq.i | apply Sq.j | apply Sq.k | refine Sq.h ?_ GE181.out | refine Sq.h ?_ GE182.out | refine Sq.h ?_ GE197.out | refine Sq.h ?_ GE202.out | refine Sq.h ?_ GE212.out) | exact HB.out)) hb)
             clear HO_198000 HO_203000 HO_213000 HO227 BK181 BK182 BK197 BK202 BK212 HB; have HO_198000 := n0_; have HO_203000 := n1_; have HO_213000 := n2_; have HO227 := n3_; have HO236 := n4_; have BK181 := n5_; have BK182 := n6_; have BK197 := n7_; have BK202 := n8_; have BK212 := n9_; have HB := n10_; clear n0_ n1_ n2_ n3_ n4_ n5_ n6_ n7_ n8_ n9_ n10_; (try clear hb); (try clear hb2); (try clear hk); (try clear hi); (try clear ho0)
             refine hK.out _ _ ⟨(Sq.o BK181.out 0).trans rfl, (Sq.o BK181.out 1).trans rfl, (Sq.o BK182.out 0).trans rfl, (Sq.o BK182.out 1).trans rfl, (Sq.o BK182.out 2).trans rfl, (Sq.o BK182.out 3).trans rfl, (Sq.o BK182.out 4).trans rfl⟩ (fun hHeld => ?_)
             clear hK K
             refine norm_ (a' := ?_) ?_ ?_
             rotate_left
             ·show Act.put _ (some 64) _ = _
              simp only [Act.put, List.setIfInBounds_toArray, List.set_cons_zero, List.set_cons_succ, i64_w, i32_w]
              rfl
             refine one_ (i := 5) (N := some 12) #[true, true, true, true, true, true, false] rfl rfl (by kernel_rfl) (by decide) (fun K hK => ?_)
             refine box_step ?hg (N := 12) ?hd (cs := #[.slice none 0 0, .int .i64 0]) (t := 65) ?hr ?_; (case hd => rfl); (case hg => rfl); (case hr => first | (go_simp; done) | (go_simp; rfl))
             intro gb238 hg w111 hbox hb
             have n0_ := Sq.l (Sq.n (by (with_reducible repeat (first | apply Sq.a | apply Sq.b | apply Sq.c)); exact HO_198000.out) hb)
             have n1_ := Sq.l (Sq.n (by (with_reducible repeat (first | apply Sq.a | apply Sq.b | apply Sq.c)); exact HO_203000.out) hb)
             have n2_ := Sq.l (Sq.n (by (with_reducible repeat (first | apply Sq.a | apply Sq.b | apply Sq.c)); exact HO_213000.out) hb)
             have n3_ := Sq.l (Sq.n (by (with_reducible repeat (first | apply Sq.a | apply Sq.b | apply Sq.c)); exact HO227.out) hb)
             have n4_ := Sq.l (Sq.n (by (with_reducible repeat (first | apply Sq.a | apply Sq.b | apply Sq.c)); exact HO236.out) hb)
             have n5_ := Sq.l (Sq.m (g := gb181) (o := .cells #[.slice A0_0 l0_0.length c0_0, .int .i64 a0_1] 60 (0, 0)) (by (with_reducible repeat (first | refine Sq.d ?_ _ | refine Sq.e ?_ | refine Sq.f ?_ _)); exact BK181.out) hb)
             have n6_ := Sq.l (Sq.m (g := gb182) (o := .cells #[.int .i64 a1_0, .int .i64 a1_1, .int .i64 a1_2, .int .i64 a1_3, .bool a1_4] 97 (0, 0)) (by (with_reducible repeat (first | refine Sq.d ?_ _ | refine Sq.e ?_ | refine Sq.f ?_ _)); exact BK182.out) hb)
             have n7_ := Sq.l (Sq.m (g := gb197) (o := .cells #[.slice Ao26 t193.length co26, .int .i64 t196] 65 (0, 0)) (by (with_reducible repeat (first | refine Sq.d ?_ _ | refine Sq.e ?_ | refine Sq.f ?_ _)); exact BK197.out) hb)
             have n8_ := Sq.l (Sq.m (g := gb202) (o := .cells #[.slice Ao34 t220.length co34, .int .i64 t201] 65 (0, 0)) (by (with_reducible repeat (first | refine Sq.d ?_ _ | refine Sq.e ?_ | refine Sq.f ?_ _)); exact BK202.out) hb)
             have n9_ := Sq.l (Sq.m (g := gb212) (o := .cells #[.slice Ao45 t208.length co45, .int .i64 t211] 65 (0, 0)) (by (with_reducible repeat (first | refine Sq.d ?_ _ | refine Sq.e ?_ | refine Sq.f ?_ _)); exact BK212.out) hb)
             have n10_ := Sq.l (Sq.a4 (by repeat (first | (with_reducible first | exact HB.out | apply Sq.i | apply Sq.j | apply Sq.k | refine Sq.h ?_ GE181.out | refine Sq.h ?_ GE182.out | refine Sq.h ?_ GE197.out | refine Sq.h ?_ GE202.out | refine Sq.h ?_ GE212.out) | exact HB.out)) hb)
             have n11_ := Sq.l (hbox)
             have n12_ := Sq.l ((by rw [hg]; exact (Sq.a5 (by repeat (first | (with_reducible first | exact HB.out | apply Sq.i | apply Sq.j | apply Sq.k | refine Sq.h ?_ GE181.out | refine Sq.h ?_ GE182.out | refine Sq.h ?_ GE197.out | refine Sq.h ?_ GE202.out | refine Sq.h ?_ GE212.out) | exact HB.out))) : w.heap.size ≤ gb238))
             have n13_ := Sq.l ((by rw [hg]; exact (Sq.a5 (by repeat (first | (with_reducible first | exact HB.out | apply Sq.i | apply Sq.j | apply Sq.k | refine Sq.h ?_ GE181.out | refine Sq.h ?_ GE182.out | refine Sq.h ?_ GE197.out | refine Sq.h ?_ GE202.out | refine Sq.h ?_ GE212.out) | exact HB.out))) : w.heap.size ≤ gb238))
             have n14_ := Sq.l ((by rw [hg]; exact Nat.ne_of_lt (blk_lt (g := gb181) (o := .cells #[.slice A0_0 l0_0.length c0_0, .int .i64 a0_1] 60 (0, 0)) (by (with_reducible repeat (first | refine Sq.d ?_ _ | refine Sq.e ?_ | refine Sq.f ?_ _)); exact BK181.out)) : gb181 ≠ gb238))
             have n15_ := Sq.l ((by rw [hg]; exact Nat.ne_of_gt (blk_lt (g := gb181) (o := .cells #[.slice A0_0 l0_0.length c0_0, .int .i64 a0_1] 60 (0, 0)) (by (with_reducible repeat (first | refine Sq.d ?_ _ | refine Sq.e ?_ | refine Sq.f ?_ _)); exact BK181.out)) : gb238 ≠ gb181))
             have n16_ := Sq.l ((by rw [hg]; exact Nat.ne_of_lt (blk_lt (g := gb182) (o := .cells #[.int .i64 a1_0, .int .i64 a1_1, .int .i64 a1_2, .int .i64 a1_3, .bool a1_4] 97 (0, 0)) (by (with_reducible repeat (first | refine Sq.d ?_ _ | refine Sq.e ?_ | refine Sq.f ?_ _)); exact BK182.out)) : gb182 ≠ gb238))
             have n17_ := Sq.l ((by rw [hg]; exact Nat.ne_of_gt (blk_lt (g := gb182) (o := .cells #[.int .i64 a1_0, .int .i64 a1_1, .int .i64 a1_2, .int .i64 a1_3, .bool a1_4] 97 (0, 0)) (by (with_reducible repeat (first | refine Sq.d ?_ _ | refine Sq.e ?_ | refine Sq.f ?_ _)); exact BK182.out)) : gb238 ≠ gb182))
             have n18_ := Sq.l ((by rw [hg]; exact Nat.ne_of_lt (blk_lt (g := gb197) (o := .cells #[.slice Ao26 t193.length co26, .int .i64 t196] 65 (0, 0)) (by (with_reducible repeat (first | refine Sq.d ?_ _ | refine Sq.e ?_ | refine Sq.f ?_ _)); exact BK197.out)) : gb197 ≠ gb238))
             have n19_ := Sq.l ((by rw [hg]; exact Nat.ne_of_gt (blk_lt (g := gb197) (o := .cells #[.slice Ao26 t193.length co26, .int .i64 t196] 65 (0, 0)) (by (with_reducible repeat (first | refine Sq.d ?_ _ | refine Sq.e ?_ | refine Sq.f ?_ _)); exact BK197.out)) : gb238 ≠ gb197))
             have n20_ := Sq.l ((by rw [hg]; exact Nat.ne_of_lt (blk_lt (g := gb202) (o := .cells #[.slice Ao34 t220.length co34, .int .i64 t201] 65 (0, 0)) (by (with_reducible repeat (first | refine Sq.d ?_ _ | refine Sq.e ?_ | refine Sq.f ?_ _)); exact BK202.out)) : gb202 ≠ gb238))
             have n21_ := Sq.l ((by rw [hg]; exact Nat.ne_of_gt (blk_lt (g := gb202) (o := .cells #[.slice Ao34 t220.length co34, .int .i64 t201] 65 (0, 0)) (by (with_reducible repeat (first | refine Sq.d ?_ _ | refine Sq.e ?_ | refine Sq.f ?_ _)); exact BK202.out)) : gb238 ≠ gb202))
             have n22_ := Sq.l ((by rw [hg]; exact Nat.ne_of_lt (blk_lt (g := gb212) (o := .cells #[.slice Ao45 t208.length co45, .int .i64 t211] 65 (0, 0)) (by (with_reducible repeat (first | refine Sq.d ?_ _ | refine Sq.e ?_ | refine Sq.f ?_ _)); exact BK212.out)) : gb212 ≠ gb238))
             have n23_ := Sq.l ((by rw [hg]; exact Nat.ne_of_gt (blk_lt (g := gb212) (o := .cells #[.slice Ao45 t208.length co45, .int .i64 t211] 65 (0, 0)) (by (with_reducible repeat (first | refine Sq.d ?_ _ | refine Sq.e ?_ | refine Sq.f ?_ _)); exact BK212.out)) : gb238 ≠ gb212))
             clear HO_198000 HO_203000 HO_213000 HO227 HO236 BK181 BK182 BK197 BK202 BK212 HB; have HO_198000 := n0_; have HO_203000 := n1_; have HO_213000 := n2_; have HO227 := n3_; have HO236 := n4_; have BK181 := n5_; have BK182 := n6_; have BK197 := n7_; have BK202 := n8_; have BK212 := n9_; have HB := n10_; have BK238 := n11_; have GW238 := n12_; have GE238 := n13_; have NB181_238 := n14_; have NB238_181 := n15_; have NB182_238 := n16_; have NB238_182 := n17_; have NB197_238 := n18_; have NB238_197 := n19_; have NB202_238 := n20_; have NB238_202 := n21_; have NB212_238 := n22_; have NB238_212 := n23_; clear n0_ n1_ n2_ n3_ n4_ n5_ n6_ n7_ n8_ n9_ n10_ n11_ n12_ n13_ n14_ n15_ n16_ n17_ n18_ n19_ n20_ n21_ n22_ n23_ hb hbox hg
             refine hK.out _ _ ⟨(Sq.o BK181.out 0).trans rfl, (Sq.o BK181.out 1).trans rfl, (Sq.o BK182.out 0).trans rfl, (Sq.o BK182.out 1).trans rfl, (Sq.o BK182.out 2).trans rfl, (Sq.o BK182.out 3).trans rfl, (Sq.o BK182.out 4).trans rfl⟩ (fun hHeld => ?_)
             clear hK K
             refine norm_ (a' := ?_) ?_ ?_
             rotate_left
             ·show Act.put _ (some 12) _ = _
              simp only [Act.put, List.setIfInBounds_toArray, List.set_cons_zero, List.set_cons_succ, i64_w, i32_w]
              rfl
             exact norm_ (by simp only [putAll, Act.put, List.setIfInBounds_toArray, List.set_cons_zero, List.set_cons_succ]) (hCont (.slice Ao109 t225.length co109, v235, gb238) _ ⟨hHeld, (by (with_reducible repeat (first | apply Sq.a | apply Sq.b | apply Sq.c)); exact Sq.a3 HO227.out (fun _ hk => ⟨hk.2, ⟨hk.1.1.1.2, ⟨hk.1.1.2, hk.1.2⟩⟩⟩)), (by (with_reducible repeat (first | apply Sq.a | apply Sq.b | apply Sq.c)); exact Sq.a3 HO236.out (fun _ hk => ⟨hk.2, ⟨hk.1.1.1.2, ⟨hk.1.1.2, hk.1.2⟩⟩⟩)), (by (with_reducible repeat (first | apply Sq.a | apply Sq.b | apply Sq.c)); exact Sq.a3 HO_198000.out (fun _ hk => ⟨hk.1.2, ⟨hk.2, ⟨hk.1.1.1, hk.1.1.2⟩⟩⟩)), (by (with_reducible repeat (first | apply Sq.a | apply Sq.b | apply Sq.c)); exact Sq.a3 HO_203000.out (fun _ hk => ⟨hk.1.2, ⟨hk.2, ⟨hk.1.1.1, hk.1.1.2⟩⟩⟩)), (by (with_reducible repeat (first | apply Sq.a | apply Sq.b | apply Sq.c)); exact Sq.a3 HO_213000.out (fun _ hk => ⟨hk.1.2, ⟨hk.2, ⟨hk.1.1.1, hk.1.1.2⟩⟩⟩)), (by (with_reducible repeat (first | refine Sq.d ?_ _ | refine Sq.e ?_ | refine Sq.f ?_ _)); exact BK181.out), (by (with_reducible repeat (first | refine Sq.d ?_ _ | refine Sq.e ?_ | refine Sq.f ?_ _)); exact BK182.out), (by (with_reducible repeat (first | refine Sq.d ?_ _ | refine Sq.e ?_ | refine Sq.f ?_ _)); exact BK197.out), (by (with_reducible repeat (first | refine Sq.d ?_ _ | refine Sq.e ?_ | refine Sq.f ?_ _)); exact BK202.out), (by (with_reducible repeat (first | refine Sq.d ?_ _ | refine Sq.e ?_ | refine Sq.f ?_ _)); exact BK212.out), (by (with_reducible repeat (first | refine Sq.d ?_ _ | refine Sq.e ?_ | refine Sq.f ?_ _)); exact BK238.out), GW238.out, GE238.out, NB181_238.out, NB238_181.out, NB182_238.out, NB238_182.out, NB197_238.out, NB238_197.out, NB202_238.out, NB238_202.out, NB212_238.out, NB238_212.out, (by repeat (first | (with_reducible first | exact HB.out | apply Sq.i | apply Sq.j | apply Sq.k | refine Sq.h ?_ GE181.out | refine Sq.h ?_ GE182.out | refine Sq.h ?_ GE197.out | refine Sq.h ?_ GE202.out | refine Sq.h ?_ GE212.out | refine Sq.h ?_ GE238.out) | exact HB.out))⟩)
            ·skip
             refine box_step ?hg (N := 12) ?hd (cs := #[.slice none 0 0, .int .i64 0]) (t := 65) ?hr ?_; (case hd => rfl); (case hg => rfl); (case hr => first | (go_simp; done) | (go_simp; rfl))
             intro gb238 hg w109 hbox hb
             have n0_ := Sq.l (Sq.n (by (with_reducible repeat (first | apply Sq.a | apply Sq.b | apply Sq.c)); exact HO_198000.out) hb)
             have n1_ := Sq.l (Sq.n (by (with_reducible repeat (first | apply Sq.a | apply Sq.b | apply Sq.c)); exact HO_203000.out) hb)
             have n2_ := Sq.l (Sq.n (by (with_reducible repeat (first | apply Sq.a | apply Sq.b | apply Sq.c)); exact HO_213000.out) hb)
             have n3_ := Sq.l (Sq.n (by (with_reducible repeat (first | apply Sq.a | apply Sq.b | apply Sq.c)); exact HO227.out) hb)
             have n4_ := Sq.l (Sq.m (g := gb181) (o := .cells #[.slice A0_0 l0_0.length c0_0, .int .i64 a0_1] 60 (0, 0)) (by (with_reducible repeat (first | refine Sq.d ?_ _ | refine Sq.e ?_ | refine Sq.f ?_ _)); exact BK181.out) hb)
             have n5_ := Sq.l (Sq.m (g := gb182) (o := .cells #[.int .i64 a1_0, .int .i64 a1_1, .int .i64 a1_2, .int .i64 a1_3, .bool a1_4] 97 (0, 0)) (by (with_reducible repeat (first | refine Sq.d ?_ _ | refine Sq.e ?_ | refine Sq.f ?_ _)); exact BK182.out) hb)
             have n6_ := Sq.l (Sq.m (g := gb197) (o := .cells #[.slice Ao26 t193.length co26, .int .i64 t196] 65 (0, 0)) (by (with_reducible repeat (first | refine Sq.d ?_ _ | refine Sq.e ?_ | refine Sq.f ?_ _)); exact BK197.out) hb)
             have n7_ := Sq.l (Sq.m (g := gb202) (o := .cells #[.slice Ao34 t220.length co34, .int .i64 t201] 65 (0, 0)) (by (with_reducible repeat (first | refine Sq.d ?_ _ | refine Sq.e ?_ | refine Sq.f ?_ _)); exact BK202.out) hb)
             have n8_ := Sq.l (Sq.m (g := gb212) (o := .cells #[.slice Ao45 t208.length co45, .int .i64 t211] 65 (0, 0)) (by (with_reducible repeat (first | refine Sq.d ?_ _ | refine Sq.e ?_ | refine Sq.f ?_ _)); exact BK212.out) hb)
             have n9_ := Sq.l (Sq.a4 (by repeat (first | (with_reducible first | exact HB.out | apply Sq.i | apply Sq.j | apply Sq.k | refine Sq.h ?_ GE181.out | refine Sq.h ?_ GE182.out | refine Sq.h ?_ GE197.out | refine Sq.h ?_ GE202.out | refine Sq.h ?_ GE212.out) | exact HB.out)) hb)
             have n10_ := Sq.l (hbox)
             have n11_ := Sq.l ((by rw [hg]; exact (Sq.a5 (by repeat (first | (with_reducible first | exact HB.out | apply Sq.i | apply Sq.j | apply Sq.k | refine Sq.h ?_ GE181.out | refine Sq.h ?_ GE182.out | refine Sq.h ?_ GE197.out | refine Sq.h ?_ GE202.out | refine Sq.h ?_ GE212.out) | exact HB.out))) : w.heap.size ≤ gb238))
             have n12_ := Sq.l ((by rw [hg]; exact (Sq.a5 (by repeat (first | (with_reducible first | exact HB.out | apply Sq.i | apply Sq.j | apply Sq.k | refine Sq.h ?_ GE181.out | refine Sq.h ?_ GE182.out | refine Sq.h ?_ GE197.out | refine Sq.h ?_ GE202.out | refine Sq.h ?_ GE212.out) | exact HB.out))) : w.heap.size ≤ gb238))
             have n13_ := Sq.l ((by rw [hg]; exact Nat.ne_of_lt (blk_lt (g := gb181) (o := .cells #[.slice A0_0 l0_0.length c0_0, .int .i64 a0_1] 60 (0, 0)) (by (with_reducible repeat (first | refine Sq.d ?_ _ | refine Sq.e ?_ | refine Sq.f ?_ _)); exact BK181.out)) : gb181 ≠ gb238))
             have n14_ := Sq.l ((by rw [hg]; exact Nat.ne_of_gt (blk_lt (g := gb181) (o := .cells #[.slice A0_0 l0_0.length c0_0, .int .i64 a0_1] 60 (0, 0)) (by (with_reducible repeat (first | refine Sq.d ?_ _ | refine Sq.e ?_ | refine Sq.f ?_ _)); exact BK181.out)) : gb238 ≠ gb181))
             have n15_ := Sq.l ((by rw [hg]; exact Nat.ne_of_lt (blk_lt (g := gb182) (o := .cells #[.int .i64 a1_0, .int .i64 a1_1, .int .i64 a1_2, .int .i64 a1_3, .bool a1_4] 97 (0, 0)) (by (with_reducible repeat (first | refine Sq.d ?_ _ | refine Sq.e ?_ | refine Sq.f ?_ _)); exact BK182.out)) : gb182 ≠ gb238))
             have n16_ := Sq.l ((by rw [hg]; exact Nat.ne_of_gt (blk_lt (g := gb182) (o := .cells #[.int .i64 a1_0, .int .i64 a1_1, .int .i64 a1_2, .int .i64 a1_3, .bool a1_4] 97 (0, 0)) (by (with_reducible repeat (first | refine Sq.d ?_ _ | refine Sq.e ?_ | refine Sq.f ?_ _)); exact BK182.out)) : gb238 ≠ gb182))
             have n17_ := Sq.l ((by rw [hg]; exact Nat.ne_of_lt (blk_lt (g := gb197) (o := .cells #[.slice Ao26 t193.length co26, .int .i64 t196] 65 (0, 0)) (by (with_reducible repeat (first | refine Sq.d ?_ _ | refine Sq.e ?_ | refine Sq.f ?_ _)); exact BK197.out)) : gb197 ≠ gb238))
             have n18_ := Sq.l ((by rw [hg]; exact Nat.ne_of_gt (blk_lt (g := gb197) (o := .cells #[.slice Ao26 t193.length co26, .int .i64 t196] 65 (0, 0)) (by (with_reducible repeat (first | refine Sq.d ?_ _ | refine Sq.e ?_ | refine Sq.f ?_ _)); exact BK197.out)) : gb238 ≠ gb197))
             have n19_ := Sq.l ((by rw [hg]; exact Nat.ne_of_lt (blk_lt (g := gb202) (o := .cells #[.slice Ao34 t220.length co34, .int .i64 t201] 65 (0, 0)) (by (with_reducible repeat (first | refine Sq.d ?_ _ | refine Sq.e ?_ | refine Sq.f ?_ _)); exact BK202.out)) : gb202 ≠ gb238))
             have n20_ := Sq.l ((by rw [hg]; exact Nat.ne_of_gt (blk_lt (g := gb202) (o := .cells #[.slice Ao34 t220.length co34, .int .i64 t201] 65 (0, 0)) (by (with_reducible repeat (first | refine Sq.d ?_ _ | refine Sq.e ?_ | refine Sq.f ?_ _)); exact BK202.out)) : gb238 ≠ gb202))
             have n21_ := Sq.l ((by rw [hg]; exact Nat.ne_of_lt (blk_lt (g := gb212) (o := .cells #[.slice Ao45 t208.length co45, .int .i64 t211] 65 (0, 0)) (by (with_reducible repeat (first | refine Sq.d ?_ _ | refine Sq.e ?_ | refine Sq.f ?_ _)); exact BK212.out)) : gb212 ≠ gb238))
             have n22_ := Sq.l ((by rw [hg]; exact Nat.ne_of_gt (blk_lt (g := gb212) (o := .cells #[.slice Ao45 t208.length co45, .int .i64 t211] 65 (0, 0)) (by (with_reducible repeat (first | refine Sq.d ?_ _ | refine Sq.e ?_ | refine Sq.f ?_ _)); exact BK212.out)) : gb238 ≠ gb212))
             clear HO_198000 HO_203000 HO_213000 HO227 BK181 BK182 BK197 BK202 BK212 HB; have HO_198000 := n0_; have HO_203000 := n1_; have HO_213000 := n2_; have HO227 := n3_; have BK181 := n4_; have BK182 := n5_; have BK197 := n6_; have BK202 := n7_; have BK212 := n8_; have HB := n9_; have BK238 := n10_; have GW238 := n11_; have GE238 := n12_; have NB181_238 := n13_; have NB238_181 := n14_; have NB182_238 := n15_; have NB238_182 := n16_; have NB197_238 := n17_; have NB238_197 := n18_; have NB202_238 := n19_; have NB238_202 := n20_; have NB212_238 := n21_; have NB238_212 := n22_; clear n0_ n1_ n2_ n3_ n4_ n5_ n6_ n7_ n8_ n9_ n10_ n11_ n12_ n13_ n14_ n15_ n16_ n17_ n18_ n19_ n20_ n21_ n22_ hb hbox hg
             obtain ⟨Ao110, co110, eo110⟩ := Kd.R_slice HO227.out
             (first | subst eo110 | (injection eo110 with f1_ f2_ f3_; have f4_ := f1_.symm; have f5_ := f3_.symm; clear f1_ f2_ f3_; subst f4_; subst f5_))
             refine hK.out _ _ ⟨(Sq.o BK181.out 0).trans rfl, (Sq.o BK181.out 1).trans rfl, (Sq.o BK182.out 0).trans rfl, (Sq.o BK182.out 1).trans rfl, (Sq.o BK182.out 2).trans rfl, (Sq.o BK182.out 3).trans rfl, (Sq.o BK182.out 4).trans rfl⟩ (fun hHeld => ?_)
             clear hK K
             refine norm_ (a' := ?_) ?_ ?_
             rotate_left
             ·show Act.put _ (some 12) _ = _
              simp only [Act.put, List.setIfInBounds_toArray, List.set_cons_zero, List.set_cons_succ, i64_w, i32_w]
              rfl
             refine one_ (i := 4) (N := some 64) #[true, true, true, true, true, true, false] rfl rfl (by kernel_rfl) (by decide) (fun K hK => ?_)
             refine goes_ Try.func60 (by kernel_rfl) rfl #[.agg #[.slice Ao110 t225.length co110, .int .i64 t228], .agg #[.int .i64 t229, .int .i64 t230, .int .i64 t231, .int .i64 t232, .bool t233]] (by rfl) rfl rfl (by (try simp only [List.map_toArray, List.map_cons, List.map_nil]); first | done | rfl | (simp only [List.length_drop, List.length_take]; rfl)) ?_
             with_reducible refine (impl_TlbPut.calls _ _ t225 t228 t229 t230 t231 t232 t233 t234 t237 _ ?side1 ?side2 A103.out).mono ?_
             (case side1 => repeat (first | exact (Sq.b4 HO227.out).2.2 | (with_reducible refine Sq.s ?_ _) | (with_reducible refine Sq.t ?_ _) | (with_reducible refine Sq.u ?_)))
             (case side2 => exact (Sq.b4 HO227.out).2.1)
             rintro e w111 ⟨v235, rfl, ho0, hb⟩
             refine ⟨_, rfl, ?_⟩
             have n0_ := Sq.l (Sq.p (by (with_reducible repeat (first | apply Sq.a | apply Sq.b | apply Sq.c)); exact HO_198000.out) (Sq.b7 ho0) hb)
             have n1_ := Sq.l (Sq.p (by (with_reducible repeat (first | apply Sq.a | apply Sq.b | apply Sq.c)); exact HO_203000.out) (Sq.b7 ho0) hb)
             have n2_ := Sq.l (Sq.p (by (with_reducible repeat (first | apply Sq.a | apply Sq.b | apply Sq.c)); exact HO_213000.out) (Sq.b7 ho0) hb)
             have n3_ := Sq.l (Sq.p (by (with_reducible repeat (first | apply Sq.a | apply Sq.b | apply Sq.c)); exact HO227.out) (Sq.b7 ho0) hb)
             have n4_ := Sq.l (Sq.a2 (Sq.c1 (Sq.c1 (Sq.c1 (Sq.c1 ho0 (Sq.c2 (by (with_reducible repeat (first | apply Sq.a | apply Sq.b | apply Sq.c)); exact HO_198000.out))) (Sq.c2 (by (with_reducible repeat (first | apply Sq.a | apply Sq.b | apply Sq.c)); exact HO_203000.out))) (Sq.c2 (by (with_reducible repeat (first | apply Sq.a | apply Sq.b | apply Sq.c)); exact HO_213000.out))) (Sq.c2 (by (with_reducible repeat (first | apply Sq.a | apply Sq.b | apply Sq.c)); exact HO227.out))) (Sq.a5 (by repeat (first | (with_reducible first | exact HB.out | apply Sq.i | apply Sq.j | apply Sq.k | refine Sq.h ?_ GE181.out | refine Sq.h ?_ GE182.out | refine Sq.h ?_ GE197.out | refine Sq.h ?_ GE202.out | refine Sq.h ?_ GE212.out | refine Sq.h ?_ GE238.out) | exact HB.out))))
             have n5_ := Sq.l (Sq.m (g := gb181) (o := .cells #[.slice A0_0 l0_0.length c0_0, .int .i64 a0_1] 60 (0, 0)) (by (with_reducible repeat (first | refine Sq.d ?_ _ | refine Sq.e ?_ | refine Sq.f ?_ _)); exact BK181.out) hb)
             have n6_ := Sq.l (Sq.m (g := gb182) (o := .cells #[.int .i64 a1_0, .int .i64 a1_1, .int .i64 a1_2, .int .i64 a1_3, .bool a1_4] 97 (0, 0)) (by (with_reducible repeat (first | refine Sq.d ?_ _ | refine Sq.e ?_ | refine Sq.f ?_ _)); exact BK182.out) hb)
             have n7_ := Sq.l (Sq.m (g := gb197) (o := .cells #[.slice Ao26 t193.length co26, .int .i64 t196] 65 (0, 0)) (by (with_reducible repeat (first | refine Sq.d ?_ _ | refine Sq.e ?_ | refine Sq.f ?_ _)); exact BK197.out) hb)
             have n8_ := Sq.l (Sq.m (g := gb202) (o := .cells #[.slice Ao34 t220.length co34, .int .i64 t201] 65 (0, 0)) (by (with_reducible repeat (first | refine Sq.d ?_ _ | refine Sq.e ?_ | refine Sq.f ?_ _)); exact BK202.out) hb)
             have n9_ := Sq.l (Sq.m (g := gb212) (o := .cells #[.slice Ao45 t208.length co45, .int .i64 t211] 65 (0, 0)) (by (with_reducible repeat (first | refine Sq.d ?_ _ | refine Sq.e ?_ | refine Sq.f ?_ _)); exact BK212.out) hb)
             have n10_ := Sq.l (Sq.m (g := gb238) (o := .cells #[.slice none 0 0, .int .i64 0] 65 (0, 0)) (by (with_reducible repeat (first | refine Sq.d ?_ _ | refine Sq.e ?_ | refine Sq.f ?_ _)); exact BK238.out) hb)
             have n11_ := Sq.l (Sq.a4 (by repeat (first | (with_reducible first | exact HB.out | apply Sq.i | apply Sq.j | apply Sq.k | refine Sq.h ?_ GE181.out | refine Sq.h ?_ GE182.out | refine Sq.h ?_ GE197.out | refine Sq.h ?_ GE202.out | refine Sq.h ?_ GE212.out | refine Sq.h ?_ GE238.out) | exact HB.out)) hb)
             clear HO_198000 HO_203000 HO_213000 HO227 BK181 BK182 BK197 BK202 BK212 BK238 HB; have HO_198000 := n0_; have HO_203000 := n1_; have HO_213000 := n2_; have HO227 := n3_; have HO236 := n4_; have BK181 := n5_; have BK182 := n6_; have BK197 := n7_; have BK202 := n8_; have BK212 := n9_; have BK238 := n10_; have HB := n11_; clear n0_ n1_ n2_ n3_ n4_ n5_ n6_ n7_ n8_ n9_ n10_ n11_; (try clear hb); (try clear hb2); (try clear hk); (try clear hi); (try clear ho0)
             refine hK.out _ _ ⟨(Sq.o BK181.out 0).trans rfl, (Sq.o BK181.out 1).trans rfl, (Sq.o BK182.out 0).trans rfl, (Sq.o BK182.out 1).trans rfl, (Sq.o BK182.out 2).trans rfl, (Sq.o BK182.out 3).trans rfl, (Sq.o BK182.out 4).trans rfl⟩ (fun hHeld => ?_)
             clear hK K
             refine norm_ (a' := ?_) ?_ ?_
             rotate_left
             ·show Act.put _ (some 64) _ = _
              simp only [Act.put, List.setIfInBounds_toArray, List.set_cons_zero, List.set_cons_succ, i64_w, i32_w]
              rfl
             exact norm_ (by simp only [putAll, Act.put, List.setIfInBounds_toArray, List.set_cons_zero, List.set_cons_succ]) (hCont (.slice Ao110 t225.length co110, v235, gb238) _ ⟨hHeld, (by (with_reducible repeat (first | apply Sq.a | apply Sq.b | apply Sq.c)); exact Sq.a3 HO227.out (fun _ hk => ⟨hk.2, ⟨hk.1.1.1.2, ⟨hk.1.1.2, hk.1.2⟩⟩⟩)), (by (with_reducible repeat (first | apply Sq.a | apply Sq.b | apply Sq.c)); exact Sq.a3 HO236.out (fun _ hk => ⟨hk.2, ⟨hk.1.1.1.2, ⟨hk.1.1.2, hk.1.2⟩⟩⟩)), (by (with_reducible repeat (first | apply Sq.a | apply Sq.b | apply Sq.c)); exact Sq.a3 HO_198000.out (fun _ hk => ⟨hk.1.2, ⟨hk.2, ⟨hk.1.1.1, hk.1.1.2⟩⟩⟩)), (by (with_reducible repeat (first | apply Sq.a | apply Sq.b | apply Sq.c)); exact Sq.a3 HO_203000.out (fun _ hk => ⟨hk.1.2, ⟨hk.2, ⟨hk.1.1.1, hk.1.1.2⟩⟩⟩)), (by (with_reducible repeat (first | apply Sq.a | apply Sq.b | apply Sq.c)); exact Sq.a3 HO_213000.out (fun _ hk => ⟨hk.1.2, ⟨hk.2, ⟨hk.1.1.1, hk.1.1.2⟩⟩⟩)), (by (with_reducible repeat (first | refine Sq.d ?_ _ | refine Sq.e ?_ | refine Sq.f ?_ _)); exact BK181.out), (by (with_reducible repeat (first | refine Sq.d ?_ _ | refine Sq.e ?_ | refine Sq.f ?_ _)); exact BK182.out), (by (with_reducible repeat (first | refine Sq.d ?_ _ | refine Sq.e ?_ | refine Sq.f ?_ _)); exact BK197.out), (by (with_reducible repeat (first | refine Sq.d ?_ _ | refine Sq.e ?_ | refine Sq.f ?_ _)); exact BK202.out), (by (with_reducible repeat (first | refine Sq.d ?_ _ | refine Sq.e ?_ | refine Sq.f ?_ _)); exact BK212.out), (by (with_reducible repeat (first | refine Sq.d ?_ _ | refine Sq.e ?_ | refine Sq.f ?_ _)); exact BK238.out), GW238.out, GE238.out, NB181_238.out, NB238_181.out, NB182_238.out, NB238_182.out, NB197_238.out, NB238_197.out, NB202_238.out, NB238_202.out, NB212_238.out, NB238_212.out, (by repeat (first | (with_reducible first | exact HB.out | apply Sq.i | apply Sq.j | apply Sq.k | refine Sq.h ?_ GE181.out | refine Sq.h ?_ GE182.out | refine Sq.h ?_ GE197.out | refine Sq.h ?_ GE202.out | refine Sq.h ?_ GE212.out | refine Sq.h ?_ GE238.out) | exact HB.out))⟩)
           ·skip
            refine box_step ?hg (N := 12) ?hd (cs := #[.slice none 0 0, .int .i64 0]) (t := 65) ?hr ?_; (case hd => rfl); (case hg => rfl); (case hr => first | (go_simp; done) | (go_simp; rfl))
            intro gb238 hg w108 hbox hb
            have n0_ := Sq.l (Sq.n (by (with_reducible repeat (first | apply Sq.a | apply Sq.b | apply Sq.c)); exact HO_198000.out) hb)
            have n1_ := Sq.l (Sq.n (by (with_reducible repeat (first | apply Sq.a | apply Sq.b | apply Sq.c)); exact HO_203000.out) hb)
            have n2_ := Sq.l (Sq.n (by (with_reducible repeat (first | apply Sq.a | apply Sq.b | apply Sq.c)); exact HO_213000.out) hb)
            have n3_ := Sq.l (Sq.n (by (with_reducible repeat (first | apply Sq.a | apply Sq.b | apply Sq.c)); exact HO227.out) hb)
            have n4_ := Sq.l (Sq.m (g := gb181) (o := .cells #[.slice A0_0 l0_0.length c0_0, .int .i64 a0_1] 60 (0, 0)) (by (with_reducible repeat (first | refine Sq.d ?_ _ | refine Sq.e ?_ | refine Sq.f ?_ _)); exact BK181.out) hb)
            have n5_ := Sq.l (Sq.m (g := gb182) (o := .cells #[.int .i64 a1_0, .int .i64 a1_1, .int .i64 a1_2, .int .i64 a1_3, .bool a1_4] 97 (0, 0)) (by (with_reducible repeat (first | refine Sq.d ?_ _ | refine Sq.e ?_ | refine Sq.f ?_ _)); exact BK182.out) hb)
            have n6_ := Sq.l (Sq.m (g := gb197) (o := .cells #[.slice Ao26 t193.length co26, .int .i64 t196] 65 (0, 0)) (by (with_reducible repeat (first | refine Sq.d ?_ _ | refine Sq.e ?_ | refine Sq.f ?_ _)); exact BK197.out) hb)
            have n7_ := Sq.l (Sq.m (g := gb202) (o := .cells #[.slice Ao34 t220.length co34, .int .i64 t201] 65 (0, 0)) (by (with_reducible repeat (first | refine Sq.d ?_ _ | refine Sq.e ?_ | refine Sq.f ?_ _)); exact BK202.out) hb)
            have n8_ := Sq.l (Sq.m (g := gb212) (o := .cells #[.slice Ao45 t208.length co45, .int .i64 t211] 65 (0, 0)) (by (with_reducible repeat (first | refine Sq.d ?_ _ | refine Sq.e ?_ | refine Sq.f ?_ _)); exact BK212.out) hb)
            have n9_ := Sq.l (Sq.a4 (by repeat (first | (with_reducible first | exact HB.out | apply Sq.i | apply Sq.j | apply Sq.k | refine Sq.h ?_ GE181.out | refine Sq.h ?_ GE182.out | refine Sq.h ?_ GE197.out | refine Sq.h ?_ GE202.out | refine Sq.h ?_ GE212.out) | exact HB.out)) hb)
            have n10_ := Sq.l (hbox)
            have n11_ := Sq.l ((by rw [hg]; exact (Sq.a5 (by repeat (first | (with_reducible first | exact HB.out | apply Sq.i | apply Sq.j | apply Sq.k | refine Sq.h ?_ GE181.out | refine Sq.h ?_ GE182.out | refine Sq.h ?_ GE197.out | refine Sq.h ?_ GE202.out | refine Sq.h ?_ GE212.out) | exact HB.out))) : w.heap.size ≤ gb238))
            have n12_ := Sq.l ((by rw [hg]; exact (Sq.a5 (by repeat (first | (with_reducible first | exact HB.out | apply Sq.i | apply Sq.j | apply Sq.k | refine Sq.h ?_ GE181.out | refine Sq.h ?_ GE182.out | refine Sq.h ?_ GE197.out | refine Sq.h ?_ GE202.out | refine Sq.h ?_ GE212.out) | exact HB.out))) : w.heap.size ≤ gb238))
            have n13_ := Sq.l ((by rw [hg]; exact Nat.ne_of_lt (blk_lt (g := gb181) (o := .cells #[.slice A0_0 l0_0.length c0_0, .int .i64 a0_1] 60 (0, 0)) (by (with_reducible repeat (first | refine Sq.d ?_ _ | refine Sq.e ?_ | refine Sq.f ?_ _)); exact BK181.out)) : gb181 ≠ gb238))
            have n14_ := Sq.l ((by rw [hg]; exact Nat.ne_of_gt (blk_lt (g := gb181) (o := .cells #[.slice A0_0 l0_0.length c0_0, .int .i64 a0_1] 60 (0, 0)) (by (with_reducible repeat (first | refine Sq.d ?_ _ | refine Sq.e ?_ | refine Sq.f ?_ _)); exact BK181.out)) : gb238 ≠ gb181))
            have n15_ := Sq.l ((by rw [hg]; exact Nat.ne_of_lt (blk_lt (g := gb182) (o := .cells #[.int .i64 a1_0, .int .i64 a1_1, .int .i64 a1_2, .int .i64 a1_3, .bool a1_4] 97 (0, 0)) (by (with_reducible repeat (first | refine Sq.d ?_ _ | refine Sq.e ?_ | refine Sq.f ?_ _)); exact BK182.out)) : gb182 ≠ gb238))
            have n16_ := Sq.l ((by rw [hg]; exact Nat.ne_of_gt (blk_lt (g := gb182) (o := .cells #[.int .i64 a1_0, .int .i64 a1_1, .int .i64 a1_2, .int .i64 a1_3, .bool a1_4] 97 (0, 0)) (by (with_reducible repeat (first | refine Sq.d ?_ _ | refine Sq.e ?_ | refine Sq.f ?_ _)); exact BK182.out)) : gb238 ≠ gb182))
            have n17_ := Sq.l ((by rw [hg]; exact Nat.ne_of_lt (blk_lt (g := gb197) (o := .cells #[.slice Ao26 t193.length co26, .int .i64 t196] 65 (0, 0)) (by (with_reducible repeat (first | refine Sq.d ?_ _ | refine Sq.e ?_ | refine Sq.f ?_ _)); exact BK197.out)) : gb197 ≠ gb238))
            have n18_ := Sq.l ((by rw [hg]; exact Nat.ne_of_gt (blk_lt (g := gb197) (o := .cells #[.slice Ao26 t193.length co26, .int .i64 t196] 65 (0, 0)) (by (with_reducible repeat (first | refine Sq.d ?_ _ | refine Sq.e ?_ | refine Sq.f ?_ _)); exact BK197.out)) : gb238 ≠ gb197))
            have n19_ := Sq.l ((by rw [hg]; exact Nat.ne_of_lt (blk_lt (g := gb202) (o := .cells #[.slice Ao34 t220.length co34, .int .i64 t201] 65 (0, 0)) (by (with_reducible repeat (first | refine Sq.d ?_ _ | refine Sq.e ?_ | refine Sq.f ?_ _)); exact BK202.out)) : gb202 ≠ gb238))
            have n20_ := Sq.l ((by rw [hg]; exact Nat.ne_of_gt (blk_lt (g := gb202) (o := .cells #[.slice Ao34 t220.length co34, .int .i64 t201] 65 (0, 0)) (by (with_reducible repeat (first | refine Sq.d ?_ _ | refine Sq.e ?_ | refine Sq.f ?_ _)); exact BK202.out)) : gb238 ≠ gb202))
            have n21_ := Sq.l ((by rw [hg]; exact Nat.ne_of_lt (blk_lt (g := gb212) (o := .cells #[.slice Ao45 t208.length co45, .int .i64 t211] 65 (0, 0)) (by (with_reducible repeat (first | refine Sq.d ?_ _ | refine Sq.e ?_ | refine Sq.f ?_ _)); exact BK212.out)) : gb212 ≠ gb238))
            have n22_ := Sq.l ((by rw [hg]; exact Nat.ne_of_gt (blk_lt (g := gb212) (o := .cells #[.slice Ao45 t208.length co45, .int .i64 t211] 65 (0, 0)) (by (with_reducible repeat (first | refine Sq.d ?_ _ | refine Sq.e ?_ | refine Sq.f ?_ _)); exact BK212.out)) : gb238 ≠ gb212))
            clear HO_198000 HO_203000 HO_213000 HO227 BK181 BK182 BK197 BK202 BK212 HB; have HO_198000 := n0_; have HO_203000 := n1_; have HO_213000 := n2_; have HO227 := n3_; have BK181 := n4_; have BK182 := n5_; have BK197 := n6_; have BK202 := n7_; have BK212 := n8_; have HB := n9_; have BK238 := n10_; have GW238 := n11_; have GE238 := n12_; have NB181_238 := n13_; have NB238_181 := n14_; have NB182_238 := n15_; have NB238_182 := n16_; have NB197_238 := n17_; have NB238_197 := n18_; have NB202_238 := n19_; have NB238_202 := n20_; have NB212_238 := n21_; have NB238_212 := n22_; clear n0_ n1_ n2_ n3_ n4_ n5_ n6_ n7_ n8_ n9_ n10_ n11_ n12_ n13_ n14_ n15_ n16_ n17_ n18_ n19_ n20_ n21_ n22_ hb hbox hg
            refine hK.out _ _ ⟨(Sq.o BK181.out 0).trans rfl, (Sq.o BK181.out 1).trans rfl, (Sq.o BK182.out 0).trans rfl, (Sq.o BK182.out 1).trans rfl, (Sq.o BK182.out 2).trans rfl, (Sq.o BK182.out 3).trans rfl, (Sq.o BK182.out 4).trans rfl⟩ (fun hHeld => ?_)
            clear hK K
            refine norm_ (a' := ?_) ?_ ?_
            rotate_left
            ·show Act.put _ (some 12) _ = _
             simp only [Act.put, List.setIfInBounds_toArray, List.set_cons_zero, List.set_cons_succ, i64_w, i32_w]
             rfl
            refine one_ (i := 3) (N := some 63) #[true, true, true, true, false, true, false] rfl rfl (by kernel_rfl) (by decide) (fun K hK => ?_)
            refine goes_ Try.func59 (by kernel_rfl) rfl #[.agg #[.int .i64 a1_0, .int .i64 a1_1, .int .i64 a1_2, .int .i64 a1_3, .bool a1_4]] (by rfl) rfl rfl (by (try simp only [List.map_toArray, List.map_cons, List.map_nil]); first | done | rfl | (simp only [List.length_drop, List.length_take]; rfl)) ?_
            with_reducible refine (laws_toTlbEntry.calls a1_0 a1_1 a1_2 a1_3 a1_4 t229 t230 t231 t232 t233 _ A102.out).mono ?_
            rintro e w109 ⟨rfl, hb⟩
            refine ⟨_, rfl, ?_⟩
            have n0_ := Sq.l (Sq.n (by (with_reducible repeat (first | apply Sq.a | apply Sq.b | apply Sq.c)); exact HO_198000.out) hb)
            have n1_ := Sq.l (Sq.n (by (with_reducible repeat (first | apply Sq.a | apply Sq.b | apply Sq.c)); exact HO_203000.out) hb)
            have n2_ := Sq.l (Sq.n (by (with_reducible repeat (first | apply Sq.a | apply Sq.b | apply Sq.c)); exact HO_213000.out) hb)
            have n3_ := Sq.l (Sq.n (by (with_reducible repeat (first | apply Sq.a | apply Sq.b | apply Sq.c)); exact HO227.out) hb)
            have n4_ := Sq.l (Sq.m (g := gb181) (o := .cells #[.slice A0_0 l0_0.length c0_0, .int .i64 a0_1] 60 (0, 0)) (by (with_reducible repeat (first | refine Sq.d ?_ _ | refine Sq.e ?_ | refine Sq.f ?_ _)); exact BK181.out) hb)
            have n5_ := Sq.l (Sq.m (g := gb182) (o := .cells #[.int .i64 a1_0, .int .i64 a1_1, .int .i64 a1_2, .int .i64 a1_3, .bool a1_4] 97 (0, 0)) (by (with_reducible repeat (first | refine Sq.d ?_ _ | refine Sq.e ?_ | refine Sq.f ?_ _)); exact BK182.out) hb)
            have n6_ := Sq.l (Sq.m (g := gb197) (o := .cells #[.slice Ao26 t193.length co26, .int .i64 t196] 65 (0, 0)) (by (with_reducible repeat (first | refine Sq.d ?_ _ | refine Sq.e ?_ | refine Sq.f ?_ _)); exact BK197.out) hb)
            have n7_ := Sq.l (Sq.m (g := gb202) (o := .cells #[.slice Ao34 t220.length co34, .int .i64 t201] 65 (0, 0)) (by (with_reducible repeat (first | refine Sq.d ?_ _ | refine Sq.e ?_ | refine Sq.f ?_ _)); exact BK202.out) hb)
            have n8_ := Sq.l (Sq.m (g := gb212) (o := .cells #[.slice Ao45 t208.length co45, .int .i64 t211] 65 (0, 0)) (by (with_reducible repeat (first | refine Sq.d ?_ _ | refine Sq.e ?_ | refine Sq.f ?_ _)); exact BK212.out) hb)
            have n9_ := Sq.l (Sq.m (g := gb238) (o := .cells #[.slice none 0 0, .int .i64 0] 65 (0, 0)) (by (with_reducible repeat (first | refine Sq.d ?_ _ | refine Sq.e ?_ | refine Sq.f ?_ _)); exact BK238.out) hb)
            have n10_ := Sq.l (Sq.a4 (by repeat (first | (with_reducible first | exact HB.out | apply Sq.i | apply Sq.j | apply Sq.k | refine Sq.h ?_ GE181.out | refine Sq.h ?_ GE182.out | refine Sq.h ?_ GE197.out | refine Sq.h ?_ GE202.out | refine Sq.h ?_ GE212.out | refine Sq.h ?_ GE238.out) | exact HB.out)) hb)
            clear HO_198000 HO_203000 HO_213000 HO227 BK181 BK182 BK197 BK202 BK212 BK238 HB; have HO_198000 := n0_; have HO_203000 := n1_; have HO_213000 := n2_; have HO227 := n3_; have BK181 := n4_; have BK182 := n5_; have BK197 := n6_; have BK202 := n7_; have BK212 := n8_; have BK238 := n9_; have HB := n10_; clear n0_ n1_ n2_ n3_ n4_ n5_ n6_ n7_ n8_ n9_ n10_; (try clear hb); (try clear hb2); (try clear hk); (try clear hi)
            obtain ⟨Ao110, co110, eo110⟩ := Kd.R_slice HO227.out
            (first | subst eo110 | (injection eo110 with f1_ f2_ f3_; have f4_ := f1_.symm; have f5_ := f3_.symm; clear f1_ f2_ f3_; subst f4_; subst f5_))
            refine hK.out _ _ ⟨(Sq.o BK181.out 0).trans rfl, (Sq.o BK181.out 1).trans rfl, (Sq.o BK182.out 0).trans rfl, (Sq.o BK182.out 1).trans rfl, (Sq.o BK182.out 2).trans rfl, (Sq.o BK182.out 3).trans rfl, (Sq.o BK182.out 4).trans rfl⟩ (fun hHeld => ?_)
            clear hK K
            refine norm_ (a' := ?_) ?_ ?_
            rotate_left
            ·show Act.put _ (some 63) _ = _
             simp only [Act.put, List.setIfInBounds_toArray, List.set_cons_zero, List.set_cons_succ, i64_w, i32_w]
             rfl
            refine one_ (i := 4) (N := some 64) #[true, true, true, true, true, true, false] rfl rfl (by kernel_rfl) (by decide) (fun K hK => ?_)
            refine goes_ Try.func60 (by kernel_rfl) rfl #[.agg #[.slice Ao110 t225.length co110, .int .i64 t228], .agg #[.int .i64 t229, .int .i64 t230, .int .i64 t231, .int .i64 t232, .bool t233]] (by rfl) rfl rfl (by (try simp only [List.map_toArray, List.map_cons, List.map_nil]); first | done | rfl | (simp only [List.length_drop, List.length_take]; rfl)) ?_
            with_reducible refine (impl_TlbPut.calls _ _ t225 t228 t229 t230 t231 t232 t233 t234 t237 _ ?side1 ?side2 A103.out).mono ?_
            (case side1 => repeat (first | exact (Sq.b4 HO227.out).2.2 | (with_reducible refine Sq.s ?_ _) | (with_reducible refine Sq.t ?_ _) | (with_reducible refine Sq.u ?_)))
            (case side2 => exact (Sq.b4 HO227.out).2.1)
            rintro e w111 ⟨v235, rfl, ho0, hb⟩
            refine ⟨_, rfl, ?_⟩
            have n0_ := Sq.l (Sq.p (by (with_reducible repeat (first | apply Sq.a | apply Sq.b | apply Sq.c)); exact HO_198000.out) (Sq.b7 ho0) hb)
            have n1_ := Sq.l (Sq.p (by (with_reducible repeat (first | apply Sq.a | apply Sq.b | apply Sq.c)); exact HO_203000.out) (Sq.b7 ho0) hb)
            have n2_ := Sq.l (Sq.p (by (with_reducible repeat (first | apply Sq.a | apply Sq.b | apply Sq.c)); exact HO_213000.out) (Sq.b7 ho0) hb)
            have n3_ := Sq.l (Sq.p (by (with_reducible repeat (first | apply Sq.a | apply Sq.b | apply Sq.c)); exact HO227.out) (Sq.b7 ho0) hb)
            have n4_ := Sq.l (Sq.a2 (Sq.c1 (Sq.c1 (Sq.c1 (Sq.c1 ho0 (Sq.c2 (by (with_reducible repeat (first | apply Sq.a | apply Sq.b | apply Sq.c)); exact HO_198000.out))) (Sq.c2 (by (with_reducible repeat (first | apply Sq.a | apply Sq.b | apply Sq.c)); exact HO_203000.out))) (Sq.c2 (by (with_reducible repeat (first | apply Sq.a | apply Sq.b | apply Sq.c)); exact HO_213000.out))) (Sq.c2 (by (with_reducible repeat (first | apply Sq.a | apply Sq.b | apply Sq.c)); exact HO227.out))) (Sq.a5 (by repeat (first | (with_reducible first | exact HB.out | apply Sq.i | apply Sq.j | apply Sq.k | refine Sq.h ?_ GE181.out | refine Sq.h ?_ GE182.out | refine Sq.h ?_ GE197.out | refine Sq.h ?_ GE202.out | refine Sq.h ?_ GE212.out | refine Sq.h ?_ GE238.out) | exact HB.out))))
            have n5_ := Sq.l (Sq.m (g := gb181) (o := .cells #[.slice A0_0 l0_0.length c0_0, .int .i64 a0_1] 60 (0, 0)) (by (with_reducible repeat (first | refine Sq.d ?_ _ | refine Sq.e ?_ | refine Sq.f ?_ _)); exact BK181.out) hb)
            have n6_ := Sq.l (Sq.m (g := gb182) (o := .cells #[.int .i64 a1_0, .int .i64 a1_1, .int .i64 a1_2, .int .i64 a1_3, .bool a1_4] 97 (0, 0)) (by (with_reducible repeat (first | refine Sq.d ?_ _ | refine Sq.e ?_ | refine Sq.f ?_ _)); exact BK182.out) hb)
            have n7_ := Sq.l (Sq.m (g := gb197) (o := .cells #[.slice Ao26 t193.length co26, .int .i64 t196] 65 (0, 0)) (by (with_reducible repeat (first | refine Sq.d ?_ _ | refine Sq.e ?_ | refine Sq.f ?_ _)); exact BK197.out) hb)
            have n8_ := Sq.l (Sq.m (g := gb202) (o := .cells #[.slice Ao34 t220.length co34, .int .i64 t201] 65 (0, 0)) (by (with_reducible repeat (first | refine Sq.d ?_ _ | refine Sq.e ?_ | refine Sq.f ?_ _)); exact BK202.out) hb)
            have n9_ := Sq.l (Sq.m (g := gb212) (o := .cells #[.slice Ao45 t208.length co45, .int .i64 t211] 65 (0, 0)) (by (with_reducible repeat (first | refine Sq.d ?_ _ | refine Sq.e ?_ | refine Sq.f ?_ _)); exact BK212.out) hb)
            have n10_ := Sq.l (Sq.m (g := gb238) (o := .cells #[.slice none 0 0, .int .i64 0] 65 (0, 0)) (by (with_reducible repeat (first | refine Sq.d ?_ _ | refine Sq.e ?_ | refine Sq.f ?_ _)); exact BK238.out) hb)
            have n11_ := Sq.l (Sq.a4 (by repeat (first | (with_reducible first | exact HB.out | apply Sq.i | apply Sq.j | apply Sq.k | refine Sq.h ?_ GE181.out | refine Sq.h ?_ GE182.out | refine Sq.h ?_ GE197.out | refine Sq.h ?_ GE202.out | refine Sq.h ?_ GE212.out | refine Sq.h ?_ GE238.out) | exact HB.out)) hb)
            clear HO_198000 HO_203000 HO_213000 HO227 BK181 BK182 BK197 BK202 BK212 BK238 HB; have HO_198000 := n0_; have HO_203000 := n1_; have HO_213000 := n2_; have HO227 := n3_; have HO236 := n4_; have BK181 := n5_; have BK182 := n6_; have BK197 := n7_; have BK202 := n8_; have BK212 := n9_; have BK238 := n10_; have HB := n11_; clear n0_ n1_ n2_ n3_ n4_ n5_ n6_ n7_ n8_ n9_ n10_ n11_; (try clear hb); (try clear hb2); (try clear hk); (try clear hi); (try clear ho0)
            refine hK.out _ _ ⟨(Sq.o BK181.out 0).trans rfl, (Sq.o BK181.out 1).trans rfl, (Sq.o BK182.out 0).trans rfl, (Sq.o BK182.out 1).trans rfl, (Sq.o BK182.out 2).trans rfl, (Sq.o BK182.out 3).trans rfl, (Sq.o BK182.out 4).trans rfl⟩ (fun hHeld => ?_)
            clear hK K
            refine norm_ (a' := ?_) ?_ ?_
            rotate_left
            ·show Act.put _ (some 64) _ = _
             simp only [Act.put, List.setIfInBounds_toArray, List.set_cons_zero, List.set_cons_succ, i64_w, i32_w]
             rfl
            exact norm_ (by simp only [putAll, Act.put, List.setIfInBounds_toArray, List.set_cons_zero, List.set_cons_succ]) (hCont (.slice Ao110 t225.length co110, v235, gb238) _ ⟨hHeld, (by (with_reducible repeat (first | apply Sq.a | apply Sq.b | apply Sq.c)); exact Sq.a3 HO227.out (fun _ hk => ⟨hk.2, ⟨hk.1.1.1.2, ⟨hk.1.1.2, hk.1.2⟩⟩⟩)), (by (with_reducible repeat (first | apply Sq.a | apply Sq.b | apply Sq.c)); exact Sq.a3 HO236.out (fun _ hk => ⟨hk.2, ⟨hk.1.1.1.2, ⟨hk.1.1.2, hk.1.2⟩⟩⟩)), (by (with_reducible repeat (first | apply Sq.a | apply Sq.b | apply Sq.c)); exact Sq.a3 HO_198000.out (fun _ hk => ⟨hk.1.2, ⟨hk.2, ⟨hk.1.1.1, hk.1.1.2⟩⟩⟩)), (by (with_reducible repeat (first | apply Sq.a | apply Sq.b | apply Sq.c)); exact Sq.a3 HO_203000.out (fun _ hk => ⟨hk.1.2, ⟨hk.2, ⟨hk.1.1.1, hk.1.1.2⟩⟩⟩)), (by (with_reducible repeat (first | apply Sq.a | apply Sq.b | apply Sq.c)); exact Sq.a3 HO_213000.out (fun _ hk => ⟨hk.1.2, ⟨hk.2, ⟨hk.1.1.1, hk.1.1.2⟩⟩⟩)), (by (with_reducible repeat (first | refine Sq.d ?_ _ | refine Sq.e ?_ | refine Sq.f ?_ _)); exact BK181.out), (by (with_reducible repeat (first | refine Sq.d ?_ _ | refine Sq.e ?_ | refine Sq.f ?_ _)); exact BK182.out), (by (with_reducible repeat (first | refine Sq.d ?_ _ | refine Sq.e ?_ | refine Sq.f ?_ _)); exact BK197.out), (by (with_reducible repeat (first | refine Sq.d ?_ _ | refine Sq.e ?_ | refine Sq.f ?_ _)); exact BK202.out), (by (with_reducible repeat (first | refine Sq.d ?_ _ | refine Sq.e ?_ | refine Sq.f ?_ _)); exact BK212.out), (by (with_reducible repeat (first | refine Sq.d ?_ _ | refine Sq.e ?_ | refine Sq.f ?_ _)); exact BK238.out), GW238.out, GE238.out, NB181_238.out, NB238_181.out, NB182_238.out, NB238_182.out, NB197_238.out, NB238_197.out, NB202_238.out, NB238_202.out, NB212_238.out, NB238_212.out, (by repeat (first | (with_reducible first | exact HB.out | apply Sq.i | apply Sq.j | apply Sq.k | refine Sq.h ?_ GE181.out | refine Sq.h ?_ GE182.out | refine Sq.h ?_ GE197.out | refine Sq.h ?_ GE202.out | refine Sq.h ?_ GE212.out | refine Sq.h ?_ GE238.out) | exact HB.out))⟩)
          ·skip
           refine box_step ?hg (N := 12) ?hd (cs := #[.slice none 0 0, .int .i64 0]) (t := 65) ?hr ?_; (case hd => rfl); (case hg => rfl); (case hr => first | (go_simp; done) | (go_simp; rfl))
           intro gb238 hg w107 hbox hb
           have n0_ := Sq.l (Sq.n (by (with_reducible repeat (first | apply Sq.a | apply Sq.b | apply Sq.c)); exact HO_198000.out) hb)
           have n1_ := Sq.l (Sq.n (by (with_reducible repeat (first | apply Sq.a | apply Sq.b | apply Sq.c)); exact HO_203000.out) hb)
           have n2_ := Sq.l (Sq.n (by (with_reducible repeat (first | apply Sq.a | apply Sq.b | apply Sq.c)); exact HO_213000.out) hb)
           have n3_ := Sq.l (Sq.m (g := gb181) (o := .cells #[.slice A0_0 l0_0.length c0_0, .int .i64 a0_1] 60 (0, 0)) (by (with_reducible repeat (first | refine Sq.d ?_ _ | refine Sq.e ?_ | refine Sq.f ?_ _)); exact BK181.out) hb)
           have n4_ := Sq.l (Sq.m (g := gb182) (o := .cells #[.int .i64 a1_0, .int .i64 a1_1, .int .i64 a1_2, .int .i64 a1_3, .bool a1_4] 97 (0, 0)) (by (with_reducible repeat (first | refine Sq.d ?_ _ | refine Sq.e ?_ | refine Sq.f ?_ _)); exact BK182.out) hb)
           have n5_ := Sq.l (Sq.m (g := gb197) (o := .cells #[.slice Ao26 t193.length co26, .int .i64 t196] 65 (0, 0)) (by (with_reducible repeat (first | refine Sq.d ?_ _ | refine Sq.e ?_ | refine Sq.f ?_ _)); exact BK197.out) hb)
           have n6_ := Sq.l (Sq.m (g := gb202) (o := .cells #[.slice Ao34 t220.length co34, .int .i64 t201] 65 (0, 0)) (by (with_reducible repeat (first | refine Sq.d ?_ _ | refine Sq.e ?_ | refine Sq.f ?_ _)); exact BK202.out) hb)
           have n7_ := Sq.l (Sq.m (g := gb212) (o := .cells #[.slice Ao45 t208.length co45, .int .i64 t211] 65 (0, 0)) (by (with_reducible repeat (first | refine Sq.d ?_ _ | refine Sq.e ?_ | refine Sq.f ?_ _)); exact BK212.out) hb)
           have n8_ := Sq.l (Sq.a4 (by repeat (first | (with_reducible first | exact HB.out | apply Sq.i | apply Sq.j | apply Sq.k | refine Sq.h ?_ GE181.out | refine Sq.h ?_ GE182.out | refine Sq.h ?_ GE197.out | refine Sq.h ?_ GE202.out | refine Sq.h ?_ GE212.out) | exact HB.out)) hb)
           have n9_ := Sq.l (hbox)
           have n10_ := Sq.l ((by rw [hg]; exact (Sq.a5 (by repeat (first | (with_reducible first | exact HB.out | apply Sq.i | apply Sq.j | apply Sq.k | refine Sq.h ?_ GE181.out | refine Sq.h ?_ GE182.out | refine Sq.h ?_ GE197.out | refine Sq.h ?_ GE202.out | refine Sq.h ?_ GE212.out) | exact HB.out))) : w.heap.size ≤ gb238))
           have n11_ := Sq.l ((by rw [hg]; exact (Sq.a5 (by repeat (first | (with_reducible first | exact HB.out | apply Sq.i | apply Sq.j | apply Sq.k | refine Sq.h ?_ GE181.out | refine Sq.h ?_ GE182.out | refine Sq.h ?_ GE197.out | refine Sq.h ?_ GE202.out | refine Sq.h ?_ GE212.out) | exact HB.out))) : w.heap.size ≤ gb238))
           have n12_ := Sq.l ((by rw [hg]; exact Nat.ne_of_lt (blk_lt (g := gb181) (o := .cells #[.slice A0_0 l0_0.length c0_0, .int .i64 a0_1] 60 (0, 0)) (by (with_reducible repeat (first | refine Sq.d ?_ _ | refine Sq.e ?_ | refine Sq.f ?_ _)); exact BK181.out)) : gb181 ≠ gb238))
           have n13_ := Sq.l ((by rw [hg]; exact Nat.ne_of_gt (blk_lt (g := gb181) (o := .cells #[.slice A0_0 l0_0.length c0_0, .int .i64 a0_1] 60 (0, 0)) (by (with_reducible repeat (first | refine Sq.d ?_ _ | refine Sq.e ?_ | refine Sq.f ?_ _)); exact BK181.out)) : gb238 ≠ gb181))
           have n14_ := Sq.l ((by rw [hg]; exact Nat.ne_of_lt (blk_lt (g := gb182) (o := .cells #[.int .i64 a1_0, .int .i64 a1_1, .int .i64 a1_2, .int .i64 a1_3, .bool a1_4] 97 (0, 0)) (by (with_reducible repeat (first | refine Sq.d ?_ _ | refine Sq.e ?_ | refine Sq.f ?_ _)); exact BK182.out)) : gb182 ≠ gb238))
           have n15_ := Sq.l ((by rw [hg]; exact Nat.ne_of_gt (blk_lt (g := gb182) (o := .cells #[.int .i64 a1_0, .int .i64 a1_1, .int .i64 a1_2, .int .i64 a1_3, .bool a1_4] 97 (0, 0)) (by (with_reducible repeat (first | refine Sq.d ?_ _ | refine Sq.e ?_ | refine Sq.f ?_ _)); exact BK182.out)) : gb238 ≠ gb182))
           have n16_ := Sq.l ((by rw [hg]; exact Nat.ne_of_lt (blk_lt (g := gb197) (o := .cells #[.slice Ao26 t193.length co26, .int .i64 t196] 65 (0, 0)) (by (with_reducible repeat (first | refine Sq.d ?_ _ | refine Sq.e ?_ | refine Sq.f ?_ _)); exact BK197.out)) : gb197 ≠ gb238))
           have n17_ := Sq.l ((by rw [hg]; exact Nat.ne_of_gt (blk_lt (g := gb197) (o := .cells #[.slice Ao26 t193.length co26, .int .i64 t196] 65 (0, 0)) (by (with_reducible repeat (first | refine Sq.d ?_ _ | refine Sq.e ?_ | refine Sq.f ?_ _)); exact BK197.out)) : gb238 ≠ gb197))
           have n18_ := Sq.l ((by rw [hg]; exact Nat.ne_of_lt (blk_lt (g := gb202) (o := .cells #[.slice Ao34 t220.length co34, .int .i64 t201] 65 (0, 0)) (by (with_reducible repeat (first | refine Sq.d ?_ _ | refine Sq.e ?_ | refine Sq.f ?_ _)); exact BK202.out)) : gb202 ≠ gb238))
           have n19_ := Sq.l ((by rw [hg]; exact Nat.ne_of_gt (blk_lt (g := gb202) (o := .cells #[.slice Ao34 t220.length co34, .int .i64 t201] 65 (0, 0)) (by (with_reducible repeat (first | refine Sq.d ?_ _ | refine Sq.e ?_ | refine Sq.f ?_ _)); exact BK202.out)) : gb238 ≠ gb202))
           have n20_ := Sq.l ((by rw [hg]; exact Nat.ne_of_lt (blk_lt (g := gb212) (o := .cells #[.slice Ao45 t208.length co45, .int .i64 t211] 65 (0, 0)) (by (with_reducible repeat (first | refine Sq.d ?_ _ | refine Sq.e ?_ | refine Sq.f ?_ _)); exact BK212.out)) : gb212 ≠ gb238))
           have n21_ := Sq.l ((by rw [hg]; exact Nat.ne_of_gt (blk_lt (g := gb212) (o := .cells #[.slice Ao45 t208.length co45, .int .i64 t211] 65 (0, 0)) (by (with_reducible repeat (first | refine Sq.d ?_ _ | refine Sq.e ?_ | refine Sq.f ?_ _)); exact BK212.out)) : gb238 ≠ gb212))
           clear HO_198000 HO_203000 HO_213000 BK181 BK182 BK197 BK202 BK212 HB; have HO_198000 := n0_; have HO_203000 := n1_; have HO_213000 := n2_; have BK181 := n3_; have BK182 := n4_; have BK197 := n5_; have BK202 := n6_; have BK212 := n7_; have HB := n8_; have BK238 := n9_; have GW238 := n10_; have GE238 := n11_; have NB181_238 := n12_; have NB238_181 := n13_; have NB182_238 := n14_; have NB238_182 := n15_; have NB197_238 := n16_; have NB238_197 := n17_; have NB202_238 := n18_; have NB238_202 := n19_; have NB212_238 := n20_; have NB238_212 := n21_; clear n0_ n1_ n2_ n3_ n4_ n5_ n6_ n7_ n8_ n9_ n10_ n11_ n12_ n13_ n14_ n15_ n16_ n17_ n18_ n19_ n20_ n21_ hb hbox hg
           refine hK.out _ _ ⟨(Sq.o BK181.out 0).trans rfl, (Sq.o BK181.out 1).trans rfl, (Sq.o BK182.out 0).trans rfl, (Sq.o BK182.out 1).trans rfl, (Sq.o BK182.out 2).trans rfl, (Sq.o BK182.out 3).trans rfl, (Sq.o BK182.out 4).trans rfl⟩ (fun hHeld => ?_)
           clear hK K
           refine norm_ (a' := ?_) ?_ ?_
           rotate_left
           ·show Act.put _ (some 12) _ = _
            simp only [Act.put, List.setIfInBounds_toArray, List.set_cons_zero, List.set_cons_succ, i64_w, i32_w]
            rfl
           refine one_ (i := 1) (N := some 61) #[true, true, true, false, false, true, false] rfl rfl (by kernel_rfl) (by decide) (fun K hK => ?_)
           refine goes_ Try.func38 (by kernel_rfl) rfl #[.agg #[.slice A0_0 l0_0.length c0_0, .int .i64 a0_1]] (by rfl) rfl rfl (by (try simp only [List.map_toArray, List.map_cons, List.map_nil]); first | done | rfl | (simp only [List.length_drop, List.length_take]; rfl)) ?_
           with_reducible refine (laws_toTlb.calls kj65 _ _ l0_0 a0_1 t225 t228 _ ?side1 ?side2 A101.out).mono ?_
           (case side1 => repeat (first | exact (Sq.a1 HR0_0.out HB.out) | (with_reducible refine Sq.s ?_ _) | (with_reducible refine Sq.t ?_ _) | (with_reducible refine Sq.u ?_)))
           (case side2 => exact HC0_0.out)
           rintro e w108 ⟨v226, rfl, ho0, hb⟩
           refine ⟨_, rfl, ?_⟩
           have n0_ := Sq.l (Sq.p (by (with_reducible repeat (first | apply Sq.a | apply Sq.b | apply Sq.c)); exact HO_198000.out) (Sq.b7 ho0) hb)
           have n1_ := Sq.l (Sq.p (by (with_reducible repeat (first | apply Sq.a | apply Sq.b | apply Sq.c)); exact HO_203000.out) (Sq.b7 ho0) hb)
           have n2_ := Sq.l (Sq.p (by (with_reducible repeat (first | apply Sq.a | apply Sq.b | apply Sq.c)); exact HO_213000.out) (Sq.b7 ho0) hb)
           have n3_ := Sq.l (Sq.a2 (Sq.c1 (Sq.c1 (Sq.c1 ho0 (Sq.c2 (by (with_reducible repeat (first | apply Sq.a | apply Sq.b | apply Sq.c)); exact HO_198000.out))) (Sq.c2 (by (with_reducible repeat (first | apply Sq.a | apply Sq.b | apply Sq.c)); exact HO_203000.out))) (Sq.c2 (by (with_reducible repeat (first | apply Sq.a | apply Sq.b | apply Sq.c)); exact HO_213000.out))) (Sq.a5 (by repeat (first | (with_reducible first | exact HB.out | apply Sq.i | apply Sq.j | apply Sq.k | refine Sq.h ?_ GE181.out | refine Sq.h ?_ GE182.out | refine Sq.h ?_ GE197.out | refine Sq.h ?_ GE202.out | refine Sq.h ?_ GE212.out | refine Sq.h ?_ GE238.out) | exact HB.out))))
           have n4_ := Sq.l (Sq.m (g := gb181) (o := .cells #[.slice A0_0 l0_0.length c0_0, .int .i64 a0_1] 60 (0, 0)) (by (with_reducible repeat (first | refine Sq.d ?_ _ | refine Sq.e ?_ | refine Sq.f ?_ _)); exact BK181.out) hb)
           have n5_ := Sq.l (Sq.m (g := gb182) (o := .cells #[.int .i64 a1_0, .int .i64 a1_1, .int .i64 a1_2, .int .i64 a1_3, .bool a1_4] 97 (0, 0)) (by (with_reducible repeat (first | refine Sq.d ?_ _ | refine Sq.e ?_ | refine Sq.f ?_ _)); exact BK182.out) hb)
           have n6_ := Sq.l (Sq.m (g := gb197) (o := .cells #[.slice Ao26 t193.length co26, .int .i64 t196] 65 (0, 0)) (by (with_reducible repeat (first | refine Sq.d ?_ _ | refine Sq.e ?_ | refine Sq.f ?_ _)); exact BK197.out) hb)
           have n7_ := Sq.l (Sq.m (g := gb202) (o := .cells #[.slice Ao34 t220.length co34, .int .i64 t201] 65 (0, 0)) (by (with_reducible repeat (first | refine Sq.d ?_ _ | refine Sq.e ?_ | refine Sq.f ?_ _)); exact BK202.out) hb)
           have n8_ := Sq.l (Sq.m (g := gb212) (o := .cells #[.slice Ao45 t208.length co45, .int .i64 t211] 65 (0, 0)) (by (with_reducible repeat (first | refine Sq.d ?_ _ | refine Sq.e ?_ | refine Sq.f ?_ _)); exact BK212.out) hb)
           have n9_ := Sq.l (Sq.m (g := gb238) (o := .cells #[.slice none 0 0, .int .i64 0] 65 (0, 0)) (by (with_reducible repeat (first | refine Sq.d ?_ _ | refine Sq.e ?_ | refine Sq.f ?_ _)); exact BK238.out) hb)
           have n10_ := Sq.l (Sq.a4 (by repeat (first | (with_reducible first | exact HB.out | apply Sq.i | apply Sq.j | apply Sq.k | refine Sq.h ?_ GE181.out | refine Sq.h ?_ GE182.out | refine Sq.h ?_ GE197.out | refine Sq.h ?_ GE202.out | refine Sq.h ?_ GE212.out | refine Sq.h ?_ GE238.out) | exact HB.out)) hb)
           clear HO_198000 HO_203000 HO_213000 BK181 BK182 BK197 BK202 BK212 BK238 HB; have HO_198000 := n0_; have HO_203000 := n1_; have HO_213000 := n2_; have HO227 := n3_; have BK181 := n4_; have BK182 := n5_; have BK197 := n6_; have BK202 := n7_; have BK212 := n8_; have BK238 := n9_; have HB := n10_; clear n0_ n1_ n2_ n3_ n4_ n5_ n6_ n7_ n8_ n9_ n10_; (try clear hb); (try clear hb2); (try clear hk); (try clear hi); (try clear ho0)
           refine hK.out _ _ ⟨(Sq.o BK181.out 0).trans rfl, (Sq.o BK181.out 1).trans rfl, (Sq.o BK182.out 0).trans rfl, (Sq.o BK182.out 1).trans rfl, (Sq.o BK182.out 2).trans rfl, (Sq.o BK182.out 3).trans rfl, (Sq.o BK182.out 4).trans rfl⟩ (fun hHeld => ?_)
           clear hK K
           refine norm_ (a' := ?_) ?_ ?_
           rotate_left
           ·show Act.put _ (some 61) _ = _
            simp only [Act.put, List.setIfInBounds_toArray, List.set_cons_zero, List.set_cons_succ, i64_w, i32_w]
            rfl
           refine one_ (i := 3) (N := some 63) #[true, true, true, true, false, true, false] rfl rfl (by kernel_rfl) (by decide) (fun K hK => ?_)
           refine goes_ Try.func59 (by kernel_rfl) rfl #[.agg #[.int .i64 a1_0, .int .i64 a1_1, .int .i64 a1_2, .int .i64 a1_3, .bool a1_4]] (by rfl) rfl rfl (by (try simp only [List.map_toArray, List.map_cons, List.map_nil]); first | done | rfl | (simp only [List.length_drop, List.length_take]; rfl)) ?_
           with_reducible refine (laws_toTlbEntry.calls a1_0 a1_1 a1_2 a1_3 a1_4 t229 t230 t231 t232 t233 _ A102.out).mono ?_
           rintro e w109 ⟨rfl, hb⟩
           refine ⟨_, rfl, ?_⟩
           have n0_ := Sq.l (Sq.n (by (with_reducible repeat (first | apply Sq.a | apply Sq.b | apply Sq.c)); exact HO_198000.out) hb)
           have n1_ := Sq.l (Sq.n (by (with_reducible repeat (first | apply Sq.a | apply Sq.b | apply Sq.c)); exact HO_203000.out) hb)
           have n2_ := Sq.l (Sq.n (by (with_reducible repeat (first | apply Sq.a | apply Sq.b | apply Sq.c)); exact HO_213000.out) hb)
           have n3_ := Sq.l (Sq.n (by (with_reducible repeat (first | apply Sq.a | apply Sq.b | apply Sq.c)); exact HO227.out) hb)
           have n4_ := Sq.l (Sq.m (g := gb181) (o := .cells #[.slice A0_0 l0_0.length c0_0, .int .i64 a0_1] 60 (0, 0)) (by (with_reducible repeat (first | refine Sq.d ?_ _ | refine Sq.e ?_ | refine Sq.f ?_ _)); exact BK181.out) hb)
           have n5_ := Sq.l (Sq.m (g := gb182) (o := .cells #[.int .i64 a1_0, .int .i64 a1_1, .int .i64 a1_2, .int .i64 a1_3, .bool a1_4] 97 (0, 0)) (by (with_reducible repeat (first | refine Sq.d ?_ _ | refine Sq.e ?_ | refine Sq.f ?_ _)); exact BK182.out) hb)
           have n6_ := Sq.l (Sq.m (g := gb197) (o := .cells #[.slice Ao26 t193.length co26, .int .i64 t196] 65 (0, 0)) (by (with_reducible repeat (first | refine Sq.d ?_ _ | refine Sq.e ?_ | refine Sq.f ?_ _)); exact BK197.out) hb)
           have n7_ := Sq.l (Sq.m (g := gb202) (o := .cells #[.slice Ao34 t220.length co34, .int .i64 t201] 65 (0, 0)) (by (with_reducible repeat (first | refine Sq.d ?_ _ | refine Sq.e ?_ | refine Sq.f ?_ _)); exact BK202.out) hb)
           have n8_ := Sq.l (Sq.m (g := gb212) (o := .cells #[.slice Ao45 t208.length co45, .int .i64 t211] 65 (0, 0)) (by (with_reducible repeat (first | refine Sq.d ?_ _ | refine Sq.e ?_ | refine Sq.f ?_ _)); exact BK212.out) hb)
           have n9_ := Sq.l (Sq.m (g := gb238) (o := .cells #[.slice none 0 0, .int .i64 0] 65 (0, 0)) (by (with_reducible repeat (first | refine Sq.d ?_ _ | refine Sq.e ?_ | refine Sq.f ?_ _)); exact BK238.out) hb)
           have n10_ := Sq.l (Sq.a4 (by repeat (first | (with_reducible first | exact HB.out | apply Sq.i | apply Sq.j | apply Sq.k | refine Sq.h ?_ GE181.out | refine Sq.h ?_ GE182.out | refine Sq.h ?_ GE197.out | refine Sq.h ?_ GE202.out | refine Sq.h ?_ GE212.out | refine Sq.h ?_ GE238.out) | exact HB.out)) hb)
           clear HO_198000 HO_203000 HO_213000 HO227 BK181 BK182 BK197 BK202 BK212 BK238 HB; have HO_198000 := n0_; have HO_203000 := n1_; have HO_213000 := n2_; have HO227 := n3_; have BK181 := n4_; have BK182 := n5_; have BK197 := n6_; have BK202 := n7_; have BK212 := n8_; have BK238 := n9_; have HB := n10_; clear n0_ n1_ n2_ n3_ n4_ n5_ n6_ n7_ n8_ n9_ n10_; (try clear hb); (try clear hb2); (try clear hk); (try clear hi)
           obtain ⟨Ao110, co110, eo110⟩ := Kd.R_slice HO227.out
           (first | subst eo110 | (injection eo110 with f1_ f2_ f3_; have f4_ := f1_.symm; have f5_ := f3_.symm; clear f1_ f2_ f3_; subst f4_; subst f5_))
           refine hK.out _ _ ⟨(Sq.o BK181.out 0).trans rfl, (Sq.o BK181.out 1).trans rfl, (Sq.o BK182.out 0).trans rfl, (Sq.o BK182.out 1).trans rfl, (Sq.o BK182.out 2).trans rfl, (Sq.o BK182.out 3).trans rfl, (Sq.o BK182.out 4).trans rfl⟩ (fun hHeld => ?_)
           clear hK K
           refine norm_ (a' := ?_) ?_ ?_
           rotate_left
           ·show Act.put _ (some 63) _ = _
            simp only [Act.put, List.setIfInBounds_toArray, List.set_cons_zero, List.set_cons_succ, i64_w, i32_w]
            rfl
           refine one_ (i := 4) (N := some 64) #[true, true, true, true, true, true, false] rfl rfl (by kernel_rfl) (by decide) (fun K hK => ?_)
           refine goes_ Try.func60 (by kernel_rfl) rfl #[.agg #[.slice Ao110 t225.length co110, .int .i64 t228], .agg #[.int .i64 t229, .int .i64 t230, .int .i64 t231, .int .i64 t232, .bool t233]] (by rfl) rfl rfl (by (try simp only [List.map_toArray, List.map_cons, List.map_nil]); first | done | rfl | (simp only [List.length_drop, List.length_take]; rfl)) ?_
           with_reducible refine (impl_TlbPut.calls _ _ t225 t228 t229 t230 t231 t232 t233 t234 t237 _ ?side1 ?side2 A103.out).mono ?_
           (case side1 => repeat (first | exact (Sq.b4 HO227.out).2.2 | (with_reducible refine Sq.s ?_ _) | (with_reducible refine Sq.t ?_ _) | (with_reducible refine Sq.u ?_)))
           (case side2 => exact (Sq.b4 HO227.out).2.1)
           rintro e w111 ⟨v235, rfl, ho0, hb⟩
           refine ⟨_, rfl, ?_⟩
           have n0_ := Sq.l (Sq.p (by (with_reducible repeat (first | apply Sq.a | apply Sq.b | apply Sq.c)); exact HO_198000.out) (Sq.b7 ho0) hb)
           have n1_ := Sq.l (Sq.p (by (with_reducible repeat (first | apply Sq.a | apply Sq.b | apply Sq.c)); exact HO_203000.out) (Sq.b7 ho0) hb)
           have n2_ := Sq.l (Sq.p (by (with_reducible repeat (first | apply Sq.a | apply Sq.b | apply Sq.c)); exact HO_213000.out) (Sq.b7 ho0) hb)
           have n3_ := Sq.l (Sq.p (by (with_reducible repeat (first | apply Sq.a | apply Sq.b | apply Sq.c)); exact HO227.out) (Sq.b7 ho0) hb)
           have n4_ := Sq.l (Sq.a2 (Sq.c1 (Sq.c1 (Sq.c1 (Sq.c1 ho0 (Sq.c2 (by (with_reducible repeat (first | apply Sq.a | apply Sq.b | apply Sq.c)); exact HO_198000.out))) (Sq.c2 (by (with_reducible repeat (first | apply Sq.a | apply Sq.b | apply Sq.c)); exact HO_203000.out))) (Sq.c2 (by (with_reducible repeat (first | apply Sq.a | apply Sq.b | apply Sq.c)); exact HO_213000.out))) (Sq.c2 (by (with_reducible repeat (first | apply Sq.a | apply Sq.b | apply Sq.c)); exact HO227.out))) (Sq.a5 (by repeat (first | (with_reducible first | exact HB.out | apply Sq.i | apply Sq.j | apply Sq.k | refine Sq.h ?_ GE181.out | refine Sq.h ?_ GE182.out | refine Sq.h ?_ GE197.out | refine Sq.h ?_ GE202.out | refine Sq.h ?_ GE212.out | refine Sq.h ?_ GE238.out) | exact HB.out))))
           have n5_ := Sq.l (Sq.m (g := gb181) (o := .cells #[.slice A0_0 l0_0.length c0_0, .int .i64 a0_1] 60 (0, 0)) (by (with_reducible repeat (first | refine Sq.d ?_ _ | refine Sq.e ?_ | refine Sq.f ?_ _)); exact BK181.out) hb)
           have n6_ := Sq.l (Sq.m (g := gb182) (o := .cells #[.int .i64 a1_0, .int .i64 a1_1, .int .i64 a1_2, .int .i64 a1_3, .bool a1_4] 97 (0, 0)) (by (with_reducible repeat (first | refine Sq.d ?_ _ | refine Sq.e ?_ | refine Sq.f ?_ _)); exact BK182.out) hb)
           have n7_ := Sq.l (Sq.m (g := gb197) (o := .cells #[.slice Ao26 t193.length co26, .int .i64 t196] 65 (0, 0)) (by (with_reducible repeat (first | refine Sq.d ?_ _ | refine Sq.e ?_ | refine Sq.f ?_ _)); exact BK197.out) hb)
           have n8_ := Sq.l (Sq.m (g := gb202) (o := .cells #[.slice Ao34 t220.length co34, .int .i64 t201] 65 (0, 0)) (by (with_reducible repeat (first | refine Sq.d ?_ _ | refine Sq.e ?_ | refine Sq.f ?_ _)); exact BK202.out) hb)
           have n9_ := Sq.l (Sq.m (g := gb212) (o := .cells #[.slice Ao45 t208.length co45, .int .i64 t211] 65 (0, 0)) (by (with_reducible repeat (first | refine Sq.d ?_ _ | refine Sq.e ?_ | refine Sq.f ?_ _)); exact BK212.out) hb)
           have n10_ := Sq.l (Sq.m (g := gb238) (o := .cells #[.slice none 0 0, .int .i64 0] 65 (0, 0)) (by (with_reducible repeat (first | refine Sq.d ?_ _ | refine Sq.e ?_ | refine Sq.f ?_ _)); exact BK238.out) hb)
           have n11_ := Sq.l (Sq.a4 (by repeat (first | (with_reducible first | exact HB.out | apply Sq.i | apply Sq.j | apply Sq.k | refine Sq.h ?_ GE181.out | refine Sq.h ?_ GE182.out | refine Sq.h ?_ GE197.out | refine Sq.h ?_ GE202.out | refine Sq.h ?_ GE212.out | refine Sq.h ?_ GE238.out) | exact HB.out)) hb)
           clear HO_198000 HO_203000 HO_213000 HO227 BK181 BK182 BK197 BK202 BK212 BK238 HB; have HO_198000 := n0_; have HO_203000 := n1_; have HO_213000 := n2_; have HO227 := n3_; have HO236 := n4_; have BK181 := n5_; have BK182 := n6_; have BK197 := n7_; have BK202 := n8_; have BK212 := n9_; have BK238 := n10_; have HB := n11_; clear n0_ n1_ n2_ n3_ n4_ n5_ n6_ n7_ n8_ n9_ n10_ n11_; (try clear hb); (try clear hb2); (try clear hk); (try clear hi); (try clear ho0)
           refine hK.out _ _ ⟨(Sq.o BK181.out 0).trans rfl, (Sq.o BK181.out 1).trans rfl, (Sq.o BK182.out 0).trans rfl, (Sq.o BK182.out 1).trans rfl, (Sq.o BK182.out 2).trans rfl, (Sq.o BK182.out 3).trans rfl, (Sq.o BK182.out 4).trans rfl⟩ (fun hHeld => ?_)
           clear hK K
           refine norm_ (a' := ?_) ?_ ?_
           rotate_left
           ·show Act.put _ (some 64) _ = _
            simp only [Act.put, List.setIfInBounds_toArray, List.set_cons_zero, List.set_cons_succ, i64_w, i32_w]
            rfl
           exact norm_ (by simp only [putAll, Act.put, List.setIfInBounds_toArray, List.set_cons_zero, List.set_cons_succ]) (hCont (.slice Ao110 t225.length co110, v235, gb238) _ ⟨hHeld, (by (with_reducible repeat (first | apply Sq.a | apply Sq.b | apply Sq.c)); exact Sq.a3 HO227.out (fun _ hk => ⟨hk.2, ⟨hk.1.1.1.2, ⟨hk.1.1.2, hk.1.2⟩⟩⟩)), (by (with_reducible repeat (first | apply Sq.a | apply Sq.b | apply Sq.c)); exact Sq.a3 HO236.out (fun _ hk => ⟨hk.2, ⟨hk.1.1.1.2, ⟨hk.1.1.2, hk.1.2⟩⟩⟩)), (by (with_reducible repeat (first | apply Sq.a | apply Sq.b | apply Sq.c)); exact Sq.a3 HO_198000.out (fun _ hk => ⟨hk.1.2, ⟨hk.2, ⟨hk.1.1.1, hk.1.1.2⟩⟩⟩)), (by (with_reducible repeat (first | apply Sq.a | apply Sq.b | apply Sq.c)); exact Sq.a3 HO_203000.out (fun _ hk => ⟨hk.1.2, ⟨hk.2, ⟨hk.1.1.1, hk.1.1.2⟩⟩⟩)), (by (with_reducible repeat (first | apply Sq.a | apply Sq.b | apply Sq.c)); exact Sq.a3 HO_213000.out (fun _ hk => ⟨hk.1.2, ⟨hk.2, ⟨hk.1.1.1, hk.1.1.2⟩⟩⟩)), (by (with_reducible repeat (first | refine Sq.d ?_ _ | refine Sq.e ?_ | refine Sq.f ?_ _)); exact BK181.out), (by (with_reducible repeat (first | refine Sq.d ?_ _ | refine Sq.e ?_ | refine Sq.f ?_ _)); exact BK182.out), (by (with_reducible repeat (first | refine Sq.d ?_ _ | refine Sq.e ?_ | refine Sq.f ?_ _)); exact BK197.out), (by (with_reducible repeat (first | refine Sq.d ?_ _ | refine Sq.e ?_ | refine Sq.f ?_ _)); exact BK202.out), (by (with_reducible repeat (first | refine Sq.d ?_ _ | refine Sq.e ?_ | refine Sq.f ?_ _)); exact BK212.out), (by (with_reducible repeat (first | refine Sq.d ?_ _ | refine Sq.e ?_ | refine Sq.f ?_ _)); exact BK238.out), GW238.out, GE238.out, NB181_238.out, NB238_181.out, NB182_238.out, NB238_182.out, NB197_238.out, NB238_197.out, NB202_238.out, NB238_202.out, NB212_238.out, NB238_212.out, (by repeat (first | (with_reducible first | exact HB.out | apply Sq.i | apply Sq.j | apply Sq.k | refine Sq.h ?_ GE181.out | refine Sq.h ?_ GE182.out | refine Sq.h ?_ GE197.out | refine Sq.h ?_ GE202.out | refine Sq.h ?_ GE212.out | refine Sq.h ?_ GE238.out) | exact HB.out))⟩)
         rintro ⟨v226, v235, gb238⟩ w112 ⟨hS_, h0_, h1_, h2_, h3_, h4_, h5_, h6_, h7_, h8_, h9_, h10_, h11_, h12_, h13_, h14_, h15_, h16_, h17_, h18_, h19_, h20_, h21_, h22_, h23_⟩
         have n0_ : Aside0 (Kd.R k99 99 w112 w.heap.size (fun k_ => some k_ ≠ (v235 : Value).ownBlock ∧ some k_ ≠ (.slice Ao26 t193.length co26 : Value).ownBlock ∧ some k_ ≠ (.slice Ao34 t220.length co34 : Value).ownBlock ∧ some k_ ≠ (.slice Ao45 t208.length co45 : Value).ownBlock) v226 t225) := ⟨h0_⟩
         have n1_ : Aside0 (Kd.R k99 99 w112 w.heap.size (fun k_ => some k_ ≠ (v226 : Value).ownBlock ∧ some k_ ≠ (.slice Ao26 t193.length co26 : Value).ownBlock ∧ some k_ ≠ (.slice Ao34 t220.length co34 : Value).ownBlock ∧ some k_ ≠ (.slice Ao45 t208.length co45 : Value).ownBlock) v235 t234) := ⟨h1_⟩
         have n2_ : Aside0 (Kd.R k99 99 w112 w.heap.size (fun k_ => some k_ ≠ (v226 : Value).ownBlock ∧ some k_ ≠ (v235 : Value).ownBlock ∧ some k_ ≠ (.slice Ao34 t220.length co34 : Value).ownBlock ∧ some k_ ≠ (.slice Ao45 t208.length co45 : Value).ownBlock) (.slice Ao26 t193.length co26) t193) := ⟨h2_⟩
         have n3_ : Aside0 (Kd.R k99 99 w112 w.heap.size (fun k_ => some k_ ≠ (v226 : Value).ownBlock ∧ some k_ ≠ (v235 : Value).ownBlock ∧ some k_ ≠ (.slice Ao26 t193.length co26 : Value).ownBlock ∧ some k_ ≠ (.slice Ao45 t208.length co45 : Value).ownBlock) (.slice Ao34 t220.length co34) t220) := ⟨h3_⟩
         have n4_ : Aside0 (Kd.R k99 99 w112 w.heap.size (fun k_ => some k_ ≠ (v226 : Value).ownBlock ∧ some k_ ≠ (v235 : Value).ownBlock ∧ some k_ ≠ (.slice Ao26 t193.length co26 : Value).ownBlock ∧ some k_ ≠ (.slice Ao34 t220.length co34 : Value).ownBlock) (.slice Ao45 t208.length co45) t223) := ⟨h4_⟩
         have n5_ : Aside0 (w112.heap[gb181]? = some (.cells #[.slice A0_0 l0_0.length c0_0, .int .i64 a0_1] 60 (0, 0))) := ⟨h5_⟩
         have n6_ : Aside0 (w112.heap[gb182]? = some (.cells #[.int .i64 a1_0, .int .i64 a1_1, .int .i64 a1_2, .int .i64 a1_3, .bool a1_4] 97 (0, 0))) := ⟨h6_⟩
         have n7_ : Aside0 (w112.heap[gb197]? = some (.cells #[.slice Ao26 t193.length co26, .int .i64 t196] 65 (0, 0))) := ⟨h7_⟩
         have n8_ : Aside0 (w112.heap[gb202]? = some (.cells #[.slice Ao34 t220.length co34, .int .i64 t201] 65 (0, 0))) := ⟨h8_⟩
         have n9_ : Aside0 (w112.heap[gb212]? = some (.cells #[.slice Ao45 t208.length co45, .int .i64 t211] 65 (0, 0))) := ⟨h9_⟩
         have n10_ : Aside0 (w112.heap[gb238]? = some (.cells #[.slice none 0 0, .int .i64 0] 65 (0, 0))) := ⟨h10_⟩
         have n11_ : Aside0 (w.heap.size ≤ gb238) := ⟨h11_⟩
         have n12_ : Aside0 (w.heap.size ≤ gb238) := ⟨h12_⟩
         have n13_ : Aside0 (gb181 ≠ gb238) := ⟨h13_⟩
         have n14_ : Aside0 (gb238 ≠ gb181) := ⟨h14_⟩
         have n15_ : Aside0 (gb182 ≠ gb238) := ⟨h15_⟩
         have n16_ : Aside0 (gb238 ≠ gb182) := ⟨h16_⟩
         have n17_ : Aside0 (gb197 ≠ gb238) := ⟨h17_⟩
         have n18_ : Aside0 (gb238 ≠ gb197) := ⟨h18_⟩
         have n19_ : Aside0 (gb202 ≠ gb238) := ⟨h19_⟩
         have n20_ : Aside0 (gb238 ≠ gb202) := ⟨h20_⟩
         have n21_ : Aside0 (gb212 ≠ gb238) := ⟨h21_⟩
         have n22_ : Aside0 (gb238 ≠ gb212) := ⟨h22_⟩
         have n23_ : Aside0 (Below w.heap.size w w112) := ⟨h23_⟩
         clear HO_198000 HO_203000 HO_213000 BK181 BK182 BK197 BK202 BK212 HB h0_ h1_ h2_ h3_ h4_ h5_ h6_ h7_ h8_ h9_ h10_ h11_ h12_ h13_ h14_ h15_ h16_ h17_ h18_ h19_ h20_ h21_ h22_ h23_; have HO227 := n0_; have HO236 := n1_; have HO_198000 := n2_; have HO_203000 := n3_; have HO_213000 := n4_; have BK181 := n5_; have BK182 := n6_; have BK197 := n7_; have BK202 := n8_; have BK212 := n9_; have BK238 := n10_; have GW238 := n11_; have GE238 := n12_; have NB181_238 := n13_; have NB238_181 := n14_; have NB182_238 := n15_; have NB238_182 := n16_; have NB197_238 := n17_; have NB238_197 := n18_; have NB202_238 := n19_; have NB238_202 := n20_; have NB212_238 := n21_; have NB238_212 := n22_; have HB := n23_; clear n0_ n1_ n2_ n3_ n4_ n5_ n6_ n7_ n8_ n9_ n10_ n11_ n12_ n13_ n14_ n15_ n16_ n17_ n18_ n19_ n20_ n21_ n22_ n23_
         have hHeld : w112.cell? ⟨gb181, 0, none⟩ = some (.slice A0_0 l0_0.length c0_0) ∧ w112.cell? ⟨gb181, 1, none⟩ = some (.int .i64 a0_1) ∧ w112.cell? ⟨gb182, 0, none⟩ = some (.int .i64 a1_0) ∧ w112.cell? ⟨gb182, 1, none⟩ = some (.int .i64 a1_1) ∧ w112.cell? ⟨gb182, 2, none⟩ = some (.int .i64 a1_2) ∧ w112.cell? ⟨gb182, 3, none⟩ = some (.int .i64 a1_3) ∧ w112.cell? ⟨gb182, 4, none⟩ = some (.bool a1_4) := hS_
         obtain ⟨Ao113, co113, eo113⟩ := Kd.R_slice HO236.out
         (first | subst eo113 | (injection eo113 with f1_ f2_ f3_; have f4_ := f1_.symm; have f5_ := f3_.symm; clear f1_ f2_ f3_; subst f4_; subst f5_))
         refine norm_ (a' := ?_) ?_ ?_
         rotate_left
         ·simp only [putAll, Act.put, List.setIfInBounds_toArray, List.set_cons_zero, List.set_cons_succ]
          rfl
         refine one_ (i := 6) (N := none) #[true, true, true, true, true, true, true] rfl rfl (by kernel_rfl) (by decide) (fun K hK => ?_)
         have hs114 : w112.cell? ⟨gb238, 0, none⟩ = some (.slice none 0 0) := (Sq.o BK238.out 0).trans rfl
         have hfs114 := Sq.r BK238.out 0
         have hns114_0 := NB181_238.out; have hns114_1 := NB182_238.out; have hns114_2 := NB197_238.out; have hns114_3 := NB202_238.out; have hns114_4 := NB212_238.out; have hms114_0 := NB238_181.out; have hms114_1 := NB238_182.out; have hms114_2 := NB238_197.out; have hms114_3 := NB238_202.out; have hms114_4 := NB238_212.out
         have hs115 : w112.cell? ⟨gb238, 1, none⟩ = some (.int .i64 0) := (Sq.o BK238.out 1).trans rfl
         have hfs115 := Sq.r BK238.out 1
         have hns115_0 := NB181_238.out; have hns115_1 := NB182_238.out; have hns115_2 := NB197_238.out; have hns115_3 := NB202_238.out; have hns115_4 := NB212_238.out; have hms115_0 := NB238_181.out; have hms115_1 := NB238_182.out; have hms115_2 := NB238_197.out; have hms115_3 := NB238_202.out; have hms115_4 := NB238_212.out
         refine skip_ (w1 := ?_) (by rfl) rfl ?_ ?_
         rotate_left
         ·go_simp
          rfl
         refine hK.out _ _ ⟨((cell_far (p := ⟨gb238, _, none⟩) NB181_238.out _).trans (((cell_far (p := ⟨gb238, _, none⟩) NB181_238.out _).trans (hHeld.1)))), ((cell_far (p := ⟨gb238, _, none⟩) NB181_238.out _).trans (((cell_far (p := ⟨gb238, _, none⟩) NB181_238.out _).trans (hHeld.2.1)))), ((cell_far (p := ⟨gb238, _, none⟩) NB182_238.out _).trans (((cell_far (p := ⟨gb238, _, none⟩) NB182_238.out _).trans (hHeld.2.2.1)))), ((cell_far (p := ⟨gb238, _, none⟩) NB182_238.out _).trans (((cell_far (p := ⟨gb238, _, none⟩) NB182_238.out _).trans (hHeld.2.2.2.1)))), ((cell_far (p := ⟨gb238, _, none⟩) NB182_238.out _).trans (((cell_far (p := ⟨gb238, _, none⟩) NB182_238.out _).trans (hHeld.2.2.2.2.1)))), ((cell_far (p := ⟨gb238, _, none⟩) NB182_238.out _).trans (((cell_far (p := ⟨gb238, _, none⟩) NB182_238.out _).trans (hHeld.2.2.2.2.2.1)))), ((cell_far (p := ⟨gb238, _, none⟩) NB182_238.out _).trans (((cell_far (p := ⟨gb238, _, none⟩) NB182_238.out _).trans (hHeld.2.2.2.2.2.2))))⟩ (fun hHeld => ?_)
         clear hK K
         refine done_ (by kernel_rfl) ?_
         have hnb116 := NB238_181.out; have hnc116 := NB181_238.out; have hnb117 := NB238_182.out; have hnc117 := NB182_238.out; have hnb118 := NB238_197.out; have hnc118 := NB197_238.out; have hnb119 := NB238_202.out; have hnc119 := NB202_238.out; have hnb120 := NB238_212.out; have hnc120 := NB212_238.out
         have hcz121_0 : w112.cell? ⟨gb238, 0, none⟩ = some (.slice none 0 0) := (Sq.o BK238.out 0).trans rfl
         have hcz121_1 : w112.cell? ⟨gb238, 1, none⟩ = some (.int .i64 0) := (Sq.o BK238.out 1).trans rfl
         have hfz121_0 := Sq.r BK238.out 0
         have hfz121_1 := Sq.r BK238.out 1
         have hnb122 := NB197_181.out; have hnc122 := NB181_197.out; have hnb123 := NB197_182.out; have hnc123 := NB182_197.out; have hnb124 := NB197_202.out; have hnc124 := NB202_197.out; have hnb125 := NB197_212.out; have hnc125 := NB212_197.out
         have hcz126_0 : w112.cell? ⟨gb197, 0, none⟩ = some (.slice Ao26 t193.length co26) := (Sq.o BK197.out 0).trans rfl
         have hcz126_1 : w112.cell? ⟨gb197, 1, none⟩ = some (.int .i64 t196) := (Sq.o BK197.out 1).trans rfl
         have hfz126_0 := Sq.r BK197.out 0
         have hfz126_1 := Sq.r BK197.out 1
         go_upto_if 68 with (first | ((with_reducible refine gate_callee (f := 40) rfl ?_); refine goesL_ (some 67) rfl rfl Try.func40 (by kernel_rfl) rfl #[.agg #[.slice Ao113 t234.length co113, .int .i64 t237], .agg #[.slice Ao26 t193.length co26, .int .i64 t196]] rfl (by (try simp only [List.map_toArray, List.map_cons, List.map_nil]); first | done | rfl | (simp only [List.length_drop, List.length_take]; rfl)) ?_; (with_reducible refine (laws_eqTlb.calls kj65 _ _ t234 t237 _ _ t193 t196 t239 _ ?side1 ?side2 ?side3 ?side4 A104.out).mono ?_); (case side1 => refine (Sq.b4 (e := 99) (base := w.heap.size) (ok := fun k_ => (some k_ ≠ (v226 : Value).ownBlock ∧ (some k_ ≠ (.slice Ao26 t193.length co26 : Value).ownBlock ∧ (some k_ ≠ (.slice Ao34 t220.length co34 : Value).ownBlock ∧ some k_ ≠ (.slice Ao45 t208.length co45 : Value).ownBlock)))) (n := t234.length) (c := co113) ?_).2.2; exact (by (with_reducible repeat (first | apply Sq.a | apply Sq.b | apply Sq.c)); exact (Sq.a3 (Sq.R2 (Sq.b5 HO236.out BK238.out (by decide)) (fun _ hk => hk.2)) (fun _ h_ => h_.1)))); (case side2 => exact (Sq.b4 HO236.out).2.1); (case side3 => refine (Sq.b4 (e := 99) (base := w.heap.size) (ok := fun k_ => (some k_ ≠ (v226 : Value).ownBlock ∧ (some k_ ≠ (.slice Ao113 t234.length co113 : Value).ownBlock ∧ (some k_ ≠ (.slice Ao34 t220.length co34 : Value).ownBlock ∧ some k_ ≠ (.slice Ao45 t208.length co45 : Value).ownBlock)))) (n := t193.length) (c := co26) ?_).2.2; exact (by (with_reducible repeat (first | apply Sq.a | apply Sq.b | apply Sq.c)); exact (Sq.a3 (Sq.R2 (Sq.b5 HO_198000.out BK238.out (by decide)) (fun _ hk => hk.2)) (fun _ h_ => h_.1)))); (case side4 => exact (Sq.b4 HO_198000.out).2.1); rintro e w127 ⟨rfl, hb⟩; refine ⟨_, rfl, ?_⟩; have n0_ := Sq.l (Sq.n (by (with_reducible repeat (first | apply Sq.a | apply Sq.b | apply Sq.c)); exact (Sq.a3 (Sq.R2 (Sq.b5 HO_198000.out BK238.out (by decide)) (fun _ hk => hk.2)) (fun _ h_ => h_.1))) hb); have n1_ := Sq.l (Sq.n (by (with_reducible repeat (first | apply Sq.a | apply Sq.b | apply Sq.c)); exact (Sq.a3 (Sq.R2 (Sq.b5 HO_203000.out BK238.out (by decide)) (fun _ hk => hk.2)) (fun _ h_ => h_.1))) hb); have n2_ := Sq.l (Sq.n (by (with_reducible repeat (first | apply Sq.a | apply Sq.b | apply Sq.c)); exact (Sq.a3 (Sq.R2 (Sq.b5 HO_213000.out BK238.out (by decide)) (fun _ hk => hk.2)) (fun _ h_ => h_.1))) hb); have n3_ := Sq.l (Sq.n (by (with_reducible repeat (first | apply Sq.a | apply Sq.b | apply Sq.c)); exact (Sq.a3 (Sq.R2 (Sq.b5 HO227.out BK238.out (by decide)) (fun _ hk => hk.2)) (fun _ h_ => h_.1))) hb); have n4_ := Sq.l (Sq.n (by (with_reducible repeat (first | apply Sq.a | apply Sq.b | apply Sq.c)); exact (Sq.a3 (Sq.R2 (Sq.b5 HO236.out BK238.out (by decide)) (fun _ hk => hk.2)) (fun _ h_ => h_.1))) hb); have n5_ := Sq.l (Sq.m (g := gb181) (o := .cells #[.slice A0_0 l0_0.length c0_0, .int .i64 a0_1] 60 (0, 0)) (by (with_reducible repeat (first | refine Sq.d ?_ _ | refine Sq.e ?_ | refine Sq.f ?_ _)); refine Sq.B2 ?_ NB181_238.out; (with_reducible repeat (first | refine Sq.d ?_ _ | refine Sq.e ?_ | refine Sq.f ?_ _)); exact BK181.out) hb); have n6_ := Sq.l (Sq.m (g := gb182) (o := .cells #[.int .i64 a1_0, .int .i64 a1_1, .int .i64 a1_2, .int .i64 a1_3, .bool a1_4] 97 (0, 0)) (by (with_reducible repeat (first | refine Sq.d ?_ _ | refine Sq.e ?_ | refine Sq.f ?_ _)); refine Sq.B2 ?_ NB182_238.out; (with_reducible repeat (first | refine Sq.d ?_ _ | refine Sq.e ?_ | refine Sq.f ?_ _)); exact BK182.out) hb); have n7_ := Sq.l (Sq.m (g := gb197) (o := .cells #[.slice Ao26 t193.length co26, .int .i64 t196] 65 (0, 0)) (by (with_reducible repeat (first | refine Sq.d ?_ _ | refine Sq.e ?_ | refine Sq.f ?_ _)); refine Sq.B2 ?_ NB197_238.out; (with_reducible repeat (first | refine Sq.d ?_ _ | refine Sq.e ?_ | refine Sq.f ?_ _)); exact BK197.out) hb); have n8_ := Sq.l (Sq.m (g := gb202) (o := .cells #[.slice Ao34 t220.length co34, .int .i64 t201] 65 (0, 0)) (by (with_reducible repeat (first | refine Sq.d ?_ _ | refine Sq.e ?_ | refine Sq.f ?_ _)); refine Sq.B2 ?_ NB202_238.out; (with_reducible repeat (first | refine Sq.d ?_ _ | refine Sq.e ?_ | refine Sq.f ?_ _)); exact BK202.out) hb); have n9_ := Sq.l (Sq.m (g := gb212) (o := .cells #[.slice Ao45 t208.length co45, .int .i64 t211] 65 (0, 0)) (by (with_reducible repeat (first | refine Sq.d ?_ _ | refine Sq.e ?_ | refine Sq.f ?_ _)); refine Sq.B2 ?_ NB212_238.out; (with_reducible repeat (first | refine Sq.d ?_ _ | refine Sq.e ?_ | refine Sq.f ?_ _)); exact BK212.out) hb); have n10_ := Sq.l (Sq.m (g := gb238) (o := .cells #[.slice Ao113 t234.length co113, .int .i64 t237] 65 (0, 0)) (by (with_reducible repeat (first | refine Sq.d ?_ _ | refine Sq.e ?_ | refine Sq.f ?_ _)); refine Sq.v (cs := #[.slice Ao113 t234.length co113, .int .i64 0]) ?_ 1 _ rfl; (with_reducible repeat (first | refine Sq.d ?_ _ | refine Sq.e ?_ | refine Sq.f ?_ _)); refine Sq.v (cs := #[.slice none 0 0, .int .i64 0]) ?_ 0 _ rfl; (with_reducible repeat (first | refine Sq.d ?_ _ | refine Sq.e ?_ | refine Sq.f ?_ _)); exact BK238.out) hb); have n11_ := Sq.l (Sq.a4 (by repeat (first | (with_reducible first | exact HB.out | apply Sq.i | apply Sq.j | apply Sq.k | refine Sq.h ?_ GE181.out | refine Sq.h ?_ GE182.out | refine Sq.h ?_ GE197.out | refine Sq.h ?_ GE202.out | refine Sq.h ?_ GE212.out | refine Sq.h ?_ GE238.out) | exact HB.out)) hb); clear HO_198000; clear HO_203000; clear HO_213000; clear HO227; clear HO236; clear BK181; clear BK182; clear BK197; clear BK202; clear BK212; clear BK238; clear HB; have HO_198000 := n0_; have HO_203000 := n1_; have HO_213000 := n2_; have HO227 := n3_; have HO236 := n4_; have BK181 := n5_; have BK182 := n6_; have BK197 := n7_; have BK202 := n8_; have BK212 := n9_; have BK238 := n10_; have HB := n11_; clear n0_ n1_ n2_ n3_ n4_ n5_ n6_ n7_ n8_ n9_ n10_ n11_; (try clear hb); (try clear hb2); (try clear hk); (try clear hi)))
         (try simp only [Act.put, List.setIfInBounds_toArray, List.set_cons_zero, List.set_cons_succ])
         have H := HC105.out
         clear HC105
         by_cases c128 : t239 = true
         ·subst c128
          rw [if_pos rfl] at H
          replace H := Option.bind_eq_some_iff.mp H
          obtain ⟨t240, A1290, H⟩ := H
          (try dsimp only at H)
          have A129 := Sq.l A1290
          clear A1290
          have HC130 := Sq.l H
          clear H; have hnb131 := NB212_181.out; have hnc131 := NB181_212.out; have hnb132 := NB212_182.out; have hnc132 := NB182_212.out; have hnb133 := NB212_197.out; have hnc133 := NB197_212.out; have hnb134 := NB212_202.out; have hnc134 := NB202_212.out; have hnb135 := NB212_238.out; have hnc135 := NB238_212.out
          have hcz136_0 : w127.cell? ⟨gb212, 0, none⟩ = some (.slice Ao45 t208.length co45) := (Sq.o BK212.out 0).trans rfl
          have hcz136_1 : w127.cell? ⟨gb212, 1, none⟩ = some (.int .i64 t211) := (Sq.o BK212.out 1).trans rfl
          have hfz136_0 := Sq.r BK212.out 0
          have hfz136_1 := Sq.r BK212.out 1
          go_upto_if 73 with (first | ((with_reducible refine gate_callee (f := 62) rfl ?_); refine goesL_ (some 71) rfl rfl Try.func62 (by kernel_rfl) rfl #[.agg #[.slice Ao45 t223.length co45, .int .i64 t211], .int .i64 1] rfl (by (try simp only [List.map_toArray, List.map_cons, List.map_nil]); first | done | (rw [show t223.length = t208.length from (Sq.b4 HO_213000.out).1.symm] <;> rfl) | rfl | (simp only [List.length_drop, List.length_take]; rfl)) ?_; (with_reducible refine (laws_heldTlb.calls kj65 _ _ t223 t211 1 t240 _ ?side1 ?side2 A129.out).mono ?_); (case side1 => repeat (first | exact (Sq.b4 HO_213000.out).2.2 | (with_reducible refine Sq.s ?_ _) | (with_reducible refine Sq.t ?_ _) | (with_reducible refine Sq.u ?_))); (case side2 => rw [show t223.length = t208.length from (Sq.b4 HO_213000.out).1.symm]; exact (Sq.b4 HO_213000.out).2.1); rintro e w137 ⟨rfl, hb⟩; refine ⟨_, rfl, ?_⟩; have n0_ := Sq.l (Sq.n (by (with_reducible repeat (first | apply Sq.a | apply Sq.b | apply Sq.c)); exact HO_198000.out) hb); have n1_ := Sq.l (Sq.n (by (with_reducible repeat (first | apply Sq.a | apply Sq.b | apply Sq.c)); exact HO_203000.out) hb); have n2_ := Sq.l (Sq.n (by (with_reducible repeat (first | apply Sq.a | apply Sq.b | apply Sq.c)); exact HO_213000.out) hb); have n3_ := Sq.l (Sq.n (by (with_reducible repeat (first | apply Sq.a | apply Sq.b | apply Sq.c)); exact HO227.out) hb); have n4_ := Sq.l (Sq.n (by (with_reducible repeat (first | apply Sq.a | apply Sq.b | apply Sq.c)); exact HO236.out) hb); have n5_ := Sq.l (Sq.m (g := gb181) (o := .cells #[.slice A0_0 l0_0.length c0_0, .int .i64 a0_1] 60 (0, 0)) (by (with_reducible repeat (first | refine Sq.d ?_ _ | refine Sq.e ?_ | refine Sq.f ?_ _)); exact BK181.out) hb); have n6_ := Sq.l (Sq.m (g := gb182) (o := .cells #[.int .i64 a1_0, .int .i64 a1_1, .int .i64 a1_2, .int .i64 a1_3, .bool a1_4] 97 (0, 0)) (by (with_reducible repeat (first | refine Sq.d ?_ _ | refine Sq.e ?_ | refine Sq.f ?_ _)); exact BK182.out) hb); have n7_ := Sq.l (Sq.m (g := gb197) (o := .cells #[.slice Ao26 t193.length co26, .int .i64 t196] 65 (0, 0)) (by (with_reducible repeat (first | refine Sq.d ?_ _ | refine Sq.e ?_ | refine Sq.f ?_ _)); exact BK197.out) hb); have n8_ := Sq.l (Sq.m (g := gb202) (o := .cells #[.slice Ao34 t220.length co34, .int .i64 t201] 65 (0, 0)) (by (with_reducible repeat (first | refine Sq.d ?_ _ | refine Sq.e ?_ | refine Sq.f ?_ _)); exact BK202.out) hb); have n9_ := Sq.l (Sq.m (g := gb212) (o := .cells #[.slice Ao45 t208.length co45, .int .i64 t211] 65 (0, 0)) (by (with_reducible repeat (first | refine Sq.d ?_ _ | refine Sq.e ?_ | refine Sq.f ?_ _)); exact BK212.out) hb); have n10_ := Sq.l (Sq.m (g := gb238) (o := .cells #[.slice Ao113 t234.length co113, .int .i64 t237] 65 (0, 0)) (by (with_reducible repeat (first | refine Sq.d ?_ _ | refine Sq.e ?_ | refine Sq.f ?_ _)); exact BK238.out) hb); have n11_ := Sq.l (Sq.a4 (by repeat (first | (with_reducible first | exact HB.out | apply Sq.i | apply Sq.j | apply Sq.k | refine Sq.h ?_ GE181.out | refine Sq.h ?_ GE182.out | refine Sq.h ?_ GE197.out | refine Sq.h ?_ GE202.out | refine Sq.h ?_ GE212.out | refine Sq.h ?_ GE238.out) | exact HB.out)) hb); clear HO_198000; clear HO_203000; clear HO_213000; clear HO227; clear HO236; clear BK181; clear BK182; clear BK197; clear BK202; clear BK212; clear BK238; clear HB; have HO_198000 := n0_; have HO_203000 := n1_; have HO_213000 := n2_; have HO227 := n3_; have HO236 := n4_; have BK181 := n5_; have BK182 := n6_; have BK197 := n7_; have BK202 := n8_; have BK212 := n9_; have BK238 := n10_; have HB := n11_; clear n0_ n1_ n2_ n3_ n4_ n5_ n6_ n7_ n8_ n9_ n10_ n11_; (try clear hb); (try clear hb2); (try clear hk); (try clear hi)))
          (try simp only [Act.put, List.setIfInBounds_toArray, List.set_cons_zero, List.set_cons_succ])
          have H := HC130.out
          clear HC130
          by_cases c138 : t240 < 0
          ·rw [if_pos c138] at H
           have c138b0 : decide (t240 < 0) = true := decide_eq_true c138
           clear c138
           (first | rw [c138b0] | (simp only [i64_w, i32_w]; rw [c138b0]) | skip)
           obtain rfl := Option.some.inj H
           go_wp2
           go_ret
           exact ⟨by first | rfl | (simp [errW_none, errW_some] <;> rfl) | (simp [*, errW_none, errW_some] <;> rfl), by repeat (first | (with_reducible first | exact HB.out | apply Sq.i | apply Sq.j | apply Sq.k | refine Sq.h ?_ GE181.out | refine Sq.h ?_ GE182.out | refine Sq.h ?_ GE197.out | refine Sq.h ?_ GE202.out | refine Sq.h ?_ GE212.out | refine Sq.h ?_ GE238.out) | exact HB.out)⟩
          ·rw [if_neg c138] at H
           have c138b0 : decide (t240 < 0) = false := decide_eq_false c138
           clear c138
           (first | rw [c138b0] | (simp only [i64_w, i32_w]; rw [c138b0]) | skip)
           have HC139 := Sq.l H
           clear H
           go_upto_if 76 with (fail)
           have H := HC139.out
           clear HC139
           by_cases c140 : t240 = t222
           ·rw [if_pos c140] at H
            have c140b0 : (t240 == t222) = true := beq_iff_eq.mpr c140
            have c140b1 : (t240 != t222) = false := bne_eq_false_iff_eq.mpr c140
            clear c140
            (first | rw [c140b0] | (simp only [i64_w, i32_w]; rw [c140b0]) | skip)
            obtain rfl := Option.some.inj H
            go_wp2
            go_ret
            exact ⟨by first | rfl | (simp [errW_none, errW_some] <;> rfl) | (simp [*, errW_none, errW_some] <;> rfl), by repeat (first | (with_reducible first | exact HB.out | apply Sq.i | apply Sq.j | apply Sq.k | refine Sq.h ?_ GE181.out | refine Sq.h ?_ GE182.out | refine Sq.h ?_ GE197.out | refine Sq.h ?_ GE202.out | refine Sq.h ?_ GE212.out | refine Sq.h ?_ GE238.out) | exact HB.out)⟩
           ·rw [if_neg c140] at H
            have c140b0 : (t240 == t222) = false := beq_eq_false_iff_ne.mpr c140
            have c140b1 : (t240 != t222) = true := bne_iff_ne.mpr c140
            (first | rw [c140b0] | (simp only [i64_w, i32_w]; rw [c140b0]) | skip)
            obtain rfl := Option.some.inj H
            go_wp2
            go_ret
            exact ⟨by first | rfl | (simp [errW_none, errW_some] <;> rfl) | (simp [*, errW_none, errW_some] <;> rfl), by repeat (first | (with_reducible first | exact HB.out | apply Sq.i | apply Sq.j | apply Sq.k | refine Sq.h ?_ GE181.out | refine Sq.h ?_ GE182.out | refine Sq.h ?_ GE197.out | refine Sq.h ?_ GE202.out | refine Sq.h ?_ GE212.out | refine Sq.h ?_ GE238.out) | exact HB.out)⟩
         ·replace c128 := Bool.eq_false_iff.mpr c128
          subst c128
          rw [if_neg (show ¬ (false = true) by decide)] at H
          obtain rfl := Option.some.inj H
          go_wp2
          go_ret
          exact ⟨by first | rfl | (simp [errW_none, errW_some] <;> rfl) | (simp [*, errW_none, errW_some] <;> rfl), by repeat (first | (with_reducible first | exact HB.out | apply Sq.i | apply Sq.j | apply Sq.k | refine Sq.h ?_ GE181.out | refine Sq.h ?_ GE182.out | refine Sq.h ?_ GE197.out | refine Sq.h ?_ GE202.out | refine Sq.h ?_ GE212.out | refine Sq.h ?_ GE238.out) | exact HB.out)⟩
        ·rw [if_neg c100] at H
         have c100b0 : (t224 == t222) = false := beq_eq_false_iff_ne.mpr c100
         have c100b1 : (t224 != t222) = true := bne_iff_ne.mpr c100
         (first | rw [c100b0] | (simp only [i64_w, i32_w]; rw [c100b0]) | skip)
         obtain rfl := Option.some.inj H
         go_wp2
         go_ret
         exact ⟨by first | rfl | (simp [errW_none, errW_some] <;> rfl) | (simp [*, errW_none, errW_some] <;> rfl), by repeat (first | (with_reducible first | exact HB.out | apply Sq.i | apply Sq.j | apply Sq.k | refine Sq.h ?_ GE181.out | refine Sq.h ?_ GE182.out | refine Sq.h ?_ GE197.out | refine Sq.h ?_ GE202.out | refine Sq.h ?_ GE212.out) | exact HB.out)⟩
   ·replace c64 := Bool.eq_false_iff.mpr c64
    subst c64
    rw [if_neg (show ¬ (false = true) by decide)] at H
    obtain rfl := Option.some.inj H
    go_wp2
    go_ret
    exact ⟨by first | rfl | (simp [errW_none, errW_some] <;> rfl) | (simp [*, errW_none, errW_some] <;> rfl), by repeat (first | (with_reducible first | exact HB.out | apply Sq.i | apply Sq.j | apply Sq.k | refine Sq.h ?_ GE181.out | refine Sq.h ?_ GE182.out | refine Sq.h ?_ GE197.out | refine Sq.h ?_ GE202.out | refine Sq.h ?_ GE212.out) | exact HB.out)⟩
  ·replace c56 := Bool.eq_false_iff.mpr c56
   subst c56
   rw [if_neg (show ¬ (false = true) by decide)] at H
   obtain rfl := Option.some.inj H
   go_wp2
   go_ret
   exact ⟨by first | rfl | (simp [errW_none, errW_some] <;> rfl) | (simp [*, errW_none, errW_some] <;> rfl), by repeat (first | (with_reducible first | exact HB.out | apply Sq.i | apply Sq.j | apply Sq.k | refine Sq.h ?_ GE181.out | refine Sq.h ?_ GE182.out | refine Sq.h ?_ GE197.out | refine Sq.h ?_ GE202.out | refine Sq.h ?_ GE212.out) | exact HB.out)⟩

end Go.Proofs.Ytjpgelnhmcblmaa.QFnExactTlbPut
