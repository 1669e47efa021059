-- Written for this claim by this session's own driver (wip/xprint.py).
import Derived.Test.YtmajbehafgajmaaQFnExactRaiseLinex0
import Derived.Test.YtmajbehafgajmaaQFnExactRaiseLinex3
import Derived.Test.YtmajbehafgajmaaQFnExactRaiseLinex4
namespace Go.Proofs.Ytmajbehafgajmaa.QFnExactRaiseLine
open Go.RowKit Go.Proofs.YtmajbehafgajmaaW.PrintWords Go.Proofs.YtmajbehafgajmaaW.PrintLast Go.Proofs.YtmajbehafgajmaaW.PrintMore
attribute [local go_sem] max2_int min2_int max_two min_two max_three min_three max_four min_four   -- for this text's walks alone
set_option linter.unusedVariables false
set_option linter.unusedSimpArgs false

/-! ### impl_ycopyMachine: function 87 -/
def impl_ycopyMachine.f (a0_0 : Int) (l0_1 : List Int) (a0_2 : Int) (l0_3 : List Int) (l0_4 : List Int) (a0_5 : ByteArray) (a0_6 : Int) (a0_7 : Int) (a0_8 : Int) (l0_9 : List (S185)) (l0_10 : List (S185)) (a0_11 : Int) : Option (Int × List Int × Int × List Int × List Int × ByteArray × Int × Int × Int × (List (S185)) × (List (S185)) × Int) := (slices_Clone_int64_int64.f l0_1).bind fun t220 => ((slices_Clone_int64_int64.f l0_3).bind fun t223 => ((slices_Clone_int64_int64.f l0_4).bind fun t226 => ((impl_PortValue_127.f l0_9).bind fun t229 => ((impl_PortValue_127.f l0_10).bind fun t232 => (some (a0_0, t220, a0_2, t223, t226, a0_5, a0_6, a0_7, a0_8, t229, t232, a0_11))))))
def impl_ycopyMachine.T1 : Bool × List (List Nat × List Nat) := (true, [([], []), ([0], [0]), ([1], [1]), ([], []), ([3], [3]), ([4, 2], [4]), ([], []), ([6], [6]), ([7, 5], [7]), ([], []), ([9], [9]), ([10, 8], [10]), ([], []), ([12], [12]), ([13, 11], [13]), ([0, 1, 2, 3, 4, 6, 7, 9, 10, 12, 13], []), ([15, 2, 14, 0, 1, 2, 3, 4, 6, 7, 9, 10, 12, 13], [2, 15]), ([0, 1, 2, 3, 4, 5, 6, 7, 9, 10, 12, 13, 15, 16], []), ([17, 5, 16, 0, 1, 2, 3, 4, 5, 6, 7, 9, 10, 12, 13, 15, 16], [5, 17]), ([0, 1, 2, 3, 4, 5, 6, 7, 8, 9, 10, 12, 13, 15, 16, 17, 18], []), ([19, 8, 18, 0, 1, 2, 3, 4, 5, 6, 7, 8, 9, 10, 12, 13, 15, 16, 17, 18], [8, 19]), ([0, 1, 2, 3, 4, 5, 6, 7, 8, 9, 10, 11, 12, 13, 15, 16, 17, 18, 19, 20], []), ([21, 11, 20, 0, 1, 2, 3, 4, 5, 6, 7, 8, 9, 10, 11, 12, 13, 15, 16, 17, 18, 19, 20], [11, 21]), ([0, 1, 2, 3, 4, 5, 6, 7, 8, 9, 10, 11, 12, 13, 14, 15, 16, 17, 18, 19, 20, 21, 22], []), ([23, 14, 22, 0, 1, 2, 3, 4, 5, 6, 7, 8, 9, 10, 11, 12, 13, 14, 15, 16, 17, 18, 19, 20, 21, 22], [14, 23])])
def impl_ycopyMachine.B1 : List Nat := [0, 1, 3, 0, 8, 31, 0, 64, 255, 0, 512, 2047, 0, 4096, 16383, 14047, 65535, 131071, 262143, 524287, 1048575, 2097151, 4194303, 8388607, 16777215]
theorem impl_ycopyMachine.tab1 : rtab .any (opsOf Try.f87 1) = impl_ycopyMachine.T1 := by kernel_rfl
theorem impl_ycopyMachine.bits1 : waitsOk impl_ycopyMachine.T1.2 impl_ycopyMachine.B1 = true := by kernel_rfl
set_option maxHeartbeats 8000000 in
set_option maxRecDepth 100000 in
theorem impl_ycopyMachine.calls (a0_0 : Int) (A0_1 : Option Addr) (c0_1 : Nat) (l0_1 : List Int) (a0_2 : Int) (A0_3 : Option Addr) (c0_3 : Nat) (l0_3 : List Int) (A0_4 : Option Addr) (c0_4 : Nat) (l0_4 : List Int) (a0_5 : ByteArray) (a0_6 : Int) (a0_7 : Int) (a0_8 : Int) (A0_9 : Option Addr) (c0_9 : Nat) (l0_9 : List (S185)) (A0_10 : Option Addr) (c0_10 : Nat) (l0_10 : List (S185)) (a0_11 : Int) (r1 : Int) (r2 : List Int) (r3 : Int) (r4 : List Int) (r5 : List Int) (r6 : ByteArray) (r7 : Int) (r8 : Int) (r9 : Int) (r10 : List (S185)) (r11 : List (S185)) (r12 : Int) (w : World) (hr0_1 : Kd.C (Kd.int .i64) w A0_1 l0_1.length l0_1) (hc0_1 : l0_1.length ≤ c0_1) (hr0_3 : Kd.C (Kd.int .i64) w A0_3 l0_3.length l0_3) (hc0_3 : l0_3.length ≤ c0_3) (hr0_4 : Kd.C (Kd.int .i64) w A0_4 l0_4.length l0_4) (hc0_4 : l0_4.length ≤ c0_4) (hr0_9 : Kd.C k185 w A0_9 l0_9.length l0_9) (hc0_9 : l0_9.length ≤ c0_9) (hr0_10 : Kd.C k185 w A0_10 l0_10.length l0_10) (hc0_10 : l0_10.length ≤ c0_10) (h : impl_ycopyMachine.f a0_0 l0_1 a0_2 l0_3 l0_4 a0_5 a0_6 a0_7 a0_8 l0_9 l0_10 a0_11 = some (r1, r2, r3, r4, r5, r6, r7, r8, r9, r10, r11, r12)) :
  Calls Try.prog 87 #[.agg #[.int .i64 a0_0, .slice A0_1 l0_1.length c0_1, .int .i64 a0_2, .slice A0_3 l0_3.length c0_3, .slice A0_4 l0_4.length c0_4, .string a0_5, .int .i64 a0_6, .int .i64 a0_7, .int .i64 a0_8, .slice A0_9 l0_9.length c0_9, .slice A0_10 l0_10.length c0_10, .int .i64 a0_11]] w fun e w' => ∃ v1_ v3_ v4_ v9_ v10_ : Value, e = .returned (.agg #[.int .i64 r1, v1_, .int .i64 r3, v3_, v4_, .string r6, .int .i64 r7, .int .i64 r8, .int .i64 r9, v9_, v10_, .int .i64 r12]) ∧ Kd.R (Kd.int .i64) 2 w' w.heap.size (fun k_ => some k_ ≠ (v3_ : Value).ownBlock ∧ some k_ ≠ (v4_ : Value).ownBlock) v1_ r2 ∧ Kd.R (Kd.int .i64) 2 w' w.heap.size (fun k_ => some k_ ≠ (v1_ : Value).ownBlock ∧ some k_ ≠ (v4_ : Value).ownBlock) v3_ r4 ∧ Kd.R (Kd.int .i64) 2 w' w.heap.size (fun k_ => some k_ ≠ (v1_ : Value).ownBlock ∧ some k_ ≠ (v3_ : Value).ownBlock) v4_ r5 ∧ Kd.R k185 185 w' w.heap.size (fun k_ => some k_ ≠ (v10_ : Value).ownBlock) v9_ r10 ∧ Kd.R k185 185 w' w.heap.size (fun k_ => some k_ ≠ (v9_ : Value).ownBlock) v10_ r11 ∧ Below w.heap.size w w' := by
 have hu71 := Try.underlying71
 have HR0_1 := Sq.l hr0_1
 have HC0_1 := Sq.l hc0_1
 clear hr0_1 hc0_1
 have HR0_3 := Sq.l hr0_3
 have HC0_3 := Sq.l hc0_3
 clear hr0_3 hc0_3
 have HR0_4 := Sq.l hr0_4
 have HC0_4 := Sq.l hc0_4
 clear hr0_4 hc0_4
 have HR0_9 := Sq.l hr0_9
 have HC0_9 := Sq.l hc0_9
 clear hr0_9 hc0_9
 have HR0_10 := Sq.l hr0_10
 have HC0_10 := Sq.l hc0_10
 clear hr0_10 hc0_10
 have HB := Sq.l (Below.refl w.heap.size w)
 have H : ((slices_Clone_int64_int64.f l0_1).bind fun t220 => ((slices_Clone_int64_int64.f l0_3).bind fun t223 => ((slices_Clone_int64_int64.f l0_4).bind fun t226 => ((impl_PortValue_127.f l0_9).bind fun t229 => ((impl_PortValue_127.f l0_10).bind fun t232 => (some (a0_0, t220, a0_2, t223, t226, a0_5, a0_6, a0_7, a0_8, t229, t232, a0_11))))))) = some (r1, r2, r3, r4, r5, r6, r7, r8, r9, r10, r11, r12) := h
 clear h
 replace H := Option.bind_eq_some_iff.mp H
 obtain ⟨t220, A20, H⟩ := H
 replace H : ((slices_Clone_int64_int64.f l0_3).bind fun t223 => ((slices_Clone_int64_int64.f l0_4).bind fun t226 => ((impl_PortValue_127.f l0_9).bind fun t229 => ((impl_PortValue_127.f l0_10).bind fun t232 => (some (a0_0, t220, a0_2, t223, t226, a0_5, a0_6, a0_7, a0_8, t229, t232, a0_11)))))) = some (r1, r2, r3, r4, r5, r6, r7, r8, r9, r10, r11, r12) := H
 have A2 := Sq.l A20
 clear A20
 replace H := Option.bind_eq_some_iff.mp H
 obtain ⟨t223, A30, H⟩ := H
 replace H : ((slices_Clone_int64_int64.f l0_4).bind fun t226 => ((impl_PortValue_127.f l0_9).bind fun t229 => ((impl_PortValue_127.f l0_10).bind fun t232 => (some (a0_0, t220, a0_2, t223, t226, a0_5, a0_6, a0_7, a0_8, t229, t232, a0_11))))) = some (r1, r2, r3, r4, r5, r6, r7, r8, r9, r10, r11, r12) := H
 have A3 := Sq.l A30
 clear A30
 replace H := Option.bind_eq_some_iff.mp H
 obtain ⟨t226, A40, H⟩ := H
 replace H : ((impl_PortValue_127.f l0_9).bind fun t229 => ((impl_PortValue_127.f l0_10).bind fun t232 => (some (a0_0, t220, a0_2, t223, t226, a0_5, a0_6, a0_7, a0_8, t229, t232, a0_11)))) = some (r1, r2, r3, r4, r5, r6, r7, r8, r9, r10, r11, r12) := H
 have A4 := Sq.l A40
 clear A40
 replace H := Option.bind_eq_some_iff.mp H
 obtain ⟨t229, A50, H⟩ := H
 replace H : ((impl_PortValue_127.f l0_10).bind fun t232 => (some (a0_0, t220, a0_2, t223, t226, a0_5, a0_6, a0_7, a0_8, t229, t232, a0_11))) = some (r1, r2, r3, r4, r5, r6, r7, r8, r9, r10, r11, r12) := H
 have A5 := Sq.l A50
 clear A50
 replace H := Option.bind_eq_some_iff.mp H
 obtain ⟨t232, A60, H⟩ := H
 replace H : (some (a0_0, t220, a0_2, t223, t226, a0_5, a0_6, a0_7, a0_8, t229, t232, a0_11)) = some (r1, r2, r3, r4, r5, r6, r7, r8, r9, r10, r11, r12) := H
 have A6 := Sq.l A60
 clear A60
 simp only [Option.some.injEq, Prod.mk.injEq] at H
 obtain ⟨rfl, rfl, rfl, rfl, rfl, rfl, rfl, rfl, rfl, rfl, rfl, rfl⟩ := H
 go_enter Try.func87, Try.ntmps87
 try go_wp2_with (first | ((with_reducible refine gate_dst (N := 1) rfl ?_); refine box_event ?hg (N := 1) ?hd (cs := #[.int .i64 a0_0, .slice A0_1 l0_1.length c0_1, .int .i64 a0_2, .slice A0_3 l0_3.length c0_3, .slice A0_4 l0_4.length c0_4, .string a0_5, .int .i64 a0_6, .int .i64 a0_7, .int .i64 a0_8, .slice A0_9 l0_9.length c0_9, .slice A0_10 l0_10.length c0_10, .int .i64 a0_11]) (t := 71) ?hr ?_; (case hd => rfl); (case hg => rfl); (case hr => first | (go_simp; done) | (go_simp; rfl)); intro gb218 hg w7 hbox hb; have n0_ := Sq.l (Sq.a4 (by repeat (first | (with_reducible first | exact HB.out | apply Sq.i | apply Sq.j | apply Sq.k) | exact HB.out)) hb); have n1_ := Sq.l (hbox); have n2_ := Sq.l ((by rw [hg]; exact (Sq.a5 (by repeat (first | (with_reducible first | exact HB.out | apply Sq.i | apply Sq.j | apply Sq.k) | exact HB.out))) : w.heap.size ≤ gb218)); have n3_ := Sq.l ((by rw [hg]; exact (Sq.a5 (by repeat (first | (with_reducible first | exact HB.out | apply Sq.i | apply Sq.j | apply Sq.k) | exact HB.out))) : w.heap.size ≤ gb218)); clear HB; have HB := n0_; have BK218 := n1_; have GW218 := n2_; have GE218 := n3_; clear n0_ n1_ n2_ n3_; clear hb hbox hg) | ((with_reducible refine gate_dst (N := 2) rfl ?_); refine box_event ?hg (N := 2) ?hd (cs := #[.int .i64 0, .slice none 0 0, .int .i64 0, .slice none 0 0, .slice none 0 0, .string (⟨#[]⟩ : ByteArray), .int .i64 0, .int .i64 0, .int .i64 0, .slice none 0 0, .slice none 0 0, .int .i64 0]) (t := 71) ?hr ?_; (case hd => rfl); (case hg => rfl); (case hr => first | (go_simp; done) | (go_simp; rfl)); intro gb219 hg w8 hbox hb; have n0_ := Sq.l (Sq.m (Sq.W BK218.out) hb); have n1_ := Sq.l (Sq.a4 (by repeat (first | (with_reducible first | exact HB.out | apply Sq.i | apply Sq.j | apply Sq.k | refine Sq.h ?_ GE218.out) | exact HB.out)) hb); have n2_ := Sq.l (hbox); have n3_ := Sq.l ((by rw [hg]; exact (Sq.a5 (by repeat (first | (with_reducible first | exact HB.out | apply Sq.i | apply Sq.j | apply Sq.k | refine Sq.h ?_ GE218.out) | exact HB.out))) : w.heap.size ≤ gb219)); have n4_ := Sq.l ((by rw [hg]; exact (Sq.a5 (by repeat (first | (with_reducible first | exact HB.out | apply Sq.i | apply Sq.j | apply Sq.k | refine Sq.h ?_ GE218.out) | exact HB.out))) : w.heap.size ≤ gb219)); have n5_ := Sq.l ((by rw [hg]; exact Nat.ne_of_lt (blk_lt (Sq.W BK218.out)) : gb218 ≠ gb219)); have n6_ := Sq.l ((by rw [hg]; exact Nat.ne_of_gt (blk_lt (Sq.W BK218.out)) : gb219 ≠ gb218)); clear BK218 HB; have BK218 := n0_; have HB := n1_; have BK219 := n2_; have GW219 := n3_; have GE219 := n4_; have NB218_219 := n5_; have NB219_218 := n6_; clear n0_ n1_ n2_ n3_ n4_ n5_ n6_; clear hb hbox hg))
 have n0_ := Sq.l (Sq.e BK218.out)
 have n1_ := Sq.l (Sq.e BK219.out)
 have n2_ := Sq.l (Sq.k HB.out)
 clear BK218 BK219 HB; have BK218 := n0_; have BK219 := n1_; have HB := n2_; clear n0_ n1_ n2_
 refine start_ (n := 25) (S := fun w' => w'.cell? ⟨gb218, 0, none⟩ = some (.int .i64 a0_0) ∧ w'.cell? ⟨gb218, 1, none⟩ = some (.slice A0_1 l0_1.length c0_1) ∧ w'.cell? ⟨gb218, 2, none⟩ = some (.int .i64 a0_2) ∧ w'.cell? ⟨gb218, 3, none⟩ = some (.slice A0_3 l0_3.length c0_3) ∧ w'.cell? ⟨gb218, 4, none⟩ = some (.slice A0_4 l0_4.length c0_4) ∧ w'.cell? ⟨gb218, 5, none⟩ = some (.string a0_5) ∧ w'.cell? ⟨gb218, 6, none⟩ = some (.int .i64 a0_6) ∧ w'.cell? ⟨gb218, 7, none⟩ = some (.int .i64 a0_7) ∧ w'.cell? ⟨gb218, 8, none⟩ = some (.int .i64 a0_8) ∧ w'.cell? ⟨gb218, 9, none⟩ = some (.slice A0_9 l0_9.length c0_9) ∧ w'.cell? ⟨gb218, 10, none⟩ = some (.slice A0_10 l0_10.length c0_10) ∧ w'.cell? ⟨gb218, 11, none⟩ = some (.int .i64 a0_11)) (ds := [16, 18, 20, 22, 24]) #[false, false, false, false, false, false, false, false, false, false, false, false, false, false, false, false, false, false, false, false, false, false, false, false, false] (by kernel_rfl) rfl rfl ⟨(Sq.o BK218.out 0).trans rfl, (Sq.o BK218.out 1).trans rfl, (Sq.o BK218.out 2).trans rfl, (Sq.o BK218.out 3).trans rfl, (Sq.o BK218.out 4).trans rfl, (Sq.o BK218.out 5).trans rfl, (Sq.o BK218.out 6).trans rfl, (Sq.o BK218.out 7).trans rfl, (Sq.o BK218.out 8).trans rfl, (Sq.o BK218.out 9).trans rfl, (Sq.o BK218.out 10).trans rfl, (Sq.o BK218.out 11).trans rfl⟩ (fun hHeld => ?_); refine with_tabW impl_ycopyMachine.tab1 impl_ycopyMachine.bits1 (fun HT_ HW_ => ?_)
 generalize w8.drew = w9 at BK218 BK219 HB hHeld ⊢
 refine pure_ (i := 0) (N := some 3) (v := ?_) (a' := ?_) #[true, false, false, false, false, false, false, false, false, false, false, false, false, false, false, false, false, false, false, false, false, false, false, false, false] rfl rfl (any_of HT_.out (by kernel_rfl)) (fun _ _ _ h => h) (Or.inl ⟨by rfl, ?_⟩) ?_ ?_
 rotate_left
 ·intro w'
  go_simp
  with_reducible rfl
 rotate_left
 ·simp only [Act.put, List.setIfInBounds_toArray, List.set_cons_zero, List.set_cons_succ, i64_w, i32_w]
  rfl
 refine pure_ (i := 3) (N := some 6) (v := ?_) (a' := ?_) #[true, false, false, true, false, false, false, false, false, false, false, false, false, false, false, false, false, false, false, false, false, false, false, false, false] rfl rfl (any_of HT_.out (by kernel_rfl)) (fun _ _ _ h => h) (Or.inl ⟨by rfl, ?_⟩) ?_ ?_
 rotate_left
 ·intro w'
  go_simp
  with_reducible rfl
 rotate_left
 ·simp only [Act.put, List.setIfInBounds_toArray, List.set_cons_zero, List.set_cons_succ, i64_w, i32_w]
  rfl
 refine pure_ (i := 6) (N := some 9) (v := ?_) (a' := ?_) #[true, false, false, true, false, false, true, false, false, false, false, false, false, false, false, false, false, false, false, false, false, false, false, false, false] rfl rfl (any_of HT_.out (by kernel_rfl)) (fun _ _ _ h => h) (Or.inl ⟨by rfl, ?_⟩) ?_ ?_
 rotate_left
 ·intro w'
  go_simp
  with_reducible rfl
 rotate_left
 ·simp only [Act.put, List.setIfInBounds_toArray, List.set_cons_zero, List.set_cons_succ, i64_w, i32_w]
  rfl
 refine pure_ (i := 9) (N := some 12) (v := ?_) (a' := ?_) #[true, false, false, true, false, false, true, false, false, true, false, false, false, false, false, false, false, false, false, false, false, false, false, false, false] rfl rfl (any_of HT_.out (by kernel_rfl)) (fun _ _ _ h => h) (Or.inl ⟨by rfl, ?_⟩) ?_ ?_
 rotate_left
 ·intro w'
  go_simp
  with_reducible rfl
 rotate_left
 ·simp only [Act.put, List.setIfInBounds_toArray, List.set_cons_zero, List.set_cons_succ, i64_w, i32_w]
  rfl
 refine pure_ (i := 12) (N := some 15) (v := ?_) (a' := ?_) #[true, false, false, true, false, false, true, false, false, true, false, false, true, false, false, false, false, false, false, false, false, false, false, false, false] rfl rfl (any_of HT_.out (by kernel_rfl)) (fun _ _ _ h => h) (Or.inl ⟨by rfl, ?_⟩) ?_ ?_
 rotate_left
 ·intro w'
  go_simp
  with_reducible rfl
 rotate_left
 ·simp only [Act.put, List.setIfInBounds_toArray, List.set_cons_zero, List.set_cons_succ, i64_w, i32_w]
  rfl
 refine take_ (i := 1) (N := some 4) (v := ?_) (a' := ?_) #[true, true, false, true, false, false, true, false, false, true, false, false, true, false, false, false, false, false, false, false, false, false, false, false, false] rfl rfl (take_ofW HT_.out HW_.out (by kernel_rfl)) (fun _ _ _ h => h) (Or.inl ⟨by rfl, ?_⟩) hHeld ?_ ?_
 rotate_left
 ·rintro w' ⟨s0, s1, s2, s3, s4, s5, s6, s7, s8, s9, s10, s11⟩
  go_simp
  with_reducible rfl
 rotate_left
 ·simp only [Act.put, List.setIfInBounds_toArray, List.set_cons_zero, List.set_cons_succ, i64_w, i32_w]
  rfl
 refine take_ (i := 4) (N := some 7) (v := ?_) (a' := ?_) #[true, true, false, true, true, false, true, false, false, true, false, false, true, false, false, false, false, false, false, false, false, false, false, false, false] rfl rfl (take_ofW HT_.out HW_.out (by kernel_rfl)) (fun _ _ _ h => h) (Or.inl ⟨by rfl, ?_⟩) hHeld ?_ ?_
 rotate_left
 ·rintro w' ⟨s0, s1, s2, s3, s4, s5, s6, s7, s8, s9, s10, s11⟩
  go_simp
  with_reducible rfl
 rotate_left
 ·simp only [Act.put, List.setIfInBounds_toArray, List.set_cons_zero, List.set_cons_succ, i64_w, i32_w]
  rfl
 refine take_ (i := 7) (N := some 10) (v := ?_) (a' := ?_) #[true, true, false, true, true, false, true, true, false, true, false, false, true, false, false, false, false, false, false, false, false, false, false, false, false] rfl rfl (take_ofW HT_.out HW_.out (by kernel_rfl)) (fun _ _ _ h => h) (Or.inl ⟨by rfl, ?_⟩) hHeld ?_ ?_
 rotate_left
 ·rintro w' ⟨s0, s1, s2, s3, s4, s5, s6, s7, s8, s9, s10, s11⟩
  go_simp
  with_reducible rfl
 rotate_left
 ·simp only [Act.put, List.setIfInBounds_toArray, List.set_cons_zero, List.set_cons_succ, i64_w, i32_w]
  rfl
 refine take_ (i := 10) (N := some 13) (v := ?_) (a' := ?_) #[true, true, false, true, true, false, true, true, false, true, true, false, true, false, false, false, false, false, false, false, false, false, false, false, false] rfl rfl (take_ofW HT_.out HW_.out (by kernel_rfl)) (fun _ _ _ h => h) (Or.inl ⟨by rfl, ?_⟩) hHeld ?_ ?_
 rotate_left
 ·rintro w' ⟨s0, s1, s2, s3, s4, s5, s6, s7, s8, s9, s10, s11⟩
  go_simp
  with_reducible rfl
 rotate_left
 ·simp only [Act.put, List.setIfInBounds_toArray, List.set_cons_zero, List.set_cons_succ, i64_w, i32_w]
  rfl
 refine take_ (i := 13) (N := some 16) (v := ?_) (a' := ?_) #[true, true, false, true, true, false, true, true, false, true, true, false, true, true, false, false, false, false, false, false, false, false, false, false, false] rfl rfl (take_ofW HT_.out HW_.out (by kernel_rfl)) (fun _ _ _ h => h) (Or.inl ⟨by rfl, ?_⟩) hHeld ?_ ?_
 rotate_left
 ·rintro w' ⟨s0, s1, s2, s3, s4, s5, s6, s7, s8, s9, s10, s11⟩
  go_simp
  with_reducible rfl
 rotate_left
 ·simp only [Act.put, List.setIfInBounds_toArray, List.set_cons_zero, List.set_cons_succ, i64_w, i32_w]
  rfl
 refine one_ (i := 2) (N := some 5) #[true, true, true, true, true, false, true, true, false, true, true, false, true, true, false, false, false, false, false, false, false, false, false, false, false] rfl rfl (one_of HT_.out (by kernel_rfl)) (by decide) (fun K hK => ?_)
 refine goes_ Try.func78 (by kernel_rfl) rfl #[.slice A0_1 l0_1.length c0_1] (by rfl) rfl rfl (by (try simp only [List.map_toArray, List.map_cons, List.map_nil]); first | done | rfl | (simp only [List.length_drop, List.length_take]; rfl)) ?_
 with_reducible refine (slices_Clone_int64_int64.calls _ _ l0_1 t220 _ ?side1 ?side2 A2.out).mono ?_
 (case side1 => repeat (first | exact (Sq.a1 HR0_1.out HB.out) | (with_reducible refine Sq.s ?_ _) | (with_reducible refine Sq.t ?_ _) | (with_reducible refine Sq.u ?_)))
 (case side2 => exact HC0_1.out)
 rintro e w10 ⟨v221, rfl, ho0, hb⟩
 refine ⟨_, rfl, ?_⟩
 have n0_ := Sq.l (Sq.a2 ho0 (Sq.a5 (by repeat (first | (with_reducible first | exact HB.out | apply Sq.i | apply Sq.j | apply Sq.k | refine Sq.h ?_ GE218.out | refine Sq.h ?_ GE219.out) | exact HB.out))))
 have n1_ := Sq.l (Sq.m (Sq.W BK218.out) hb)
 have n2_ := Sq.l (Sq.m (g := gb219) (o := .cells #[.int .i64 0, .slice none 0 0, .int .i64 0, .slice none 0 0, .slice none 0 0, .string (⟨#[]⟩ : ByteArray), .int .i64 0, .int .i64 0, .int .i64 0, .slice none 0 0, .slice none 0 0, .int .i64 0] 71 (0, 0)) (Sq.W BK219.out) hb)
 have n3_ := Sq.l (Sq.a4 (by repeat (first | (with_reducible first | exact HB.out | apply Sq.i | apply Sq.j | apply Sq.k | refine Sq.h ?_ GE218.out | refine Sq.h ?_ GE219.out) | exact HB.out)) hb)
 clear BK218 BK219 HB; have HO222 := n0_; have BK218 := n1_; have BK219 := n2_; have HB := n3_; clear n0_ n1_ n2_ n3_; (try clear hb); (try clear hb2); (try clear hk); (try clear hi); (try clear ho0)
 refine hK.out _ _ ⟨(Sq.o BK218.out 0).trans rfl, (Sq.o BK218.out 1).trans rfl, (Sq.o BK218.out 2).trans rfl, (Sq.o BK218.out 3).trans rfl, (Sq.o BK218.out 4).trans rfl, (Sq.o BK218.out 5).trans rfl, (Sq.o BK218.out 6).trans rfl, (Sq.o BK218.out 7).trans rfl, (Sq.o BK218.out 8).trans rfl, (Sq.o BK218.out 9).trans rfl, (Sq.o BK218.out 10).trans rfl, (Sq.o BK218.out 11).trans rfl⟩ (fun hHeld => ?_)
 clear hK K
 refine norm_ (a' := ?_) ?_ ?_
 rotate_left
 ·show Act.put _ (some 5) _ = _
  simp only [Act.put, List.setIfInBounds_toArray, List.set_cons_zero, List.set_cons_succ, i64_w, i32_w]
  rfl
 refine pure_ (i := 15) (N := some 18) (v := ?_) (a' := ?_) #[true, true, true, true, true, false, true, true, false, true, true, false, true, true, false, true, false, false, false, false, false, false, false, false, false] rfl rfl (any_of HT_.out (by kernel_rfl)) (fun _ _ _ h => h) (Or.inl ⟨by rfl, ?_⟩) ?_ ?_
 rotate_left
 ·intro w'
  go_simp
  with_reducible rfl
 rotate_left
 ·simp only [Act.put, List.setIfInBounds_toArray, List.set_cons_zero, List.set_cons_succ, i64_w, i32_w]
  rfl
 refine one_ (i := 5) (N := some 8) #[true, true, true, true, true, true, true, true, false, true, true, false, true, true, false, true, false, false, false, false, false, false, false, false, false] rfl rfl (one_of HT_.out (by kernel_rfl)) (by decide) (fun K hK => ?_)
 refine goes_ Try.func78 (by kernel_rfl) rfl #[.slice A0_3 l0_3.length c0_3] (by rfl) rfl rfl (by (try simp only [List.map_toArray, List.map_cons, List.map_nil]); first | done | rfl | (simp only [List.length_drop, List.length_take]; rfl)) ?_
 with_reducible refine (slices_Clone_int64_int64.calls _ _ l0_3 t223 _ ?side1 ?side2 A3.out).mono ?_
 (case side1 => repeat (first | exact (Sq.a1 HR0_3.out HB.out) | (with_reducible refine Sq.s ?_ _) | (with_reducible refine Sq.t ?_ _) | (with_reducible refine Sq.u ?_)))
 (case side2 => exact HC0_3.out)
 rintro e w11 ⟨v224, rfl, ho0, hb⟩
 refine ⟨_, rfl, ?_⟩
 have n0_ := Sq.l (Sq.p (Sq.U HO222.out) (Sq.b7 ho0) hb)
 have n1_ := Sq.l (Sq.a2 (Sq.c1 ho0 (Sq.c2 (Sq.U HO222.out))) (Sq.a5 (by repeat (first | (with_reducible first | exact HB.out | apply Sq.i | apply Sq.j | apply Sq.k | refine Sq.h ?_ GE218.out | refine Sq.h ?_ GE219.out) | exact HB.out))))
 have n2_ := Sq.l (Sq.m (Sq.W BK218.out) hb)
 have n3_ := Sq.l (Sq.m (g := gb219) (o := .cells #[.int .i64 0, .slice none 0 0, .int .i64 0, .slice none 0 0, .slice none 0 0, .string (⟨#[]⟩ : ByteArray), .int .i64 0, .int .i64 0, .int .i64 0, .slice none 0 0, .slice none 0 0, .int .i64 0] 71 (0, 0)) (Sq.W BK219.out) hb)
 have n4_ := Sq.l (Sq.a4 (by repeat (first | (with_reducible first | exact HB.out | apply Sq.i | apply Sq.j | apply Sq.k | refine Sq.h ?_ GE218.out | refine Sq.h ?_ GE219.out) | exact HB.out)) hb)
 clear HO222 BK218 BK219 HB; have HO222 := n0_; have HO225 := n1_; have BK218 := n2_; have BK219 := n3_; have HB := n4_; clear n0_ n1_ n2_ n3_ n4_; (try clear hb); (try clear hb2); (try clear hk); (try clear hi); (try clear ho0)
 refine hK.out _ _ ⟨(Sq.o BK218.out 0).trans rfl, (Sq.o BK218.out 1).trans rfl, (Sq.o BK218.out 2).trans rfl, (Sq.o BK218.out 3).trans rfl, (Sq.o BK218.out 4).trans rfl, (Sq.o BK218.out 5).trans rfl, (Sq.o BK218.out 6).trans rfl, (Sq.o BK218.out 7).trans rfl, (Sq.o BK218.out 8).trans rfl, (Sq.o BK218.out 9).trans rfl, (Sq.o BK218.out 10).trans rfl, (Sq.o BK218.out 11).trans rfl⟩ (fun hHeld => ?_)
 clear hK K
 refine norm_ (a' := ?_) ?_ ?_
 rotate_left
 ·show Act.put _ (some 8) _ = _
  simp only [Act.put, List.setIfInBounds_toArray, List.set_cons_zero, List.set_cons_succ, i64_w, i32_w]
  rfl
 refine one_ (i := 8) (N := some 11) #[true, true, true, true, true, true, true, true, true, true, true, false, true, true, false, true, false, false, false, false, false, false, false, false, false] rfl rfl (one_of HT_.out (by kernel_rfl)) (by decide) (fun K hK => ?_)
 refine goes_ Try.func78 (by kernel_rfl) rfl #[.slice A0_4 l0_4.length c0_4] (by rfl) rfl rfl (by (try simp only [List.map_toArray, List.map_cons, List.map_nil]); first | done | rfl | (simp only [List.length_drop, List.length_take]; rfl)) ?_
 with_reducible refine (slices_Clone_int64_int64.calls _ _ l0_4 t226 _ ?side1 ?side2 A4.out).mono ?_
 (case side1 => repeat (first | exact (Sq.a1 HR0_4.out HB.out) | (with_reducible refine Sq.s ?_ _) | (with_reducible refine Sq.t ?_ _) | (with_reducible refine Sq.u ?_)))
 (case side2 => exact HC0_4.out)
 rintro e w12 ⟨v227, rfl, ho0, hb⟩
 refine ⟨_, rfl, ?_⟩
 have n0_ := Sq.l (Sq.p (Sq.U HO222.out) (Sq.b7 ho0) hb)
 have n1_ := Sq.l (Sq.p (Sq.U HO225.out) (Sq.b7 ho0) hb)
 have n2_ := Sq.l (Sq.a2 (Sq.c1 (Sq.c1 ho0 (Sq.c2 (Sq.U HO222.out))) (Sq.c2 (Sq.U HO225.out))) (Sq.a5 (by repeat (first | (with_reducible first | exact HB.out | apply Sq.i | apply Sq.j | apply Sq.k | refine Sq.h ?_ GE218.out | refine Sq.h ?_ GE219.out) | exact HB.out))))
 have n3_ := Sq.l (Sq.m (Sq.W BK218.out) hb)
 have n4_ := Sq.l (Sq.m (g := gb219) (o := .cells #[.int .i64 0, .slice none 0 0, .int .i64 0, .slice none 0 0, .slice none 0 0, .string (⟨#[]⟩ : ByteArray), .int .i64 0, .int .i64 0, .int .i64 0, .slice none 0 0, .slice none 0 0, .int .i64 0] 71 (0, 0)) (Sq.W BK219.out) hb)
 have n5_ := Sq.l (Sq.a4 (by repeat (first | (with_reducible first | exact HB.out | apply Sq.i | apply Sq.j | apply Sq.k | refine Sq.h ?_ GE218.out | refine Sq.h ?_ GE219.out) | exact HB.out)) hb)
 clear HO222 HO225 BK218 BK219 HB; have HO222 := n0_; have HO225 := n1_; have HO228 := n2_; have BK218 := n3_; have BK219 := n4_; have HB := n5_; clear n0_ n1_ n2_ n3_ n4_ n5_; (try clear hb); (try clear hb2); (try clear hk); (try clear hi); (try clear ho0)
 refine hK.out _ _ ⟨(Sq.o BK218.out 0).trans rfl, (Sq.o BK218.out 1).trans rfl, (Sq.o BK218.out 2).trans rfl, (Sq.o BK218.out 3).trans rfl, (Sq.o BK218.out 4).trans rfl, (Sq.o BK218.out 5).trans rfl, (Sq.o BK218.out 6).trans rfl, (Sq.o BK218.out 7).trans rfl, (Sq.o BK218.out 8).trans rfl, (Sq.o BK218.out 9).trans rfl, (Sq.o BK218.out 10).trans rfl, (Sq.o BK218.out 11).trans rfl⟩ (fun hHeld => ?_)
 clear hK K
 refine norm_ (a' := ?_) ?_ ?_
 rotate_left
 ·show Act.put _ (some 11) _ = _
  simp only [Act.put, List.setIfInBounds_toArray, List.set_cons_zero, List.set_cons_succ, i64_w, i32_w]
  rfl
 refine one_ (i := 11) (N := some 14) #[true, true, true, true, true, true, true, true, true, true, true, true, true, true, false, true, false, false, false, false, false, false, false, false, false] rfl rfl (one_of HT_.out (by kernel_rfl)) (by decide) (fun K hK => ?_)
 refine goes_ Try.func127 (by kernel_rfl) rfl #[.slice A0_9 l0_9.length c0_9] (by rfl) rfl rfl (by (try simp only [List.map_toArray, List.map_cons, List.map_nil]); first | done | rfl | (simp only [List.length_drop, List.length_take]; rfl)) ?_
 with_reducible refine (impl_PortValue_127.calls _ _ l0_9 t229 _ ?side1 ?side2 A5.out).mono ?_
 (case side1 => repeat (first | exact (Sq.a1 HR0_9.out HB.out) | (with_reducible refine Sq.s ?_ _) | (with_reducible refine Sq.t ?_ _) | (with_reducible refine Sq.u ?_)))
 (case side2 => exact HC0_9.out)
 rintro e w13 ⟨v230, rfl, ho0, hb⟩
 refine ⟨_, rfl, ?_⟩
 have n0_ := Sq.l (Sq.n (Sq.U HO222.out) hb)
 have n1_ := Sq.l (Sq.n (Sq.U HO225.out) hb)
 have n2_ := Sq.l (Sq.n (Sq.U HO228.out) hb)
 have n3_ := Sq.l (Sq.a2 ho0 (Sq.a5 (by repeat (first | (with_reducible first | exact HB.out | apply Sq.i | apply Sq.j | apply Sq.k | refine Sq.h ?_ GE218.out | refine Sq.h ?_ GE219.out) | exact HB.out))))
 have n4_ := Sq.l (Sq.m (Sq.W BK218.out) hb)
 have n5_ := Sq.l (Sq.m (g := gb219) (o := .cells #[.int .i64 0, .slice none 0 0, .int .i64 0, .slice none 0 0, .slice none 0 0, .string (⟨#[]⟩ : ByteArray), .int .i64 0, .int .i64 0, .int .i64 0, .slice none 0 0, .slice none 0 0, .int .i64 0] 71 (0, 0)) (Sq.W BK219.out) hb)
 have n6_ := Sq.l (Sq.a4 (by repeat (first | (with_reducible first | exact HB.out | apply Sq.i | apply Sq.j | apply Sq.k | refine Sq.h ?_ GE218.out | refine Sq.h ?_ GE219.out) | exact HB.out)) hb)
 clear HO222 HO225 HO228 BK218 BK219 HB; have HO222 := n0_; have HO225 := n1_; have HO228 := n2_; have HO231 := n3_; have BK218 := n4_; have BK219 := n5_; have HB := n6_; clear n0_ n1_ n2_ n3_ n4_ n5_ n6_; (try clear hb); (try clear hb2); (try clear hk); (try clear hi); (try clear ho0)
 refine hK.out _ _ ⟨(Sq.o BK218.out 0).trans rfl, (Sq.o BK218.out 1).trans rfl, (Sq.o BK218.out 2).trans rfl, (Sq.o BK218.out 3).trans rfl, (Sq.o BK218.out 4).trans rfl, (Sq.o BK218.out 5).trans rfl, (Sq.o BK218.out 6).trans rfl, (Sq.o BK218.out 7).trans rfl, (Sq.o BK218.out 8).trans rfl, (Sq.o BK218.out 9).trans rfl, (Sq.o BK218.out 10).trans rfl, (Sq.o BK218.out 11).trans rfl⟩ (fun hHeld => ?_)
 clear hK K
 refine norm_ (a' := ?_) ?_ ?_
 rotate_left
 ·show Act.put _ (some 14) _ = _
  simp only [Act.put, List.setIfInBounds_toArray, List.set_cons_zero, List.set_cons_succ, i64_w, i32_w]
  rfl
 refine one_ (i := 14) (N := some 17) #[true, true, true, true, true, true, true, true, true, true, true, true, true, true, true, true, false, false, false, false, false, false, false, false, false] rfl rfl (one_of HT_.out (by kernel_rfl)) (by decide) (fun K hK => ?_)
 refine goes_ Try.func127 (by kernel_rfl) rfl #[.slice A0_10 l0_10.length c0_10] (by rfl) rfl rfl (by (try simp only [List.map_toArray, List.map_cons, List.map_nil]); first | done | rfl | (simp only [List.length_drop, List.length_take]; rfl)) ?_
 with_reducible refine (impl_PortValue_127.calls _ _ l0_10 t232 _ ?side1 ?side2 A6.out).mono ?_
 (case side1 => repeat (first | exact (Sq.a1 HR0_10.out HB.out) | (with_reducible refine Sq.s ?_ _) | (with_reducible refine Sq.t ?_ _) | (with_reducible refine Sq.u ?_)))
 (case side2 => exact HC0_10.out)
 rintro e w14 ⟨v233, rfl, ho0, hb⟩
 refine ⟨_, rfl, ?_⟩
 have n0_ := Sq.l (Sq.n (Sq.U HO222.out) hb)
 have n1_ := Sq.l (Sq.n (Sq.U HO225.out) hb)
 have n2_ := Sq.l (Sq.n (Sq.U HO228.out) hb)
 have n3_ := Sq.l (Sq.p (Sq.U HO231.out) (Sq.b7 ho0) hb)
 have n4_ := Sq.l (Sq.a2 (Sq.c1 ho0 (Sq.c2 (Sq.U HO231.out))) (Sq.a5 (by repeat (first | (with_reducible first | exact HB.out | apply Sq.i | apply Sq.j | apply Sq.k | refine Sq.h ?_ GE218.out | refine Sq.h ?_ GE219.out) | exact HB.out))))
 have n5_ := Sq.l (Sq.m (Sq.W BK218.out) hb)
 have n6_ := Sq.l (Sq.m (g := gb219) (o := .cells #[.int .i64 0, .slice none 0 0, .int .i64 0, .slice none 0 0, .slice none 0 0, .string (⟨#[]⟩ : ByteArray), .int .i64 0, .int .i64 0, .int .i64 0, .slice none 0 0, .slice none 0 0, .int .i64 0] 71 (0, 0)) (Sq.W BK219.out) hb)
 have n7_ := Sq.l (Sq.a4 (by repeat (first | (with_reducible first | exact HB.out | apply Sq.i | apply Sq.j | apply Sq.k | refine Sq.h ?_ GE218.out | refine Sq.h ?_ GE219.out) | exact HB.out)) hb)
 clear HO222 HO225 HO228 HO231 BK218 BK219 HB; have HO222 := n0_; have HO225 := n1_; have HO228 := n2_; have HO231 := n3_; have HO234 := n4_; have BK218 := n5_; have BK219 := n6_; have HB := n7_; clear n0_ n1_ n2_ n3_ n4_ n5_ n6_ n7_; (try clear hb); (try clear hb2); (try clear hk); (try clear hi); (try clear ho0)
 obtain ⟨Ao15, co15, eo15⟩ := Kd.R_slice HO222.out
 (first | subst eo15 | (injection eo15 with f1_ f2_ f3_; have f4_ := f1_.symm; have f5_ := f3_.symm; clear f1_ f2_ f3_; subst f4_; subst f5_))
 obtain ⟨Ao17, co17, eo17⟩ := Kd.R_slice HO225.out
 (first | subst eo17 | (injection eo17 with f1_ f2_ f3_; have f4_ := f1_.symm; have f5_ := f3_.symm; clear f1_ f2_ f3_; subst f4_; subst f5_))
 obtain ⟨Ao19, co19, eo19⟩ := Kd.R_slice HO228.out
 (first | subst eo19 | (injection eo19 with f1_ f2_ f3_; have f4_ := f1_.symm; have f5_ := f3_.symm; clear f1_ f2_ f3_; subst f4_; subst f5_))
 obtain ⟨Ao21, co21, eo21⟩ := Kd.R_slice HO231.out
 (first | subst eo21 | (injection eo21 with f1_ f2_ f3_; have f4_ := f1_.symm; have f5_ := f3_.symm; clear f1_ f2_ f3_; subst f4_; subst f5_))
 obtain ⟨Ao23, co23, eo23⟩ := Kd.R_slice HO234.out
 (first | subst eo23 | (injection eo23 with f1_ f2_ f3_; have f4_ := f1_.symm; have f5_ := f3_.symm; clear f1_ f2_ f3_; subst f4_; subst f5_))
 refine hK.out _ _ ⟨(Sq.o BK218.out 0).trans rfl, (Sq.o BK218.out 1).trans rfl, (Sq.o BK218.out 2).trans rfl, (Sq.o BK218.out 3).trans rfl, (Sq.o BK218.out 4).trans rfl, (Sq.o BK218.out 5).trans rfl, (Sq.o BK218.out 6).trans rfl, (Sq.o BK218.out 7).trans rfl, (Sq.o BK218.out 8).trans rfl, (Sq.o BK218.out 9).trans rfl, (Sq.o BK218.out 10).trans rfl, (Sq.o BK218.out 11).trans rfl⟩ (fun hHeld => ?_)
 clear hK K
 refine norm_ (a' := ?_) ?_ ?_
 rotate_left
 ·show Act.put _ (some 17) _ = _
  simp only [Act.put, List.setIfInBounds_toArray, List.set_cons_zero, List.set_cons_succ, i64_w, i32_w]
  rfl
 refine last_ (i := 16) (N := none) #[true, true, true, true, true, true, true, true, true, true, true, true, true, true, true, true, true, false, false, false, false, false, false, false, false] rfl rfl (one_of HT_.out (by kernel_rfl)) (by decide) (fun K hK => ?_)
 have hs16 : w14.cell? ⟨gb218, 1, none⟩ = some (.slice A0_1 l0_1.length c0_1) := (Sq.o BK218.out 1).trans rfl
 have hfs16 := Sq.r BK218.out 1
 have hns16_1 := NB219_218.out; have hms16_1 := NB218_219.out
 refine skip_ (w1 := ?_) (by rfl) rfl ?_ ?_
 rotate_left
 ·go_simp
  rfl
 refine hK.out _ _ ?_
 clear hK K
 refine pure_ (i := 17) (N := some 19) (v := ?_) (a' := ?_) #[true, true, true, true, true, true, true, true, true, true, true, true, true, true, true, true, true, true, false, false, false, false, false, false, false] rfl rfl (any_of HT_.out (by kernel_rfl)) (fun _ _ _ h => h) (Or.inl ⟨by rfl, ?_⟩) ?_ ?_
 rotate_left
 ·intro w'
  go_simp
  with_reducible rfl
 rotate_left
 ·simp only [Act.put, List.setIfInBounds_toArray, List.set_cons_zero, List.set_cons_succ, i64_w, i32_w]
  rfl
 refine last_ (i := 18) (N := none) #[true, true, true, true, true, true, true, true, true, true, true, true, true, true, true, true, true, true, true, false, false, false, false, false, false] rfl rfl (one_of HT_.out (by kernel_rfl)) (by decide) (fun K hK => ?_)
 have hs18 : w14.cell? ⟨gb218, 3, none⟩ = some (.slice A0_3 l0_3.length c0_3) := (Sq.o BK218.out 3).trans rfl
 have hfs18 := Sq.r BK218.out 3
 have hns18_1 := NB219_218.out; have hms18_1 := NB218_219.out
 refine skip_ (w1 := ?_) (by rfl) rfl ?_ ?_
 rotate_left
 ·go_simp
  rfl
 refine hK.out _ _ ?_
 clear hK K
 refine pure_ (i := 19) (N := some 20) (v := ?_) (a' := ?_) #[true, true, true, true, true, true, true, true, true, true, true, true, true, true, true, true, true, true, true, true, false, false, false, false, false] rfl rfl (any_of HT_.out (by kernel_rfl)) (fun _ _ _ h => h) (Or.inl ⟨by rfl, ?_⟩) ?_ ?_
 rotate_left
 ·intro w'
  go_simp
  with_reducible rfl
 rotate_left
 ·simp only [Act.put, List.setIfInBounds_toArray, List.set_cons_zero, List.set_cons_succ, i64_w, i32_w]
  rfl
 refine last_ (i := 20) (N := none) #[true, true, true, true, true, true, true, true, true, true, true, true, true, true, true, true, true, true, true, true, true, false, false, false, false] rfl rfl (one_of HT_.out (by kernel_rfl)) (by decide) (fun K hK => ?_)
 have hs20 : w14.cell? ⟨gb218, 4, none⟩ = some (.slice A0_4 l0_4.length c0_4) := (Sq.o BK218.out 4).trans rfl
 have hfs20 := Sq.r BK218.out 4
 have hns20_1 := NB219_218.out; have hms20_1 := NB218_219.out
 refine skip_ (w1 := ?_) (by rfl) rfl ?_ ?_
 rotate_left
 ·go_simp
  rfl
 refine hK.out _ _ ?_
 clear hK K
 refine pure_ (i := 21) (N := some 21) (v := ?_) (a' := ?_) #[true, true, true, true, true, true, true, true, true, true, true, true, true, true, true, true, true, true, true, true, true, true, false, false, false] rfl rfl (any_of HT_.out (by kernel_rfl)) (fun _ _ _ h => h) (Or.inl ⟨by rfl, ?_⟩) ?_ ?_
 rotate_left
 ·intro w'
  go_simp
  with_reducible rfl
 rotate_left
 ·simp only [Act.put, List.setIfInBounds_toArray, List.set_cons_zero, List.set_cons_succ, i64_w, i32_w]
  rfl
 refine last_ (i := 22) (N := none) #[true, true, true, true, true, true, true, true, true, true, true, true, true, true, true, true, true, true, true, true, true, true, true, false, false] rfl rfl (one_of HT_.out (by kernel_rfl)) (by decide) (fun K hK => ?_)
 have hs22 : w14.cell? ⟨gb218, 9, none⟩ = some (.slice A0_9 l0_9.length c0_9) := (Sq.o BK218.out 9).trans rfl
 have hfs22 := Sq.r BK218.out 9
 have hns22_1 := NB219_218.out; have hms22_1 := NB218_219.out
 refine skip_ (w1 := ?_) (by rfl) rfl ?_ ?_
 rotate_left
 ·go_simp
  rfl
 refine hK.out _ _ ?_
 clear hK K
 refine pure_ (i := 23) (N := some 22) (v := ?_) (a' := ?_) #[true, true, true, true, true, true, true, true, true, true, true, true, true, true, true, true, true, true, true, true, true, true, true, true, false] rfl rfl (any_of HT_.out (by kernel_rfl)) (fun _ _ _ h => h) (Or.inl ⟨by rfl, ?_⟩) ?_ ?_
 rotate_left
 ·intro w'
  go_simp
  with_reducible rfl
 rotate_left
 ·simp only [Act.put, List.setIfInBounds_toArray, List.set_cons_zero, List.set_cons_succ, i64_w, i32_w]
  rfl
 refine last_ (i := 24) (N := none) #[true, true, true, true, true, true, true, true, true, true, true, true, true, true, true, true, true, true, true, true, true, true, true, true, true] rfl rfl (one_of HT_.out (by kernel_rfl)) (by decide) (fun K hK => ?_)
 have hs24 : w14.cell? ⟨gb218, 10, none⟩ = some (.slice A0_10 l0_10.length c0_10) := (Sq.o BK218.out 10).trans rfl
 have hfs24 := Sq.r BK218.out 10
 have hns24_1 := NB219_218.out; have hms24_1 := NB218_219.out
 refine skip_ (w1 := ?_) (by rfl) rfl ?_ ?_
 rotate_left
 ·go_simp
  rfl
 refine hK.out _ _ ?_
 clear hK K
 refine done_ (done_of HT_.out (by kernel_rfl)) ?_
 have hnb25 := NB218_219.out; have hnc25 := NB219_218.out
 have hcz26_0 : w14.cell? ⟨gb218, 0, none⟩ = some (.int .i64 a0_0) := (Sq.o BK218.out 0).trans rfl
 have hcz26_1 : w14.cell? ⟨gb218, 1, none⟩ = some (.slice A0_1 l0_1.length c0_1) := (Sq.o BK218.out 1).trans rfl
 have hcz26_2 : w14.cell? ⟨gb218, 2, none⟩ = some (.int .i64 a0_2) := (Sq.o BK218.out 2).trans rfl
 have hcz26_3 : w14.cell? ⟨gb218, 3, none⟩ = some (.slice A0_3 l0_3.length c0_3) := (Sq.o BK218.out 3).trans rfl
 have hcz26_4 : w14.cell? ⟨gb218, 4, none⟩ = some (.slice A0_4 l0_4.length c0_4) := (Sq.o BK218.out 4).trans rfl
 have hcz26_5 : w14.cell? ⟨gb218, 5, none⟩ = some (.string a0_5) := (Sq.o BK218.out 5).trans rfl
 have hcz26_6 : w14.cell? ⟨gb218, 6, none⟩ = some (.int .i64 a0_6) := (Sq.o BK218.out 6).trans rfl
 have hcz26_7 : w14.cell? ⟨gb218, 7, none⟩ = some (.int .i64 a0_7) := (Sq.o BK218.out 7).trans rfl
 have hcz26_8 : w14.cell? ⟨gb218, 8, none⟩ = some (.int .i64 a0_8) := (Sq.o BK218.out 8).trans rfl
 have hcz26_9 : w14.cell? ⟨gb218, 9, none⟩ = some (.slice A0_9 l0_9.length c0_9) := (Sq.o BK218.out 9).trans rfl
 have hcz26_10 : w14.cell? ⟨gb218, 10, none⟩ = some (.slice A0_10 l0_10.length c0_10) := (Sq.o BK218.out 10).trans rfl
 have hcz26_11 : w14.cell? ⟨gb218, 11, none⟩ = some (.int .i64 a0_11) := (Sq.o BK218.out 11).trans rfl
 have hfz26_0 := Sq.r BK218.out 0
 have hfz26_1 := Sq.r BK218.out 1
 have hfz26_2 := Sq.r BK218.out 2
 have hfz26_3 := Sq.r BK218.out 3
 have hfz26_4 := Sq.r BK218.out 4
 have hfz26_5 := Sq.r BK218.out 5
 have hfz26_6 := Sq.r BK218.out 6
 have hfz26_7 := Sq.r BK218.out 7
 have hfz26_8 := Sq.r BK218.out 8
 have hfz26_9 := Sq.r BK218.out 9
 have hfz26_10 := Sq.r BK218.out 10
 have hfz26_11 := Sq.r BK218.out 11
 have hcz27_0 : w14.cell? ⟨gb219, 0, none⟩ = some (.int .i64 0) := (Sq.o BK219.out 0).trans rfl
 have hcz27_1 : w14.cell? ⟨gb219, 1, none⟩ = some (.slice none 0 0) := (Sq.o BK219.out 1).trans rfl
 have hcz27_2 : w14.cell? ⟨gb219, 2, none⟩ = some (.int .i64 0) := (Sq.o BK219.out 2).trans rfl
 have hcz27_3 : w14.cell? ⟨gb219, 3, none⟩ = some (.slice none 0 0) := (Sq.o BK219.out 3).trans rfl
 have hcz27_4 : w14.cell? ⟨gb219, 4, none⟩ = some (.slice none 0 0) := (Sq.o BK219.out 4).trans rfl
 have hcz27_5 : w14.cell? ⟨gb219, 5, none⟩ = some (.string (⟨#[]⟩ : ByteArray)) := (Sq.o BK219.out 5).trans rfl
 have hcz27_6 : w14.cell? ⟨gb219, 6, none⟩ = some (.int .i64 0) := (Sq.o BK219.out 6).trans rfl
 have hcz27_7 : w14.cell? ⟨gb219, 7, none⟩ = some (.int .i64 0) := (Sq.o BK219.out 7).trans rfl
 have hcz27_8 : w14.cell? ⟨gb219, 8, none⟩ = some (.int .i64 0) := (Sq.o BK219.out 8).trans rfl
 have hcz27_9 : w14.cell? ⟨gb219, 9, none⟩ = some (.slice none 0 0) := (Sq.o BK219.out 9).trans rfl
 have hcz27_10 : w14.cell? ⟨gb219, 10, none⟩ = some (.slice none 0 0) := (Sq.o BK219.out 10).trans rfl
 have hcz27_11 : w14.cell? ⟨gb219, 11, none⟩ = some (.int .i64 0) := (Sq.o BK219.out 11).trans rfl
 have hfz27_0 := Sq.r BK219.out 0
 have hfz27_1 := Sq.r BK219.out 1
 have hfz27_2 := Sq.r BK219.out 2
 have hfz27_3 := Sq.r BK219.out 3
 have hfz27_4 := Sq.r BK219.out 4
 have hfz27_5 := Sq.r BK219.out 5
 have hfz27_6 := Sq.r BK219.out 6
 have hfz27_7 := Sq.r BK219.out 7
 have hfz27_8 := Sq.r BK219.out 8
 have hfz27_9 := Sq.r BK219.out 9
 have hfz27_10 := Sq.r BK219.out 10
 have hfz27_11 := Sq.r BK219.out 11
 try go_wp2
 refine bodyPost_ret (results_cell_row rfl _ _ gb219 71 #[.int .i64 a0_0, .slice Ao15 t220.length co15, .int .i64 a0_2, .slice Ao17 t223.length co17, .slice Ao19 t226.length co19, .string a0_5, .int .i64 a0_6, .int .i64 a0_7, .int .i64 a0_8, .slice Ao21 t229.length co21, .slice Ao23 t232.length co23, .int .i64 a0_11] (0, 0) _ rfl (by (with_reducible repeat (first | refine Sq.d ?_ _ | refine Sq.e ?_ | refine Sq.f ?_ _)); refine Sq.v (cs := #[.int .i64 a0_0, .slice Ao15 t220.length co15, .int .i64 a0_2, .slice Ao17 t223.length co17, .slice Ao19 t226.length co19, .string a0_5, .int .i64 a0_6, .int .i64 a0_7, .int .i64 a0_8, .slice Ao21 t229.length co21, .slice Ao23 t232.length co23, .int .i64 0]) ?_ 11 _ rfl; (with_reducible repeat (first | refine Sq.d ?_ _ | refine Sq.e ?_ | refine Sq.f ?_ _)); refine Sq.v (cs := #[.int .i64 a0_0, .slice Ao15 t220.length co15, .int .i64 a0_2, .slice Ao17 t223.length co17, .slice Ao19 t226.length co19, .string a0_5, .int .i64 a0_6, .int .i64 a0_7, .int .i64 a0_8, .slice Ao21 t229.length co21, .slice none 0 0, .int .i64 0]) ?_ 10 _ rfl; (with_reducible repeat (first | refine Sq.d ?_ _ | refine Sq.e ?_ | refine Sq.f ?_ _)); refine Sq.v (cs := #[.int .i64 a0_0, .slice Ao15 t220.length co15, .int .i64 a0_2, .slice Ao17 t223.length co17, .slice Ao19 t226.length co19, .string a0_5, .int .i64 a0_6, .int .i64 a0_7, .int .i64 a0_8, .slice none 0 0, .slice none 0 0, .int .i64 0]) ?_ 9 _ rfl; (with_reducible repeat (first | refine Sq.d ?_ _ | refine Sq.e ?_ | refine Sq.f ?_ _)); refine Sq.v (cs := #[.int .i64 a0_0, .slice Ao15 t220.length co15, .int .i64 a0_2, .slice Ao17 t223.length co17, .slice Ao19 t226.length co19, .string a0_5, .int .i64 a0_6, .int .i64 a0_7, .int .i64 0, .slice none 0 0, .slice none 0 0, .int .i64 0]) ?_ 8 _ rfl; (with_reducible repeat (first | refine Sq.d ?_ _ | refine Sq.e ?_ | refine Sq.f ?_ _)); refine Sq.v (cs := #[.int .i64 a0_0, .slice Ao15 t220.length co15, .int .i64 a0_2, .slice Ao17 t223.length co17, .slice Ao19 t226.length co19, .string a0_5, .int .i64 a0_6, .int .i64 0, .int .i64 0, .slice none 0 0, .slice none 0 0, .int .i64 0]) ?_ 7 _ rfl; (with_reducible repeat (first | refine Sq.d ?_ _ | refine Sq.e ?_ | refine Sq.f ?_ _)); refine Sq.v (cs := #[.int .i64 a0_0, .slice Ao15 t220.length co15, .int .i64 a0_2, .slice Ao17 t223.length co17, .slice Ao19 t226.length co19, .string a0_5, .int .i64 0, .int .i64 0, .int .i64 0, .slice none 0 0, .slice none 0 0, .int .i64 0]) ?_ 6 _ rfl; (with_reducible repeat (first | refine Sq.d ?_ _ | refine Sq.e ?_ | refine Sq.f ?_ _)); refine Sq.v (cs := #[.int .i64 a0_0, .slice Ao15 t220.length co15, .int .i64 a0_2, .slice Ao17 t223.length co17, .slice Ao19 t226.length co19, .string (⟨#[]⟩ : ByteArray), .int .i64 0, .int .i64 0, .int .i64 0, .slice none 0 0, .slice none 0 0, .int .i64 0]) ?_ 5 _ rfl; (with_reducible repeat (first | refine Sq.d ?_ _ | refine Sq.e ?_ | refine Sq.f ?_ _)); refine Sq.v (cs := #[.int .i64 a0_0, .slice Ao15 t220.length co15, .int .i64 a0_2, .slice Ao17 t223.length co17, .slice none 0 0, .string (⟨#[]⟩ : ByteArray), .int .i64 0, .int .i64 0, .int .i64 0, .slice none 0 0, .slice none 0 0, .int .i64 0]) ?_ 4 _ rfl; (with_reducible repeat (first | refine Sq.d ?_ _ | refine Sq.e ?_ | refine Sq.f ?_ _)); refine Sq.v (cs := #[.int .i64 a0_0, .slice Ao15 t220.length co15, .int .i64 a0_2, .slice none 0 0, .slice none 0 0, .string (⟨#[]⟩ : ByteArray), .int .i64 0, .int .i64 0, .int .i64 0, .slice none 0 0, .slice none 0 0, .int .i64 0]) ?_ 3 _ rfl; (with_reducible repeat (first | refine Sq.d ?_ _ | refine Sq.e ?_ | refine Sq.f ?_ _)); refine Sq.v (cs := #[.int .i64 a0_0, .slice Ao15 t220.length co15, .int .i64 0, .slice none 0 0, .slice none 0 0, .string (⟨#[]⟩ : ByteArray), .int .i64 0, .int .i64 0, .int .i64 0, .slice none 0 0, .slice none 0 0, .int .i64 0]) ?_ 2 _ rfl; (with_reducible repeat (first | refine Sq.d ?_ _ | refine Sq.e ?_ | refine Sq.f ?_ _)); refine Sq.v (cs := #[.int .i64 a0_0, .slice none 0 0, .int .i64 0, .slice none 0 0, .slice none 0 0, .string (⟨#[]⟩ : ByteArray), .int .i64 0, .int .i64 0, .int .i64 0, .slice none 0 0, .slice none 0 0, .int .i64 0]) ?_ 1 _ rfl; (with_reducible repeat (first | refine Sq.d ?_ _ | refine Sq.e ?_ | refine Sq.f ?_ _)); refine Sq.v (cs := #[.int .i64 0, .slice none 0 0, .int .i64 0, .slice none 0 0, .slice none 0 0, .string (⟨#[]⟩ : ByteArray), .int .i64 0, .int .i64 0, .int .i64 0, .slice none 0 0, .slice none 0 0, .int .i64 0]) ?_ 0 _ rfl; (with_reducible repeat (first | refine Sq.d ?_ _ | refine Sq.e ?_ | refine Sq.f ?_ _)); refine Sq.B5 ?_ NB219_218.out; (with_reducible repeat (first | refine Sq.d ?_ _ | refine Sq.e ?_ | refine Sq.f ?_ _)); exact BK219.out) Try.underlying71 rfl (by kernel_rfl)) rfl ?_
 exact ⟨_, _, _, _, _, by first | rfl | (simp [errW_none, errW_some] <;> rfl) | (simp [*, errW_none, errW_some] <;> rfl), by (with_reducible repeat (first | apply Sq.a | apply Sq.b | apply Sq.c)); exact Sq.a3 (Sq.R12 (Kd.R_far (p := ⟨gb218, 10, none⟩) (Kd.R_far (p := ⟨gb218, 9, none⟩) (Kd.R_far (p := ⟨gb218, 4, none⟩) (Kd.R_far (p := ⟨gb218, 3, none⟩) (Kd.R_far (p := ⟨gb218, 1, none⟩) (Sq.b5 (Sq.b5 HO222.out BK218.out (by decide)) BK219.out (by decide)) (fun _ hk => hk.1.2) (.slice Ao15 t220.length co15)) (fun _ hk => hk.1.2) (.slice Ao17 t223.length co17)) (fun _ hk => hk.1.2) (.slice Ao19 t226.length co19)) (fun _ hk => hk.1.2) (.slice Ao21 t229.length co21)) (fun _ hk => hk.1.2) (.slice Ao23 t232.length co23)) (fun _ hk => hk.2)) (fun _ hk => ⟨hk.1.1.1.2, hk.1.1.2⟩), by (with_reducible repeat (first | apply Sq.a | apply Sq.b | apply Sq.c)); exact Sq.a3 (Sq.R12 (Kd.R_far (p := ⟨gb218, 10, none⟩) (Kd.R_far (p := ⟨gb218, 9, none⟩) (Kd.R_far (p := ⟨gb218, 4, none⟩) (Kd.R_far (p := ⟨gb218, 3, none⟩) (Kd.R_far (p := ⟨gb218, 1, none⟩) (Sq.b5 (Sq.b5 HO225.out BK218.out (by decide)) BK219.out (by decide)) (fun _ hk => hk.1.2) (.slice Ao15 t220.length co15)) (fun _ hk => hk.1.2) (.slice Ao17 t223.length co17)) (fun _ hk => hk.1.2) (.slice Ao19 t226.length co19)) (fun _ hk => hk.1.2) (.slice Ao21 t229.length co21)) (fun _ hk => hk.1.2) (.slice Ao23 t232.length co23)) (fun _ hk => hk.2)) (fun _ hk => ⟨hk.1.1.1.2, hk.1.1.2⟩), by (with_reducible repeat (first | apply Sq.a | apply Sq.b | apply Sq.c)); exact Sq.a3 (Sq.R12 (Kd.R_far (p := ⟨gb218, 10, none⟩) (Kd.R_far (p := ⟨gb218, 9, none⟩) (Kd.R_far (p := ⟨gb218, 4, none⟩) (Kd.R_far (p := ⟨gb218, 3, none⟩) (Kd.R_far (p := ⟨gb218, 1, none⟩) (Sq.b5 (Sq.b5 HO228.out BK218.out (by decide)) BK219.out (by decide)) (fun _ hk => hk.1.2) (.slice Ao15 t220.length co15)) (fun _ hk => hk.1.2) (.slice Ao17 t223.length co17)) (fun _ hk => hk.1.2) (.slice Ao19 t226.length co19)) (fun _ hk => hk.1.2) (.slice Ao21 t229.length co21)) (fun _ hk => hk.1.2) (.slice Ao23 t232.length co23)) (fun _ hk => hk.2)) (fun _ hk => ⟨hk.1.1.1.2, hk.1.1.2⟩), by (with_reducible repeat (first | apply Sq.a | apply Sq.b | apply Sq.c)); exact Sq.a3 (Sq.R12 (Kd.R_far (p := ⟨gb218, 10, none⟩) (Kd.R_far (p := ⟨gb218, 9, none⟩) (Kd.R_far (p := ⟨gb218, 4, none⟩) (Kd.R_far (p := ⟨gb218, 3, none⟩) (Kd.R_far (p := ⟨gb218, 1, none⟩) (Sq.b5 (Sq.b5 HO231.out BK218.out (by decide)) BK219.out (by decide)) (fun _ hk => hk.1.2) (.slice Ao15 t220.length co15)) (fun _ hk => hk.1.2) (.slice Ao17 t223.length co17)) (fun _ hk => hk.1.2) (.slice Ao19 t226.length co19)) (fun _ hk => hk.1.2) (.slice Ao21 t229.length co21)) (fun _ hk => hk.1.2) (.slice Ao23 t232.length co23)) (fun _ hk => hk.2)) (fun _ hk => hk.1.1.2), by (with_reducible repeat (first | apply Sq.a | apply Sq.b | apply Sq.c)); exact Sq.a3 (Sq.R12 (Kd.R_far (p := ⟨gb218, 10, none⟩) (Kd.R_far (p := ⟨gb218, 9, none⟩) (Kd.R_far (p := ⟨gb218, 4, none⟩) (Kd.R_far (p := ⟨gb218, 3, none⟩) (Kd.R_far (p := ⟨gb218, 1, none⟩) (Sq.b5 (Sq.b5 HO234.out BK218.out (by decide)) BK219.out (by decide)) (fun _ hk => hk.1.2) (.slice Ao15 t220.length co15)) (fun _ hk => hk.1.2) (.slice Ao17 t223.length co17)) (fun _ hk => hk.1.2) (.slice Ao19 t226.length co19)) (fun _ hk => hk.1.2) (.slice Ao21 t229.length co21)) (fun _ hk => hk.1.2) (.slice Ao23 t232.length co23)) (fun _ hk => hk.2)) (fun _ hk => hk.1.1.2), by repeat (first | (with_reducible first | exact HB.out | apply Sq.i | apply Sq.j | apply Sq.k | refine Sq.h ?_ GE218.out | refine Sq.h ?_ GE219.out) | exact HB.out)⟩

/-! ### impl_RaiseLine: function 33 -/
def impl_RaiseLine.j0 : Nat → Int → List Int → Int → List Int → List Int → ByteArray → Int → Int → Int → List (S185) → List (S185) → Int → Option (Int × List Int × Int × List Int × List Int × ByteArray × Int × Int × Int × (List (S185)) × (List (S185)) × Int)
 | 0, _, _, _, _, _, _, _, _, _, _, _, _ => none
 | k + 1, x236000, x236001, x236002, x236003, x236004, x236005, x236006, x236007, x236008, x236009, x236010, x236011 => some (x236000, x236001, x236002, x236003, x236004, x236005, x236006, x236007, x236008, x236009, x236010, x236011)
def impl_RaiseLine.f (k : Nat) (a0_0 : Int) (l0_1 : List Int) (a0_2 : Int) (l0_3 : List Int) (l0_4 : List Int) (a0_5 : ByteArray) (a0_6 : Int) (a0_7 : Int) (a0_8 : Int) (l0_9 : List (S185)) (l0_10 : List (S185)) (a0_11 : Int) (a1 : Int) : Option (Int × List Int × Int × List Int × List Int × ByteArray × Int × Int × Int × (List (S185)) × (List (S185)) × Int) := (impl_MachineFault.f a0_0 l0_1 a0_2 l0_3 l0_4 a0_5 a0_6 a0_7 a0_8 l0_9 l0_10 a0_11).bind fun t237 => (if t237 = 0 then ((impl_ycopyMachine.f a0_0 l0_1 a0_2 l0_3 l0_4 a0_5 a0_6 a0_7 a0_8 l0_9 l0_10 a0_11).bind fun bt238 => ((impl_yin.f a1 0 6).bind fun t260 => (if t260 = true then (if 0 ≤ a1 then (impl_RaiseLine.j0 k bt238.1 bt238.2.1 bt238.2.2.1 bt238.2.2.2.1 bt238.2.2.2.2.1 bt238.2.2.2.2.2.1 bt238.2.2.2.2.2.2.1 bt238.2.2.2.2.2.2.2.1 (Go.bits .or .i64 bt238.2.2.2.2.2.2.2.2.1 (shl .i64 1 a1)) bt238.2.2.2.2.2.2.2.2.2.1 bt238.2.2.2.2.2.2.2.2.2.2.1 bt238.2.2.2.2.2.2.2.2.2.2.2) else (none)) else (impl_RaiseLine.j0 k bt238.1 bt238.2.1 bt238.2.2.1 bt238.2.2.2.1 bt238.2.2.2.2.1 bt238.2.2.2.2.2.1 bt238.2.2.2.2.2.2.1 bt238.2.2.2.2.2.2.2.1 bt238.2.2.2.2.2.2.2.2.1 bt238.2.2.2.2.2.2.2.2.2.1 bt238.2.2.2.2.2.2.2.2.2.2.1 bt238.2.2.2.2.2.2.2.2.2.2.2)))) else (some (0, ([] : List Int), 0, ([] : List Int), ([] : List Int), (⟨#[]⟩ : ByteArray), 0, 0, 0, ([] : List (S185)), ([] : List (S185)), 0)))
theorem impl_RaiseLine.mono_l : ∀ k, (∀ y0 y1 y2 y3 y4 y5 y6 y7 y8 y9 y10 y11, LeO (impl_RaiseLine.j0 k y0 y1 y2 y3 y4 y5 y6 y7 y8 y9 y10 y11) (impl_RaiseLine.j0 (k + 1) y0 y1 y2 y3 y4 y5 y6 y7 y8 y9 y10 y11))
 | 0 => fun _ _ _ _ _ _ _ _ _ _ _ _ r h => by simp [impl_RaiseLine.j0] at h
 | k + 1 => by
  have ih0 := impl_RaiseLine.mono_l k
  ·intro y0 y1 y2 y3 y4 y5 y6 y7 y8 y9 y10 y11
   unfold impl_RaiseLine.j0
   repeat' first
   | (with_reducible exact ih0 _ _ _ _ _ _ _ _ _ _ _ _)
   | (with_reducible exact LeO.refl _)
   | (with_reducible exact LeO.none _)
   | (with_reducible refine LeO.ite ?_ ?_)
   | (with_reducible refine LeO.bind ?_ (fun _ => ?_))
   | exact ih0 _ _ _ _ _ _ _ _ _ _ _ _
   | exact LeO.none _
   | refine LeO.ite ?_ ?_
   | refine LeO.bind ?_ (fun _ => ?_)
theorem impl_RaiseLine.mono : ∀ a0 a1 a2 a3 a4 a5 a6 a7 a8 a9 a10 a11 a12 k, LeO (impl_RaiseLine.f k a0 a1 a2 a3 a4 a5 a6 a7 a8 a9 a10 a11 a12) (impl_RaiseLine.f (k + 1) a0 a1 a2 a3 a4 a5 a6 a7 a8 a9 a10 a11 a12) := by
 intro a0 a1 a2 a3 a4 a5 a6 a7 a8 a9 a10 a11 a12 k
 have ih0 := impl_RaiseLine.mono_l k
 unfold impl_RaiseLine.f
 repeat' first
   | (with_reducible exact ih0 _ _ _ _ _ _ _ _ _ _ _ _)
   | (with_reducible exact LeO.refl _)
   | (with_reducible exact LeO.none _)
   | (with_reducible refine LeO.ite ?_ ?_)
   | (with_reducible refine LeO.bind ?_ (fun _ => ?_))
   | exact ih0 _ _ _ _ _ _ _ _ _ _ _ _
   | exact LeO.none _
   | refine LeO.ite ?_ ?_
   | refine LeO.bind ?_ (fun _ => ?_)
set_option maxHeartbeats 8000000 in
set_option maxRecDepth 100000 in
theorem impl_RaiseLine.calls (k : Nat) (a0_0 : Int) (A0_1 : Option Addr) (c0_1 : Nat) (l0_1 : List Int) (a0_2 : Int) (A0_3 : Option Addr) (c0_3 : Nat) (l0_3 : List Int) (A0_4 : Option Addr) (c0_4 : Nat) (l0_4 : List Int) (a0_5 : ByteArray) (a0_6 : Int) (a0_7 : Int) (a0_8 : Int) (A0_9 : Option Addr) (c0_9 : Nat) (l0_9 : List (S185)) (A0_10 : Option Addr) (c0_10 : Nat) (l0_10 : List (S185)) (a0_11 : Int) (a1 : Int) (r1 : Int) (r2 : List Int) (r3 : Int) (r4 : List Int) (r5 : List Int) (r6 : ByteArray) (r7 : Int) (r8 : Int) (r9 : Int) (r10 : List (S185)) (r11 : List (S185)) (r12 : Int) (w : World) (hr0_1 : Kd.C (Kd.int .i64) w A0_1 l0_1.length l0_1) (hc0_1 : l0_1.length ≤ c0_1) (hr0_3 : Kd.C (Kd.int .i64) w A0_3 l0_3.length l0_3) (hc0_3 : l0_3.length ≤ c0_3) (hr0_4 : Kd.C (Kd.int .i64) w A0_4 l0_4.length l0_4) (hc0_4 : l0_4.length ≤ c0_4) (hr0_9 : Kd.C k185 w A0_9 l0_9.length l0_9) (hc0_9 : l0_9.length ≤ c0_9) (hr0_10 : Kd.C k185 w A0_10 l0_10.length l0_10) (hc0_10 : l0_10.length ≤ c0_10) (h : impl_RaiseLine.f k a0_0 l0_1 a0_2 l0_3 l0_4 a0_5 a0_6 a0_7 a0_8 l0_9 l0_10 a0_11 a1 = some (r1, r2, r3, r4, r5, r6, r7, r8, r9, r10, r11, r12)) :
  Calls Try.prog 33 #[.agg #[.int .i64 a0_0, .slice A0_1 l0_1.length c0_1, .int .i64 a0_2, .slice A0_3 l0_3.length c0_3, .slice A0_4 l0_4.length c0_4, .string a0_5, .int .i64 a0_6, .int .i64 a0_7, .int .i64 a0_8, .slice A0_9 l0_9.length c0_9, .slice A0_10 l0_10.length c0_10, .int .i64 a0_11], .int .i64 a1] w fun e w' => ∃ v1_ v3_ v4_ v9_ v10_ : Value, e = .returned (.agg #[.int .i64 r1, v1_, .int .i64 r3, v3_, v4_, .string r6, .int .i64 r7, .int .i64 r8, .int .i64 r9, v9_, v10_, .int .i64 r12]) ∧ Kd.R (Kd.int .i64) 2 w' w.heap.size (fun k_ => some k_ ≠ (v3_ : Value).ownBlock ∧ some k_ ≠ (v4_ : Value).ownBlock) v1_ r2 ∧ Kd.R (Kd.int .i64) 2 w' w.heap.size (fun k_ => some k_ ≠ (v1_ : Value).ownBlock ∧ some k_ ≠ (v4_ : Value).ownBlock) v3_ r4 ∧ Kd.R (Kd.int .i64) 2 w' w.heap.size (fun k_ => some k_ ≠ (v1_ : Value).ownBlock ∧ some k_ ≠ (v3_ : Value).ownBlock) v4_ r5 ∧ Kd.R k185 185 w' w.heap.size (fun k_ => some k_ ≠ (v10_ : Value).ownBlock) v9_ r10 ∧ Kd.R k185 185 w' w.heap.size (fun k_ => some k_ ≠ (v9_ : Value).ownBlock) v10_ r11 ∧ Below w.heap.size w w' := by
 have hu71 := Try.underlying71
 have HR0_1 := Sq.l hr0_1
 have HC0_1 := Sq.l hc0_1
 clear hr0_1 hc0_1
 have HR0_3 := Sq.l hr0_3
 have HC0_3 := Sq.l hc0_3
 clear hr0_3 hc0_3
 have HR0_4 := Sq.l hr0_4
 have HC0_4 := Sq.l hc0_4
 clear hr0_4 hc0_4
 have HR0_9 := Sq.l hr0_9
 have HC0_9 := Sq.l hc0_9
 clear hr0_9 hc0_9
 have HR0_10 := Sq.l hr0_10
 have HC0_10 := Sq.l hc0_10
 clear hr0_10 hc0_10
 have HB := Sq.l (Below.refl w.heap.size w)
 have H : ((impl_MachineFault.f a0_0 l0_1 a0_2 l0_3 l0_4 a0_5 a0_6 a0_7 a0_8 l0_9 l0_10 a0_11).bind fun t237 => (if t237 = 0 then ((impl_ycopyMachine.f a0_0 l0_1 a0_2 l0_3 l0_4 a0_5 a0_6 a0_7 a0_8 l0_9 l0_10 a0_11).bind fun bt238 => ((impl_yin.f a1 0 6).bind fun t260 => (if t260 = true then (if 0 ≤ a1 then (impl_RaiseLine.j0 k bt238.1 bt238.2.1 bt238.2.2.1 bt238.2.2.2.1 bt238.2.2.2.2.1 bt238.2.2.2.2.2.1 bt238.2.2.2.2.2.2.1 bt238.2.2.2.2.2.2.2.1 (Go.bits .or .i64 bt238.2.2.2.2.2.2.2.2.1 (shl .i64 1 a1)) bt238.2.2.2.2.2.2.2.2.2.1 bt238.2.2.2.2.2.2.2.2.2.2.1 bt238.2.2.2.2.2.2.2.2.2.2.2) else (none)) else (impl_RaiseLine.j0 k bt238.1 bt238.2.1 bt238.2.2.1 bt238.2.2.2.1 bt238.2.2.2.2.1 bt238.2.2.2.2.2.1 bt238.2.2.2.2.2.2.1 bt238.2.2.2.2.2.2.2.1 bt238.2.2.2.2.2.2.2.2.1 bt238.2.2.2.2.2.2.2.2.2.1 bt238.2.2.2.2.2.2.2.2.2.2.1 bt238.2.2.2.2.2.2.2.2.2.2.2)))) else (some (0, ([] : List Int), 0, ([] : List Int), ([] : List Int), (⟨#[]⟩ : ByteArray), 0, 0, 0, ([] : List (S185)), ([] : List (S185)), 0)))) = some (r1, r2, r3, r4, r5, r6, r7, r8, r9, r10, r11, r12) := h
 clear h
 replace H := Option.bind_eq_some_iff.mp H
 obtain ⟨t237, A30, H⟩ := H
 replace H : (if t237 = 0 then ((impl_ycopyMachine.f a0_0 l0_1 a0_2 l0_3 l0_4 a0_5 a0_6 a0_7 a0_8 l0_9 l0_10 a0_11).bind fun bt238 => ((impl_yin.f a1 0 6).bind fun t260 => (if t260 = true then (if 0 ≤ a1 then (impl_RaiseLine.j0 k bt238.1 bt238.2.1 bt238.2.2.1 bt238.2.2.2.1 bt238.2.2.2.2.1 bt238.2.2.2.2.2.1 bt238.2.2.2.2.2.2.1 bt238.2.2.2.2.2.2.2.1 (Go.bits .or .i64 bt238.2.2.2.2.2.2.2.2.1 (shl .i64 1 a1)) bt238.2.2.2.2.2.2.2.2.2.1 bt238.2.2.2.2.2.2.2.2.2.2.1 bt238.2.2.2.2.2.2.2.2.2.2.2) else (none)) else (impl_RaiseLine.j0 k bt238.1 bt238.2.1 bt238.2.2.1 bt238.2.2.2.1 bt238.2.2.2.2.1 bt238.2.2.2.2.2.1 bt238.2.2.2.2.2.2.1 bt238.2.2.2.2.2.2.2.1 bt238.2.2.2.2.2.2.2.2.1 bt238.2.2.2.2.2.2.2.2.2.1 bt238.2.2.2.2.2.2.2.2.2.2.1 bt238.2.2.2.2.2.2.2.2.2.2.2)))) else (some (0, ([] : List Int), 0, ([] : List Int), ([] : List Int), (⟨#[]⟩ : ByteArray), 0, 0, 0, ([] : List (S185)), ([] : List (S185)), 0))) = some (r1, r2, r3, r4, r5, r6, r7, r8, r9, r10, r11, r12) := H
 have A3 := Sq.l A30
 clear A30
 by_cases c4 : t237 = 0
 ·rw [if_pos c4] at H
  have c4b0 : (t237 == 0) = true := beq_iff_eq.mpr c4
  have c4b1 : (t237 != 0) = false := bne_eq_false_iff_eq.mpr c4
  clear c4
  replace H := Option.bind_eq_some_iff.mp H
  obtain ⟨⟨t238, t239, t242, t243, t246, t249, t250, t251, t252, t253, t256, t259⟩, A50, H⟩ := H
  replace H : ((impl_yin.f a1 0 6).bind fun t260 => (if t260 = true then (if 0 ≤ a1 then (impl_RaiseLine.j0 k t238 t239 t242 t243 t246 t249 t250 t251 (Go.bits .or .i64 t252 (shl .i64 1 a1)) t253 t256 t259) else (none)) else (impl_RaiseLine.j0 k t238 t239 t242 t243 t246 t249 t250 t251 t252 t253 t256 t259))) = some (r1, r2, r3, r4, r5, r6, r7, r8, r9, r10, r11, r12) := H
  have A5 := Sq.l A50
  clear A50
  replace H := Option.bind_eq_some_iff.mp H
  obtain ⟨t260, A60, H⟩ := H
  replace H : (if t260 = true then (if 0 ≤ a1 then (impl_RaiseLine.j0 k t238 t239 t242 t243 t246 t249 t250 t251 (Go.bits .or .i64 t252 (shl .i64 1 a1)) t253 t256 t259) else (none)) else (impl_RaiseLine.j0 k t238 t239 t242 t243 t246 t249 t250 t251 t252 t253 t256 t259)) = some (r1, r2, r3, r4, r5, r6, r7, r8, r9, r10, r11, r12) := H
  have A6 := Sq.l A60
  clear A60
  have HC7 := Sq.l H
  clear H
  go_enter Try.func33, Try.ntmps33
  go_upto_if 12 with (first | ((with_reducible refine gate_dst (N := 2) rfl ?_); refine box_event ?hg (N := 2) ?hd (cs := #[.int .i64 a0_0, .slice A0_1 l0_1.length c0_1, .int .i64 a0_2, .slice A0_3 l0_3.length c0_3, .slice A0_4 l0_4.length c0_4, .string a0_5, .int .i64 a0_6, .int .i64 a0_7, .int .i64 a0_8, .slice A0_9 l0_9.length c0_9, .slice A0_10 l0_10.length c0_10, .int .i64 a0_11]) (t := 71) ?hr ?_; (case hd => rfl); (case hg => rfl); (case hr => first | (go_simp; done) | (go_simp; rfl)); intro gb235 hg w8 hbox hb; have n0_ := Sq.l (Sq.a4 (by repeat (first | (with_reducible first | exact HB.out | apply Sq.i | apply Sq.j | apply Sq.k) | exact HB.out)) hb); have n1_ := Sq.l (hbox); have n2_ := Sq.l ((by rw [hg]; exact (Sq.a5 (by repeat (first | (with_reducible first | exact HB.out | apply Sq.i | apply Sq.j | apply Sq.k) | exact HB.out))) : w.heap.size ≤ gb235)); have n3_ := Sq.l ((by rw [hg]; exact (Sq.a5 (by repeat (first | (with_reducible first | exact HB.out | apply Sq.i | apply Sq.j | apply Sq.k) | exact HB.out))) : w.heap.size ≤ gb235)); clear HB; have HB := n0_; have BK235 := n1_; have GW235 := n2_; have GE235 := n3_; clear n0_ n1_ n2_ n3_; clear hb hbox hg) | ((with_reducible refine gate_dst (N := 4) rfl ?_); refine box_event ?hg (N := 4) ?hd (cs := #[.int .i64 0, .slice none 0 0, .int .i64 0, .slice none 0 0, .slice none 0 0, .string (⟨#[]⟩ : ByteArray), .int .i64 0, .int .i64 0, .int .i64 0, .slice none 0 0, .slice none 0 0, .int .i64 0]) (t := 71) ?hr ?_; (case hd => rfl); (case hg => rfl); (case hr => first | (go_simp; done) | (go_simp; rfl)); intro gb236 hg w9 hbox hb; have n0_ := Sq.l (Sq.m (Sq.W BK235.out) hb); have n1_ := Sq.l (Sq.a4 (by repeat (first | (with_reducible first | exact HB.out | apply Sq.i | apply Sq.j | apply Sq.k | refine Sq.h ?_ GE235.out) | exact HB.out)) hb); have n2_ := Sq.l (hbox); have n3_ := Sq.l ((by rw [hg]; exact (Sq.a5 (by repeat (first | (with_reducible first | exact HB.out | apply Sq.i | apply Sq.j | apply Sq.k | refine Sq.h ?_ GE235.out) | exact HB.out))) : w.heap.size ≤ gb236)); have n4_ := Sq.l ((by rw [hg]; exact (Sq.a5 (by repeat (first | (with_reducible first | exact HB.out | apply Sq.i | apply Sq.j | apply Sq.k | refine Sq.h ?_ GE235.out) | exact HB.out))) : w.heap.size ≤ gb236)); have n5_ := Sq.l ((by rw [hg]; exact Nat.ne_of_lt (blk_lt (Sq.W BK235.out)) : gb235 ≠ gb236)); have n6_ := Sq.l ((by rw [hg]; exact Nat.ne_of_gt (blk_lt (Sq.W BK235.out)) : gb236 ≠ gb235)); clear BK235 HB; have BK235 := n0_; have HB := n1_; have BK236 := n2_; have GW236 := n3_; have GE236 := n4_; have NB235_236 := n5_; have NB236_235 := n6_; clear n0_ n1_ n2_ n3_ n4_ n5_ n6_; clear hb hbox hg; have hnb10 := NB235_236.out; have hnc10 := NB236_235.out; obtain ⟨hcz11_0, hcz11_1, hcz11_2, hcz11_3, hcz11_4, hcz11_5, hcz11_6, hcz11_7, hcz11_8, hcz11_9, hcz11_10, hcz11_11⟩ := Sq.C12 BK235.out; obtain ⟨hfz11_0, hfz11_1, hfz11_2, hfz11_3, hfz11_4, hfz11_5, hfz11_6, hfz11_7, hfz11_8, hfz11_9, hfz11_10, hfz11_11⟩ := Sq.F12 BK235.out) | ((with_reducible refine gate_callee (f := 86) rfl ?_); refine goesL_ (some 6) rfl rfl Try.func86 (by kernel_rfl) rfl #[.agg #[.int .i64 a0_0, .slice A0_1 l0_1.length c0_1, .int .i64 a0_2, .slice A0_3 l0_3.length c0_3, .slice A0_4 l0_4.length c0_4, .string a0_5, .int .i64 a0_6, .int .i64 a0_7, .int .i64 a0_8, .slice A0_9 l0_9.length c0_9, .slice A0_10 l0_10.length c0_10, .int .i64 a0_11]] rfl (by (try simp only [List.map_toArray, List.map_cons, List.map_nil]); first | done | rfl | (simp only [List.length_drop, List.length_take]; rfl)) ?_; (with_reducible refine (impl_MachineFault.calls a0_0 _ _ l0_1 a0_2 _ _ l0_3 _ _ l0_4 a0_5 a0_6 a0_7 a0_8 _ _ l0_9 _ _ l0_10 a0_11 t237 _ ?side1 ?side2 ?side3 ?side4 ?side5 ?side6 ?side7 ?side8 ?side9 ?side10 A3.out).mono ?_); (case side1 => repeat (first | exact (Sq.a1 HR0_1.out HB.out) | (with_reducible refine Sq.s ?_ _) | (with_reducible refine Sq.t ?_ _) | (with_reducible refine Sq.u ?_))); (case side2 => exact HC0_1.out); (case side3 => repeat (first | exact (Sq.a1 HR0_3.out HB.out) | (with_reducible refine Sq.s ?_ _) | (with_reducible refine Sq.t ?_ _) | (with_reducible refine Sq.u ?_))); (case side4 => exact HC0_3.out); (case side5 => repeat (first | exact (Sq.a1 HR0_4.out HB.out) | (with_reducible refine Sq.s ?_ _) | (with_reducible refine Sq.t ?_ _) | (with_reducible refine Sq.u ?_))); (case side6 => exact HC0_4.out); (case side7 => repeat (first | exact (Sq.a1 HR0_9.out HB.out) | (with_reducible refine Sq.s ?_ _) | (with_reducible refine Sq.t ?_ _) | (with_reducible refine Sq.u ?_))); (case side8 => exact HC0_9.out); (case side9 => repeat (first | exact (Sq.a1 HR0_10.out HB.out) | (with_reducible refine Sq.s ?_ _) | (with_reducible refine Sq.t ?_ _) | (with_reducible refine Sq.u ?_))); (case side10 => exact HC0_10.out); rintro e w12 ⟨rfl, hb⟩; refine ⟨_, rfl, ?_⟩; have n0_ := Sq.l (Sq.m (Sq.W BK235.out) hb); have n1_ := Sq.l (Sq.m (g := gb236) (o := .cells #[.int .i64 0, .slice none 0 0, .int .i64 0, .slice none 0 0, .slice none 0 0, .string (⟨#[]⟩ : ByteArray), .int .i64 0, .int .i64 0, .int .i64 0, .slice none 0 0, .slice none 0 0, .int .i64 0] 71 (0, 0)) (Sq.W BK236.out) hb); have n2_ := Sq.l (Sq.a4 (by repeat (first | (with_reducible first | exact HB.out | apply Sq.i | apply Sq.j | apply Sq.k | refine Sq.h ?_ GE235.out | refine Sq.h ?_ GE236.out) | exact HB.out)) hb); clear BK235 BK236 HB; have BK235 := n0_; have BK236 := n1_; have HB := n2_; clear n0_ n1_ n2_; (try clear hb); (try clear hb2); (try clear hk); (try clear hi); obtain ⟨hcz13_0, hcz13_1, hcz13_2, hcz13_3, hcz13_4, hcz13_5, hcz13_6, hcz13_7, hcz13_8, hcz13_9, hcz13_10, hcz13_11⟩ := Sq.C12 BK235.out; obtain ⟨hfz13_0, hfz13_1, hfz13_2, hfz13_3, hfz13_4, hfz13_5, hfz13_6, hfz13_7, hfz13_8, hfz13_9, hfz13_10, hfz13_11⟩ := Sq.F12 BK235.out) | ((with_reducible refine gate_callee (f := 87) rfl ?_); refine goesL_ (some 10) rfl rfl Try.func87 (by kernel_rfl) rfl #[.agg #[.int .i64 a0_0, .slice A0_1 l0_1.length c0_1, .int .i64 a0_2, .slice A0_3 l0_3.length c0_3, .slice A0_4 l0_4.length c0_4, .string a0_5, .int .i64 a0_6, .int .i64 a0_7, .int .i64 a0_8, .slice A0_9 l0_9.length c0_9, .slice A0_10 l0_10.length c0_10, .int .i64 a0_11]] rfl (by (try simp only [List.map_toArray, List.map_cons, List.map_nil]); first | done | rfl | (simp only [List.length_drop, List.length_take]; rfl)) ?_; (with_reducible refine (impl_ycopyMachine.calls a0_0 _ _ l0_1 a0_2 _ _ l0_3 _ _ l0_4 a0_5 a0_6 a0_7 a0_8 _ _ l0_9 _ _ l0_10 a0_11 t238 t239 t242 t243 t246 t249 t250 t251 t252 t253 t256 t259 _ ?side1 ?side2 ?side3 ?side4 ?side5 ?side6 ?side7 ?side8 ?side9 ?side10 A5.out).mono ?_); (case side1 => repeat (first | exact (Sq.a1 HR0_1.out HB.out) | (with_reducible refine Sq.s ?_ _) | (with_reducible refine Sq.t ?_ _) | (with_reducible refine Sq.u ?_))); (case side2 => exact HC0_1.out); (case side3 => repeat (first | exact (Sq.a1 HR0_3.out HB.out) | (with_reducible refine Sq.s ?_ _) | (with_reducible refine Sq.t ?_ _) | (with_reducible refine Sq.u ?_))); (case side4 => exact HC0_3.out); (case side5 => repeat (first | exact (Sq.a1 HR0_4.out HB.out) | (with_reducible refine Sq.s ?_ _) | (with_reducible refine Sq.t ?_ _) | (with_reducible refine Sq.u ?_))); (case side6 => exact HC0_4.out); (case side7 => repeat (first | exact (Sq.a1 HR0_9.out HB.out) | (with_reducible refine Sq.s ?_ _) | (with_reducible refine Sq.t ?_ _) | (with_reducible refine Sq.u ?_))); (case side8 => exact HC0_9.out); (case side9 => repeat (first | exact (Sq.a1 HR0_10.out HB.out) | (with_reducible refine Sq.s ?_ _) | (with_reducible refine Sq.t ?_ _) | (with_reducible refine Sq.u ?_))); (case side10 => exact HC0_10.out); rintro e w14 ⟨v240, v244, v247, v254, v257, rfl, ho0, ho1, ho2, ho3, ho4, hb⟩; refine ⟨_, rfl, ?_⟩; have n0_ := Sq.l (Sq.a2 ho0 (Sq.a5 (by repeat (first | (with_reducible first | exact HB.out | apply Sq.i | apply Sq.j | apply Sq.k | refine Sq.h ?_ GE235.out | refine Sq.h ?_ GE236.out) | exact HB.out)))); have n1_ := Sq.l (Sq.a2 ho1 (Sq.a5 (by repeat (first | (with_reducible first | exact HB.out | apply Sq.i | apply Sq.j | apply Sq.k | refine Sq.h ?_ GE235.out | refine Sq.h ?_ GE236.out) | exact HB.out)))); have n2_ := Sq.l (Sq.a2 ho2 (Sq.a5 (by repeat (first | (with_reducible first | exact HB.out | apply Sq.i | apply Sq.j | apply Sq.k | refine Sq.h ?_ GE235.out | refine Sq.h ?_ GE236.out) | exact HB.out)))); have n3_ := Sq.l (Sq.a2 ho3 (Sq.a5 (by repeat (first | (with_reducible first | exact HB.out | apply Sq.i | apply Sq.j | apply Sq.k | refine Sq.h ?_ GE235.out | refine Sq.h ?_ GE236.out) | exact HB.out)))); have n4_ := Sq.l (Sq.a2 ho4 (Sq.a5 (by repeat (first | (with_reducible first | exact HB.out | apply Sq.i | apply Sq.j | apply Sq.k | refine Sq.h ?_ GE235.out | refine Sq.h ?_ GE236.out) | exact HB.out)))); have n5_ := Sq.l (Sq.m (Sq.W BK235.out) hb); have n6_ := Sq.l (Sq.m (g := gb236) (o := .cells #[.int .i64 0, .slice none 0 0, .int .i64 0, .slice none 0 0, .slice none 0 0, .string (⟨#[]⟩ : ByteArray), .int .i64 0, .int .i64 0, .int .i64 0, .slice none 0 0, .slice none 0 0, .int .i64 0] 71 (0, 0)) (Sq.W BK236.out) hb); have n7_ := Sq.l (Sq.a4 (by repeat (first | (with_reducible first | exact HB.out | apply Sq.i | apply Sq.j | apply Sq.k | refine Sq.h ?_ GE235.out | refine Sq.h ?_ GE236.out) | exact HB.out)) hb); clear BK235 BK236 HB; have HO241 := n0_; have HO245 := n1_; have HO248 := n2_; have HO255 := n3_; have HO258 := n4_; have BK235 := n5_; have BK236 := n6_; have HB := n7_; clear n0_ n1_ n2_ n3_ n4_ n5_ n6_ n7_; (try clear hb); (try clear hb2); (try clear hk); (try clear hi); (try clear ho0); (try clear ho1); (try clear ho2); (try clear ho3); (try clear ho4); obtain ⟨hcz15_0, hcz15_1, hcz15_2, hcz15_3, hcz15_4, hcz15_5, hcz15_6, hcz15_7, hcz15_8, hcz15_9, hcz15_10, hcz15_11⟩ := Sq.C12 BK235.out; obtain ⟨hfz15_0, hfz15_1, hfz15_2, hfz15_3, hfz15_4, hfz15_5, hfz15_6, hfz15_7, hfz15_8, hfz15_9, hfz15_10, hfz15_11⟩ := Sq.F12 BK235.out; obtain ⟨Ao16, co16, eo16⟩ := Kd.R_slice HO241.out; subst eo16; obtain ⟨Ao17, co17, eo17⟩ := Kd.R_slice HO245.out; subst eo17; obtain ⟨Ao18, co18, eo18⟩ := Kd.R_slice HO248.out; subst eo18; obtain ⟨Ao19, co19, eo19⟩ := Kd.R_slice HO255.out; subst eo19; obtain ⟨Ao20, co20, eo20⟩ := Kd.R_slice HO258.out; subst eo20) | ((with_reducible refine gate_callee (f := 49) rfl ?_); refine goesL_ (some 12) rfl rfl Try.func49 (by kernel_rfl) rfl #[.int .i64 a1, .int .i64 0, .int .i64 6] rfl (by (try simp only [List.map_toArray, List.map_cons, List.map_nil]); first | done | rfl | (simp only [List.length_drop, List.length_take]; rfl)) ?_; (with_reducible refine (impl_yin.calls a1 0 6 t260 _ A6.out).mono ?_); rintro e w' ⟨rfl, ⟨nd, rfl⟩⟩; refine ⟨_, rfl, ?_⟩))
  (try simp only [Act.put, List.setIfInBounds_toArray, List.set_cons_zero, List.set_cons_succ])
  go_cut [] (fun wc => ∃ (kq : Nat) (x236008_6 : Int), Aside0 (impl_RaiseLine.j0 kq t238 t239 t242 t243 t246 t249 t250 t251 x236008_6 t253 t256 t259 = some (r1, r2, r3, r4, r5, r6, r7, r8, r9, r10, r11, r12)) ∧ Aside0 (kq ≤ k) ∧ Aside0 (Kd.R (Kd.int .i64) 2 wc w.heap.size (fun k_ => some k_ ≠ ((.slice Ao17 t243.length co17) : Value).ownBlock ∧ some k_ ≠ ((.slice Ao18 t246.length co18) : Value).ownBlock) (.slice Ao16 t239.length co16) t239) ∧ Aside0 (Kd.R (Kd.int .i64) 2 wc w.heap.size (fun k_ => some k_ ≠ ((.slice Ao16 t239.length co16) : Value).ownBlock ∧ some k_ ≠ ((.slice Ao18 t246.length co18) : Value).ownBlock) (.slice Ao17 t243.length co17) t243) ∧ Aside0 (Kd.R (Kd.int .i64) 2 wc w.heap.size (fun k_ => some k_ ≠ ((.slice Ao16 t239.length co16) : Value).ownBlock ∧ some k_ ≠ ((.slice Ao17 t243.length co17) : Value).ownBlock) (.slice Ao18 t246.length co18) t246) ∧ Aside0 (Kd.R k185 185 wc w.heap.size (fun k_ => some k_ ≠ ((.slice Ao20 t256.length co20) : Value).ownBlock) (.slice Ao19 t253.length co19) t253) ∧ Aside0 (Kd.R k185 185 wc w.heap.size (fun k_ => some k_ ≠ ((.slice Ao19 t253.length co19) : Value).ownBlock) (.slice Ao20 t256.length co20) t256) ∧ Aside0 (wc.heap[gb235]? = some (.cells #[.int .i64 t238, (.slice Ao16 t239.length co16), .int .i64 t242, (.slice Ao17 t243.length co17), (.slice Ao18 t246.length co18), .string t249, .int .i64 t250, .int .i64 t251, .int .i64 x236008_6, (.slice Ao19 t253.length co19), (.slice Ao20 t256.length co20), .int .i64 t259] 71 (0, 0))) ∧ Aside0 (wc.heap[gb236]? = some (.cells #[.int .i64 0, (.slice none 0 0), .int .i64 0, (.slice none 0 0), (.slice none 0 0), .string (⟨#[]⟩ : ByteArray), .int .i64 0, .int .i64 0, .int .i64 0, (.slice none 0 0), (.slice none 0 0), .int .i64 0] 71 (0, 0))) ∧ Aside0 (Below w.heap.size w wc))
  case first =>
   have H := HC7.out
   clear HC7
   by_cases c21 : t260 = true
   ·subst c21
    have H1 : (if 0 ≤ a1 then (impl_RaiseLine.j0 k t238 t239 t242 t243 t246 t249 t250 t251 (Go.bits .or .i64 t252 (shl .i64 1 a1)) t253 t256 t259) else (none)) = some (r1, r2, r3, r4, r5, r6, r7, r8, r9, r10, r11, r12) := by rw [if_pos rfl] at H; exact H
    clear H
    have H := H1
    clear H1
    by_cases c22 : 0 ≤ a1
    ·rw [if_pos c22] at H
     have c22b0 := eq_true c22
     have c22b1 : decide (0 ≤ a1) = true := decide_eq_true c22
     clear c22
     obtain ⟨ji23, hji23⟩ : ∃ j_ : Int, (shl .i64 1 a1) = j_ := ⟨_, rfl⟩
     replace H : (impl_RaiseLine.j0 k t238 t239 t242 t243 t246 t249 t250 t251 (Go.bits .or .i64 t252 (ji23)) t253 t256 t259) = some (r1, r2, r3, r4, r5, r6, r7, r8, r9, r10, r11, r12) := by first | (rw [hji23] at H; exact H) | (simp only [hji23] at H ⊢; exact H)
     have hji23_ : (IntKind.i64.wrap (1 * 2 ^ min a1.toNat 64)) = ji23 := hji23
     have hji23z : a1 ≤ 64 → (IntKind.i64.wrap (1 * 2 ^ a1.toNat)) = ji23 := shl_small hji23
     have hji23u : (IntKind.i64.wrap (2 ^ min a1.toNat 64)) = ji23 := by have h_ := hji23_; rw [Int.one_mul] at h_; exact h_
     have hji23v : a1 ≤ 64 → (IntKind.i64.wrap (2 ^ a1.toNat)) = ji23 := fun hle_ => by have h_ := hji23z hle_; rw [Int.one_mul] at h_; exact h_
     have hji23y : (wrap64 (1 * 2 ^ min a1.toNat 64)) = ji23 := (i64_w _).symm.trans hji23_
     have hji23x : a1 ≤ 64 → (wrap64 (1 * 2 ^ a1.toNat)) = ji23 := fun h_ => (i64_w _).symm.trans (hji23z h_)
     have H' := Sq.l H
     clear H
     try go_wp2
     have n0_ : Aside0 (Kd.R (Kd.int .i64) 2 ((((((((((((w14.setCell ⟨gb235, 0, none⟩ (.int .i64 t238)).setCell ⟨gb235, 1, none⟩ (.slice Ao16 t239.length co16)).setCell ⟨gb235, 2, none⟩ (.int .i64 t242)).setCell ⟨gb235, 3, none⟩ (.slice Ao17 t243.length co17)).setCell ⟨gb235, 4, none⟩ (.slice Ao18 t246.length co18)).setCell ⟨gb235, 5, none⟩ (.string t249)).setCell ⟨gb235, 6, none⟩ (.int .i64 t250)).setCell ⟨gb235, 7, none⟩ (.int .i64 t251)).setCell ⟨gb235, 8, none⟩ (.int .i64 t252)).setCell ⟨gb235, 9, none⟩ (.slice Ao19 t253.length co19)).setCell ⟨gb235, 10, none⟩ (.slice Ao20 t256.length co20)).setCell ⟨gb235, 11, none⟩ (.int .i64 t259)) w.heap.size (fun k_ => some k_ ≠ (.slice Ao17 t243.length co17 : Value).ownBlock ∧ some k_ ≠ (.slice Ao18 t246.length co18 : Value).ownBlock) (.slice Ao16 t239.length co16) t239) := ⟨by (with_reducible repeat (first | apply Sq.a | apply Sq.b | apply Sq.c)); exact Sq.a3 (Sq.R12 (Sq.b5 HO241.out BK235.out (by decide)) (fun _ hk => hk.2)) (fun _ hk => ⟨hk.1.1, hk.1.2⟩)⟩
     have n1_ : Aside0 (Kd.R (Kd.int .i64) 2 ((((((((((((w14.setCell ⟨gb235, 0, none⟩ (.int .i64 t238)).setCell ⟨gb235, 1, none⟩ (.slice Ao16 t239.length co16)).setCell ⟨gb235, 2, none⟩ (.int .i64 t242)).setCell ⟨gb235, 3, none⟩ (.slice Ao17 t243.length co17)).setCell ⟨gb235, 4, none⟩ (.slice Ao18 t246.length co18)).setCell ⟨gb235, 5, none⟩ (.string t249)).setCell ⟨gb235, 6, none⟩ (.int .i64 t250)).setCell ⟨gb235, 7, none⟩ (.int .i64 t251)).setCell ⟨gb235, 8, none⟩ (.int .i64 t252)).setCell ⟨gb235, 9, none⟩ (.slice Ao19 t253.length co19)).setCell ⟨gb235, 10, none⟩ (.slice Ao20 t256.length co20)).setCell ⟨gb235, 11, none⟩ (.int .i64 t259)) w.heap.size (fun k_ => some k_ ≠ (.slice Ao16 t239.length co16 : Value).ownBlock ∧ some k_ ≠ (.slice Ao18 t246.length co18 : Value).ownBlock) (.slice Ao17 t243.length co17) t243) := ⟨by (with_reducible repeat (first | apply Sq.a | apply Sq.b | apply Sq.c)); exact Sq.a3 (Sq.R12 (Sq.b5 HO245.out BK235.out (by decide)) (fun _ hk => hk.2)) (fun _ hk => ⟨hk.1.1, hk.1.2⟩)⟩
     have n2_ : Aside0 (Kd.R (Kd.int .i64) 2 ((((((((((((w14.setCell ⟨gb235, 0, none⟩ (.int .i64 t238)).setCell ⟨gb235, 1, none⟩ (.slice Ao16 t239.length co16)).setCell ⟨gb235, 2, none⟩ (.int .i64 t242)).setCell ⟨gb235, 3, none⟩ (.slice Ao17 t243.length co17)).setCell ⟨gb235, 4, none⟩ (.slice Ao18 t246.length co18)).setCell ⟨gb235, 5, none⟩ (.string t249)).setCell ⟨gb235, 6, none⟩ (.int .i64 t250)).setCell ⟨gb235, 7, none⟩ (.int .i64 t251)).setCell ⟨gb235, 8, none⟩ (.int .i64 t252)).setCell ⟨gb235, 9, none⟩ (.slice Ao19 t253.length co19)).setCell ⟨gb235, 10, none⟩ (.slice Ao20 t256.length co20)).setCell ⟨gb235, 11, none⟩ (.int .i64 t259)) w.heap.size (fun k_ => some k_ ≠ (.slice Ao16 t239.length co16 : Value).ownBlock ∧ some k_ ≠ (.slice Ao17 t243.length co17 : Value).ownBlock) (.slice Ao18 t246.length co18) t246) := ⟨by (with_reducible repeat (first | apply Sq.a | apply Sq.b | apply Sq.c)); exact Sq.a3 (Sq.R12 (Sq.b5 HO248.out BK235.out (by decide)) (fun _ hk => hk.2)) (fun _ hk => ⟨hk.1.1, hk.1.2⟩)⟩
     have n3_ : Aside0 (Kd.R k185 185 ((((((((((((w14.setCell ⟨gb235, 0, none⟩ (.int .i64 t238)).setCell ⟨gb235, 1, none⟩ (.slice Ao16 t239.length co16)).setCell ⟨gb235, 2, none⟩ (.int .i64 t242)).setCell ⟨gb235, 3, none⟩ (.slice Ao17 t243.length co17)).setCell ⟨gb235, 4, none⟩ (.slice Ao18 t246.length co18)).setCell ⟨gb235, 5, none⟩ (.string t249)).setCell ⟨gb235, 6, none⟩ (.int .i64 t250)).setCell ⟨gb235, 7, none⟩ (.int .i64 t251)).setCell ⟨gb235, 8, none⟩ (.int .i64 t252)).setCell ⟨gb235, 9, none⟩ (.slice Ao19 t253.length co19)).setCell ⟨gb235, 10, none⟩ (.slice Ao20 t256.length co20)).setCell ⟨gb235, 11, none⟩ (.int .i64 t259)) w.heap.size (fun k_ => some k_ ≠ (.slice Ao20 t256.length co20 : Value).ownBlock) (.slice Ao19 t253.length co19) t253) := ⟨by (with_reducible repeat (first | apply Sq.a | apply Sq.b | apply Sq.c)); exact Sq.a3 (Sq.R12 (Sq.b5 HO255.out BK235.out (by decide)) (fun _ hk => hk.2)) (fun _ hk => hk.1)⟩
     have n4_ : Aside0 (Kd.R k185 185 ((((((((((((w14.setCell ⟨gb235, 0, none⟩ (.int .i64 t238)).setCell ⟨gb235, 1, none⟩ (.slice Ao16 t239.length co16)).setCell ⟨gb235, 2, none⟩ (.int .i64 t242)).setCell ⟨gb235, 3, none⟩ (.slice Ao17 t243.length co17)).setCell ⟨gb235, 4, none⟩ (.slice Ao18 t246.length co18)).setCell ⟨gb235, 5, none⟩ (.string t249)).setCell ⟨gb235, 6, none⟩ (.int .i64 t250)).setCell ⟨gb235, 7, none⟩ (.int .i64 t251)).setCell ⟨gb235, 8, none⟩ (.int .i64 t252)).setCell ⟨gb235, 9, none⟩ (.slice Ao19 t253.length co19)).setCell ⟨gb235, 10, none⟩ (.slice Ao20 t256.length co20)).setCell ⟨gb235, 11, none⟩ (.int .i64 t259)) w.heap.size (fun k_ => some k_ ≠ (.slice Ao19 t253.length co19 : Value).ownBlock) (.slice Ao20 t256.length co20) t256) := ⟨by (with_reducible repeat (first | apply Sq.a | apply Sq.b | apply Sq.c)); exact Sq.a3 (Sq.R12 (Sq.b5 HO258.out BK235.out (by decide)) (fun _ hk => hk.2)) (fun _ hk => hk.1)⟩
     have n5_ : Aside0 (((((((((((((w14.setCell ⟨gb235, 0, none⟩ (.int .i64 t238)).setCell ⟨gb235, 1, none⟩ (.slice Ao16 t239.length co16)).setCell ⟨gb235, 2, none⟩ (.int .i64 t242)).setCell ⟨gb235, 3, none⟩ (.slice Ao17 t243.length co17)).setCell ⟨gb235, 4, none⟩ (.slice Ao18 t246.length co18)).setCell ⟨gb235, 5, none⟩ (.string t249)).setCell ⟨gb235, 6, none⟩ (.int .i64 t250)).setCell ⟨gb235, 7, none⟩ (.int .i64 t251)).setCell ⟨gb235, 8, none⟩ (.int .i64 t252)).setCell ⟨gb235, 9, none⟩ (.slice Ao19 t253.length co19)).setCell ⟨gb235, 10, none⟩ (.slice Ao20 t256.length co20)).setCell ⟨gb235, 11, none⟩ (.int .i64 t259)).heap[gb235]? = some (.cells #[.int .i64 t238, .slice Ao16 t239.length co16, .int .i64 t242, .slice Ao17 t243.length co17, .slice Ao18 t246.length co18, .string t249, .int .i64 t250, .int .i64 t251, .int .i64 t252, .slice Ao19 t253.length co19, .slice Ao20 t256.length co20, .int .i64 t259] 71 (0, 0))) := ⟨by (with_reducible repeat (first | refine Sq.d ?_ _ | refine Sq.e ?_ | refine Sq.f ?_ _)); refine Sq.v (cs := #[.int .i64 t238, .slice Ao16 t239.length co16, .int .i64 t242, .slice Ao17 t243.length co17, .slice Ao18 t246.length co18, .string t249, .int .i64 t250, .int .i64 t251, .int .i64 t252, .slice Ao19 t253.length co19, .slice Ao20 t256.length co20, .int .i64 a0_11]) ?_ 11 _ rfl; (with_reducible repeat (first | refine Sq.d ?_ _ | refine Sq.e ?_ | refine Sq.f ?_ _)); refine Sq.v (cs := #[.int .i64 t238, .slice Ao16 t239.length co16, .int .i64 t242, .slice Ao17 t243.length co17, .slice Ao18 t246.length co18, .string t249, .int .i64 t250, .int .i64 t251, .int .i64 t252, .slice Ao19 t253.length co19, .slice A0_10 l0_10.length c0_10, .int .i64 a0_11]) ?_ 10 _ rfl; (with_reducible repeat (first | refine Sq.d ?_ _ | refine Sq.e ?_ | refine Sq.f ?_ _)); refine Sq.v (cs := #[.int .i64 t238, .slice Ao16 t239.length co16, .int .i64 t242, .slice Ao17 t243.length co17, .slice Ao18 t246.length co18, .string t249, .int .i64 t250, .int .i64 t251, .int .i64 t252, .slice A0_9 l0_9.length c0_9, .slice A0_10 l0_10.length c0_10, .int .i64 a0_11]) ?_ 9 _ rfl; (with_reducible repeat (first | refine Sq.d ?_ _ | refine Sq.e ?_ | refine Sq.f ?_ _)); refine Sq.v (cs := #[.int .i64 t238, .slice Ao16 t239.length co16, .int .i64 t242, .slice Ao17 t243.length co17, .slice Ao18 t246.length co18, .string t249, .int .i64 t250, .int .i64 t251, .int .i64 a0_8, .slice A0_9 l0_9.length c0_9, .slice A0_10 l0_10.length c0_10, .int .i64 a0_11]) ?_ 8 _ rfl; (with_reducible repeat (first | refine Sq.d ?_ _ | refine Sq.e ?_ | refine Sq.f ?_ _)); refine Sq.v (cs := #[.int .i64 t238, .slice Ao16 t239.length co16, .int .i64 t242, .slice Ao17 t243.length co17, .slice Ao18 t246.length co18, .string t249, .int .i64 t250, .int .i64 a0_7, .int .i64 a0_8, .slice A0_9 l0_9.length c0_9, .slice A0_10 l0_10.length c0_10, .int .i64 a0_11]) ?_ 7 _ rfl; (with_reducible repeat (first | refine Sq.d ?_ _ | refine Sq.e ?_ | refine Sq.f ?_ _)); refine Sq.v (cs := #[.int .i64 t238, .slice Ao16 t239.length co16, .int .i64 t242, .slice Ao17 t243.length co17, .slice Ao18 t246.length co18, .string t249, .int .i64 a0_6, .int .i64 a0_7, .int .i64 a0_8, .slice A0_9 l0_9.length c0_9, .slice A0_10 l0_10.length c0_10, .int .i64 a0_11]) ?_ 6 _ rfl; (with_reducible repeat (first | refine Sq.d ?_ _ | refine Sq.e ?_ | refine Sq.f ?_ _)); refine Sq.v (cs := #[.int .i64 t238, .slice Ao16 t239.length co16, .int .i64 t242, .slice Ao17 t243.length co17, .slice Ao18 t246.length co18, .string a0_5, .int .i64 a0_6, .int .i64 a0_7, .int .i64 a0_8, .slice A0_9 l0_9.length c0_9, .slice A0_10 l0_10.length c0_10, .int .i64 a0_11]) ?_ 5 _ rfl; (with_reducible repeat (first | refine Sq.d ?_ _ | refine Sq.e ?_ | refine Sq.f ?_ _)); refine Sq.v (cs := #[.int .i64 t238, .slice Ao16 t239.length co16, .int .i64 t242, .slice Ao17 t243.length co17, .slice A0_4 l0_4.length c0_4, .string a0_5, .int .i64 a0_6, .int .i64 a0_7, .int .i64 a0_8, .slice A0_9 l0_9.length c0_9, .slice A0_10 l0_10.length c0_10, .int .i64 a0_11]) ?_ 4 _ rfl; (with_reducible repeat (first | refine Sq.d ?_ _ | refine Sq.e ?_ | refine Sq.f ?_ _)); refine Sq.v (cs := #[.int .i64 t238, .slice Ao16 t239.length co16, .int .i64 t242, .slice A0_3 l0_3.length c0_3, .slice A0_4 l0_4.length c0_4, .string a0_5, .int .i64 a0_6, .int .i64 a0_7, .int .i64 a0_8, .slice A0_9 l0_9.length c0_9, .slice A0_10 l0_10.length c0_10, .int .i64 a0_11]) ?_ 3 _ rfl; (with_reducible repeat (first | refine Sq.d ?_ _ | refine Sq.e ?_ | refine Sq.f ?_ _)); refine Sq.v (cs := #[.int .i64 t238, .slice Ao16 t239.length co16, .int .i64 a0_2, .slice A0_3 l0_3.length c0_3, .slice A0_4 l0_4.length c0_4, .string a0_5, .int .i64 a0_6, .int .i64 a0_7, .int .i64 a0_8, .slice A0_9 l0_9.length c0_9, .slice A0_10 l0_10.length c0_10, .int .i64 a0_11]) ?_ 2 _ rfl; (with_reducible repeat (first | refine Sq.d ?_ _ | refine Sq.e ?_ | refine Sq.f ?_ _)); refine Sq.v (cs := #[.int .i64 t238, .slice A0_1 l0_1.length c0_1, .int .i64 a0_2, .slice A0_3 l0_3.length c0_3, .slice A0_4 l0_4.length c0_4, .string a0_5, .int .i64 a0_6, .int .i64 a0_7, .int .i64 a0_8, .slice A0_9 l0_9.length c0_9, .slice A0_10 l0_10.length c0_10, .int .i64 a0_11]) ?_ 1 _ rfl; (with_reducible repeat (first | refine Sq.d ?_ _ | refine Sq.e ?_ | refine Sq.f ?_ _)); refine Sq.v (cs := #[.int .i64 a0_0, .slice A0_1 l0_1.length c0_1, .int .i64 a0_2, .slice A0_3 l0_3.length c0_3, .slice A0_4 l0_4.length c0_4, .string a0_5, .int .i64 a0_6, .int .i64 a0_7, .int .i64 a0_8, .slice A0_9 l0_9.length c0_9, .slice A0_10 l0_10.length c0_10, .int .i64 a0_11]) ?_ 0 _ rfl; (with_reducible repeat (first | refine Sq.d ?_ _ | refine Sq.e ?_ | refine Sq.f ?_ _)); exact BK235.out⟩
     have n6_ : Aside0 (((((((((((((w14.setCell ⟨gb235, 0, none⟩ (.int .i64 t238)).setCell ⟨gb235, 1, none⟩ (.slice Ao16 t239.length co16)).setCell ⟨gb235, 2, none⟩ (.int .i64 t242)).setCell ⟨gb235, 3, none⟩ (.slice Ao17 t243.length co17)).setCell ⟨gb235, 4, none⟩ (.slice Ao18 t246.length co18)).setCell ⟨gb235, 5, none⟩ (.string t249)).setCell ⟨gb235, 6, none⟩ (.int .i64 t250)).setCell ⟨gb235, 7, none⟩ (.int .i64 t251)).setCell ⟨gb235, 8, none⟩ (.int .i64 t252)).setCell ⟨gb235, 9, none⟩ (.slice Ao19 t253.length co19)).setCell ⟨gb235, 10, none⟩ (.slice Ao20 t256.length co20)).setCell ⟨gb235, 11, none⟩ (.int .i64 t259)).heap[gb236]? = some (.cells #[.int .i64 0, .slice none 0 0, .int .i64 0, .slice none 0 0, .slice none 0 0, .string (⟨#[]⟩ : ByteArray), .int .i64 0, .int .i64 0, .int .i64 0, .slice none 0 0, .slice none 0 0, .int .i64 0] 71 (0, 0))) := ⟨by (with_reducible repeat (first | refine Sq.d ?_ _ | refine Sq.e ?_ | refine Sq.f ?_ _)); refine Sq.B12 ?_ NB236_235.out; (with_reducible repeat (first | refine Sq.d ?_ _ | refine Sq.e ?_ | refine Sq.f ?_ _)); exact BK236.out⟩
     have n7_ : Aside0 (Below w.heap.size w ((((((((((((w14.setCell ⟨gb235, 0, none⟩ (.int .i64 t238)).setCell ⟨gb235, 1, none⟩ (.slice Ao16 t239.length co16)).setCell ⟨gb235, 2, none⟩ (.int .i64 t242)).setCell ⟨gb235, 3, none⟩ (.slice Ao17 t243.length co17)).setCell ⟨gb235, 4, none⟩ (.slice Ao18 t246.length co18)).setCell ⟨gb235, 5, none⟩ (.string t249)).setCell ⟨gb235, 6, none⟩ (.int .i64 t250)).setCell ⟨gb235, 7, none⟩ (.int .i64 t251)).setCell ⟨gb235, 8, none⟩ (.int .i64 t252)).setCell ⟨gb235, 9, none⟩ (.slice Ao19 t253.length co19)).setCell ⟨gb235, 10, none⟩ (.slice Ao20 t256.length co20)).setCell ⟨gb235, 11, none⟩ (.int .i64 t259))) := ⟨by repeat (first | (with_reducible first | exact HB.out | apply Sq.i | apply Sq.j | apply Sq.k | refine Sq.h ?_ GE235.out | refine Sq.h ?_ GE236.out) | exact HB.out)⟩
     (try clear HO241); (try clear HO245); (try clear HO248); (try clear HO255); (try clear HO258); (try clear BK235); (try clear BK236); (try clear HB)
     generalize ((((((((((((w14.setCell ⟨gb235, 0, none⟩ (.int .i64 t238)).setCell ⟨gb235, 1, none⟩ (.slice Ao16 t239.length co16)).setCell ⟨gb235, 2, none⟩ (.int .i64 t242)).setCell ⟨gb235, 3, none⟩ (.slice Ao17 t243.length co17)).setCell ⟨gb235, 4, none⟩ (.slice Ao18 t246.length co18)).setCell ⟨gb235, 5, none⟩ (.string t249)).setCell ⟨gb235, 6, none⟩ (.int .i64 t250)).setCell ⟨gb235, 7, none⟩ (.int .i64 t251)).setCell ⟨gb235, 8, none⟩ (.int .i64 t252)).setCell ⟨gb235, 9, none⟩ (.slice Ao19 t253.length co19)).setCell ⟨gb235, 10, none⟩ (.slice Ao20 t256.length co20)).setCell ⟨gb235, 11, none⟩ (.int .i64 t259)) = w24 at n0_ n1_ n2_ n3_ n4_ n5_ n6_ n7_ ⊢
     have HO241 := n0_; have HO245 := n1_; have HO248 := n2_; have HO255 := n3_; have HO258 := n4_; have BK235 := n5_; have BK236 := n6_; have HB := n7_; clear n0_ n1_ n2_ n3_ n4_ n5_ n6_ n7_
     have n0_ := Sq.l (Kd.R_drew (Kd.R_drewN HO241.out nd))
     have n1_ := Sq.l (Kd.R_drew (Kd.R_drewN HO245.out nd))
     have n2_ := Sq.l (Kd.R_drew (Kd.R_drewN HO248.out nd))
     have n3_ := Sq.l (Kd.R_drew (Kd.R_drewN HO255.out nd))
     have n4_ := Sq.l (Kd.R_drew (Kd.R_drewN HO258.out nd))
     have n5_ := Sq.l (blk_drew (blk_drewN BK235.out nd))
     have n6_ := Sq.l (blk_drew (blk_drewN BK236.out nd))
     have n7_ : Aside0 (Below w.heap.size w ((w24.drewN nd).drew)) := ⟨by apply below_drew1; apply pw_below_drewN; exact HB.out⟩
     clear HO241 HO245 HO248 HO255 HO258 BK235 BK236 HB; have HO241 := n0_; have HO245 := n1_; have HO248 := n2_; have HO255 := n3_; have HO258 := n4_; have BK235 := n5_; have BK236 := n6_; have HB := n7_; clear n0_ n1_ n2_ n3_ n4_ n5_ n6_ n7_
     refine start_ (n := 7) (S := fun w' => w'.cell? ⟨gb235, 0, none⟩ = some (.int .i64 t238) ∧ w'.cell? ⟨gb235, 1, none⟩ = some (.slice Ao16 t239.length co16) ∧ w'.cell? ⟨gb235, 2, none⟩ = some (.int .i64 t242) ∧ w'.cell? ⟨gb235, 3, none⟩ = some (.slice Ao17 t243.length co17) ∧ w'.cell? ⟨gb235, 4, none⟩ = some (.slice Ao18 t246.length co18) ∧ w'.cell? ⟨gb235, 5, none⟩ = some (.string t249) ∧ w'.cell? ⟨gb235, 6, none⟩ = some (.int .i64 t250) ∧ w'.cell? ⟨gb235, 7, none⟩ = some (.int .i64 t251) ∧ w'.cell? ⟨gb235, 8, none⟩ = some (.int .i64 t252) ∧ w'.cell? ⟨gb235, 9, none⟩ = some (.slice Ao19 t253.length co19) ∧ w'.cell? ⟨gb235, 10, none⟩ = some (.slice Ao20 t256.length co20) ∧ w'.cell? ⟨gb235, 11, none⟩ = some (.int .i64 t259)) (ds := [6]) #[false, false, false, false, false, false, false] (by kernel_rfl) rfl rfl ⟨(Sq.o BK235.out 0).trans rfl, (Sq.o BK235.out 1).trans rfl, (Sq.o BK235.out 2).trans rfl, (Sq.o BK235.out 3).trans rfl, (Sq.o BK235.out 4).trans rfl, (Sq.o BK235.out 5).trans rfl, (Sq.o BK235.out 6).trans rfl, (Sq.o BK235.out 7).trans rfl, (Sq.o BK235.out 8).trans rfl, (Sq.o BK235.out 9).trans rfl, (Sq.o BK235.out 10).trans rfl, (Sq.o BK235.out 11).trans rfl⟩ (fun hHeld => ?_)
     generalize (w24.drewN nd).drew = w25 at HO241 HO245 HO248 HO255 HO258 BK235 BK236 HB hHeld ⊢
     refine pure_ (i := 0) (N := some 13) (v := ?_) (a' := ?_) #[true, false, false, false, false, false, false] rfl rfl (by kernel_rfl) (fun _ _ _ h => h) (Or.inl ⟨by rfl, ?_⟩) ?_ ?_
     rotate_left
     ·intro w'
      go_simp
      with_reducible rfl
     rotate_left
     ·simp only [Act.put, List.setIfInBounds_toArray, List.set_cons_zero, List.set_cons_succ, i64_w, i32_w]
      rfl
     refine pure_ (i := 2) (N := some 15) (v := ?_) (a' := ?_) #[true, false, true, false, false, false, false] rfl rfl (by kernel_rfl) (fun _ _ _ h => h) (Or.inl ⟨by rfl, ?_⟩) ?_ ?_
     rotate_left
     ·intro w'
      go_simp
      with_reducible rfl
     rotate_left
     ·simp only [Act.put, List.setIfInBounds_toArray, List.set_cons_zero, List.set_cons_succ, i64_w, i32_w]
      rfl
     refine pure_ (i := 3) (N := some 16) (v := ?_) (a' := ?_) #[true, false, true, true, false, false, false] rfl rfl (by kernel_rfl) (fun _ _ _ h => h) (Or.inl ⟨by rfl, ?_⟩) ?_ ?_
     rotate_left
     ·intro w'
      go_simp
      with_reducible rfl
     rotate_left
     ·simp only [Act.put, List.setIfInBounds_toArray, List.set_cons_zero, List.set_cons_succ, i64_w, i32_w]
      rfl
     refine take_ (i := 1) (N := some 14) (v := ?_) (a' := ?_) #[true, true, true, true, false, false, false] rfl rfl (by kernel_rfl) (fun _ _ _ h => h) (Or.inl ⟨by rfl, ?_⟩) hHeld ?_ ?_
     rotate_left
     ·rintro w' ⟨s0, s1, s2, s3, s4, s5, s6, s7, s8, s9, s10, s11⟩
      go_simp
      with_reducible rfl
     rotate_left
     ·simp only [Act.put, List.setIfInBounds_toArray, List.set_cons_zero, List.set_cons_succ, i64_w, i32_w]
      rfl
     refine pure_ (i := 4) (N := some 17) (v := ?_) (a' := ?_) #[true, true, true, true, true, false, false] rfl rfl (by kernel_rfl) (fun _ _ _ h => h) (Or.inl ⟨by rfl, ?_⟩) ?_ ?_
     rotate_left
     ·intro w'
      go_simp
      with_reducible rfl
     rotate_left
     ·simp only [Act.put, List.setIfInBounds_toArray, List.set_cons_zero, List.set_cons_succ, i64_w, i32_w]
      rfl
     refine pure_ (i := 5) (N := some 18) (v := ?_) (a' := ?_) #[true, true, true, true, true, true, false] rfl rfl (by kernel_rfl) (fun _ _ _ h => h) (Or.inl ⟨by rfl, ?_⟩) ?_ ?_
     rotate_left
     ·intro w'
      go_simp
      with_reducible rfl
     rotate_left
     ·simp only [Act.put, List.setIfInBounds_toArray, List.set_cons_zero, List.set_cons_succ, i64_w, i32_w]
      rfl
     refine last_ (i := 6) (N := none) #[true, true, true, true, true, true, true] rfl rfl (by kernel_rfl) (by decide) (fun K hK => ?_)
     have hs26 : w25.cell? ⟨gb235, 8, none⟩ = some (.int .i64 t252) := (Sq.o BK235.out 8).trans rfl
     have hfs26 := Sq.r BK235.out 8
     have hns26_1 := NB236_235.out; have hms26_1 := NB235_236.out
     refine skip_ (w1 := ?_) (by rfl) rfl ?_ ?_
     rotate_left
     ·go_simp
      rfl
     refine hK.out _ _ ?_
     clear hK K
     refine done_ (by kernel_rfl) ?_
     try go_wp2
     go_meet
     case rel => exact ⟨_, (Go.bits .or .i64 t252 (ji23)), H', ⟨by first | omega | exact Nat.le_refl _⟩, ⟨by (with_reducible repeat (first | apply Sq.a | apply Sq.b | apply Sq.c)); exact Sq.a3 (Kd.R_far (p := ⟨gb235, 8, none⟩) (Sq.b5 HO241.out BK235.out (by decide)) (fun _ hk => hk.2) (.int .i64 (Go.bits .or .i64 t252 (ji23)))) (fun _ hk => ⟨hk.1.1, hk.1.2⟩)⟩, ⟨by (with_reducible repeat (first | apply Sq.a | apply Sq.b | apply Sq.c)); exact Sq.a3 (Kd.R_far (p := ⟨gb235, 8, none⟩) (Sq.b5 HO245.out BK235.out (by decide)) (fun _ hk => hk.2) (.int .i64 (Go.bits .or .i64 t252 (ji23)))) (fun _ hk => ⟨hk.1.1, hk.1.2⟩)⟩, ⟨by (with_reducible repeat (first | apply Sq.a | apply Sq.b | apply Sq.c)); exact Sq.a3 (Kd.R_far (p := ⟨gb235, 8, none⟩) (Sq.b5 HO248.out BK235.out (by decide)) (fun _ hk => hk.2) (.int .i64 (Go.bits .or .i64 t252 (ji23)))) (fun _ hk => ⟨hk.1.1, hk.1.2⟩)⟩, ⟨by (with_reducible repeat (first | apply Sq.a | apply Sq.b | apply Sq.c)); exact Sq.a3 (Kd.R_far (p := ⟨gb235, 8, none⟩) (Sq.b5 HO255.out BK235.out (by decide)) (fun _ hk => hk.2) (.int .i64 (Go.bits .or .i64 t252 (ji23)))) (fun _ hk => hk.1)⟩, ⟨by (with_reducible repeat (first | apply Sq.a | apply Sq.b | apply Sq.c)); exact Sq.a3 (Kd.R_far (p := ⟨gb235, 8, none⟩) (Sq.b5 HO258.out BK235.out (by decide)) (fun _ hk => hk.2) (.int .i64 (Go.bits .or .i64 t252 (ji23)))) (fun _ hk => hk.1)⟩, ⟨by (with_reducible repeat (first | refine Sq.d ?_ _ | refine Sq.e ?_ | refine Sq.f ?_ _)); refine Sq.v (cs := #[.int .i64 t238, .slice Ao16 t239.length co16, .int .i64 t242, .slice Ao17 t243.length co17, .slice Ao18 t246.length co18, .string t249, .int .i64 t250, .int .i64 t251, .int .i64 t252, .slice Ao19 t253.length co19, .slice Ao20 t256.length co20, .int .i64 t259]) ?_ 8 _ rfl; (with_reducible repeat (first | refine Sq.d ?_ _ | refine Sq.e ?_ | refine Sq.f ?_ _)); exact BK235.out⟩, ⟨by (with_reducible repeat (first | refine Sq.d ?_ _ | refine Sq.e ?_ | refine Sq.f ?_ _)); refine Sq.q ?_ NB236_235.out _; (with_reducible repeat (first | refine Sq.d ?_ _ | refine Sq.e ?_ | refine Sq.f ?_ _)); exact BK236.out⟩, ⟨by repeat (first | (with_reducible first | exact HB.out | apply Sq.i | apply Sq.j | apply Sq.k | refine Sq.h ?_ GE235.out | refine Sq.h ?_ GE236.out) | exact HB.out)⟩⟩
    ·rw [if_neg c22] at H
     exact absurd H (by simp)
   ·replace c21 := Bool.eq_false_iff.mpr c21
    subst c21
    have H1 : (impl_RaiseLine.j0 k t238 t239 t242 t243 t246 t249 t250 t251 t252 t253 t256 t259) = some (r1, r2, r3, r4, r5, r6, r7, r8, r9, r10, r11, r12) := by rw [if_neg (show ¬ (false = true) by decide)] at H; exact H
    clear H
    have H := H1
    clear H1
    have H' := Sq.l H
    clear H
    go_wp2
    go_meet
    case rel => exact ⟨_, (t252), H', ⟨by first | omega | exact Nat.le_refl _⟩, ⟨by (with_reducible repeat (first | apply Sq.a | apply Sq.b | apply Sq.c)); exact Sq.a3 (Sq.R12 (Sq.b5 HO241.out BK235.out (by decide)) (fun _ hk => hk.2)) (fun _ hk => ⟨hk.1.1, hk.1.2⟩)⟩, ⟨by (with_reducible repeat (first | apply Sq.a | apply Sq.b | apply Sq.c)); exact Sq.a3 (Sq.R12 (Sq.b5 HO245.out BK235.out (by decide)) (fun _ hk => hk.2)) (fun _ hk => ⟨hk.1.1, hk.1.2⟩)⟩, ⟨by (with_reducible repeat (first | apply Sq.a | apply Sq.b | apply Sq.c)); exact Sq.a3 (Sq.R12 (Sq.b5 HO248.out BK235.out (by decide)) (fun _ hk => hk.2)) (fun _ hk => ⟨hk.1.1, hk.1.2⟩)⟩, ⟨by (with_reducible repeat (first | apply Sq.a | apply Sq.b | apply Sq.c)); exact Sq.a3 (Sq.R12 (Sq.b5 HO255.out BK235.out (by decide)) (fun _ hk => hk.2)) (fun _ hk => hk.1)⟩, ⟨by (with_reducible repeat (first | apply Sq.a | apply Sq.b | apply Sq.c)); exact Sq.a3 (Sq.R12 (Sq.b5 HO258.out BK235.out (by decide)) (fun _ hk => hk.2)) (fun _ hk => hk.1)⟩, ⟨by (with_reducible repeat (first | refine Sq.d ?_ _ | refine Sq.e ?_ | refine Sq.f ?_ _)); refine Sq.v (cs := #[.int .i64 t238, .slice Ao16 t239.length co16, .int .i64 t242, .slice Ao17 t243.length co17, .slice Ao18 t246.length co18, .string t249, .int .i64 t250, .int .i64 t251, .int .i64 t252, .slice Ao19 t253.length co19, .slice Ao20 t256.length co20, .int .i64 a0_11]) ?_ 11 _ rfl; (with_reducible repeat (first | refine Sq.d ?_ _ | refine Sq.e ?_ | refine Sq.f ?_ _)); refine Sq.v (cs := #[.int .i64 t238, .slice Ao16 t239.length co16, .int .i64 t242, .slice Ao17 t243.length co17, .slice Ao18 t246.length co18, .string t249, .int .i64 t250, .int .i64 t251, .int .i64 t252, .slice Ao19 t253.length co19, .slice A0_10 l0_10.length c0_10, .int .i64 a0_11]) ?_ 10 _ rfl; (with_reducible repeat (first | refine Sq.d ?_ _ | refine Sq.e ?_ | refine Sq.f ?_ _)); refine Sq.v (cs := #[.int .i64 t238, .slice Ao16 t239.length co16, .int .i64 t242, .slice Ao17 t243.length co17, .slice Ao18 t246.length co18, .string t249, .int .i64 t250, .int .i64 t251, .int .i64 t252, .slice A0_9 l0_9.length c0_9, .slice A0_10 l0_10.length c0_10, .int .i64 a0_11]) ?_ 9 _ rfl; (with_reducible repeat (first | refine Sq.d ?_ _ | refine Sq.e ?_ | refine Sq.f ?_ _)); refine Sq.v (cs := #[.int .i64 t238, .slice Ao16 t239.length co16, .int .i64 t242, .slice Ao17 t243.length co17, .slice Ao18 t246.length co18, .string t249, .int .i64 t250, .int .i64 t251, .int .i64 a0_8, .slice A0_9 l0_9.length c0_9, .slice A0_10 l0_10.length c0_10, .int .i64 a0_11]) ?_ 8 _ rfl; (with_reducible repeat (first | refine Sq.d ?_ _ | refine Sq.e ?_ | refine Sq.f ?_ _)); refine Sq.v (cs := #[.int .i64 t238, .slice Ao16 t239.length co16, .int .i64 t242, .slice Ao17 t243.length co17, .slice Ao18 t246.length co18, .string t249, .int .i64 t250, .int .i64 a0_7, .int .i64 a0_8, .slice A0_9 l0_9.length c0_9, .slice A0_10 l0_10.length c0_10, .int .i64 a0_11]) ?_ 7 _ rfl; (with_reducible repeat (first | refine Sq.d ?_ _ | refine Sq.e ?_ | refine Sq.f ?_ _)); refine Sq.v (cs := #[.int .i64 t238, .slice Ao16 t239.length co16, .int .i64 t242, .slice Ao17 t243.length co17, .slice Ao18 t246.length co18, .string t249, .int .i64 a0_6, .int .i64 a0_7, .int .i64 a0_8, .slice A0_9 l0_9.length c0_9, .slice A0_10 l0_10.length c0_10, .int .i64 a0_11]) ?_ 6 _ rfl; (with_reducible repeat (first | refine Sq.d ?_ _ | refine Sq.e ?_ | refine Sq.f ?_ _)); refine Sq.v (cs := #[.int .i64 t238, .slice Ao16 t239.length co16, .int .i64 t242, .slice Ao17 t243.length co17, .slice Ao18 t246.length co18, .string a0_5, .int .i64 a0_6, .int .i64 a0_7, .int .i64 a0_8, .slice A0_9 l0_9.length c0_9, .slice A0_10 l0_10.length c0_10, .int .i64 a0_11]) ?_ 5 _ rfl; (with_reducible repeat (first | refine Sq.d ?_ _ | refine Sq.e ?_ | refine Sq.f ?_ _)); refine Sq.v (cs := #[.int .i64 t238, .slice Ao16 t239.length co16, .int .i64 t242, .slice Ao17 t243.length co17, .slice A0_4 l0_4.length c0_4, .string a0_5, .int .i64 a0_6, .int .i64 a0_7, .int .i64 a0_8, .slice A0_9 l0_9.length c0_9, .slice A0_10 l0_10.length c0_10, .int .i64 a0_11]) ?_ 4 _ rfl; (with_reducible repeat (first | refine Sq.d ?_ _ | refine Sq.e ?_ | refine Sq.f ?_ _)); refine Sq.v (cs := #[.int .i64 t238, .slice Ao16 t239.length co16, .int .i64 t242, .slice A0_3 l0_3.length c0_3, .slice A0_4 l0_4.length c0_4, .string a0_5, .int .i64 a0_6, .int .i64 a0_7, .int .i64 a0_8, .slice A0_9 l0_9.length c0_9, .slice A0_10 l0_10.length c0_10, .int .i64 a0_11]) ?_ 3 _ rfl; (with_reducible repeat (first | refine Sq.d ?_ _ | refine Sq.e ?_ | refine Sq.f ?_ _)); refine Sq.v (cs := #[.int .i64 t238, .slice Ao16 t239.length co16, .int .i64 a0_2, .slice A0_3 l0_3.length c0_3, .slice A0_4 l0_4.length c0_4, .string a0_5, .int .i64 a0_6, .int .i64 a0_7, .int .i64 a0_8, .slice A0_9 l0_9.length c0_9, .slice A0_10 l0_10.length c0_10, .int .i64 a0_11]) ?_ 2 _ rfl; (with_reducible repeat (first | refine Sq.d ?_ _ | refine Sq.e ?_ | refine Sq.f ?_ _)); refine Sq.v (cs := #[.int .i64 t238, .slice A0_1 l0_1.length c0_1, .int .i64 a0_2, .slice A0_3 l0_3.length c0_3, .slice A0_4 l0_4.length c0_4, .string a0_5, .int .i64 a0_6, .int .i64 a0_7, .int .i64 a0_8, .slice A0_9 l0_9.length c0_9, .slice A0_10 l0_10.length c0_10, .int .i64 a0_11]) ?_ 1 _ rfl; (with_reducible repeat (first | refine Sq.d ?_ _ | refine Sq.e ?_ | refine Sq.f ?_ _)); refine Sq.v (cs := #[.int .i64 a0_0, .slice A0_1 l0_1.length c0_1, .int .i64 a0_2, .slice A0_3 l0_3.length c0_3, .slice A0_4 l0_4.length c0_4, .string a0_5, .int .i64 a0_6, .int .i64 a0_7, .int .i64 a0_8, .slice A0_9 l0_9.length c0_9, .slice A0_10 l0_10.length c0_10, .int .i64 a0_11]) ?_ 0 _ rfl; (with_reducible repeat (first | refine Sq.d ?_ _ | refine Sq.e ?_ | refine Sq.f ?_ _)); exact BK235.out⟩, ⟨by (with_reducible repeat (first | refine Sq.d ?_ _ | refine Sq.e ?_ | refine Sq.f ?_ _)); refine Sq.B12 ?_ NB236_235.out; (with_reducible repeat (first | refine Sq.d ?_ _ | refine Sq.e ?_ | refine Sq.f ?_ _)); exact BK236.out⟩, ⟨by repeat (first | (with_reducible first | exact HB.out | apply Sq.i | apply Sq.j | apply Sq.k | refine Sq.h ?_ GE235.out | refine Sq.h ?_ GE236.out) | exact HB.out)⟩⟩
  case rest =>
   clear HC7; try clear c1; try clear c2; try clear p2; try clear c3; try clear c4; try clear c4b0; try clear c4b1; try clear p6; try clear c8; try clear c10; try clear c21; try clear c22; try clear c22b0; try clear c22b1; try clear hcz11_0; try clear hcz11_1; try clear hcz11_10; try clear hcz11_11; try clear hcz11_2; try clear hcz11_3; try clear hcz11_4; try clear hcz11_5; try clear hcz11_6; try clear hcz11_7; try clear hcz11_8; try clear hcz11_9; try clear hcz13_0; try clear hcz13_1; try clear hcz13_10; try clear hcz13_11; try clear hcz13_2; try clear hcz13_3; try clear hcz13_4; try clear hcz13_5; try clear hcz13_6; try clear hcz13_7; try clear hcz13_8; try clear hcz13_9; try clear hcz15_0; try clear hcz15_1; try clear hcz15_10; try clear hcz15_11; try clear hcz15_2; try clear hcz15_3; try clear hcz15_4; try clear hcz15_5; try clear hcz15_6; try clear hcz15_7; try clear hcz15_8; try clear hcz15_9; try clear hfz11_0; try clear hfz11_1; try clear hfz11_10; try clear hfz11_11; try clear hfz11_2; try clear hfz11_3; try clear hfz11_4; try clear hfz11_5; try clear hfz11_6; try clear hfz11_7; try clear hfz11_8; try clear hfz11_9; try clear hfz13_0; try clear hfz13_1; try clear hfz13_10; try clear hfz13_11; try clear hfz13_2; try clear hfz13_3; try clear hfz13_4; try clear hfz13_5; try clear hfz13_6; try clear hfz13_7; try clear hfz13_8; try clear hfz13_9; try clear hfz15_0; try clear hfz15_1; try clear hfz15_10; try clear hfz15_11; try clear hfz15_2; try clear hfz15_3; try clear hfz15_4; try clear hfz15_5; try clear hfz15_6; try clear hfz15_7; try clear hfz15_8; try clear hfz15_9
   obtain ⟨kq, x236008_6, HA, HJ6, HO_236001, HO_236003, HO_236004, HO_236009, HO_236010, BK235, BK236, HB⟩ := hcut
   cases kq with
   | zero => exact absurd HA.out (by simp [impl_RaiseLine.j0])
   | succ kj6 =>
    have H := HA.out
    clear HA
    simp only [impl_RaiseLine.j0] at H
    simp only [Option.some.injEq, Prod.mk.injEq] at H
    obtain ⟨rfl, rfl, rfl, rfl, rfl, rfl, rfl, rfl, rfl, rfl, rfl, rfl⟩ := H
    have hnb27 := NB235_236.out; have hnc27 := NB236_235.out
    have hcz28_0 : wc.cell? ⟨gb235, 0, none⟩ = some (.int .i64 t238) := (Sq.o BK235.out 0).trans rfl
    have hcz28_1 : wc.cell? ⟨gb235, 1, none⟩ = some (.slice Ao16 t239.length co16) := (Sq.o BK235.out 1).trans rfl
    have hcz28_2 : wc.cell? ⟨gb235, 2, none⟩ = some (.int .i64 t242) := (Sq.o BK235.out 2).trans rfl
    have hcz28_3 : wc.cell? ⟨gb235, 3, none⟩ = some (.slice Ao17 t243.length co17) := (Sq.o BK235.out 3).trans rfl
    have hcz28_4 : wc.cell? ⟨gb235, 4, none⟩ = some (.slice Ao18 t246.length co18) := (Sq.o BK235.out 4).trans rfl
    have hcz28_5 : wc.cell? ⟨gb235, 5, none⟩ = some (.string t249) := (Sq.o BK235.out 5).trans rfl
    have hcz28_6 : wc.cell? ⟨gb235, 6, none⟩ = some (.int .i64 t250) := (Sq.o BK235.out 6).trans rfl
    have hcz28_7 : wc.cell? ⟨gb235, 7, none⟩ = some (.int .i64 t251) := (Sq.o BK235.out 7).trans rfl
    have hcz28_8 : wc.cell? ⟨gb235, 8, none⟩ = some (.int .i64 x236008_6) := (Sq.o BK235.out 8).trans rfl
    have hcz28_9 : wc.cell? ⟨gb235, 9, none⟩ = some (.slice Ao19 t253.length co19) := (Sq.o BK235.out 9).trans rfl
    have hcz28_10 : wc.cell? ⟨gb235, 10, none⟩ = some (.slice Ao20 t256.length co20) := (Sq.o BK235.out 10).trans rfl
    have hcz28_11 : wc.cell? ⟨gb235, 11, none⟩ = some (.int .i64 t259) := (Sq.o BK235.out 11).trans rfl
    have hfz28_0 := Sq.r BK235.out 0
    have hfz28_1 := Sq.r BK235.out 1
    have hfz28_2 := Sq.r BK235.out 2
    have hfz28_3 := Sq.r BK235.out 3
    have hfz28_4 := Sq.r BK235.out 4
    have hfz28_5 := Sq.r BK235.out 5
    have hfz28_6 := Sq.r BK235.out 6
    have hfz28_7 := Sq.r BK235.out 7
    have hfz28_8 := Sq.r BK235.out 8
    have hfz28_9 := Sq.r BK235.out 9
    have hfz28_10 := Sq.r BK235.out 10
    have hfz28_11 := Sq.r BK235.out 11
    have hcz29_0 : wc.cell? ⟨gb236, 0, none⟩ = some (.int .i64 0) := (Sq.o BK236.out 0).trans rfl
    have hcz29_1 : wc.cell? ⟨gb236, 1, none⟩ = some (.slice none 0 0) := (Sq.o BK236.out 1).trans rfl
    have hcz29_2 : wc.cell? ⟨gb236, 2, none⟩ = some (.int .i64 0) := (Sq.o BK236.out 2).trans rfl
    have hcz29_3 : wc.cell? ⟨gb236, 3, none⟩ = some (.slice none 0 0) := (Sq.o BK236.out 3).trans rfl
    have hcz29_4 : wc.cell? ⟨gb236, 4, none⟩ = some (.slice none 0 0) := (Sq.o BK236.out 4).trans rfl
    have hcz29_5 : wc.cell? ⟨gb236, 5, none⟩ = some (.string (⟨#[]⟩ : ByteArray)) := (Sq.o BK236.out 5).trans rfl
    have hcz29_6 : wc.cell? ⟨gb236, 6, none⟩ = some (.int .i64 0) := (Sq.o BK236.out 6).trans rfl
    have hcz29_7 : wc.cell? ⟨gb236, 7, none⟩ = some (.int .i64 0) := (Sq.o BK236.out 7).trans rfl
    have hcz29_8 : wc.cell? ⟨gb236, 8, none⟩ = some (.int .i64 0) := (Sq.o BK236.out 8).trans rfl
    have hcz29_9 : wc.cell? ⟨gb236, 9, none⟩ = some (.slice none 0 0) := (Sq.o BK236.out 9).trans rfl
    have hcz29_10 : wc.cell? ⟨gb236, 10, none⟩ = some (.slice none 0 0) := (Sq.o BK236.out 10).trans rfl
    have hcz29_11 : wc.cell? ⟨gb236, 11, none⟩ = some (.int .i64 0) := (Sq.o BK236.out 11).trans rfl
    have hfz29_0 := Sq.r BK236.out 0
    have hfz29_1 := Sq.r BK236.out 1
    have hfz29_2 := Sq.r BK236.out 2
    have hfz29_3 := Sq.r BK236.out 3
    have hfz29_4 := Sq.r BK236.out 4
    have hfz29_5 := Sq.r BK236.out 5
    have hfz29_6 := Sq.r BK236.out 6
    have hfz29_7 := Sq.r BK236.out 7
    have hfz29_8 := Sq.r BK236.out 8
    have hfz29_9 := Sq.r BK236.out 9
    have hfz29_10 := Sq.r BK236.out 10
    have hfz29_11 := Sq.r BK236.out 11
    go_wp2
    refine bodyPost_ret (results_cell_row rfl _ _ gb236 71 #[.int .i64 t238, .slice Ao16 t239.length co16, .int .i64 t242, .slice Ao17 t243.length co17, .slice Ao18 t246.length co18, .string t249, .int .i64 t250, .int .i64 t251, .int .i64 x236008_6, .slice Ao19 t253.length co19, .slice Ao20 t256.length co20, .int .i64 t259] (0, 0) _ rfl (by (with_reducible repeat (first | refine Sq.d ?_ _ | refine Sq.e ?_ | refine Sq.f ?_ _)); refine Sq.v (cs := #[.int .i64 t238, .slice Ao16 t239.length co16, .int .i64 t242, .slice Ao17 t243.length co17, .slice Ao18 t246.length co18, .string t249, .int .i64 t250, .int .i64 t251, .int .i64 x236008_6, .slice Ao19 t253.length co19, .slice Ao20 t256.length co20, .int .i64 0]) ?_ 11 _ rfl; (with_reducible repeat (first | refine Sq.d ?_ _ | refine Sq.e ?_ | refine Sq.f ?_ _)); refine Sq.v (cs := #[.int .i64 t238, .slice Ao16 t239.length co16, .int .i64 t242, .slice Ao17 t243.length co17, .slice Ao18 t246.length co18, .string t249, .int .i64 t250, .int .i64 t251, .int .i64 x236008_6, .slice Ao19 t253.length co19, .slice none 0 0, .int .i64 0]) ?_ 10 _ rfl; (with_reducible repeat (first | refine Sq.d ?_ _ | refine Sq.e ?_ | refine Sq.f ?_ _)); refine Sq.v (cs := #[.int .i64 t238, .slice Ao16 t239.length co16, .int .i64 t242, .slice Ao17 t243.length co17, .slice Ao18 t246.length co18, .string t249, .int .i64 t250, .int .i64 t251, .int .i64 x236008_6, .slice none 0 0, .slice none 0 0, .int .i64 0]) ?_ 9 _ rfl; (with_reducible repeat (first | refine Sq.d ?_ _ | refine Sq.e ?_ | refine Sq.f ?_ _)); refine Sq.v (cs := #[.int .i64 t238, .slice Ao16 t239.length co16, .int .i64 t242, .slice Ao17 t243.length co17, .slice Ao18 t246.length co18, .string t249, .int .i64 t250, .int .i64 t251, .int .i64 0, .slice none 0 0, .slice none 0 0, .int .i64 0]) ?_ 8 _ rfl; (with_reducible repeat (first | refine Sq.d ?_ _ | refine Sq.e ?_ | refine Sq.f ?_ _)); refine Sq.v (cs := #[.int .i64 t238, .slice Ao16 t239.length co16, .int .i64 t242, .slice Ao17 t243.length co17, .slice Ao18 t246.length co18, .string t249, .int .i64 t250, .int .i64 0, .int .i64 0, .slice none 0 0, .slice none 0 0, .int .i64 0]) ?_ 7 _ rfl; (with_reducible repeat (first | refine Sq.d ?_ _ | refine Sq.e ?_ | refine Sq.f ?_ _)); refine Sq.v (cs := #[.int .i64 t238, .slice Ao16 t239.length co16, .int .i64 t242, .slice Ao17 t243.length co17, .slice Ao18 t246.length co18, .string t249, .int .i64 0, .int .i64 0, .int .i64 0, .slice none 0 0, .slice none 0 0, .int .i64 0]) ?_ 6 _ rfl; (with_reducible repeat (first | refine Sq.d ?_ _ | refine Sq.e ?_ | refine Sq.f ?_ _)); refine Sq.v (cs := #[.int .i64 t238, .slice Ao16 t239.length co16, .int .i64 t242, .slice Ao17 t243.length co17, .slice Ao18 t246.length co18, .string (⟨#[]⟩ : ByteArray), .int .i64 0, .int .i64 0, .int .i64 0, .slice none 0 0, .slice none 0 0, .int .i64 0]) ?_ 5 _ rfl; (with_reducible repeat (first | refine Sq.d ?_ _ | refine Sq.e ?_ | refine Sq.f ?_ _)); refine Sq.v (cs := #[.int .i64 t238, .slice Ao16 t239.length co16, .int .i64 t242, .slice Ao17 t243.length co17, .slice none 0 0, .string (⟨#[]⟩ : ByteArray), .int .i64 0, .int .i64 0, .int .i64 0, .slice none 0 0, .slice none 0 0, .int .i64 0]) ?_ 4 _ rfl; (with_reducible repeat (first | refine Sq.d ?_ _ | refine Sq.e ?_ | refine Sq.f ?_ _)); refine Sq.v (cs := #[.int .i64 t238, .slice Ao16 t239.length co16, .int .i64 t242, .slice none 0 0, .slice none 0 0, .string (⟨#[]⟩ : ByteArray), .int .i64 0, .int .i64 0, .int .i64 0, .slice none 0 0, .slice none 0 0, .int .i64 0]) ?_ 3 _ rfl; (with_reducible repeat (first | refine Sq.d ?_ _ | refine Sq.e ?_ | refine Sq.f ?_ _)); refine Sq.v (cs := #[.int .i64 t238, .slice Ao16 t239.length co16, .int .i64 0, .slice none 0 0, .slice none 0 0, .string (⟨#[]⟩ : ByteArray), .int .i64 0, .int .i64 0, .int .i64 0, .slice none 0 0, .slice none 0 0, .int .i64 0]) ?_ 2 _ rfl; (with_reducible repeat (first | refine Sq.d ?_ _ | refine Sq.e ?_ | refine Sq.f ?_ _)); refine Sq.v (cs := #[.int .i64 t238, .slice none 0 0, .int .i64 0, .slice none 0 0, .slice none 0 0, .string (⟨#[]⟩ : ByteArray), .int .i64 0, .int .i64 0, .int .i64 0, .slice none 0 0, .slice none 0 0, .int .i64 0]) ?_ 1 _ rfl; (with_reducible repeat (first | refine Sq.d ?_ _ | refine Sq.e ?_ | refine Sq.f ?_ _)); refine Sq.v (cs := #[.int .i64 0, .slice none 0 0, .int .i64 0, .slice none 0 0, .slice none 0 0, .string (⟨#[]⟩ : ByteArray), .int .i64 0, .int .i64 0, .int .i64 0, .slice none 0 0, .slice none 0 0, .int .i64 0]) ?_ 0 _ rfl; (with_reducible repeat (first | refine Sq.d ?_ _ | refine Sq.e ?_ | refine Sq.f ?_ _)); exact BK236.out) Try.underlying71 rfl (by kernel_rfl)) rfl ?_
    exact ⟨_, _, _, _, _, by first | rfl | (simp [errW_none, errW_some] <;> rfl) | (simp [*, errW_none, errW_some] <;> rfl), by (with_reducible repeat (first | apply Sq.a | apply Sq.b | apply Sq.c)); exact Sq.a3 (Sq.R12 (Sq.b5 HO_236001.out BK236.out (by decide)) (fun _ hk => hk.2)) (fun _ hk => ⟨hk.1.1, hk.1.2⟩), by (with_reducible repeat (first | apply Sq.a | apply Sq.b | apply Sq.c)); exact Sq.a3 (Sq.R12 (Sq.b5 HO_236003.out BK236.out (by decide)) (fun _ hk => hk.2)) (fun _ hk => ⟨hk.1.1, hk.1.2⟩), by (with_reducible repeat (first | apply Sq.a | apply Sq.b | apply Sq.c)); exact Sq.a3 (Sq.R12 (Sq.b5 HO_236004.out BK236.out (by decide)) (fun _ hk => hk.2)) (fun _ hk => ⟨hk.1.1, hk.1.2⟩), by (with_reducible repeat (first | apply Sq.a | apply Sq.b | apply Sq.c)); exact Sq.a3 (Sq.R12 (Sq.b5 HO_236009.out BK236.out (by decide)) (fun _ hk => hk.2)) (fun _ hk => hk.1), by (with_reducible repeat (first | apply Sq.a | apply Sq.b | apply Sq.c)); exact Sq.a3 (Sq.R12 (Sq.b5 HO_236010.out BK236.out (by decide)) (fun _ hk => hk.2)) (fun _ hk => hk.1), by repeat (first | (with_reducible first | exact HB.out | apply Sq.i | apply Sq.j | apply Sq.k | refine Sq.h ?_ GE235.out | refine Sq.h ?_ GE236.out) | exact HB.out)⟩
 ·rw [if_neg c4] at H
  have c4b0 : (t237 == 0) = false := beq_eq_false_iff_ne.mpr c4
  have c4b1 : (t237 != 0) = true := bne_iff_ne.mpr c4
  simp only [Option.some.injEq, Prod.mk.injEq] at H
  obtain ⟨rfl, rfl, rfl, rfl, rfl, rfl, rfl, rfl, rfl, rfl, rfl, rfl⟩ := H
  go_enter Try.func33, Try.ntmps33
  go_wp2_with (first | ((with_reducible refine gate_dst (N := 2) rfl ?_); refine box_event ?hg (N := 2) ?hd (cs := #[.int .i64 a0_0, .slice A0_1 l0_1.length c0_1, .int .i64 a0_2, .slice A0_3 l0_3.length c0_3, .slice A0_4 l0_4.length c0_4, .string a0_5, .int .i64 a0_6, .int .i64 a0_7, .int .i64 a0_8, .slice A0_9 l0_9.length c0_9, .slice A0_10 l0_10.length c0_10, .int .i64 a0_11]) (t := 71) ?hr ?_; (case hd => rfl); (case hg => rfl); (case hr => first | (go_simp; done) | (go_simp; rfl)); intro gb235 hg w30 hbox hb; have n0_ := Sq.l (Sq.a4 (by repeat (first | (with_reducible first | exact HB.out | apply Sq.i | apply Sq.j | apply Sq.k) | exact HB.out)) hb); have n1_ := Sq.l (hbox); have n2_ := Sq.l ((by rw [hg]; exact (Sq.a5 (by repeat (first | (with_reducible first | exact HB.out | apply Sq.i | apply Sq.j | apply Sq.k) | exact HB.out))) : w.heap.size ≤ gb235)); have n3_ := Sq.l ((by rw [hg]; exact (Sq.a5 (by repeat (first | (with_reducible first | exact HB.out | apply Sq.i | apply Sq.j | apply Sq.k) | exact HB.out))) : w.heap.size ≤ gb235)); clear HB; have HB := n0_; have BK235 := n1_; have GW235 := n2_; have GE235 := n3_; clear n0_ n1_ n2_ n3_; clear hb hbox hg) | ((with_reducible refine gate_dst (N := 4) rfl ?_); refine box_event ?hg (N := 4) ?hd (cs := #[.int .i64 0, .slice none 0 0, .int .i64 0, .slice none 0 0, .slice none 0 0, .string (⟨#[]⟩ : ByteArray), .int .i64 0, .int .i64 0, .int .i64 0, .slice none 0 0, .slice none 0 0, .int .i64 0]) (t := 71) ?hr ?_; (case hd => rfl); (case hg => rfl); (case hr => first | (go_simp; done) | (go_simp; rfl)); intro gb236 hg w31 hbox hb; have n0_ := Sq.l (Sq.m (Sq.W BK235.out) hb); have n1_ := Sq.l (Sq.a4 (by repeat (first | (with_reducible first | exact HB.out | apply Sq.i | apply Sq.j | apply Sq.k | refine Sq.h ?_ GE235.out) | exact HB.out)) hb); have n2_ := Sq.l (hbox); have n3_ := Sq.l ((by rw [hg]; exact (Sq.a5 (by repeat (first | (with_reducible first | exact HB.out | apply Sq.i | apply Sq.j | apply Sq.k | refine Sq.h ?_ GE235.out) | exact HB.out))) : w.heap.size ≤ gb236)); have n4_ := Sq.l ((by rw [hg]; exact (Sq.a5 (by repeat (first | (with_reducible first | exact HB.out | apply Sq.i | apply Sq.j | apply Sq.k | refine Sq.h ?_ GE235.out) | exact HB.out))) : w.heap.size ≤ gb236)); have n5_ := Sq.l ((by rw [hg]; exact Nat.ne_of_lt (blk_lt (Sq.W BK235.out)) : gb235 ≠ gb236)); have n6_ := Sq.l ((by rw [hg]; exact Nat.ne_of_gt (blk_lt (Sq.W BK235.out)) : gb236 ≠ gb235)); clear BK235 HB; have BK235 := n0_; have HB := n1_; have BK236 := n2_; have GW236 := n3_; have GE236 := n4_; have NB235_236 := n5_; have NB236_235 := n6_; clear n0_ n1_ n2_ n3_ n4_ n5_ n6_; clear hb hbox hg; have hnb32 := NB235_236.out; have hnc32 := NB236_235.out; obtain ⟨hcz33_0, hcz33_1, hcz33_2, hcz33_3, hcz33_4, hcz33_5, hcz33_6, hcz33_7, hcz33_8, hcz33_9, hcz33_10, hcz33_11⟩ := Sq.C12 BK235.out; obtain ⟨hfz33_0, hfz33_1, hfz33_2, hfz33_3, hfz33_4, hfz33_5, hfz33_6, hfz33_7, hfz33_8, hfz33_9, hfz33_10, hfz33_11⟩ := Sq.F12 BK235.out) | ((with_reducible refine gate_callee (f := 86) rfl ?_); refine goesL_ (some 6) rfl rfl Try.func86 (by kernel_rfl) rfl #[.agg #[.int .i64 a0_0, .slice A0_1 l0_1.length c0_1, .int .i64 a0_2, .slice A0_3 l0_3.length c0_3, .slice A0_4 l0_4.length c0_4, .string a0_5, .int .i64 a0_6, .int .i64 a0_7, .int .i64 a0_8, .slice A0_9 l0_9.length c0_9, .slice A0_10 l0_10.length c0_10, .int .i64 a0_11]] rfl (by (try simp only [List.map_toArray, List.map_cons, List.map_nil]); first | done | rfl | (simp only [List.length_drop, List.length_take]; rfl)) ?_; (with_reducible refine (impl_MachineFault.calls a0_0 _ _ l0_1 a0_2 _ _ l0_3 _ _ l0_4 a0_5 a0_6 a0_7 a0_8 _ _ l0_9 _ _ l0_10 a0_11 t237 _ ?side1 ?side2 ?side3 ?side4 ?side5 ?side6 ?side7 ?side8 ?side9 ?side10 A3.out).mono ?_); (case side1 => repeat (first | exact (Sq.a1 HR0_1.out HB.out) | (with_reducible refine Sq.s ?_ _) | (with_reducible refine Sq.t ?_ _) | (with_reducible refine Sq.u ?_))); (case side2 => exact HC0_1.out); (case side3 => repeat (first | exact (Sq.a1 HR0_3.out HB.out) | (with_reducible refine Sq.s ?_ _) | (with_reducible refine Sq.t ?_ _) | (with_reducible refine Sq.u ?_))); (case side4 => exact HC0_3.out); (case side5 => repeat (first | exact (Sq.a1 HR0_4.out HB.out) | (with_reducible refine Sq.s ?_ _) | (with_reducible refine Sq.t ?_ _) | (with_reducible refine Sq.u ?_))); (case side6 => exact HC0_4.out); (case side7 => repeat (first | exact (Sq.a1 HR0_9.out HB.out) | (with_reducible refine Sq.s ?_ _) | (with_reducible refine Sq.t ?_ _) | (with_reducible refine Sq.u ?_))); (case side8 => exact HC0_9.out); (case side9 => repeat (first | exact (Sq.a1 HR0_10.out HB.out) | (with_reducible refine Sq.s ?_ _) | (with_reducible refine Sq.t ?_ _) | (with_reducible refine Sq.u ?_))); (case side10 => exact HC0_10.out); rintro e w34 ⟨rfl, hb⟩; refine ⟨_, rfl, ?_⟩; have n0_ := Sq.l (Sq.m (Sq.W BK235.out) hb); have n1_ := Sq.l (Sq.m (g := gb236) (o := .cells #[.int .i64 0, .slice none 0 0, .int .i64 0, .slice none 0 0, .slice none 0 0, .string (⟨#[]⟩ : ByteArray), .int .i64 0, .int .i64 0, .int .i64 0, .slice none 0 0, .slice none 0 0, .int .i64 0] 71 (0, 0)) (Sq.W BK236.out) hb); have n2_ := Sq.l (Sq.a4 (by repeat (first | (with_reducible first | exact HB.out | apply Sq.i | apply Sq.j | apply Sq.k | refine Sq.h ?_ GE235.out | refine Sq.h ?_ GE236.out) | exact HB.out)) hb); clear BK235 BK236 HB; have BK235 := n0_; have BK236 := n1_; have HB := n2_; clear n0_ n1_ n2_; (try clear hb); (try clear hb2); (try clear hk); (try clear hi); obtain ⟨hcz35_0, hcz35_1, hcz35_2, hcz35_3, hcz35_4, hcz35_5, hcz35_6, hcz35_7, hcz35_8, hcz35_9, hcz35_10, hcz35_11⟩ := Sq.C12 BK236.out; obtain ⟨hfz35_0, hfz35_1, hfz35_2, hfz35_3, hfz35_4, hfz35_5, hfz35_6, hfz35_7, hfz35_8, hfz35_9, hfz35_10, hfz35_11⟩ := Sq.F12 BK236.out))
  refine bodyPost_ret (results_cell_row rfl _ _ gb236 71 #[.int .i64 0, .slice none 0 0, .int .i64 0, .slice none 0 0, .slice none 0 0, .string (⟨#[]⟩ : ByteArray), .int .i64 0, .int .i64 0, .int .i64 0, .slice none 0 0, .slice none 0 0, .int .i64 0] (0, 0) _ rfl (by (with_reducible repeat (first | refine Sq.d ?_ _ | refine Sq.e ?_ | refine Sq.f ?_ _)); refine Sq.v (cs := #[.int .i64 0, .slice none 0 0, .int .i64 0, .slice none 0 0, .slice none 0 0, .string (⟨#[]⟩ : ByteArray), .int .i64 0, .int .i64 0, .int .i64 0, .slice none 0 0, .slice none 0 0, .int .i64 0]) ?_ 11 _ rfl; (with_reducible repeat (first | refine Sq.d ?_ _ | refine Sq.e ?_ | refine Sq.f ?_ _)); refine Sq.v (cs := #[.int .i64 0, .slice none 0 0, .int .i64 0, .slice none 0 0, .slice none 0 0, .string (⟨#[]⟩ : ByteArray), .int .i64 0, .int .i64 0, .int .i64 0, .slice none 0 0, .slice none 0 0, .int .i64 0]) ?_ 10 _ rfl; (with_reducible repeat (first | refine Sq.d ?_ _ | refine Sq.e ?_ | refine Sq.f ?_ _)); refine Sq.v (cs := #[.int .i64 0, .slice none 0 0, .int .i64 0, .slice none 0 0, .slice none 0 0, .string (⟨#[]⟩ : ByteArray), .int .i64 0, .int .i64 0, .int .i64 0, .slice none 0 0, .slice none 0 0, .int .i64 0]) ?_ 9 _ rfl; (with_reducible repeat (first | refine Sq.d ?_ _ | refine Sq.e ?_ | refine Sq.f ?_ _)); refine Sq.v (cs := #[.int .i64 0, .slice none 0 0, .int .i64 0, .slice none 0 0, .slice none 0 0, .string (⟨#[]⟩ : ByteArray), .int .i64 0, .int .i64 0, .int .i64 0, .slice none 0 0, .slice none 0 0, .int .i64 0]) ?_ 8 _ rfl; (with_reducible repeat (first | refine Sq.d ?_ _ | refine Sq.e ?_ | refine Sq.f ?_ _)); refine Sq.v (cs := #[.int .i64 0, .slice none 0 0, .int .i64 0, .slice none 0 0, .slice none 0 0, .string (⟨#[]⟩ : ByteArray), .int .i64 0, .int .i64 0, .int .i64 0, .slice none 0 0, .slice none 0 0, .int .i64 0]) ?_ 7 _ rfl; (with_reducible repeat (first | refine Sq.d ?_ _ | refine Sq.e ?_ | refine Sq.f ?_ _)); refine Sq.v (cs := #[.int .i64 0, .slice none 0 0, .int .i64 0, .slice none 0 0, .slice none 0 0, .string (⟨#[]⟩ : ByteArray), .int .i64 0, .int .i64 0, .int .i64 0, .slice none 0 0, .slice none 0 0, .int .i64 0]) ?_ 6 _ rfl; (with_reducible repeat (first | refine Sq.d ?_ _ | refine Sq.e ?_ | refine Sq.f ?_ _)); refine Sq.v (cs := #[.int .i64 0, .slice none 0 0, .int .i64 0, .slice none 0 0, .slice none 0 0, .string (⟨#[]⟩ : ByteArray), .int .i64 0, .int .i64 0, .int .i64 0, .slice none 0 0, .slice none 0 0, .int .i64 0]) ?_ 5 _ rfl; (with_reducible repeat (first | refine Sq.d ?_ _ | refine Sq.e ?_ | refine Sq.f ?_ _)); refine Sq.v (cs := #[.int .i64 0, .slice none 0 0, .int .i64 0, .slice none 0 0, .slice none 0 0, .string (⟨#[]⟩ : ByteArray), .int .i64 0, .int .i64 0, .int .i64 0, .slice none 0 0, .slice none 0 0, .int .i64 0]) ?_ 4 _ rfl; (with_reducible repeat (first | refine Sq.d ?_ _ | refine Sq.e ?_ | refine Sq.f ?_ _)); refine Sq.v (cs := #[.int .i64 0, .slice none 0 0, .int .i64 0, .slice none 0 0, .slice none 0 0, .string (⟨#[]⟩ : ByteArray), .int .i64 0, .int .i64 0, .int .i64 0, .slice none 0 0, .slice none 0 0, .int .i64 0]) ?_ 3 _ rfl; (with_reducible repeat (first | refine Sq.d ?_ _ | refine Sq.e ?_ | refine Sq.f ?_ _)); refine Sq.v (cs := #[.int .i64 0, .slice none 0 0, .int .i64 0, .slice none 0 0, .slice none 0 0, .string (⟨#[]⟩ : ByteArray), .int .i64 0, .int .i64 0, .int .i64 0, .slice none 0 0, .slice none 0 0, .int .i64 0]) ?_ 2 _ rfl; (with_reducible repeat (first | refine Sq.d ?_ _ | refine Sq.e ?_ | refine Sq.f ?_ _)); refine Sq.v (cs := #[.int .i64 0, .slice none 0 0, .int .i64 0, .slice none 0 0, .slice none 0 0, .string (⟨#[]⟩ : ByteArray), .int .i64 0, .int .i64 0, .int .i64 0, .slice none 0 0, .slice none 0 0, .int .i64 0]) ?_ 1 _ rfl; (with_reducible repeat (first | refine Sq.d ?_ _ | refine Sq.e ?_ | refine Sq.f ?_ _)); refine Sq.v (cs := #[.int .i64 0, .slice none 0 0, .int .i64 0, .slice none 0 0, .slice none 0 0, .string (⟨#[]⟩ : ByteArray), .int .i64 0, .int .i64 0, .int .i64 0, .slice none 0 0, .slice none 0 0, .int .i64 0]) ?_ 0 _ rfl; (with_reducible repeat (first | refine Sq.d ?_ _ | refine Sq.e ?_ | refine Sq.f ?_ _)); exact BK236.out) Try.underlying71 rfl (by kernel_rfl)) rfl ?_
  exact ⟨_, _, _, _, _, by first | rfl | (simp [errW_none, errW_some] <;> rfl) | (simp [*, errW_none, errW_some] <;> rfl), by first | exact Kd.R_nil _ _ _ _ _ | exact Kd.N_nil _ _ _ _ _ | exact Kd.V_nil _ _ _ _ _ | exact Kd.Q_nil _ _ _ _ _ | exact Kd.S_nil _ _ _ _ _, by first | exact Kd.R_nil _ _ _ _ _ | exact Kd.N_nil _ _ _ _ _ | exact Kd.V_nil _ _ _ _ _ | exact Kd.Q_nil _ _ _ _ _ | exact Kd.S_nil _ _ _ _ _, by first | exact Kd.R_nil _ _ _ _ _ | exact Kd.N_nil _ _ _ _ _ | exact Kd.V_nil _ _ _ _ _ | exact Kd.Q_nil _ _ _ _ _ | exact Kd.S_nil _ _ _ _ _, by first | exact Kd.R_nil _ _ _ _ _ | exact Kd.N_nil _ _ _ _ _ | exact Kd.V_nil _ _ _ _ _ | exact Kd.Q_nil _ _ _ _ _ | exact Kd.S_nil _ _ _ _ _, by first | exact Kd.R_nil _ _ _ _ _ | exact Kd.N_nil _ _ _ _ _ | exact Kd.V_nil _ _ _ _ _ | exact Kd.Q_nil _ _ _ _ _ | exact Kd.S_nil _ _ _ _ _, by repeat (first | (with_reducible first | exact HB.out | apply Sq.i | apply Sq.j | apply Sq.k | refine Sq.h ?_ GE235.out | refine Sq.h ?_ GE236.out) | exact HB.out)⟩

/-! ### laws_eqInt64S: function 25 -/
def laws_eqInt64S.l0 : Nat → List Int → List Int → Int → Option (Bool)
  | 0, _, _, _ => none
  | k + 1, x0, x1, x5 => if x5 < (x0.length : Int) then (if 0 ≤ x5 then (if x5 < (x1.length : Int) then (if (rd x0 x5) = (rd x1 x5) then (laws_eqInt64S.l0 k x0 x1 (wrap64 (x5 + 1))) else (some false)) else (none)) else (none)) else (some true)
def laws_eqInt64S.f (k : Nat) (l0 : List Int) (l1 : List Int) : Option (Bool) := if (l0.length : Int) = (l1.length : Int) then (laws_eqInt64S.l0 k l0 l1 0) else (some false)
theorem laws_eqInt64S.mono_l : ∀ k, (∀ y0 y1 y2, LeO (laws_eqInt64S.l0 k y0 y1 y2) (laws_eqInt64S.l0 (k + 1) y0 y1 y2))
  | 0 => fun _ _ _ r h => by simp [laws_eqInt64S.l0] at h
  | k + 1 => by
    have ih0 := laws_eqInt64S.mono_l k
    · intro y0 y1 y2
      unfold laws_eqInt64S.l0
      repeat' first
      | (with_reducible exact ih0 _ _ _)
      | (with_reducible exact LeO.refl _)
      | (with_reducible exact LeO.none _)
      | (with_reducible refine LeO.ite ?_ ?_)
      | (with_reducible refine LeO.bind ?_ (fun _ => ?_))
      | exact ih0 _ _ _
      | exact LeO.none _
      | refine LeO.ite ?_ ?_
      | refine LeO.bind ?_ (fun _ => ?_)
theorem laws_eqInt64S.mono : ∀ a0 a1 k, LeO (laws_eqInt64S.f k a0 a1) (laws_eqInt64S.f (k + 1) a0 a1) := by
  intro a0 a1 k
  have ih0 := laws_eqInt64S.mono_l k
  unfold laws_eqInt64S.f
  repeat' first
      | (with_reducible exact ih0 _ _ _)
      | (with_reducible exact LeO.refl _)
      | (with_reducible exact LeO.none _)
      | (with_reducible refine LeO.ite ?_ ?_)
      | (with_reducible refine LeO.bind ?_ (fun _ => ?_))
      | exact ih0 _ _ _
      | exact LeO.none _
      | refine LeO.ite ?_ ?_
      | refine LeO.bind ?_ (fun _ => ?_)
set_option maxHeartbeats 8000000 in
set_option maxRecDepth 100000 in
theorem laws_eqInt64S.calls (k : Nat) (A0 : Option Addr) (c0 : Nat) (l0 : List Int) (A1 : Option Addr) (c1 : Nat) (l1 : List Int) (r : Bool) (w : World) (hr0 : Kd.C (Kd.int .i64) w A0 l0.length l0) (hc0 : l0.length ≤ c0) (hr1 : Kd.C (Kd.int .i64) w A1 l1.length l1) (hc1 : l1.length ≤ c1) (h : laws_eqInt64S.f k l0 l1 = some r) :
    Calls Try.prog 25 #[.slice A0 l0.length c0, .slice A1 l1.length c1] w fun e w' => e = .returned (.bool r) ∧ Drawn0 w w' := by
  have HR0 := Aside0.mk hr0
  have HC0 := Aside0.mk hc0
  clear hr0 hc0
  have HR1 := Aside0.mk hr1
  have HC1 := Aside0.mk hc1
  clear hr1 hc1
  have H : (if (l0.length : Int) = (l1.length : Int) then (laws_eqInt64S.l0 k l0 l1 0) else (some false)) = some r := h
  clear h
  by_cases c3 : (l0.length : Int) = (l1.length : Int)
  · rw [if_pos c3] at H
    have c3b0 : ((l0.length : Int) == (l1.length : Int)) = true := beq_iff_eq.mpr c3
    have c3b1 : ((l0.length : Int) != (l1.length : Int)) = false := bne_eq_false_iff_eq.mpr c3
    have c3b2 : (l0.length == l1.length) = true := by first | simpa using c3 | (simp at c3 ⊢; omega)
    clear c3
    have H' := Aside0.mk H
    clear H
    go_enter Try.func25, Try.ntmps25
    go_wp2
    repeat (go_quiet (fail); try go_wp2)
    go_loopg [5] k (fun kq v5 w' => ∃ (x5_1 : Int), v5 = .int .i64 x5_1 ∧ Aside0 (laws_eqInt64S.l0 kq l0 l1 x5_1 = some r) ∧ Aside0 (kq ≤ k) ∧ Drawn0 w w')
    case atStart => exact ⟨(0), (by first | rfl | (simp; done) | (simp [*]; done)), H', ⟨Nat.le_refl _⟩, by repeat (first | exact Drawn0.refl _ | apply Drawn0.step)⟩
    case round =>
      clear H'
      try clear c1
      try clear c2
      try clear p2
      try clear c3
      try clear c3b0
      try clear c3b1
      try clear c3b2
      obtain ⟨x5_1, rfl, HA, HK1, ⟨m1, rfl⟩⟩ := hrel
      cases gk with
      | zero => exact absurd HA.out (by simp [laws_eqInt64S.l0])
      | succ k1 =>
        have H := HA.out
        clear HA
        simp only [laws_eqInt64S.l0] at H
        by_cases c4 : x5_1 < (l0.length : Int)
        · rw [if_pos c4] at H
          have c4b0 : decide (x5_1 < (l0.length : Int)) = true := decide_eq_true c4
          clear c4
          by_cases c5 : 0 ≤ x5_1
          · rw [if_pos c5] at H
            have c5b0 : decide (0 ≤ x5_1) = true := decide_eq_true c5
            clear c5
            by_cases c6 : x5_1 < (l1.length : Int)
            · rw [if_pos c6] at H
              have c6b0 : decide (x5_1 < (l1.length : Int)) = true := decide_eq_true c6
              clear c6
              by_cases c7 : (rd l0 x5_1) = (rd l1 x5_1)
              · rw [if_pos c7] at H
                have c7b0 : ((rd l0 x5_1) == (rd l1 x5_1)) = true := beq_iff_eq.mpr c7
                have c7b1 : ((rd l0 x5_1) != (rd l1 x5_1)) = false := bne_eq_false_iff_eq.mpr c7
                clear c7
                have H' := Aside0.mk H
                clear H
                have p261 : 0 ≤ (x5_1 : Int) := of_decide_eq_true (by first | (with_reducible assumption) | assumption)
                have q261 : x5_1 < (l0.length : Int) := of_decide_eq_true (by first | (with_reducible assumption) | assumption)
                obtain ⟨ad261, e261, hx261_0⟩ := Kd.at_int HR0.out x5_1 p261 q261
                cases e261
                replace p261 := eq_true p261
                replace q261 := eq_true q261
                have p262 : 0 ≤ (x5_1 : Int) := of_decide_eq_true (by first | (with_reducible assumption) | assumption)
                have q262 : x5_1 < (l1.length : Int) := of_decide_eq_true (by first | (with_reducible assumption) | assumption)
                obtain ⟨ad262, e262, hx262_0⟩ := Kd.at_int HR1.out x5_1 p262 q262
                cases e262
                replace p262 := eq_true p262
                replace q262 := eq_true q262
                go_wp2
                repeat (go_quiet (fail); try go_wp2)
                go_roundg k1
                case measure => have := HK1.out; omega
                case rel => exact ⟨(wrap64 (x5_1 + 1)), (by first | rfl | (simp; done) | (simp [*]; done)), H', ⟨by have := HK1.out; omega⟩, by repeat (first | exact Drawn0.refl _ | apply Drawn0.step)⟩
              · rw [if_neg c7] at H
                have c7b0 : ((rd l0 x5_1) == (rd l1 x5_1)) = false := beq_eq_false_iff_ne.mpr c7
                have c7b1 : ((rd l0 x5_1) != (rd l1 x5_1)) = true := bne_iff_ne.mpr c7
                obtain rfl := Option.some.inj H
                have p261 : 0 ≤ (x5_1 : Int) := of_decide_eq_true (by first | (with_reducible assumption) | assumption)
                have q261 : x5_1 < (l0.length : Int) := of_decide_eq_true (by first | (with_reducible assumption) | assumption)
                obtain ⟨ad261, e261, hx261_0⟩ := Kd.at_int HR0.out x5_1 p261 q261
                cases e261
                replace p261 := eq_true p261
                replace q261 := eq_true q261
                have p262 : 0 ≤ (x5_1 : Int) := of_decide_eq_true (by first | (with_reducible assumption) | assumption)
                have q262 : x5_1 < (l1.length : Int) := of_decide_eq_true (by first | (with_reducible assumption) | assumption)
                obtain ⟨ad262, e262, hx262_0⟩ := Kd.at_int HR1.out x5_1 p262 q262
                cases e262
                replace p262 := eq_true p262
                replace q262 := eq_true q262
                go_wp2
                repeat (go_quiet (fail); try go_wp2)
                go_ret
                exact ⟨by first | rfl | (simp; done) | (simp [*]; done), by repeat (first | exact Drawn0.refl _ | apply Drawn0.step)⟩
            · rw [if_neg c6] at H
              exact absurd H (by simp)
          · rw [if_neg c5] at H
            exact absurd H (by simp)
        · rw [if_neg c4] at H
          have c4b0 : decide (x5_1 < (l0.length : Int)) = false := decide_eq_false c4
          clear c4
          obtain rfl := Option.some.inj H
          go_wp2
          repeat (go_quiet (fail); try go_wp2)
          go_ret
          exact ⟨by first | rfl | (simp; done) | (simp [*]; done), by repeat (first | exact Drawn0.refl _ | apply Drawn0.step)⟩
  · rw [if_neg c3] at H
    have c3b0 : ((l0.length : Int) == (l1.length : Int)) = false := beq_eq_false_iff_ne.mpr c3
    have c3b1 : ((l0.length : Int) != (l1.length : Int)) = true := bne_iff_ne.mpr c3
    have c3b2 : (l0.length == l1.length) = false := by first | simpa using c3 | (simp at c3 ⊢; omega)
    obtain rfl := Option.some.inj H
    go_enter Try.func25, Try.ntmps25
    go_wp2
    repeat (go_quiet (fail); try go_wp2)
    go_ret
    exact ⟨by first | rfl | (simp; done) | (simp [*]; done), by repeat (first | exact Drawn0.refl _ | apply Drawn0.step)⟩

/-! ### laws_eqPortValue: function 128 -/
def laws_eqPortValue.f (a0_0 : Int) (a0_1 : Int) (a1_0 : Int) (a1_1 : Int) : Option (Bool) := if a0_0 = a1_0 then (if a0_1 = a1_1 then (some true) else (some false)) else (some false)
set_option maxHeartbeats 8000000 in
set_option maxRecDepth 100000 in
theorem laws_eqPortValue.calls (a0_0 : Int) (a0_1 : Int) (a1_0 : Int) (a1_1 : Int) (r : Bool) (w : World) (h : laws_eqPortValue.f a0_0 a0_1 a1_0 a1_1 = some r) :
    Calls Try.prog 128 #[.agg #[.int .i64 a0_0, .int .i64 a0_1], .agg #[.int .i64 a1_0, .int .i64 a1_1]] w fun e w' => e = .returned (.bool r) ∧ Below w.heap.size w w' := by
  have hu185 := Try.underlying185
  have HB := Aside0.mk (Below.refl w.heap.size w)
  have H : (if a0_0 = a1_0 then (if a0_1 = a1_1 then (some true) else (some false)) else (some false)) = some r := h
  clear h
  by_cases c3 : a0_0 = a1_0
  · rw [if_pos c3] at H
    have c3b0 : (a0_0 == a1_0) = true := beq_iff_eq.mpr c3
    have c3b1 : (a0_0 != a1_0) = false := bne_eq_false_iff_eq.mpr c3
    clear c3
    by_cases c4 : a0_1 = a1_1
    · rw [if_pos c4] at H
      have c4b0 : (a0_1 == a1_1) = true := beq_iff_eq.mpr c4
      have c4b1 : (a0_1 != a1_1) = false := bne_eq_false_iff_eq.mpr c4
      clear c4
      obtain rfl := Option.some.inj H
      go_enter Try.func128, Try.ntmps128
      go_wp2_with (first | ((with_reducible refine gate_dst (N := 2) rfl ?_); refine box_event ?hg (N := 2) ?hd (cs := #[.int .i64 a0_0, .int .i64 a0_1]) (t := 185) ?hr ?_; (case hd => rfl); (case hg => rfl); (case hr => first | (go_simp; done) | (go_simp; rfl)); intro gb263 hg w5 hbox hb; have n0_ := Aside0.mk (below_step (by repeat (first | (with_reducible first | exact HB.out | apply below_alloc | apply pw_below_drewN | apply below_drew1) | exact HB.out)) hb); have n1_ := Aside0.mk (hbox); have n2_ := Aside0.mk ((by rw [hg]; exact (below_size (by repeat (first | (with_reducible first | exact HB.out | apply below_alloc | apply pw_below_drewN | apply below_drew1) | exact HB.out))) : w.heap.size ≤ gb263)); have n3_ := Aside0.mk ((by rw [hg]; exact (below_size (by repeat (first | (with_reducible first | exact HB.out | apply below_alloc | apply pw_below_drewN | apply below_drew1) | exact HB.out))) : w.heap.size ≤ gb263)); clear HB; have HB := n0_; have BK263 := n1_; have GW263 := n2_; have GE263 := n3_; clear n0_ n1_ n2_ n3_; clear hb hbox hg) | ((with_reducible refine gate_dst (N := 3) rfl ?_); refine box_event ?hg (N := 3) ?hd (cs := #[.int .i64 a1_0, .int .i64 a1_1]) (t := 185) ?hr ?_; (case hd => rfl); (case hg => rfl); (case hr => first | (go_simp; done) | (go_simp; rfl)); intro gb264 hg w6 hbox hb; have n0_ := Aside0.mk (blk_below (g := gb263) (o := .cells #[.int .i64 a0_0, .int .i64 a0_1] 185 (0, 0)) (by (with_reducible repeat (first | refine blk_drewN ?_ _ | refine blk_drew ?_ | refine blk_alloc ?_ _)); exact BK263.out) hb); have n1_ := Aside0.mk (below_step (by repeat (first | (with_reducible first | exact HB.out | apply below_alloc | apply pw_below_drewN | apply below_drew1 | refine below_set ?_ GE263.out) | exact HB.out)) hb); have n2_ := Aside0.mk (hbox); have n3_ := Aside0.mk ((by rw [hg]; exact (below_size (by repeat (first | (with_reducible first | exact HB.out | apply below_alloc | apply pw_below_drewN | apply below_drew1 | refine below_set ?_ GE263.out) | exact HB.out))) : w.heap.size ≤ gb264)); have n4_ := Aside0.mk ((by rw [hg]; exact (below_size (by repeat (first | (with_reducible first | exact HB.out | apply below_alloc | apply pw_below_drewN | apply below_drew1 | refine below_set ?_ GE263.out) | exact HB.out))) : w.heap.size ≤ gb264)); have n5_ := Aside0.mk ((by rw [hg]; exact Nat.ne_of_lt (blk_lt (g := gb263) (o := .cells #[.int .i64 a0_0, .int .i64 a0_1] 185 (0, 0)) (by (with_reducible repeat (first | refine blk_drewN ?_ _ | refine blk_drew ?_ | refine blk_alloc ?_ _)); exact BK263.out)) : gb263 ≠ gb264)); have n6_ := Aside0.mk ((by rw [hg]; exact Nat.ne_of_gt (blk_lt (g := gb263) (o := .cells #[.int .i64 a0_0, .int .i64 a0_1] 185 (0, 0)) (by (with_reducible repeat (first | refine blk_drewN ?_ _ | refine blk_drew ?_ | refine blk_alloc ?_ _)); exact BK263.out)) : gb264 ≠ gb263)); clear BK263; clear HB; have BK263 := n0_; have HB := n1_; have BK264 := n2_; have GW264 := n3_; have GE264 := n4_; have NB263_264 := n5_; have NB264_263 := n6_; clear n0_ n1_ n2_ n3_ n4_ n5_ n6_; clear hb hbox hg; have hnb7 := NB263_264.out; have hnc7 := NB264_263.out; have hcz8_0 : w6.cell? ⟨gb263, 0, none⟩ = some (.int .i64 a0_0) := (blk_cell BK263.out 0).trans rfl; have hcz8_1 : w6.cell? ⟨gb263, 1, none⟩ = some (.int .i64 a0_1) := (blk_cell BK263.out 1).trans rfl; have hfz8_0 := blk_frozen BK263.out 0; have hfz8_1 := blk_frozen BK263.out 1; have hcz9_0 : w6.cell? ⟨gb264, 0, none⟩ = some (.int .i64 a1_0) := (blk_cell BK264.out 0).trans rfl; have hcz9_1 : w6.cell? ⟨gb264, 1, none⟩ = some (.int .i64 a1_1) := (blk_cell BK264.out 1).trans rfl; have hfz9_0 := blk_frozen BK264.out 0; have hfz9_1 := blk_frozen BK264.out 1))
      go_ret
      exact ⟨by first | rfl | (simp [errW_none, errW_some] <;> rfl) | (simp [*, errW_none, errW_some] <;> rfl), by repeat (first | (with_reducible first | exact HB.out | apply below_alloc | apply pw_below_drewN | apply below_drew1 | refine below_set ?_ GE263.out | refine below_set ?_ GE264.out) | exact HB.out)⟩
    · rw [if_neg c4] at H
      have c4b0 : (a0_1 == a1_1) = false := beq_eq_false_iff_ne.mpr c4
      have c4b1 : (a0_1 != a1_1) = true := bne_iff_ne.mpr c4
      obtain rfl := Option.some.inj H
      go_enter Try.func128, Try.ntmps128
      go_wp2_with (first | ((with_reducible refine gate_dst (N := 2) rfl ?_); refine box_event ?hg (N := 2) ?hd (cs := #[.int .i64 a0_0, .int .i64 a0_1]) (t := 185) ?hr ?_; (case hd => rfl); (case hg => rfl); (case hr => first | (go_simp; done) | (go_simp; rfl)); intro gb263 hg w10 hbox hb; have n0_ := Aside0.mk (below_step (by repeat (first | (with_reducible first | exact HB.out | apply below_alloc | apply pw_below_drewN | apply below_drew1) | exact HB.out)) hb); have n1_ := Aside0.mk (hbox); have n2_ := Aside0.mk ((by rw [hg]; exact (below_size (by repeat (first | (with_reducible first | exact HB.out | apply below_alloc | apply pw_below_drewN | apply below_drew1) | exact HB.out))) : w.heap.size ≤ gb263)); have n3_ := Aside0.mk ((by rw [hg]; exact (below_size (by repeat (first | (with_reducible first | exact HB.out | apply below_alloc | apply pw_below_drewN | apply below_drew1) | exact HB.out))) : w.heap.size ≤ gb263)); clear HB; have HB := n0_; have BK263 := n1_; have GW263 := n2_; have GE263 := n3_; clear n0_ n1_ n2_ n3_; clear hb hbox hg) | ((with_reducible refine gate_dst (N := 3) rfl ?_); refine box_event ?hg (N := 3) ?hd (cs := #[.int .i64 a1_0, .int .i64 a1_1]) (t := 185) ?hr ?_; (case hd => rfl); (case hg => rfl); (case hr => first | (go_simp; done) | (go_simp; rfl)); intro gb264 hg w11 hbox hb; have n0_ := Aside0.mk (blk_below (g := gb263) (o := .cells #[.int .i64 a0_0, .int .i64 a0_1] 185 (0, 0)) (by (with_reducible repeat (first | refine blk_drewN ?_ _ | refine blk_drew ?_ | refine blk_alloc ?_ _)); exact BK263.out) hb); have n1_ := Aside0.mk (below_step (by repeat (first | (with_reducible first | exact HB.out | apply below_alloc | apply pw_below_drewN | apply below_drew1 | refine below_set ?_ GE263.out) | exact HB.out)) hb); have n2_ := Aside0.mk (hbox); have n3_ := Aside0.mk ((by rw [hg]; exact (below_size (by repeat (first | (with_reducible first | exact HB.out | apply below_alloc | apply pw_below_drewN | apply below_drew1 | refine below_set ?_ GE263.out) | exact HB.out))) : w.heap.size ≤ gb264)); have n4_ := Aside0.mk ((by rw [hg]; exact (below_size (by repeat (first | (with_reducible first | exact HB.out | apply below_alloc | apply pw_below_drewN | apply below_drew1 | refine below_set ?_ GE263.out) | exact HB.out))) : w.heap.size ≤ gb264)); have n5_ := Aside0.mk ((by rw [hg]; exact Nat.ne_of_lt (blk_lt (g := gb263) (o := .cells #[.int .i64 a0_0, .int .i64 a0_1] 185 (0, 0)) (by (with_reducible repeat (first | refine blk_drewN ?_ _ | refine blk_drew ?_ | refine blk_alloc ?_ _)); exact BK263.out)) : gb263 ≠ gb264)); have n6_ := Aside0.mk ((by rw [hg]; exact Nat.ne_of_gt (blk_lt (g := gb263) (o := .cells #[.int .i64 a0_0, .int .i64 a0_1] 185 (0, 0)) (by (with_reducible repeat (first | refine blk_drewN ?_ _ | refine blk_drew ?_ | refine blk_alloc ?_ _)); exact BK263.out)) : gb264 ≠ gb263)); clear BK263; clear HB; have BK263 := n0_; have HB := n1_; have BK264 := n2_; have GW264 := n3_; have GE264 := n4_; have NB263_264 := n5_; have NB264_263 := n6_; clear n0_ n1_ n2_ n3_ n4_ n5_ n6_; clear hb hbox hg; have hnb12 := NB263_264.out; have hnc12 := NB264_263.out; have hcz13_0 : w11.cell? ⟨gb263, 0, none⟩ = some (.int .i64 a0_0) := (blk_cell BK263.out 0).trans rfl; have hcz13_1 : w11.cell? ⟨gb263, 1, none⟩ = some (.int .i64 a0_1) := (blk_cell BK263.out 1).trans rfl; have hfz13_0 := blk_frozen BK263.out 0; have hfz13_1 := blk_frozen BK263.out 1; have hcz14_0 : w11.cell? ⟨gb264, 0, none⟩ = some (.int .i64 a1_0) := (blk_cell BK264.out 0).trans rfl; have hcz14_1 : w11.cell? ⟨gb264, 1, none⟩ = some (.int .i64 a1_1) := (blk_cell BK264.out 1).trans rfl; have hfz14_0 := blk_frozen BK264.out 0; have hfz14_1 := blk_frozen BK264.out 1))
      go_ret
      exact ⟨by first | rfl | (simp [errW_none, errW_some] <;> rfl) | (simp [*, errW_none, errW_some] <;> rfl), by repeat (first | (with_reducible first | exact HB.out | apply below_alloc | apply pw_below_drewN | apply below_drew1 | refine below_set ?_ GE263.out | refine below_set ?_ GE264.out) | exact HB.out)⟩
  · rw [if_neg c3] at H
    have c3b0 : (a0_0 == a1_0) = false := beq_eq_false_iff_ne.mpr c3
    have c3b1 : (a0_0 != a1_0) = true := bne_iff_ne.mpr c3
    obtain rfl := Option.some.inj H
    go_enter Try.func128, Try.ntmps128
    go_wp2_with (first | ((with_reducible refine gate_dst (N := 2) rfl ?_); refine box_event ?hg (N := 2) ?hd (cs := #[.int .i64 a0_0, .int .i64 a0_1]) (t := 185) ?hr ?_; (case hd => rfl); (case hg => rfl); (case hr => first | (go_simp; done) | (go_simp; rfl)); intro gb263 hg w15 hbox hb; have n0_ := Aside0.mk (below_step (by repeat (first | (with_reducible first | exact HB.out | apply below_alloc | apply pw_below_drewN | apply below_drew1) | exact HB.out)) hb); have n1_ := Aside0.mk (hbox); have n2_ := Aside0.mk ((by rw [hg]; exact (below_size (by repeat (first | (with_reducible first | exact HB.out | apply below_alloc | apply pw_below_drewN | apply below_drew1) | exact HB.out))) : w.heap.size ≤ gb263)); have n3_ := Aside0.mk ((by rw [hg]; exact (below_size (by repeat (first | (with_reducible first | exact HB.out | apply below_alloc | apply pw_below_drewN | apply below_drew1) | exact HB.out))) : w.heap.size ≤ gb263)); clear HB; have HB := n0_; have BK263 := n1_; have GW263 := n2_; have GE263 := n3_; clear n0_ n1_ n2_ n3_; clear hb hbox hg) | ((with_reducible refine gate_dst (N := 3) rfl ?_); refine box_event ?hg (N := 3) ?hd (cs := #[.int .i64 a1_0, .int .i64 a1_1]) (t := 185) ?hr ?_; (case hd => rfl); (case hg => rfl); (case hr => first | (go_simp; done) | (go_simp; rfl)); intro gb264 hg w16 hbox hb; have n0_ := Aside0.mk (blk_below (g := gb263) (o := .cells #[.int .i64 a0_0, .int .i64 a0_1] 185 (0, 0)) (by (with_reducible repeat (first | refine blk_drewN ?_ _ | refine blk_drew ?_ | refine blk_alloc ?_ _)); exact BK263.out) hb); have n1_ := Aside0.mk (below_step (by repeat (first | (with_reducible first | exact HB.out | apply below_alloc | apply pw_below_drewN | apply below_drew1 | refine below_set ?_ GE263.out) | exact HB.out)) hb); have n2_ := Aside0.mk (hbox); have n3_ := Aside0.mk ((by rw [hg]; exact (below_size (by repeat (first | (with_reducible first | exact HB.out | apply below_alloc | apply pw_below_drewN | apply below_drew1 | refine below_set ?_ GE263.out) | exact HB.out))) : w.heap.size ≤ gb264)); have n4_ := Aside0.mk ((by rw [hg]; exact (below_size (by repeat (first | (with_reducible first | exact HB.out | apply below_alloc | apply pw_below_drewN | apply below_drew1 | refine below_set ?_ GE263.out) | exact HB.out))) : w.heap.size ≤ gb264)); have n5_ := Aside0.mk ((by rw [hg]; exact Nat.ne_of_lt (blk_lt (g := gb263) (o := .cells #[.int .i64 a0_0, .int .i64 a0_1] 185 (0, 0)) (by (with_reducible repeat (first | refine blk_drewN ?_ _ | refine blk_drew ?_ | refine blk_alloc ?_ _)); exact BK263.out)) : gb263 ≠ gb264)); have n6_ := Aside0.mk ((by rw [hg]; exact Nat.ne_of_gt (blk_lt (g := gb263) (o := .cells #[.int .i64 a0_0, .int .i64 a0_1] 185 (0, 0)) (by (with_reducible repeat (first | refine blk_drewN ?_ _ | refine blk_drew ?_ | refine blk_alloc ?_ _)); exact BK263.out)) : gb264 ≠ gb263)); clear BK263; clear HB; have BK263 := n0_; have HB := n1_; have BK264 := n2_; have GW264 := n3_; have GE264 := n4_; have NB263_264 := n5_; have NB264_263 := n6_; clear n0_ n1_ n2_ n3_ n4_ n5_ n6_; clear hb hbox hg; have hnb17 := NB263_264.out; have hnc17 := NB264_263.out; have hcz18_0 : w16.cell? ⟨gb263, 0, none⟩ = some (.int .i64 a0_0) := (blk_cell BK263.out 0).trans rfl; have hcz18_1 : w16.cell? ⟨gb263, 1, none⟩ = some (.int .i64 a0_1) := (blk_cell BK263.out 1).trans rfl; have hfz18_0 := blk_frozen BK263.out 0; have hfz18_1 := blk_frozen BK263.out 1; have hcz19_0 : w16.cell? ⟨gb264, 0, none⟩ = some (.int .i64 a1_0) := (blk_cell BK264.out 0).trans rfl; have hcz19_1 : w16.cell? ⟨gb264, 1, none⟩ = some (.int .i64 a1_1) := (blk_cell BK264.out 1).trans rfl; have hfz19_0 := blk_frozen BK264.out 0; have hfz19_1 := blk_frozen BK264.out 1))
    go_ret
    exact ⟨by first | rfl | (simp [errW_none, errW_some] <;> rfl) | (simp [*, errW_none, errW_some] <;> rfl), by repeat (first | (with_reducible first | exact HB.out | apply below_alloc | apply pw_below_drewN | apply below_drew1 | refine below_set ?_ GE263.out | refine below_set ?_ GE264.out) | exact HB.out)⟩

end Go.Proofs.Ytmajbehafgajmaa.QFnExactRaiseLine
