-- Written for this claim by this session's own driver (wip/xprint.py).
import Derived.Test.YtmajbehafgajmaaQFnExactMapPagesx0
import Derived.Test.YtmajbehafgajmaaQFnExactMapPagesx1
namespace Go.Proofs.Ytmajbehafgajmaa.QFnExactMapPages
open Go.RowKit Go.Proofs.YtmajbehafgajmaaW.PrintWords Go.Proofs.YtmajbehafgajmaaW.PrintLast Go.Proofs.YtmajbehafgajmaaW.PrintMore
attribute [local go_sem] max2_int min2_int max_two min_two max_three min_three max_four min_four   -- for this text's walks alone
set_option linter.unusedVariables false
set_option linter.unusedSimpArgs false

/-! ### spec_l03Map: function 71 -/
mutual
def spec_l03Map.j0 : Nat → ByteArray → Int → List Int → Int → Int → Int → Int → Bool → Option (ByteArray × List Int × Int)
 | 0, _, _, _, _, _, _, _, _ => none
 | k + 1, x0, x1, x3, x11, x119000, x119001, x119002, x119003 => if x119000 < 0 then (spec_l03Map.j1 k x0 x1 x3 true x119000 x119001 x119002 x119003) else (if x119000 ≥ 262144 then (spec_l03Map.j1 k x0 x1 x3 true x119000 x119001 x119002 x119003) else (if x11 = 0 then (none) else (if (Int.tmod x119000 x11) = 0 then (if x119001 < 0 then (spec_l03Map.j1 k x0 x1 x3 true x119000 x119001 x119002 x119003) else (if x119001 > 1023 then (spec_l03Map.j1 k x0 x1 x3 true x119000 x119001 x119002 x119003) else (if x119003 = true then (if (Int.tmod x119001 32) = 0 then (if (Go.bits .and .i64 x119002 14) = 0 then (spec_l03Map.j1 k x0 x1 x3 true x119000 x119001 x119002 x119003) else (spec_l03Map.j1 k x0 x1 x3 (x119002 != (Go.bits .and .i64 x119002 158)) x119000 x119001 x119002 x119003)) else (spec_l03Map.j1 k x0 x1 x3 true x119000 x119001 x119002 x119003)) else (if (Go.bits .and .i64 x119002 14) = 0 then (spec_l03Map.j1 k x0 x1 x3 true x119000 x119001 x119002 x119003) else (spec_l03Map.j1 k x0 x1 x3 (x119002 != (Go.bits .and .i64 x119002 158)) x119000 x119001 x119002 x119003))))) else (spec_l03Map.j1 k x0 x1 x3 true x119000 x119001 x119002 x119003))))
def spec_l03Map.j1 : Nat → ByteArray → Int → List Int → Bool → Int → Int → Int → Bool → Option (ByteArray × List Int × Int)
 | 0, _, _, _, _, _, _, _, _ => none
 | k + 1, x0, x1, x3, x68, x119000, x119001, x119002, x119003 => if x68 = true then (some (x0, x3, 1)) else ((spec_l01Word.f x0 (wrap64 ((wrap64 (x1 * 256)) + (wrap64 (4 * (x119000 / 8192)))))).bind fun t119 => (if x119003 = true then (if (Go.bits .and .i64 t119 1) = 0 then ((spec_SetWord.f x0 (wrap64 ((wrap64 (x1 * 256)) + (wrap64 (4 * (x119000 / 8192))))) (Go.bits .or .i64 (Go.bits .or .i64 (wrap64 (x119001 * 256)) x119002) 1)).bind fun t120 => (some (t120, x3, 0))) else (some (x0, x3, 9))) else (if (Go.bits .and .i64 t119 1) = 0 then (spec_l03Map.j2 k x0 x3 (Go.bits .or .i64 (Go.bits .or .i64 (wrap64 (x119001 * 256)) x119002) 1) (wrap64 ((wrap64 (x1 * 256)) + (wrap64 (4 * (x119000 / 8192))))) t119 false x119000 x119001 x119002 x119003) else (spec_l03Map.j2 k x0 x3 (Go.bits .or .i64 (Go.bits .or .i64 (wrap64 (x119001 * 256)) x119002) 1) (wrap64 ((wrap64 (x1 * 256)) + (wrap64 (4 * (x119000 / 8192))))) t119 ((Go.bits .and .i64 t119 14) != 0) x119000 x119001 x119002 x119003))))
def spec_l03Map.j2 : Nat → ByteArray → List Int → Int → Int → Int → Bool → Int → Int → Int → Bool → Option (ByteArray × List Int × Int)
 | 0, _, _, _, _, _, _, _, _, _, _ => none
 | k + 1, x0, x3, x12, x13, x14, x107, x119000, x119001, x119002, x119003 => if x107 = true then (some (x0, x3, 9)) else (if (Go.bits .and .i64 x14 1) = 0 then (if (x3.length : Int) = 0 then (some (x0, x3, 4)) else (if 0 < (x3.length : Int) then (if 1 ≤ (x3.length : Int) then (if 0 ≤ (wrap64 ((rd x3 0) * 256)) then (if (wrap64 ((rd x3 0) * 256)) ≤ (x0.size : Int) then (if 256 ≤ 281474976710656 then ((some (List.replicate 256 0 : List Int)).bind fun y127 => (if (x0.extract 0 ((wrap64 ((rd x3 0) * 256)) : Int).toNat).size + (strOfNums y127).size ≤ 9223372036854775807 then (if 0 ≤ (wrap64 ((wrap64 ((rd x3 0) + 1)) * 256)) then (if (wrap64 ((wrap64 ((rd x3 0) + 1)) * 256)) ≤ (x0.size : Int) then (if ((x0.extract 0 ((wrap64 ((rd x3 0) * 256)) : Int).toNat) ++ (strOfNums y127)).size + (x0.extract ((wrap64 ((wrap64 ((rd x3 0) + 1)) * 256)) : Int).toNat x0.size).size ≤ 9223372036854775807 then ((spec_SetWord.f (((x0.extract 0 ((wrap64 ((rd x3 0) * 256)) : Int).toNat) ++ (strOfNums y127)) ++ (x0.extract ((wrap64 ((wrap64 ((rd x3 0) + 1)) * 256)) : Int).toNat x0.size)) x13 (Go.bits .or .i64 (wrap64 ((rd x3 0) * 256)) 1)).bind fun t130 => (spec_l03Map.j3 k t130 (x3.drop 1) x12 (Go.bits .or .i64 (wrap64 ((rd x3 0) * 256)) 1) x119000 x119001 x119002 x119003)) else (none)) else (none)) else (none)) else (none))) else (none)) else (none)) else (none)) else (none)) else (none))) else (spec_l03Map.j3 k x0 x3 x12 x14 x119000 x119001 x119002 x119003))
def spec_l03Map.j3 : Nat → ByteArray → List Int → Int → Int → Int → Int → Int → Bool → Option (ByteArray × List Int × Int)
 | 0, _, _, _, _, _, _, _, _ => none
 | k + 1, x0, x3, x12, x14, x119000, x119001, x119002, x119003 => (spec_l03Entry.f x0 (x14 / 256) (Int.tmod (x119000 / 256) 32)).bind fun bt131 => (if bt131.2 = true then (if (Go.bits .and .i64 bt131.1 1) = 0 then ((spec_SetWord.f x0 (wrap64 ((wrap64 ((x14 / 256) * 256)) + (wrap64 (4 * (Int.tmod (x119000 / 256) 32))))) x12).bind fun t133 => (some (t133, x3, 0))) else (some (x0, x3, 9))) else (some (x0, x3, 9)))
end
def spec_l03Map.f (k : Nat) (a0 : ByteArray) (a1 : Int) (a2_0 : Int) (a2_1 : Int) (a2_2 : Int) (a2_3 : Bool) (l3 : List Int) : Option (ByteArray × List Int × Int) := if a2_3 = true then (spec_l03Map.j0 k a0 a1 l3 8192 a2_0 a2_1 a2_2 a2_3) else (spec_l03Map.j0 k a0 a1 l3 256 a2_0 a2_1 a2_2 a2_3)
theorem spec_l03Map.mono_l : ∀ k, (∀ y0 y1 y2 y3 y4 y5 y6 y7, LeO (spec_l03Map.j0 k y0 y1 y2 y3 y4 y5 y6 y7) (spec_l03Map.j0 (k + 1) y0 y1 y2 y3 y4 y5 y6 y7)) ∧ (∀ y0 y1 y2 y3 y4 y5 y6 y7, LeO (spec_l03Map.j1 k y0 y1 y2 y3 y4 y5 y6 y7) (spec_l03Map.j1 (k + 1) y0 y1 y2 y3 y4 y5 y6 y7)) ∧ (∀ y0 y1 y2 y3 y4 y5 y6 y7 y8 y9, LeO (spec_l03Map.j2 k y0 y1 y2 y3 y4 y5 y6 y7 y8 y9) (spec_l03Map.j2 (k + 1) y0 y1 y2 y3 y4 y5 y6 y7 y8 y9)) ∧ (∀ y0 y1 y2 y3 y4 y5 y6 y7, LeO (spec_l03Map.j3 k y0 y1 y2 y3 y4 y5 y6 y7) (spec_l03Map.j3 (k + 1) y0 y1 y2 y3 y4 y5 y6 y7))
 | 0 => ⟨fun _ _ _ _ _ _ _ _ r h => by simp [spec_l03Map.j0] at h, fun _ _ _ _ _ _ _ _ r h => by simp [spec_l03Map.j1] at h, fun _ _ _ _ _ _ _ _ _ _ r h => by simp [spec_l03Map.j2] at h, fun _ _ _ _ _ _ _ _ r h => by simp [spec_l03Map.j3] at h⟩
 | k + 1 => by
  obtain ⟨ih0, ih1, ih2, ih3⟩ := spec_l03Map.mono_l k
  refine ⟨?_, ?_, ?_, ?_⟩
  ·intro y0 y1 y2 y3 y4 y5 y6 y7
   unfold spec_l03Map.j0
   repeat' first
   | (with_reducible exact ih0 _ _ _ _ _ _ _ _)
   | (with_reducible exact ih1 _ _ _ _ _ _ _ _)
   | (with_reducible exact ih2 _ _ _ _ _ _ _ _ _ _)
   | (with_reducible exact ih3 _ _ _ _ _ _ _ _)
   | (with_reducible exact LeO.refl _)
   | (with_reducible exact LeO.none _)
   | (with_reducible refine LeO.ite ?_ ?_)
   | (with_reducible refine LeO.bind ?_ (fun _ => ?_))
   | exact ih0 _ _ _ _ _ _ _ _
   | exact ih1 _ _ _ _ _ _ _ _
   | exact ih2 _ _ _ _ _ _ _ _ _ _
   | exact ih3 _ _ _ _ _ _ _ _
   | exact LeO.none _
   | refine LeO.ite ?_ ?_
   | refine LeO.bind ?_ (fun _ => ?_)
  ·intro y0 y1 y2 y3 y4 y5 y6 y7
   unfold spec_l03Map.j1
   repeat' first
   | (with_reducible exact ih0 _ _ _ _ _ _ _ _)
   | (with_reducible exact ih1 _ _ _ _ _ _ _ _)
   | (with_reducible exact ih2 _ _ _ _ _ _ _ _ _ _)
   | (with_reducible exact ih3 _ _ _ _ _ _ _ _)
   | (with_reducible exact LeO.refl _)
   | (with_reducible exact LeO.none _)
   | (with_reducible refine LeO.ite ?_ ?_)
   | (with_reducible refine LeO.bind ?_ (fun _ => ?_))
   | exact ih0 _ _ _ _ _ _ _ _
   | exact ih1 _ _ _ _ _ _ _ _
   | exact ih2 _ _ _ _ _ _ _ _ _ _
   | exact ih3 _ _ _ _ _ _ _ _
   | exact LeO.none _
   | refine LeO.ite ?_ ?_
   | refine LeO.bind ?_ (fun _ => ?_)
  ·intro y0 y1 y2 y3 y4 y5 y6 y7 y8 y9
   unfold spec_l03Map.j2
   repeat' first
   | (with_reducible exact ih0 _ _ _ _ _ _ _ _)
   | (with_reducible exact ih1 _ _ _ _ _ _ _ _)
   | (with_reducible exact ih2 _ _ _ _ _ _ _ _ _ _)
   | (with_reducible exact ih3 _ _ _ _ _ _ _ _)
   | (with_reducible exact LeO.refl _)
   | (with_reducible exact LeO.none _)
   | (with_reducible refine LeO.ite ?_ ?_)
   | (with_reducible refine LeO.bind ?_ (fun _ => ?_))
   | exact ih0 _ _ _ _ _ _ _ _
   | exact ih1 _ _ _ _ _ _ _ _
   | exact ih2 _ _ _ _ _ _ _ _ _ _
   | exact ih3 _ _ _ _ _ _ _ _
   | exact LeO.none _
   | refine LeO.ite ?_ ?_
   | refine LeO.bind ?_ (fun _ => ?_)
  ·intro y0 y1 y2 y3 y4 y5 y6 y7
   unfold spec_l03Map.j3
   repeat' first
   | (with_reducible exact ih0 _ _ _ _ _ _ _ _)
   | (with_reducible exact ih1 _ _ _ _ _ _ _ _)
   | (with_reducible exact ih2 _ _ _ _ _ _ _ _ _ _)
   | (with_reducible exact ih3 _ _ _ _ _ _ _ _)
   | (with_reducible exact LeO.refl _)
   | (with_reducible exact LeO.none _)
   | (with_reducible refine LeO.ite ?_ ?_)
   | (with_reducible refine LeO.bind ?_ (fun _ => ?_))
   | exact ih0 _ _ _ _ _ _ _ _
   | exact ih1 _ _ _ _ _ _ _ _
   | exact ih2 _ _ _ _ _ _ _ _ _ _
   | exact ih3 _ _ _ _ _ _ _ _
   | exact LeO.none _
   | refine LeO.ite ?_ ?_
   | refine LeO.bind ?_ (fun _ => ?_)
theorem spec_l03Map.mono : ∀ a0 a1 a2 a3 a4 a5 a6 k, LeO (spec_l03Map.f k a0 a1 a2 a3 a4 a5 a6) (spec_l03Map.f (k + 1) a0 a1 a2 a3 a4 a5 a6) := by
 intro a0 a1 a2 a3 a4 a5 a6 k
 obtain ⟨ih0, ih1, ih2, ih3⟩ := spec_l03Map.mono_l k
 unfold spec_l03Map.f
 repeat' first
   | (with_reducible exact ih0 _ _ _ _ _ _ _ _)
   | (with_reducible exact ih1 _ _ _ _ _ _ _ _)
   | (with_reducible exact ih2 _ _ _ _ _ _ _ _ _ _)
   | (with_reducible exact ih3 _ _ _ _ _ _ _ _)
   | (with_reducible exact LeO.refl _)
   | (with_reducible exact LeO.none _)
   | (with_reducible refine LeO.ite ?_ ?_)
   | (with_reducible refine LeO.bind ?_ (fun _ => ?_))
   | exact ih0 _ _ _ _ _ _ _ _
   | exact ih1 _ _ _ _ _ _ _ _
   | exact ih2 _ _ _ _ _ _ _ _ _ _
   | exact ih3 _ _ _ _ _ _ _ _
   | exact LeO.none _
   | refine LeO.ite ?_ ?_
   | refine LeO.bind ?_ (fun _ => ?_)
def spec_l03Map.T20 : Bool × List (List Nat × List Nat) := (true, [([], []), ([], []), ([1], [1]), ([0, 2], [0, 2]), ([], []), ([4], [4]), ([3, 5], [3, 5]), ([], []), ([], []), ([8], [8]), ([9], [9]), ([7, 10], [7, 10]), ([6, 11], [6, 11]), ([12, 0, 1, 2, 3, 4, 5, 6, 7, 8, 9, 10, 11, 12], [0, 7, 12])])
def spec_l03Map.B20 : List Nat := [0, 0, 2, 7, 0, 16, 63, 0, 0, 256, 768, 1920, 4095, 8191]
theorem spec_l03Map.tab20 : rtab .any (opsOf Try.f71 20) = spec_l03Map.T20 := by kernel_rfl
theorem spec_l03Map.bits20 : waitsOk spec_l03Map.T20.2 spec_l03Map.B20 = true := by kernel_rfl
set_option maxHeartbeats 8000000 in
set_option maxRecDepth 100000 in
theorem spec_l03Map.calls (k : Nat) (a0 : ByteArray) (a1 : Int) (a2_0 : Int) (a2_1 : Int) (a2_2 : Int) (a2_3 : Bool) (P3_ : Nat → Prop) (A3 : Option Addr) (c3 : Nat) (l3 : List Int) (r1 : ByteArray) (r2 : List Int) (r3 : Int) (w : World) (hs3 : Kd.V (Kd.int .i64) 2 w w.heap.size (fun k_ => P3_ k_) (.slice A3 l3.length c3) l3) (h : spec_l03Map.f k a0 a1 a2_0 a2_1 a2_2 a2_3 l3 = some (r1, r2, r3)) :
  Calls Try.prog 71 #[.string a0, .int .i64 a1, .agg #[.int .i64 a2_0, .int .i64 a2_1, .int .i64 a2_2, .bool a2_3], .slice A3 l3.length c3] w fun e w' => ∃ v1_ : Value, e = .returned (.tuple #[.string r1, v1_, .int .i64 r3]) ∧ Kd.V (Kd.int .i64) 2 w' w.heap.size (fun k_ => (P3_ k_ ∨ w.heap.size ≤ k_)) v1_ r2 ∧ Below w.heap.size w w' := by
 have hu124 := Try.underlying124
 have HO3 := Sq.l (show Kd.V (Kd.int .i64) 2 w w.heap.size (fun k_ => (P3_ k_ ∨ w.heap.size ≤ k_)) (.slice A3 l3.length c3) l3 from Sq.a6 hs3 (fun k_ hk => .inl hk))
 have HB := Sq.l (Below.refl w.heap.size w)
 have H : (if a2_3 = true then (spec_l03Map.j0 k a0 a1 l3 8192 a2_0 a2_1 a2_2 a2_3) else (spec_l03Map.j0 k a0 a1 l3 256 a2_0 a2_1 a2_2 a2_3)) = some (r1, r2, r3) := h
 clear h
 have HC5 := Sq.l H
 clear H
 go_enter Try.func71, Try.ntmps71
 go_upto_if 19 with (first | ((with_reducible refine gate_dst (N := 6) rfl ?_); refine box_event ?hg (N := 6) ?hd (cs := #[.int .i64 a2_0, .int .i64 a2_1, .int .i64 a2_2, .bool a2_3]) (t := 124) ?hr ?_; (case hd => rfl); (case hg => rfl); (case hr => first | (go_simp; done) | (go_simp; rfl)); intro gb118 hg w6 hbox hb; have n0_ := Sq.l (Kd.V_below (Kd.V_elderB (by (with_reducible repeat (first | apply Sq.x | apply Sq.y | apply Sq.z)); exact HO3.out) gb118 (Nat.le_of_eq hg.symm)) hb); have n1_ := Sq.l (Sq.a4 (by repeat (first | (with_reducible first | exact HB.out | apply Sq.i | apply Sq.j | apply Sq.k) | exact HB.out)) hb); have n2_ := Sq.l (hbox); have n3_ := Sq.l ((by rw [hg]; exact (Sq.a5 (by repeat (first | (with_reducible first | exact HB.out | apply Sq.i | apply Sq.j | apply Sq.k) | exact HB.out))) : w.heap.size ≤ gb118)); have n4_ := Sq.l ((by rw [hg]; exact (Sq.a5 (by repeat (first | (with_reducible first | exact HB.out | apply Sq.i | apply Sq.j | apply Sq.k) | exact HB.out))) : w.heap.size ≤ gb118)); clear HO3; clear HB; have HO3 := n0_; have HB := n1_; have BK118 := n2_; have GW118 := n3_; have GE118 := n4_; clear n0_ n1_ n2_ n3_ n4_; clear hb hbox hg; have hcz7_0 : w6.cell? ⟨gb118, 0, none⟩ = some (.int .i64 a2_0) := (Sq.o BK118.out 0).trans rfl; have hcz7_1 : w6.cell? ⟨gb118, 1, none⟩ = some (.int .i64 a2_1) := (Sq.o BK118.out 1).trans rfl; have hcz7_2 : w6.cell? ⟨gb118, 2, none⟩ = some (.int .i64 a2_2) := (Sq.o BK118.out 2).trans rfl; have hcz7_3 : w6.cell? ⟨gb118, 3, none⟩ = some (.bool a2_3) := (Sq.o BK118.out 3).trans rfl; have hfz7_0 := Sq.r BK118.out 0; have hfz7_1 := Sq.r BK118.out 1; have hfz7_2 := Sq.r BK118.out 2; have hfz7_3 := Sq.r BK118.out 3))
 (try simp only [Act.put, List.setIfInBounds_toArray, List.set_cons_zero, List.set_cons_succ])
 go_cut [11] (fun v11 wc => ∃ (kq : Nat) (x11_4 : Int), v11 = .int .i64 x11_4 ∧ Aside0 (spec_l03Map.j0 kq a0 a1 l3 x11_4 a2_0 a2_1 a2_2 a2_3 = some (r1, r2, r3)) ∧ Aside0 (kq ≤ k) ∧ Aside0 (Kd.V (Kd.int .i64) 2 wc w.heap.size (fun k_ => (P3_ k_ ∨ w.heap.size ≤ k_) ∧ k_ ≠ gb118) (.slice A3 l3.length c3) l3) ∧ Aside0 (wc.heap[gb118]? = some (.cells #[.int .i64 a2_0, .int .i64 a2_1, .int .i64 a2_2, .bool a2_3] 124 (0, 0))) ∧ Aside0 (Below w.heap.size w wc))
 case first =>
  have H := HC5.out
  clear HC5
  by_cases c8 : a2_3 = true
  ·subst c8
   have H1 : (spec_l03Map.j0 k a0 a1 l3 8192 a2_0 a2_1 a2_2 true) = some (r1, r2, r3) := by rw [if_pos rfl] at H; exact H
   clear H
   have H := H1
   clear H1
   have H' := Sq.l H
   clear H
   go_wp2
   go_meet
   case rel => exact ⟨_, (8192), (by first | rfl | (simp; done) | (simp [*]; done)), H', ⟨by first | omega | exact Nat.le_refl _⟩, ⟨by (with_reducible repeat (first | apply Sq.x | apply Sq.y | apply Sq.z)); exact HO3.out⟩, ⟨by (with_reducible repeat (first | refine Sq.d ?_ _ | refine Sq.e ?_ | refine Sq.f ?_ _)); exact BK118.out⟩, ⟨by repeat (first | (with_reducible first | exact HB.out | apply Sq.i | apply Sq.j | apply Sq.k | refine Sq.h ?_ GE118.out) | exact HB.out)⟩⟩
  ·replace c8 := Bool.eq_false_iff.mpr c8
   subst c8
   have H1 : (spec_l03Map.j0 k a0 a1 l3 256 a2_0 a2_1 a2_2 false) = some (r1, r2, r3) := by rw [if_neg (show ¬ (false = true) by decide)] at H; exact H
   clear H
   have H := H1
   clear H1
   have H' := Sq.l H
   clear H
   go_wp2
   go_meet
   case rel => exact ⟨_, (256), (by first | rfl | (simp; done) | (simp [*]; done)), H', ⟨by first | omega | exact Nat.le_refl _⟩, ⟨by (with_reducible repeat (first | apply Sq.x | apply Sq.y | apply Sq.z)); exact HO3.out⟩, ⟨by (with_reducible repeat (first | refine Sq.d ?_ _ | refine Sq.e ?_ | refine Sq.f ?_ _)); exact BK118.out⟩, ⟨by repeat (first | (with_reducible first | exact HB.out | apply Sq.i | apply Sq.j | apply Sq.k | refine Sq.h ?_ GE118.out) | exact HB.out)⟩⟩
 case rest =>
  clear HC5; try clear p2; try clear c3; try clear c7; try clear c8; try clear hcz7_0; try clear hcz7_1; try clear hcz7_2; try clear hcz7_3; try clear hfz7_0; try clear hfz7_1; try clear hfz7_2; try clear hfz7_3
  obtain ⟨kq, x11_4, rfl, HA, HJ4, HO_3, BK118, HB⟩ := hcut
  cases kq with
  | zero => exact absurd HA.out (by simp [spec_l03Map.j0])
  | succ kj4 =>
   have H := HA.out
   clear HA
   simp only [spec_l03Map.j0] at H
   have HC9 := Sq.l H
   clear H
   go_upto_region 4 with (fail)
   go_cut [68] (fun v68 wc => ∃ (kq : Nat) (x68_8 : Bool), v68 = .bool x68_8 ∧ Aside0 (spec_l03Map.j1 kq a0 a1 l3 x68_8 a2_0 a2_1 a2_2 a2_3 = some (r1, r2, r3)) ∧ Aside0 (kq ≤ kj4) ∧ Aside0 (Kd.V (Kd.int .i64) 2 wc w.heap.size (fun k_ => (P3_ k_ ∨ w.heap.size ≤ k_) ∧ k_ ≠ gb118) (.slice A3 l3.length c3) l3) ∧ Aside0 (wc.heap[gb118]? = some (.cells #[.int .i64 a2_0, .int .i64 a2_1, .int .i64 a2_2, .bool a2_3] 124 (0, 0))) ∧ Aside0 (Below w.heap.size w wc))
   case first =>
    have H := HC9.out
    clear HC9
    by_cases c10 : a2_0 < 0
    ·rw [if_pos c10] at H
     have c10b0 : decide (a2_0 < 0) = true := decide_eq_true c10
     clear c10
     (first | rw [c10b0] | (simp only [i64_w, i32_w]; rw [c10b0]) | skip)
     have H' := Sq.l H
     clear H
     have hcz11_0 : wc.cell? ⟨gb118, 0, none⟩ = some (.int .i64 a2_0) := (Sq.o BK118.out 0).trans rfl
     have hcz11_1 : wc.cell? ⟨gb118, 1, none⟩ = some (.int .i64 a2_1) := (Sq.o BK118.out 1).trans rfl
     have hcz11_2 : wc.cell? ⟨gb118, 2, none⟩ = some (.int .i64 a2_2) := (Sq.o BK118.out 2).trans rfl
     have hcz11_3 : wc.cell? ⟨gb118, 3, none⟩ = some (.bool a2_3) := (Sq.o BK118.out 3).trans rfl
     have hfz11_0 := Sq.r BK118.out 0
     have hfz11_1 := Sq.r BK118.out 1
     have hfz11_2 := Sq.r BK118.out 2
     have hfz11_3 := Sq.r BK118.out 3
     go_wp2
     go_meet
     case rel => exact ⟨_, (true), (by first | rfl | (simp; done) | (simp [*]; done)), H', ⟨by have := HJ4.out; first | omega | exact Nat.le_refl _⟩, ⟨by (with_reducible repeat (first | apply Sq.x | apply Sq.y | apply Sq.z)); exact HO_3.out⟩, ⟨by (with_reducible repeat (first | refine Sq.d ?_ _ | refine Sq.e ?_ | refine Sq.f ?_ _)); exact BK118.out⟩, ⟨by repeat (first | (with_reducible first | exact HB.out | apply Sq.i | apply Sq.j | apply Sq.k | refine Sq.h ?_ GE118.out) | exact HB.out)⟩⟩
    ·rw [if_neg c10] at H
     have c10b0 : decide (a2_0 < 0) = false := decide_eq_false c10
     clear c10
     (first | rw [c10b0] | (simp only [i64_w, i32_w]; rw [c10b0]) | skip)
     by_cases c12 : a2_0 ≥ 262144
     ·rw [if_pos c12] at H
      have c12b0 : decide (262144 ≤ a2_0) = true := decide_eq_true c12
      clear c12
      have H' := Sq.l H
      clear H
      have hcz13_0 : wc.cell? ⟨gb118, 0, none⟩ = some (.int .i64 a2_0) := (Sq.o BK118.out 0).trans rfl
      have hcz13_1 : wc.cell? ⟨gb118, 1, none⟩ = some (.int .i64 a2_1) := (Sq.o BK118.out 1).trans rfl
      have hcz13_2 : wc.cell? ⟨gb118, 2, none⟩ = some (.int .i64 a2_2) := (Sq.o BK118.out 2).trans rfl
      have hcz13_3 : wc.cell? ⟨gb118, 3, none⟩ = some (.bool a2_3) := (Sq.o BK118.out 3).trans rfl
      have hfz13_0 := Sq.r BK118.out 0
      have hfz13_1 := Sq.r BK118.out 1
      have hfz13_2 := Sq.r BK118.out 2
      have hfz13_3 := Sq.r BK118.out 3
      go_wp2
      go_meet
      case rel => exact ⟨_, (true), (by first | rfl | (simp; done) | (simp [*]; done)), H', ⟨by have := HJ4.out; first | omega | exact Nat.le_refl _⟩, ⟨by (with_reducible repeat (first | apply Sq.x | apply Sq.y | apply Sq.z)); exact HO_3.out⟩, ⟨by (with_reducible repeat (first | refine Sq.d ?_ _ | refine Sq.e ?_ | refine Sq.f ?_ _)); exact BK118.out⟩, ⟨by repeat (first | (with_reducible first | exact HB.out | apply Sq.i | apply Sq.j | apply Sq.k | refine Sq.h ?_ GE118.out) | exact HB.out)⟩⟩
     ·rw [if_neg c12] at H
      have c12b0 : decide (262144 ≤ a2_0) = false := decide_eq_false c12
      clear c12
      by_cases c14 : x11_4 = 0
      ·rw [if_pos c14] at H
       exact absurd H (by simp)
      ·rw [if_neg c14] at H
       have c14b0 : (x11_4 == 0) = false := beq_eq_false_iff_ne.mpr c14
       have c14b1 : (x11_4 != 0) = true := bne_iff_ne.mpr c14
       by_cases c15 : (Int.tmod a2_0 x11_4) = 0
       ·rw [if_pos c15] at H
        have c15b0 : ((Int.tmod a2_0 x11_4) == 0) = true := beq_iff_eq.mpr c15
        have c15b1 : ((Int.tmod a2_0 x11_4) != 0) = false := bne_eq_false_iff_eq.mpr c15
        clear c15
        by_cases c16 : a2_1 < 0
        ·rw [if_pos c16] at H
         have c16b0 : decide (a2_1 < 0) = true := decide_eq_true c16
         clear c16
         have H' := Sq.l H
         clear H
         have hcz17_0 : wc.cell? ⟨gb118, 0, none⟩ = some (.int .i64 a2_0) := (Sq.o BK118.out 0).trans rfl
         have hcz17_1 : wc.cell? ⟨gb118, 1, none⟩ = some (.int .i64 a2_1) := (Sq.o BK118.out 1).trans rfl
         have hcz17_2 : wc.cell? ⟨gb118, 2, none⟩ = some (.int .i64 a2_2) := (Sq.o BK118.out 2).trans rfl
         have hcz17_3 : wc.cell? ⟨gb118, 3, none⟩ = some (.bool a2_3) := (Sq.o BK118.out 3).trans rfl
         have hfz17_0 := Sq.r BK118.out 0
         have hfz17_1 := Sq.r BK118.out 1
         have hfz17_2 := Sq.r BK118.out 2
         have hfz17_3 := Sq.r BK118.out 3
         go_wp2
         go_meet
         case rel => exact ⟨_, (true), (by first | rfl | (simp; done) | (simp [*]; done)), H', ⟨by have := HJ4.out; first | omega | exact Nat.le_refl _⟩, ⟨by (with_reducible repeat (first | apply Sq.x | apply Sq.y | apply Sq.z)); exact HO_3.out⟩, ⟨by (with_reducible repeat (first | refine Sq.d ?_ _ | refine Sq.e ?_ | refine Sq.f ?_ _)); exact BK118.out⟩, ⟨by repeat (first | (with_reducible first | exact HB.out | apply Sq.i | apply Sq.j | apply Sq.k | refine Sq.h ?_ GE118.out) | exact HB.out)⟩⟩
        ·rw [if_neg c16] at H
         have c16b0 : decide (a2_1 < 0) = false := decide_eq_false c16
         clear c16
         by_cases c18 : a2_1 > 1023
         ·rw [if_pos c18] at H
          have c18b0 : decide (1023 < a2_1) = true := decide_eq_true c18
          clear c18
          have H' := Sq.l H
          clear H
          have hcz19_0 : wc.cell? ⟨gb118, 0, none⟩ = some (.int .i64 a2_0) := (Sq.o BK118.out 0).trans rfl
          have hcz19_1 : wc.cell? ⟨gb118, 1, none⟩ = some (.int .i64 a2_1) := (Sq.o BK118.out 1).trans rfl
          have hcz19_2 : wc.cell? ⟨gb118, 2, none⟩ = some (.int .i64 a2_2) := (Sq.o BK118.out 2).trans rfl
          have hcz19_3 : wc.cell? ⟨gb118, 3, none⟩ = some (.bool a2_3) := (Sq.o BK118.out 3).trans rfl
          have hfz19_0 := Sq.r BK118.out 0
          have hfz19_1 := Sq.r BK118.out 1
          have hfz19_2 := Sq.r BK118.out 2
          have hfz19_3 := Sq.r BK118.out 3
          go_wp2
          go_meet
          case rel => exact ⟨_, (true), (by first | rfl | (simp; done) | (simp [*]; done)), H', ⟨by have := HJ4.out; first | omega | exact Nat.le_refl _⟩, ⟨by (with_reducible repeat (first | apply Sq.x | apply Sq.y | apply Sq.z)); exact HO_3.out⟩, ⟨by (with_reducible repeat (first | refine Sq.d ?_ _ | refine Sq.e ?_ | refine Sq.f ?_ _)); exact BK118.out⟩, ⟨by repeat (first | (with_reducible first | exact HB.out | apply Sq.i | apply Sq.j | apply Sq.k | refine Sq.h ?_ GE118.out) | exact HB.out)⟩⟩
         ·rw [if_neg c18] at H
          have c18b0 : decide (1023 < a2_1) = false := decide_eq_false c18
          clear c18
          by_cases c20 : a2_3 = true
          ·subst c20
           have H1 : (if (Int.tmod a2_1 32) = 0 then (if (Go.bits .and .i64 a2_2 14) = 0 then (spec_l03Map.j1 kj4 a0 a1 l3 true a2_0 a2_1 a2_2 true) else (spec_l03Map.j1 kj4 a0 a1 l3 (a2_2 != (Go.bits .and .i64 a2_2 158)) a2_0 a2_1 a2_2 true)) else (spec_l03Map.j1 kj4 a0 a1 l3 true a2_0 a2_1 a2_2 true)) = some (r1, r2, r3) := by rw [if_pos rfl] at H; exact H
           clear H
           have H := H1
           clear H1
           by_cases c21 : (Int.tmod a2_1 32) = 0
           ·rw [if_pos c21] at H
            have c21b0 : ((Int.tmod a2_1 32) == 0) = true := beq_iff_eq.mpr c21
            have c21b1 : ((Int.tmod a2_1 32) != 0) = false := bne_eq_false_iff_eq.mpr c21
            clear c21
            by_cases c22 : (Go.bits .and .i64 a2_2 14) = 0
            ·rw [if_pos c22] at H
             have c22b0 : ((Go.bits .and .i64 a2_2 14) == 0) = true := beq_iff_eq.mpr c22
             have c22b1 : ((Go.bits .and .i64 a2_2 14) != 0) = false := bne_eq_false_iff_eq.mpr c22
             clear c22
             have H' := Sq.l H
             clear H
             have hcz23_0 : wc.cell? ⟨gb118, 0, none⟩ = some (.int .i64 a2_0) := (Sq.o BK118.out 0).trans rfl
             have hcz23_1 : wc.cell? ⟨gb118, 1, none⟩ = some (.int .i64 a2_1) := (Sq.o BK118.out 1).trans rfl
             have hcz23_2 : wc.cell? ⟨gb118, 2, none⟩ = some (.int .i64 a2_2) := (Sq.o BK118.out 2).trans rfl
             have hcz23_3 : wc.cell? ⟨gb118, 3, none⟩ = some (.bool true) := (Sq.o BK118.out 3).trans rfl
             have hfz23_0 := Sq.r BK118.out 0
             have hfz23_1 := Sq.r BK118.out 1
             have hfz23_2 := Sq.r BK118.out 2
             have hfz23_3 := Sq.r BK118.out 3
             go_wp2
             go_meet
             case rel => exact ⟨_, (true), (by first | rfl | (simp; done) | (simp [*]; done)), H', ⟨by have := HJ4.out; first | omega | exact Nat.le_refl _⟩, ⟨by (with_reducible repeat (first | apply Sq.x | apply Sq.y | apply Sq.z)); exact HO_3.out⟩, ⟨by (with_reducible repeat (first | refine Sq.d ?_ _ | refine Sq.e ?_ | refine Sq.f ?_ _)); exact BK118.out⟩, ⟨by repeat (first | (with_reducible first | exact HB.out | apply Sq.i | apply Sq.j | apply Sq.k | refine Sq.h ?_ GE118.out) | exact HB.out)⟩⟩
            ·rw [if_neg c22] at H
             have c22b0 : ((Go.bits .and .i64 a2_2 14) == 0) = false := beq_eq_false_iff_ne.mpr c22
             have c22b1 : ((Go.bits .and .i64 a2_2 14) != 0) = true := bne_iff_ne.mpr c22
             have H' := Sq.l H
             clear H
             have hcz24_0 : wc.cell? ⟨gb118, 0, none⟩ = some (.int .i64 a2_0) := (Sq.o BK118.out 0).trans rfl
             have hcz24_1 : wc.cell? ⟨gb118, 1, none⟩ = some (.int .i64 a2_1) := (Sq.o BK118.out 1).trans rfl
             have hcz24_2 : wc.cell? ⟨gb118, 2, none⟩ = some (.int .i64 a2_2) := (Sq.o BK118.out 2).trans rfl
             have hcz24_3 : wc.cell? ⟨gb118, 3, none⟩ = some (.bool true) := (Sq.o BK118.out 3).trans rfl
             have hfz24_0 := Sq.r BK118.out 0
             have hfz24_1 := Sq.r BK118.out 1
             have hfz24_2 := Sq.r BK118.out 2
             have hfz24_3 := Sq.r BK118.out 3
             go_wp2
             go_meet
             case rel => exact ⟨_, ((a2_2 != (Go.bits .and .i64 a2_2 158))), (by first | rfl | (simp; done) | (simp [*]; done)), H', ⟨by have := HJ4.out; first | omega | exact Nat.le_refl _⟩, ⟨by (with_reducible repeat (first | apply Sq.x | apply Sq.y | apply Sq.z)); exact HO_3.out⟩, ⟨by (with_reducible repeat (first | refine Sq.d ?_ _ | refine Sq.e ?_ | refine Sq.f ?_ _)); exact BK118.out⟩, ⟨by repeat (first | (with_reducible first | exact HB.out | apply Sq.i | apply Sq.j | apply Sq.k | refine Sq.h ?_ GE118.out) | exact HB.out)⟩⟩
           ·rw [if_neg c21] at H
            have c21b0 : ((Int.tmod a2_1 32) == 0) = false := beq_eq_false_iff_ne.mpr c21
            have c21b1 : ((Int.tmod a2_1 32) != 0) = true := bne_iff_ne.mpr c21
            have H' := Sq.l H
            clear H
            have hcz25_0 : wc.cell? ⟨gb118, 0, none⟩ = some (.int .i64 a2_0) := (Sq.o BK118.out 0).trans rfl
            have hcz25_1 : wc.cell? ⟨gb118, 1, none⟩ = some (.int .i64 a2_1) := (Sq.o BK118.out 1).trans rfl
            have hcz25_2 : wc.cell? ⟨gb118, 2, none⟩ = some (.int .i64 a2_2) := (Sq.o BK118.out 2).trans rfl
            have hcz25_3 : wc.cell? ⟨gb118, 3, none⟩ = some (.bool true) := (Sq.o BK118.out 3).trans rfl
            have hfz25_0 := Sq.r BK118.out 0
            have hfz25_1 := Sq.r BK118.out 1
            have hfz25_2 := Sq.r BK118.out 2
            have hfz25_3 := Sq.r BK118.out 3
            go_wp2
            go_meet
            case rel => exact ⟨_, (true), (by first | rfl | (simp; done) | (simp [*]; done)), H', ⟨by have := HJ4.out; first | omega | exact Nat.le_refl _⟩, ⟨by (with_reducible repeat (first | apply Sq.x | apply Sq.y | apply Sq.z)); exact HO_3.out⟩, ⟨by (with_reducible repeat (first | refine Sq.d ?_ _ | refine Sq.e ?_ | refine Sq.f ?_ _)); exact BK118.out⟩, ⟨by repeat (first | (with_reducible first | exact HB.out | apply Sq.i | apply Sq.j | apply Sq.k | refine Sq.h ?_ GE118.out) | exact HB.out)⟩⟩
          ·replace c20 := Bool.eq_false_iff.mpr c20
           subst c20
           have H1 : (if (Go.bits .and .i64 a2_2 14) = 0 then (spec_l03Map.j1 kj4 a0 a1 l3 true a2_0 a2_1 a2_2 false) else (spec_l03Map.j1 kj4 a0 a1 l3 (a2_2 != (Go.bits .and .i64 a2_2 158)) a2_0 a2_1 a2_2 false)) = some (r1, r2, r3) := by rw [if_neg (show ¬ (false = true) by decide)] at H; exact H
           clear H
           have H := H1
           clear H1
           by_cases c26 : (Go.bits .and .i64 a2_2 14) = 0
           ·rw [if_pos c26] at H
            have c26b0 : ((Go.bits .and .i64 a2_2 14) == 0) = true := beq_iff_eq.mpr c26
            have c26b1 : ((Go.bits .and .i64 a2_2 14) != 0) = false := bne_eq_false_iff_eq.mpr c26
            clear c26
            have H' := Sq.l H
            clear H
            have hcz27_0 : wc.cell? ⟨gb118, 0, none⟩ = some (.int .i64 a2_0) := (Sq.o BK118.out 0).trans rfl
            have hcz27_1 : wc.cell? ⟨gb118, 1, none⟩ = some (.int .i64 a2_1) := (Sq.o BK118.out 1).trans rfl
            have hcz27_2 : wc.cell? ⟨gb118, 2, none⟩ = some (.int .i64 a2_2) := (Sq.o BK118.out 2).trans rfl
            have hcz27_3 : wc.cell? ⟨gb118, 3, none⟩ = some (.bool false) := (Sq.o BK118.out 3).trans rfl
            have hfz27_0 := Sq.r BK118.out 0
            have hfz27_1 := Sq.r BK118.out 1
            have hfz27_2 := Sq.r BK118.out 2
            have hfz27_3 := Sq.r BK118.out 3
            go_wp2
            go_meet
            case rel => exact ⟨_, (true), (by first | rfl | (simp; done) | (simp [*]; done)), H', ⟨by have := HJ4.out; first | omega | exact Nat.le_refl _⟩, ⟨by (with_reducible repeat (first | apply Sq.x | apply Sq.y | apply Sq.z)); exact HO_3.out⟩, ⟨by (with_reducible repeat (first | refine Sq.d ?_ _ | refine Sq.e ?_ | refine Sq.f ?_ _)); exact BK118.out⟩, ⟨by repeat (first | (with_reducible first | exact HB.out | apply Sq.i | apply Sq.j | apply Sq.k | refine Sq.h ?_ GE118.out) | exact HB.out)⟩⟩
           ·rw [if_neg c26] at H
            have c26b0 : ((Go.bits .and .i64 a2_2 14) == 0) = false := beq_eq_false_iff_ne.mpr c26
            have c26b1 : ((Go.bits .and .i64 a2_2 14) != 0) = true := bne_iff_ne.mpr c26
            have H' := Sq.l H
            clear H
            have hcz28_0 : wc.cell? ⟨gb118, 0, none⟩ = some (.int .i64 a2_0) := (Sq.o BK118.out 0).trans rfl
            have hcz28_1 : wc.cell? ⟨gb118, 1, none⟩ = some (.int .i64 a2_1) := (Sq.o BK118.out 1).trans rfl
            have hcz28_2 : wc.cell? ⟨gb118, 2, none⟩ = some (.int .i64 a2_2) := (Sq.o BK118.out 2).trans rfl
            have hcz28_3 : wc.cell? ⟨gb118, 3, none⟩ = some (.bool false) := (Sq.o BK118.out 3).trans rfl
            have hfz28_0 := Sq.r BK118.out 0
            have hfz28_1 := Sq.r BK118.out 1
            have hfz28_2 := Sq.r BK118.out 2
            have hfz28_3 := Sq.r BK118.out 3
            go_wp2
            go_meet
            case rel => exact ⟨_, ((a2_2 != (Go.bits .and .i64 a2_2 158))), (by first | rfl | (simp; done) | (simp [*]; done)), H', ⟨by have := HJ4.out; first | omega | exact Nat.le_refl _⟩, ⟨by (with_reducible repeat (first | apply Sq.x | apply Sq.y | apply Sq.z)); exact HO_3.out⟩, ⟨by (with_reducible repeat (first | refine Sq.d ?_ _ | refine Sq.e ?_ | refine Sq.f ?_ _)); exact BK118.out⟩, ⟨by repeat (first | (with_reducible first | exact HB.out | apply Sq.i | apply Sq.j | apply Sq.k | refine Sq.h ?_ GE118.out) | exact HB.out)⟩⟩
       ·rw [if_neg c15] at H
        have c15b0 : ((Int.tmod a2_0 x11_4) == 0) = false := beq_eq_false_iff_ne.mpr c15
        have c15b1 : ((Int.tmod a2_0 x11_4) != 0) = true := bne_iff_ne.mpr c15
        have H' := Sq.l H
        clear H
        have hcz29_0 : wc.cell? ⟨gb118, 0, none⟩ = some (.int .i64 a2_0) := (Sq.o BK118.out 0).trans rfl
        have hcz29_1 : wc.cell? ⟨gb118, 1, none⟩ = some (.int .i64 a2_1) := (Sq.o BK118.out 1).trans rfl
        have hcz29_2 : wc.cell? ⟨gb118, 2, none⟩ = some (.int .i64 a2_2) := (Sq.o BK118.out 2).trans rfl
        have hcz29_3 : wc.cell? ⟨gb118, 3, none⟩ = some (.bool a2_3) := (Sq.o BK118.out 3).trans rfl
        have hfz29_0 := Sq.r BK118.out 0
        have hfz29_1 := Sq.r BK118.out 1
        have hfz29_2 := Sq.r BK118.out 2
        have hfz29_3 := Sq.r BK118.out 3
        go_wp2
        go_meet
        case rel => exact ⟨_, (true), (by first | rfl | (simp; done) | (simp [*]; done)), H', ⟨by have := HJ4.out; first | omega | exact Nat.le_refl _⟩, ⟨by (with_reducible repeat (first | apply Sq.x | apply Sq.y | apply Sq.z)); exact HO_3.out⟩, ⟨by (with_reducible repeat (first | refine Sq.d ?_ _ | refine Sq.e ?_ | refine Sq.f ?_ _)); exact BK118.out⟩, ⟨by repeat (first | (with_reducible first | exact HB.out | apply Sq.i | apply Sq.j | apply Sq.k | refine Sq.h ?_ GE118.out) | exact HB.out)⟩⟩
   case rest =>
    clear HC9; try clear c1; try clear c2; try clear p2; try clear c3; try clear c7; try clear c8; try clear c10; try clear c10b0; try clear c12; try clear c12b0; try clear c14; try clear c14b0; try clear c14b1; try clear c15; try clear c15b0; try clear c15b1; try clear c16; try clear c16b0; try clear c18; try clear c18b0; try clear c20; try clear c21; try clear c21b0; try clear c21b1; try clear c22; try clear c22b0; try clear c22b1; try clear c26; try clear c26b0; try clear c26b1; try clear hcz11_0; try clear hcz11_1; try clear hcz11_2; try clear hcz11_3; try clear hcz13_0; try clear hcz13_1; try clear hcz13_2; try clear hcz13_3; try clear hcz17_0; try clear hcz17_1; try clear hcz17_2; try clear hcz17_3; try clear hcz19_0; try clear hcz19_1; try clear hcz19_2; try clear hcz19_3; try clear hcz23_0; try clear hcz23_1; try clear hcz23_2; try clear hcz23_3; try clear hcz24_0; try clear hcz24_1; try clear hcz24_2; try clear hcz24_3; try clear hcz25_0; try clear hcz25_1; try clear hcz25_2; try clear hcz25_3; try clear hcz27_0; try clear hcz27_1; try clear hcz27_2; try clear hcz27_3; try clear hcz28_0; try clear hcz28_1; try clear hcz28_2; try clear hcz28_3; try clear hcz29_0; try clear hcz29_1; try clear hcz29_2; try clear hcz29_3; try clear hcz7_0; try clear hcz7_1; try clear hcz7_2; try clear hcz7_3; try clear hfz11_0; try clear hfz11_1; try clear hfz11_2; try clear hfz11_3; try clear hfz13_0; try clear hfz13_1; try clear hfz13_2; try clear hfz13_3; try clear hfz17_0; try clear hfz17_1; try clear hfz17_2; try clear hfz17_3; try clear hfz19_0; try clear hfz19_1; try clear hfz19_2; try clear hfz19_3; try clear hfz23_0; try clear hfz23_1; try clear hfz23_2; try clear hfz23_3; try clear hfz24_0; try clear hfz24_1; try clear hfz24_2; try clear hfz24_3; try clear hfz25_0; try clear hfz25_1; try clear hfz25_2; try clear hfz25_3; try clear hfz27_0; try clear hfz27_1; try clear hfz27_2; try clear hfz27_3; try clear hfz28_0; try clear hfz28_1; try clear hfz28_2; try clear hfz28_3; try clear hfz29_0; try clear hfz29_1; try clear hfz29_2; try clear hfz29_3; try clear hfz7_0; try clear hfz7_1; try clear hfz7_2; try clear hfz7_3; try clear p2
    obtain ⟨kq, x68_8, rfl, HA, HJ8, HO_3, BK118, HB⟩ := hcut
    cases kq with
    | zero => exact absurd HA.out (by simp [spec_l03Map.j1])
    | succ kj8 =>
     have H := HA.out
     clear HA
     simp only [spec_l03Map.j1] at H
     by_cases c30 : x68_8 = true
     ·subst c30
      have H1 : (some (a0, l3, 1)) = some (r1, r2, r3) := by rw [if_pos rfl] at H; exact H
      clear H
      have H := H1
      clear H1
      simp only [Option.some.injEq, Prod.mk.injEq] at H
      obtain ⟨rfl, rfl, rfl⟩ := H
      go_wp2
      go_ret3
      exact ⟨_, by first | rfl | (simp [errW_none, errW_some] <;> rfl) | (simp [*, errW_none, errW_some] <;> rfl), by (with_reducible repeat (first | apply Sq.x | apply Sq.y | apply Sq.z)); exact Sq.a6 HO_3.out (fun _ hk => hk.1), by repeat (first | (with_reducible first | exact HB.out | apply Sq.i | apply Sq.j | apply Sq.k | refine Sq.h ?_ GE118.out) | exact HB.out)⟩
     ·replace c30 := Bool.eq_false_iff.mpr c30
      subst c30
      have H1 : ((spec_l01Word.f a0 (wrap64 ((wrap64 (a1 * 256)) + (wrap64 (4 * (a2_0 / 8192)))))).bind fun t119 => (if a2_3 = true then (if (Go.bits .and .i64 t119 1) = 0 then ((spec_SetWord.f a0 (wrap64 ((wrap64 (a1 * 256)) + (wrap64 (4 * (a2_0 / 8192))))) (Go.bits .or .i64 (Go.bits .or .i64 (wrap64 (a2_1 * 256)) a2_2) 1)).bind fun t120 => (some (t120, l3, 0))) else (some (a0, l3, 9))) else (if (Go.bits .and .i64 t119 1) = 0 then (spec_l03Map.j2 kj8 a0 l3 (Go.bits .or .i64 (Go.bits .or .i64 (wrap64 (a2_1 * 256)) a2_2) 1) (wrap64 ((wrap64 (a1 * 256)) + (wrap64 (4 * (a2_0 / 8192))))) t119 false a2_0 a2_1 a2_2 a2_3) else (spec_l03Map.j2 kj8 a0 l3 (Go.bits .or .i64 (Go.bits .or .i64 (wrap64 (a2_1 * 256)) a2_2) 1) (wrap64 ((wrap64 (a1 * 256)) + (wrap64 (4 * (a2_0 / 8192))))) t119 ((Go.bits .and .i64 t119 14) != 0) a2_0 a2_1 a2_2 a2_3)))) = some (r1, r2, r3) := by rw [if_neg (show ¬ (false = true) by decide)] at H; exact H
      clear H
      have H := H1
      clear H1
      replace H := Option.bind_eq_some_iff.mp H
      obtain ⟨t119, A310, H⟩ := H
      replace H : (if a2_3 = true then (if (Go.bits .and .i64 t119 1) = 0 then ((spec_SetWord.f a0 (wrap64 ((wrap64 (a1 * 256)) + (wrap64 (4 * (a2_0 / 8192))))) (Go.bits .or .i64 (Go.bits .or .i64 (wrap64 (a2_1 * 256)) a2_2) 1)).bind fun t120 => (some (t120, l3, 0))) else (some (a0, l3, 9))) else (if (Go.bits .and .i64 t119 1) = 0 then (spec_l03Map.j2 kj8 a0 l3 (Go.bits .or .i64 (Go.bits .or .i64 (wrap64 (a2_1 * 256)) a2_2) 1) (wrap64 ((wrap64 (a1 * 256)) + (wrap64 (4 * (a2_0 / 8192))))) t119 false a2_0 a2_1 a2_2 a2_3) else (spec_l03Map.j2 kj8 a0 l3 (Go.bits .or .i64 (Go.bits .or .i64 (wrap64 (a2_1 * 256)) a2_2) 1) (wrap64 ((wrap64 (a1 * 256)) + (wrap64 (4 * (a2_0 / 8192))))) t119 ((Go.bits .and .i64 t119 14) != 0) a2_0 a2_1 a2_2 a2_3))) = some (r1, r2, r3) := H
      have A31 := Sq.l A310
      clear A310
      by_cases c32 : a2_3 = true
      ·subst c32
       have H1 : (if (Go.bits .and .i64 t119 1) = 0 then ((spec_SetWord.f a0 (wrap64 ((wrap64 (a1 * 256)) + (wrap64 (4 * (a2_0 / 8192))))) (Go.bits .or .i64 (Go.bits .or .i64 (wrap64 (a2_1 * 256)) a2_2) 1)).bind fun t120 => (some (t120, l3, 0))) else (some (a0, l3, 9))) = some (r1, r2, r3) := by rw [if_pos rfl] at H; exact H
       clear H
       have H := H1
       clear H1
       by_cases c33 : (Go.bits .and .i64 t119 1) = 0
       ·rw [if_pos c33] at H
        have c33b0 : ((Go.bits .and .i64 t119 1) == 0) = true := beq_iff_eq.mpr c33
        have c33b1 : ((Go.bits .and .i64 t119 1) != 0) = false := bne_eq_false_iff_eq.mpr c33
        clear c33
        replace H := Option.bind_eq_some_iff.mp H
        obtain ⟨t120, A340, H⟩ := H
        replace H : (some (t120, l3, 0)) = some (r1, r2, r3) := H
        have A34 := Sq.l A340
        clear A340
        simp only [Option.some.injEq, Prod.mk.injEq] at H
        obtain ⟨rfl, rfl, rfl⟩ := H
        have hcz35_0 : wc.cell? ⟨gb118, 0, none⟩ = some (.int .i64 a2_0) := (Sq.o BK118.out 0).trans rfl
        have hcz35_1 : wc.cell? ⟨gb118, 1, none⟩ = some (.int .i64 a2_1) := (Sq.o BK118.out 1).trans rfl
        have hcz35_2 : wc.cell? ⟨gb118, 2, none⟩ = some (.int .i64 a2_2) := (Sq.o BK118.out 2).trans rfl
        have hcz35_3 : wc.cell? ⟨gb118, 3, none⟩ = some (.bool true) := (Sq.o BK118.out 3).trans rfl
        have hfz35_0 := Sq.r BK118.out 0
        have hfz35_1 := Sq.r BK118.out 1
        have hfz35_2 := Sq.r BK118.out 2
        have hfz35_3 := Sq.r BK118.out 3
        go_wp2_with (first | ((with_reducible refine gate_callee (f := 113) rfl ?_); refine goesL_ (some 87) rfl rfl Try.func113 (by kernel_rfl) rfl #[.string a0, .int .i64 (wrap64 ((wrap64 (a1 * 256)) + (wrap64 (4 * (a2_0 / 8192)))))] rfl (by (try simp only [List.map_toArray, List.map_cons, List.map_nil]); first | done | rfl | (simp only [List.length_drop, List.length_take]; rfl)) ?_; (with_reducible refine (spec_l01Word.calls a0 (wrap64 ((wrap64 (a1 * 256)) + (wrap64 (4 * (a2_0 / 8192))))) t119 _ A31.out).mono ?_); rintro e w' ⟨rfl, ⟨nd, rfl⟩⟩; refine ⟨_, rfl, ?_⟩) | ((with_reducible refine gate_callee (f := 114) rfl ?_); refine goesL_ (some 98) rfl rfl Try.func114 (by kernel_rfl) rfl #[.string a0, .int .i64 (wrap64 ((wrap64 (a1 * 256)) + (wrap64 (4 * (a2_0 / 8192))))), .int .i64 (Go.bits .or .i64 (Go.bits .or .i64 (wrap64 (a2_1 * 256)) a2_2) 1)] rfl (by (try simp only [List.map_toArray, List.map_cons, List.map_nil]); first | done | rfl | (simp only [List.length_drop, List.length_take]; rfl)) ?_; (with_reducible refine (spec_SetWord.calls a0 (wrap64 ((wrap64 (a1 * 256)) + (wrap64 (4 * (a2_0 / 8192))))) (Go.bits .or .i64 (Go.bits .or .i64 (wrap64 (a2_1 * 256)) a2_2) 1) t120 _ A34.out).mono ?_); rintro e w36 ⟨rfl, hb⟩; refine ⟨_, rfl, ?_⟩; have n0_ := Sq.l (Kd.V_below (by (with_reducible repeat (first | apply Sq.x | apply Sq.y | apply Sq.z)); exact HO_3.out) hb); have n1_ := Sq.l (Sq.m (g := gb118) (o := .cells #[.int .i64 a2_0, .int .i64 a2_1, .int .i64 a2_2, .bool true] 124 (0, 0)) (by (with_reducible repeat (first | refine Sq.d ?_ _ | refine Sq.e ?_ | refine Sq.f ?_ _)); exact BK118.out) hb); have n2_ := Sq.l (Sq.a4 (by repeat (first | (with_reducible first | exact HB.out | apply Sq.i | apply Sq.j | apply Sq.k | refine Sq.h ?_ GE118.out) | exact HB.out)) hb); clear HO_3; clear BK118; clear HB; have HO_3 := n0_; have BK118 := n1_; have HB := n2_; clear n0_ n1_ n2_; (try clear hb); (try clear hb2); (try clear hk); (try clear hi)))
        go_ret3
        exact ⟨_, by first | rfl | (simp [errW_none, errW_some] <;> rfl) | (simp [*, errW_none, errW_some] <;> rfl), by (with_reducible repeat (first | apply Sq.x | apply Sq.y | apply Sq.z)); exact Sq.a6 HO_3.out (fun _ hk => hk.1), by repeat (first | (with_reducible first | exact HB.out | apply Sq.i | apply Sq.j | apply Sq.k | refine Sq.h ?_ GE118.out) | exact HB.out)⟩
       ·rw [if_neg c33] at H
        have c33b0 : ((Go.bits .and .i64 t119 1) == 0) = false := beq_eq_false_iff_ne.mpr c33
        have c33b1 : ((Go.bits .and .i64 t119 1) != 0) = true := bne_iff_ne.mpr c33
        simp only [Option.some.injEq, Prod.mk.injEq] at H
        obtain ⟨rfl, rfl, rfl⟩ := H
        have hcz37_0 : wc.cell? ⟨gb118, 0, none⟩ = some (.int .i64 a2_0) := (Sq.o BK118.out 0).trans rfl
        have hcz37_1 : wc.cell? ⟨gb118, 1, none⟩ = some (.int .i64 a2_1) := (Sq.o BK118.out 1).trans rfl
        have hcz37_2 : wc.cell? ⟨gb118, 2, none⟩ = some (.int .i64 a2_2) := (Sq.o BK118.out 2).trans rfl
        have hcz37_3 : wc.cell? ⟨gb118, 3, none⟩ = some (.bool true) := (Sq.o BK118.out 3).trans rfl
        have hfz37_0 := Sq.r BK118.out 0
        have hfz37_1 := Sq.r BK118.out 1
        have hfz37_2 := Sq.r BK118.out 2
        have hfz37_3 := Sq.r BK118.out 3
        go_wp2_with (first | ((with_reducible refine gate_callee (f := 113) rfl ?_); refine goesL_ (some 87) rfl rfl Try.func113 (by kernel_rfl) rfl #[.string a0, .int .i64 (wrap64 ((wrap64 (a1 * 256)) + (wrap64 (4 * (a2_0 / 8192)))))] rfl (by (try simp only [List.map_toArray, List.map_cons, List.map_nil]); first | done | rfl | (simp only [List.length_drop, List.length_take]; rfl)) ?_; (with_reducible refine (spec_l01Word.calls a0 (wrap64 ((wrap64 (a1 * 256)) + (wrap64 (4 * (a2_0 / 8192))))) t119 _ A31.out).mono ?_); rintro e w' ⟨rfl, ⟨nd, rfl⟩⟩; refine ⟨_, rfl, ?_⟩))
        go_ret3
        exact ⟨_, by first | rfl | (simp [errW_none, errW_some] <;> rfl) | (simp [*, errW_none, errW_some] <;> rfl), by (with_reducible repeat (first | apply Sq.x | apply Sq.y | apply Sq.z)); exact Sq.a6 HO_3.out (fun _ hk => hk.1), by repeat (first | (with_reducible first | exact HB.out | apply Sq.i | apply Sq.j | apply Sq.k | refine Sq.h ?_ GE118.out) | exact HB.out)⟩
      ·replace c32 := Bool.eq_false_iff.mpr c32
       subst c32
       have H1 : (if (Go.bits .and .i64 t119 1) = 0 then (spec_l03Map.j2 kj8 a0 l3 (Go.bits .or .i64 (Go.bits .or .i64 (wrap64 (a2_1 * 256)) a2_2) 1) (wrap64 ((wrap64 (a1 * 256)) + (wrap64 (4 * (a2_0 / 8192))))) t119 false a2_0 a2_1 a2_2 false) else (spec_l03Map.j2 kj8 a0 l3 (Go.bits .or .i64 (Go.bits .or .i64 (wrap64 (a2_1 * 256)) a2_2) 1) (wrap64 ((wrap64 (a1 * 256)) + (wrap64 (4 * (a2_0 / 8192))))) t119 ((Go.bits .and .i64 t119 14) != 0) a2_0 a2_1 a2_2 false)) = some (r1, r2, r3) := by rw [if_neg (show ¬ (false = true) by decide)] at H; exact H
       clear H
       have H := H1
       clear H1
       have HC38 := Sq.l H
       clear H
       have hcz39_0 : wc.cell? ⟨gb118, 0, none⟩ = some (.int .i64 a2_0) := (Sq.o BK118.out 0).trans rfl
       have hcz39_1 : wc.cell? ⟨gb118, 1, none⟩ = some (.int .i64 a2_1) := (Sq.o BK118.out 1).trans rfl
       have hcz39_2 : wc.cell? ⟨gb118, 2, none⟩ = some (.int .i64 a2_2) := (Sq.o BK118.out 2).trans rfl
       have hcz39_3 : wc.cell? ⟨gb118, 3, none⟩ = some (.bool false) := (Sq.o BK118.out 3).trans rfl
       have hfz39_0 := Sq.r BK118.out 0
       have hfz39_1 := Sq.r BK118.out 1
       have hfz39_2 := Sq.r BK118.out 2
       have hfz39_3 := Sq.r BK118.out 3
       go_upto_region 13 with (first | ((with_reducible refine gate_callee (f := 113) rfl ?_); refine goesL_ (some 87) rfl rfl Try.func113 (by kernel_rfl) rfl #[.string a0, .int .i64 (wrap64 ((wrap64 (a1 * 256)) + (wrap64 (4 * (a2_0 / 8192)))))] rfl (by (try simp only [List.map_toArray, List.map_cons, List.map_nil]); first | done | rfl | (simp only [List.length_drop, List.length_take]; rfl)) ?_; (with_reducible refine (spec_l01Word.calls a0 (wrap64 ((wrap64 (a1 * 256)) + (wrap64 (4 * (a2_0 / 8192))))) t119 _ A31.out).mono ?_); rintro e w' ⟨rfl, ⟨nd, rfl⟩⟩; refine ⟨_, rfl, ?_⟩))
       (try simp only [Act.put, List.setIfInBounds_toArray, List.set_cons_zero, List.set_cons_succ])
       go_cut [107] (fun v107 wc => ∃ (kq : Nat) (x107_37 : Bool), v107 = .bool x107_37 ∧ Aside0 (spec_l03Map.j2 kq a0 l3 (Go.bits .or .i64 (Go.bits .or .i64 (wrap64 (a2_1 * 256)) a2_2) 1) (wrap64 ((wrap64 (a1 * 256)) + (wrap64 (4 * (a2_0 / 8192))))) t119 x107_37 a2_0 a2_1 a2_2 false = some (r1, r2, r3)) ∧ Aside0 (kq ≤ kj8) ∧ Aside0 (Kd.V (Kd.int .i64) 2 wc w.heap.size (fun k_ => (P3_ k_ ∨ w.heap.size ≤ k_) ∧ k_ ≠ gb118) (.slice A3 l3.length c3) l3) ∧ Aside0 (wc.heap[gb118]? = some (.cells #[.int .i64 a2_0, .int .i64 a2_1, .int .i64 a2_2, .bool false] 124 (0, 0))) ∧ Aside0 (Below w.heap.size w wc))
       case first =>
        have H := HC38.out
        clear HC38
        by_cases c40 : (Go.bits .and .i64 t119 1) = 0
        ·rw [if_pos c40] at H
         have c40b0 : ((Go.bits .and .i64 t119 1) == 0) = true := beq_iff_eq.mpr c40
         have c40b1 : ((Go.bits .and .i64 t119 1) != 0) = false := bne_eq_false_iff_eq.mpr c40
         clear c40
         (first | rw [c40b0] | (simp only [i64_w, i32_w]; rw [c40b0]) | skip)
         have H' := Sq.l H
         clear H
         go_wp2
         go_meet
         case rel => exact ⟨_, (false), (by first | rfl | (simp; done) | (simp [*]; done)), H', ⟨by have := HJ4.out; have := HJ8.out; first | omega | exact Nat.le_refl _⟩, ⟨by (with_reducible repeat (first | apply Sq.x | apply Sq.y | apply Sq.z)); exact HO_3.out⟩, ⟨by (with_reducible repeat (first | refine Sq.d ?_ _ | refine Sq.e ?_ | refine Sq.f ?_ _)); exact BK118.out⟩, ⟨by repeat (first | (with_reducible first | exact HB.out | apply Sq.i | apply Sq.j | apply Sq.k | refine Sq.h ?_ GE118.out) | exact HB.out)⟩⟩
        ·rw [if_neg c40] at H
         have c40b0 : ((Go.bits .and .i64 t119 1) == 0) = false := beq_eq_false_iff_ne.mpr c40
         have c40b1 : ((Go.bits .and .i64 t119 1) != 0) = true := bne_iff_ne.mpr c40
         (first | rw [c40b0] | (simp only [i64_w, i32_w]; rw [c40b0]) | skip)
         have H' := Sq.l H
         clear H
         go_wp2
         go_meet
         case rel => exact ⟨_, (((Go.bits .and .i64 t119 14) != 0)), (by first | rfl | (simp; done) | (simp [*]; done)), H', ⟨by have := HJ4.out; have := HJ8.out; first | omega | exact Nat.le_refl _⟩, ⟨by (with_reducible repeat (first | apply Sq.x | apply Sq.y | apply Sq.z)); exact HO_3.out⟩, ⟨by (with_reducible repeat (first | refine Sq.d ?_ _ | refine Sq.e ?_ | refine Sq.f ?_ _)); exact BK118.out⟩, ⟨by repeat (first | (with_reducible first | exact HB.out | apply Sq.i | apply Sq.j | apply Sq.k | refine Sq.h ?_ GE118.out) | exact HB.out)⟩⟩
       case rest =>
        clear HC38; try clear c1; try clear c2; try clear p2; try clear c3; try clear c4; try clear p6; try clear c7; try clear c8; try clear c10; try clear c10b0; try clear c11; try clear c12; try clear c12b0; try clear c14; try clear c14b0; try clear c14b1; try clear c15; try clear c15b0; try clear c15b1; try clear c16; try clear c16b0; try clear c18; try clear c18b0; try clear c20; try clear c21; try clear c21b0; try clear c21b1; try clear c22; try clear c22b0; try clear c22b1; try clear c26; try clear c26b0; try clear c26b1; try clear c30; try clear c32; try clear c33; try clear c33b0; try clear c33b1; try clear c40; try clear c40b0; try clear c40b1; try clear hcz11_0; try clear hcz11_1; try clear hcz11_2; try clear hcz11_3; try clear hcz13_0; try clear hcz13_1; try clear hcz13_2; try clear hcz13_3; try clear hcz17_0; try clear hcz17_1; try clear hcz17_2; try clear hcz17_3; try clear hcz19_0; try clear hcz19_1; try clear hcz19_2; try clear hcz19_3; try clear hcz23_0; try clear hcz23_1; try clear hcz23_2; try clear hcz23_3; try clear hcz24_0; try clear hcz24_1; try clear hcz24_2; try clear hcz24_3; try clear hcz25_0; try clear hcz25_1; try clear hcz25_2; try clear hcz25_3; try clear hcz27_0; try clear hcz27_1; try clear hcz27_2; try clear hcz27_3; try clear hcz28_0; try clear hcz28_1; try clear hcz28_2; try clear hcz28_3; try clear hcz29_0; try clear hcz29_1; try clear hcz29_2; try clear hcz29_3; try clear hcz35_0; try clear hcz35_1; try clear hcz35_2; try clear hcz35_3; try clear hcz37_0; try clear hcz37_1; try clear hcz37_2; try clear hcz37_3; try clear hcz39_0; try clear hcz39_1; try clear hcz39_2; try clear hcz39_3; try clear hcz7_0; try clear hcz7_1; try clear hcz7_2; try clear hcz7_3; try clear hfz11_0; try clear hfz11_1; try clear hfz11_2; try clear hfz11_3; try clear hfz13_0; try clear hfz13_1; try clear hfz13_2; try clear hfz13_3; try clear hfz17_0; try clear hfz17_1; try clear hfz17_2; try clear hfz17_3; try clear hfz19_0; try clear hfz19_1; try clear hfz19_2; try clear hfz19_3; try clear hfz23_0; try clear hfz23_1; try clear hfz23_2; try clear hfz23_3; try clear hfz24_0; try clear hfz24_1; try clear hfz24_2; try clear hfz24_3; try clear hfz25_0; try clear hfz25_1; try clear hfz25_2; try clear hfz25_3; try clear hfz27_0; try clear hfz27_1; try clear hfz27_2; try clear hfz27_3; try clear hfz28_0; try clear hfz28_1; try clear hfz28_2; try clear hfz28_3; try clear hfz29_0; try clear hfz29_1; try clear hfz29_2; try clear hfz29_3; try clear hfz35_0; try clear hfz35_1; try clear hfz35_2; try clear hfz35_3; try clear hfz37_0; try clear hfz37_1; try clear hfz37_2; try clear hfz37_3; try clear hfz39_0; try clear hfz39_1; try clear hfz39_2; try clear hfz39_3; try clear hfz7_0; try clear hfz7_1; try clear hfz7_2; try clear hfz7_3; try clear p2
        obtain ⟨kq, x107_37, rfl, HA, HJ37, HO_3, BK118, HB⟩ := hcut
        cases kq with
        | zero => exact absurd HA.out (by simp [spec_l03Map.j2])
        | succ kj37 =>
         have H := HA.out
         clear HA
         simp only [spec_l03Map.j2] at H
         by_cases c41 : x107_37 = true
         ·subst c41
          have H1 : (some (a0, l3, 9)) = some (r1, r2, r3) := by rw [if_pos rfl] at H; exact H
          clear H
          have H := H1
          clear H1
          simp only [Option.some.injEq, Prod.mk.injEq] at H
          obtain ⟨rfl, rfl, rfl⟩ := H
          go_wp2
          go_ret3
          exact ⟨_, by first | rfl | (simp [errW_none, errW_some] <;> rfl) | (simp [*, errW_none, errW_some] <;> rfl), by (with_reducible repeat (first | apply Sq.x | apply Sq.y | apply Sq.z)); exact Sq.a6 HO_3.out (fun _ hk => hk.1), by repeat (first | (with_reducible first | exact HB.out | apply Sq.i | apply Sq.j | apply Sq.k | refine Sq.h ?_ GE118.out) | exact HB.out)⟩
         ·replace c41 := Bool.eq_false_iff.mpr c41
          subst c41
          have H1 : (if (Go.bits .and .i64 t119 1) = 0 then (if (l3.length : Int) = 0 then (some (a0, l3, 4)) else (if 0 < (l3.length : Int) then (if 1 ≤ (l3.length : Int) then (if 0 ≤ (wrap64 ((rd l3 0) * 256)) then (if (wrap64 ((rd l3 0) * 256)) ≤ (a0.size : Int) then (if 256 ≤ 281474976710656 then ((some (List.replicate 256 0 : List Int)).bind fun y127 => (if (a0.extract 0 ((wrap64 ((rd l3 0) * 256)) : Int).toNat).size + (strOfNums y127).size ≤ 9223372036854775807 then (if 0 ≤ (wrap64 ((wrap64 ((rd l3 0) + 1)) * 256)) then (if (wrap64 ((wrap64 ((rd l3 0) + 1)) * 256)) ≤ (a0.size : Int) then (if ((a0.extract 0 ((wrap64 ((rd l3 0) * 256)) : Int).toNat) ++ (strOfNums y127)).size + (a0.extract ((wrap64 ((wrap64 ((rd l3 0) + 1)) * 256)) : Int).toNat a0.size).size ≤ 9223372036854775807 then ((spec_SetWord.f (((a0.extract 0 ((wrap64 ((rd l3 0) * 256)) : Int).toNat) ++ (strOfNums y127)) ++ (a0.extract ((wrap64 ((wrap64 ((rd l3 0) + 1)) * 256)) : Int).toNat a0.size)) (wrap64 ((wrap64 (a1 * 256)) + (wrap64 (4 * (a2_0 / 8192))))) (Go.bits .or .i64 (wrap64 ((rd l3 0) * 256)) 1)).bind fun t130 => (spec_l03Map.j3 kj37 t130 (l3.drop 1) (Go.bits .or .i64 (Go.bits .or .i64 (wrap64 (a2_1 * 256)) a2_2) 1) (Go.bits .or .i64 (wrap64 ((rd l3 0) * 256)) 1) a2_0 a2_1 a2_2 false)) else (none)) else (none)) else (none)) else (none))) else (none)) else (none)) else (none)) else (none)) else (none))) else (spec_l03Map.j3 kj37 a0 l3 (Go.bits .or .i64 (Go.bits .or .i64 (wrap64 (a2_1 * 256)) a2_2) 1) t119 a2_0 a2_1 a2_2 false)) = some (r1, r2, r3) := by rw [if_neg (show ¬ (false = true) by decide)] at H; exact H
          clear H
          have H := H1
          clear H1
          have HC42 := Sq.l H
          clear H
          go_upto_if 112 with (fail)
          go_cut [0, 3, 14] (fun v0 v3 v14 wc => ∃ (kq : Nat) (x0_41 : ByteArray) (x3_41 : List Int) (x14_41 : Int), v0 = .string x0_41 ∧ v14 = .int .i64 x14_41 ∧ Aside0 (spec_l03Map.j3 kq x0_41 x3_41 (Go.bits .or .i64 (Go.bits .or .i64 (wrap64 (a2_1 * 256)) a2_2) 1) x14_41 a2_0 a2_1 a2_2 false = some (r1, r2, r3)) ∧ Aside0 (kq ≤ kj37) ∧ Aside0 (Kd.V (Kd.int .i64) 2 wc w.heap.size (fun k_ => (P3_ k_ ∨ w.heap.size ≤ k_) ∧ k_ ≠ gb118) v3 x3_41) ∧ Aside0 (wc.heap[gb118]? = some (.cells #[.int .i64 a2_0, .int .i64 a2_1, .int .i64 a2_2, .bool false] 124 (0, 0))) ∧ Aside0 (Below w.heap.size w wc))
          case first =>
           have H := HC42.out
           clear HC42
           by_cases c43 : (Go.bits .and .i64 t119 1) = 0
           ·rw [if_pos c43] at H
            have c43b0 : ((Go.bits .and .i64 t119 1) == 0) = true := beq_iff_eq.mpr c43
            have c43b1 : ((Go.bits .and .i64 t119 1) != 0) = false := bne_eq_false_iff_eq.mpr c43
            clear c43
            (first | rw [c43b0] | (simp only [i64_w, i32_w]; rw [c43b0]) | skip)
            by_cases c44 : (l3.length : Int) = 0
            ·rw [if_pos c44] at H
             have c44b0 : ((l3.length : Int) == 0) = true := beq_iff_eq.mpr c44
             have c44b1 : ((l3.length : Int) != 0) = false := bne_eq_false_iff_eq.mpr c44
             clear c44
             simp only [Option.some.injEq, Prod.mk.injEq] at H
             obtain ⟨rfl, rfl, rfl⟩ := H
             go_wp2
             go_ret3
             exact ⟨_, by first | rfl | (simp [errW_none, errW_some] <;> rfl) | (simp [*, errW_none, errW_some] <;> rfl), by (with_reducible repeat (first | apply Sq.x | apply Sq.y | apply Sq.z)); exact Sq.a6 HO_3.out (fun _ hk => hk.1), by repeat (first | (with_reducible first | exact HB.out | apply Sq.i | apply Sq.j | apply Sq.k | refine Sq.h ?_ GE118.out) | exact HB.out)⟩
            ·rw [if_neg c44] at H
             have c44b0 : ((l3.length : Int) == 0) = false := beq_eq_false_iff_ne.mpr c44
             have c44b1 : ((l3.length : Int) != 0) = true := bne_iff_ne.mpr c44
             have c44b2 : ¬ (l3 = []) := fun h_ => c44 (by rw [h_]; rfl)
             by_cases c45 : 0 < (l3.length : Int)
             ·rw [if_pos c45] at H
              have c45b0 : decide (0 < (l3.length : Int)) = true := decide_eq_true c45
              have c45b1 : decide (0 < l3.length) = true := decide_eq_true (by omega)
              clear c45
              by_cases c46 : 1 ≤ (l3.length : Int)
              ·rw [if_pos c46] at H
               have c46b0 := eq_true c46
               have c46b1 : decide (1 ≤ (l3.length : Int)) = true := decide_eq_true c46
               clear c46
               obtain ⟨y122, hy122⟩ : ∃ y_ : List Int, y_ = (l3.drop 1) := ⟨_, rfl⟩
               replace H : (if 0 ≤ (wrap64 ((rd l3 0) * 256)) then (if (wrap64 ((rd l3 0) * 256)) ≤ (a0.size : Int) then (if 256 ≤ 281474976710656 then ((some (List.replicate 256 0 : List Int)).bind fun y127 => (if (a0.extract 0 ((wrap64 ((rd l3 0) * 256)) : Int).toNat).size + (strOfNums y127).size ≤ 9223372036854775807 then (if 0 ≤ (wrap64 ((wrap64 ((rd l3 0) + 1)) * 256)) then (if (wrap64 ((wrap64 ((rd l3 0) + 1)) * 256)) ≤ (a0.size : Int) then (if ((a0.extract 0 ((wrap64 ((rd l3 0) * 256)) : Int).toNat) ++ (strOfNums y127)).size + (a0.extract ((wrap64 ((wrap64 ((rd l3 0) + 1)) * 256)) : Int).toNat a0.size).size ≤ 9223372036854775807 then ((spec_SetWord.f (((a0.extract 0 ((wrap64 ((rd l3 0) * 256)) : Int).toNat) ++ (strOfNums y127)) ++ (a0.extract ((wrap64 ((wrap64 ((rd l3 0) + 1)) * 256)) : Int).toNat a0.size)) (wrap64 ((wrap64 (a1 * 256)) + (wrap64 (4 * (a2_0 / 8192))))) (Go.bits .or .i64 (wrap64 ((rd l3 0) * 256)) 1)).bind fun t130 => (spec_l03Map.j3 kj37 t130 y122 (Go.bits .or .i64 (Go.bits .or .i64 (wrap64 (a2_1 * 256)) a2_2) 1) (Go.bits .or .i64 (wrap64 ((rd l3 0) * 256)) 1) a2_0 a2_1 a2_2 false)) else (none)) else (none)) else (none)) else (none))) else (none)) else (none)) else (none)) = some (r1, r2, r3) := by first | (rw [hy122]; with_reducible exact H) | (have H2_ := (Option.bind_some _ _).symm.trans H; rw [hy122]; with_reducible exact H2_) | (have H2_ := (Option.bind_some _ _).symm.trans H; with_reducible exact H2_) | with_reducible exact H | (rw [hy122]; exact H) | exact H
               have Ny122 := Sq.l hy122
               clear hy122
               obtain ⟨ji47, hji47⟩ : ∃ j_ : Int, (wrap64 ((rd l3 0) * 256)) = j_ := ⟨_, rfl⟩
               replace H : (if 0 ≤ (ji47) then (if (ji47) ≤ (a0.size : Int) then (if 256 ≤ 281474976710656 then ((some (List.replicate 256 0 : List Int)).bind fun y127 => (if (a0.extract 0 ((ji47) : Int).toNat).size + (strOfNums y127).size ≤ 9223372036854775807 then (if 0 ≤ (wrap64 ((wrap64 ((rd l3 0) + 1)) * 256)) then (if (wrap64 ((wrap64 ((rd l3 0) + 1)) * 256)) ≤ (a0.size : Int) then (if ((a0.extract 0 ((ji47) : Int).toNat) ++ (strOfNums y127)).size + (a0.extract ((wrap64 ((wrap64 ((rd l3 0) + 1)) * 256)) : Int).toNat a0.size).size ≤ 9223372036854775807 then ((spec_SetWord.f (((a0.extract 0 ((ji47) : Int).toNat) ++ (strOfNums y127)) ++ (a0.extract ((wrap64 ((wrap64 ((rd l3 0) + 1)) * 256)) : Int).toNat a0.size)) (wrap64 ((wrap64 (a1 * 256)) + (wrap64 (4 * (a2_0 / 8192))))) (Go.bits .or .i64 (ji47) 1)).bind fun t130 => (spec_l03Map.j3 kj37 t130 y122 (Go.bits .or .i64 (Go.bits .or .i64 (wrap64 (a2_1 * 256)) a2_2) 1) (Go.bits .or .i64 (ji47) 1) a2_0 a2_1 a2_2 false)) else (none)) else (none)) else (none)) else (none))) else (none)) else (none)) else (none)) = some (r1, r2, r3) := by first | (rw [hji47] at H; exact H) | (simp only [hji47] at H ⊢; exact H)
               have hji47w : (IntKind.i64.wrap ((rd l3 0) * 256)) = ji47 := (i64_w _).trans hji47
               by_cases c48 : 0 ≤ (ji47)
               ·rw [if_pos c48] at H
                have c48b0 := eq_true c48
                have c48b1 : decide (0 ≤ (ji47)) = true := decide_eq_true c48
                clear c48
                by_cases c49 : (ji47) ≤ (a0.size : Int)
                ·rw [if_pos c49] at H
                 have c49b0 := eq_true c49
                 have c49b1 : decide ((ji47) ≤ (a0.size : Int)) = true := decide_eq_true c49
                 clear c49
                 by_cases c50 : 256 ≤ 281474976710656
                 ·rw [if_pos c50] at H
                  have c50b0 := eq_true c50
                  have c50b1 : decide (256 ≤ 281474976710656) = true := decide_eq_true c50
                  clear c50
                  obtain ⟨y127, hy127⟩ : ∃ y_ : List Int, y_ = (List.replicate 256 0) := ⟨_, rfl⟩
                  replace H : (if (a0.extract 0 ((ji47) : Int).toNat).size + (strOfNums y127).size ≤ 9223372036854775807 then (if 0 ≤ (wrap64 ((wrap64 ((rd l3 0) + 1)) * 256)) then (if (wrap64 ((wrap64 ((rd l3 0) + 1)) * 256)) ≤ (a0.size : Int) then (if ((a0.extract 0 ((ji47) : Int).toNat) ++ (strOfNums y127)).size + (a0.extract ((wrap64 ((wrap64 ((rd l3 0) + 1)) * 256)) : Int).toNat a0.size).size ≤ 9223372036854775807 then ((spec_SetWord.f (((a0.extract 0 ((ji47) : Int).toNat) ++ (strOfNums y127)) ++ (a0.extract ((wrap64 ((wrap64 ((rd l3 0) + 1)) * 256)) : Int).toNat a0.size)) (wrap64 ((wrap64 (a1 * 256)) + (wrap64 (4 * (a2_0 / 8192))))) (Go.bits .or .i64 (ji47) 1)).bind fun t130 => (spec_l03Map.j3 kj37 t130 y122 (Go.bits .or .i64 (Go.bits .or .i64 (wrap64 (a2_1 * 256)) a2_2) 1) (Go.bits .or .i64 (ji47) 1) a2_0 a2_1 a2_2 false)) else (none)) else (none)) else (none)) else (none)) = some (r1, r2, r3) := by first | (rw [hy127]; with_reducible exact H) | (have H2_ := (Option.bind_some _ _).symm.trans H; rw [hy127]; with_reducible exact H2_) | (have H2_ := (Option.bind_some _ _).symm.trans H; with_reducible exact H2_) | with_reducible exact H | (rw [hy127]; exact H) | exact H
                  have Ny127 := Sq.l hy127
                  clear hy127
                  by_cases c51 : (a0.extract 0 ((ji47) : Int).toNat).size + (strOfNums y127).size ≤ 9223372036854775807
                  ·rw [if_pos c51] at H
                   have c51b0 := eq_true c51
                   have c51b1 : decide ((a0.extract 0 ((ji47) : Int).toNat).size + (strOfNums y127).size ≤ 9223372036854775807) = true := decide_eq_true c51
                   try have c51b2 : (9223372036854775807 < (a0.extract 0 ((ji47) : Int).toNat).size + (strOfNums y127).size) = False := eq_false (Nat.not_lt.2 c51)
                   have c51b3 : (9223372036854775807 < (ji47 : Int).toNat + (strOfNums y127).size) = False := eq_false (by have h_ := c51; rw [ByteArray.size_extract] at h_; have h2_ := of_eq_true c49b0; have h3_ := of_eq_true c48b0; omega)
                   obtain ⟨ji52, hji52⟩ : ∃ j_ : Int, (wrap64 ((wrap64 ((rd l3 0) + 1)) * 256)) = j_ := ⟨_, rfl⟩
                   replace H : (if 0 ≤ (ji52) then (if (ji52) ≤ (a0.size : Int) then (if ((a0.extract 0 ((ji47) : Int).toNat) ++ (strOfNums y127)).size + (a0.extract ((ji52) : Int).toNat a0.size).size ≤ 9223372036854775807 then ((spec_SetWord.f (((a0.extract 0 ((ji47) : Int).toNat) ++ (strOfNums y127)) ++ (a0.extract ((ji52) : Int).toNat a0.size)) (wrap64 ((wrap64 (a1 * 256)) + (wrap64 (4 * (a2_0 / 8192))))) (Go.bits .or .i64 (ji47) 1)).bind fun t130 => (spec_l03Map.j3 kj37 t130 y122 (Go.bits .or .i64 (Go.bits .or .i64 (wrap64 (a2_1 * 256)) a2_2) 1) (Go.bits .or .i64 (ji47) 1) a2_0 a2_1 a2_2 false)) else (none)) else (none)) else (none)) = some (r1, r2, r3) := by first | (rw [hji52] at H; exact H) | (simp only [hji52] at H ⊢; exact H)
                   have hji52w : (IntKind.i64.wrap ((wrap64 ((rd l3 0) + 1)) * 256)) = ji52 := (i64_w _).trans hji52
                   by_cases c53 : 0 ≤ (ji52)
                   ·rw [if_pos c53] at H
                    have c53b0 := eq_true c53
                    have c53b1 : decide (0 ≤ (ji52)) = true := decide_eq_true c53
                    clear c53
                    by_cases c54 : (ji52) ≤ (a0.size : Int)
                    ·rw [if_pos c54] at H
                     have c54b0 := eq_true c54
                     have c54b1 : decide ((ji52) ≤ (a0.size : Int)) = true := decide_eq_true c54
                     clear c54
                     by_cases c55 : ((a0.extract 0 ((ji47) : Int).toNat) ++ (strOfNums y127)).size + (a0.extract ((ji52) : Int).toNat a0.size).size ≤ 9223372036854775807
                     ·rw [if_pos c55] at H
                      have c55b0 := eq_true c55
                      have c55b1 : decide (((a0.extract 0 ((ji47) : Int).toNat) ++ (strOfNums y127)).size + (a0.extract ((ji52) : Int).toNat a0.size).size ≤ 9223372036854775807) = true := decide_eq_true c55
                      try have c55b2 : (9223372036854775807 < ((a0.extract 0 ((ji47) : Int).toNat) ++ (strOfNums y127)).size + (a0.extract ((ji52) : Int).toNat a0.size).size) = False := eq_false (Nat.not_lt.2 c55)
                      have c55b3 : (9223372036854775807 < (ji47 : Int).toNat + (strOfNums y127).size + (a0.size - (ji52 : Int).toNat)) = False := eq_false (by have h_ := c55; rw [ByteArray.size_append, ByteArray.size_extract, ByteArray.size_extract] at h_; have h2_ := of_eq_true c49b0; have h3_ := of_eq_true c48b0; omega)
                      replace H := Option.bind_eq_some_iff.mp H
                      obtain ⟨t130, A560, H⟩ := H
                      replace H : (spec_l03Map.j3 kj37 t130 y122 (Go.bits .or .i64 (Go.bits .or .i64 (wrap64 (a2_1 * 256)) a2_2) 1) (Go.bits .or .i64 (ji47) 1) a2_0 a2_1 a2_2 false) = some (r1, r2, r3) := H
                      have A56 := Sq.l A560
                      clear A560
                      have H' := Sq.l H
                      clear H
                      have p121 : 0 ≤ (0 : Int) := (by omega)
                      have q121 : 0 < (l3.length : Int) := of_decide_eq_true (by first | (with_reducible assumption) | assumption)
                      obtain ⟨ad121, e121, hx121_0⟩ := Kd.at_int (Kd.V_reads' HO_3.out).2.2 0 p121 q121
                      cases e121
                      have qi121 : (0 < l3.length) = True := eq_true (by omega)
                      (try rw [show ((0 : Int)).toNat = 0 from rfl] at hx121_0)
                      (try rw [Addr.add_zero'] at hx121_0)
                      replace p121 := eq_true p121; replace q121 := eq_true q121
                      have q57 : (1 : Int) ≤ ((l3.length : Int) : Int) := of_decide_eq_true (by first | (with_reducible assumption) | assumption)
                      obtain ⟨i057, hi057, _, hsz57, _⟩ := info_parts info2
                      have hroom57 : l3.length ≤ c3 := (Kd.V_reads' HO_3.out).2.1
                      have hC57 : Kd.F (Kd.int .i64) _ _ (some ad121) l3.length l3 := (Kd.V_at (base := w.heap.size) HO_3.out).2.2
                      have hcut57 := cut_from (P := Try.prog) 50 2 .i64 Try.underlying50 hi057 1 hsz57 (some ad121) l3.length c3 1 (by omega) q57
                      have hr57 := Kd.F_cut (m := (1 : Int).toNat) (c := c3) hC57 (by omega) hroom57
                      obtain ⟨A57, hA57⟩ : ∃ A1, A1 = (if c3 = (1 : Int).toNat then (some ad121) else ((some ad121) : Option Addr).map (·.add ((1 : Int).toNat * 1))) := ⟨_, rfl⟩
                      obtain ⟨c57, hc57⟩ : ∃ c1, c1 = c3 - (1 : Int).toNat := ⟨_, rfl⟩
                      have hy57 : y122.length = l3.length - (1 : Int).toNat := (by rw [Ny122.out, List.length_drop] <;> omega)
                      rw [show (l3).drop (1 : Int).toNat = y122 from Ny122.out.symm] at hr57
                      replace hr57 : Kd.F (Kd.int .i64) _ _ A57 y122.length y122 := (by rw [hA57]; exact hr57)
                      rw [← hy57, ← hA57, ← hc57] at hcut57
                      have HO126 := Sq.l (show Kd.V (Kd.int .i64) 2 _ w.heap.size _ (.slice A57 y122.length c57) y122 from Kd.V_mk (by rw [hy57, hc57]; exact Nat.sub_le_sub_right hroom57 _) hr57)
                      have HC126 := Sq.l (show y122.length ≤ c57 from by rw [hy57, hc57]; exact Nat.sub_le_sub_right hroom57 _)
                      clear hr57 hC57 hroom57 hi057 hsz57 hc57
                      have KY57 := Sq.l hy57
                      have KA57 := Sq.l hA57
                      clear hy57 hA57; replace q57 := eq_true q57
                      try go_wp2
                      have n0_ := Sq.l (Sq.z HO_3.out)
                      have n1_ := Sq.l (Sq.z HO126.out)
                      have n2_ := Sq.l (Sq.e BK118.out)
                      have n3_ := Sq.l (Sq.k HB.out)
                      clear HO_3 HO126 BK118 HB; have HO_3 := n0_; have HO126 := n1_; have BK118 := n2_; have HB := n3_; clear n0_ n1_ n2_ n3_
                      refine start_ (n := 14) (S := fun w' => True) (ds := []) #[false, false, false, false, false, false, false, false, false, false, false, false, false, false] (by kernel_rfl) rfl rfl trivial (fun hHeld => ?_); refine with_tabW spec_l03Map.tab20 spec_l03Map.bits20 (fun HT_ HW_ => ?_)
                      generalize wc.drew = w58 at HO_3 HO126 BK118 HB hHeld ⊢
                      refine pure_ (i := 0) (N := some 123) (v := ?_) (a' := ?_) #[true, false, false, false, false, false, false, false, false, false, false, false, false, false] rfl rfl (any_of HT_.out (by kernel_rfl)) (fun _ _ _ h => h) (Or.inl ⟨by rfl, ?_⟩) ?_ ?_
                      rotate_left
                      ·intro w'
                       go_simp
                       with_reducible rfl
                      rotate_left
                      ·simp only [Act.put, List.setIfInBounds_toArray, List.set_cons_zero, List.set_cons_succ, i64_w, i32_w]
                       rfl
                      refine pure_ (i := 1) (N := some 124) (v := ?_) (a' := ?_) #[true, true, false, false, false, false, false, false, false, false, false, false, false, false] rfl rfl (any_of HT_.out (by kernel_rfl)) (fun _ _ _ h => h) (Or.inl ⟨by rfl, ?_⟩) ?_ ?_
                      rotate_left
                      ·intro w'
                       go_simp
                       with_reducible rfl
                      rotate_left
                      ·simp only [Act.put, List.setIfInBounds_toArray, List.set_cons_zero, List.set_cons_succ, i64_w, i32_w]
                       rfl
                      refine pure_ (i := 2) (N := some 125) (v := ?_) (a' := ?_) #[true, true, true, false, false, false, false, false, false, false, false, false, false, false] rfl rfl (any_of HT_.out (by kernel_rfl)) (fun _ _ _ h => h) (Or.inl ⟨by rfl, ?_⟩) ?_ ?_
                      rotate_left
                      ·intro w'
                       go_simp
                       with_reducible rfl
                      rotate_left
                      ·simp only [Act.put, List.setIfInBounds_toArray, List.set_cons_zero, List.set_cons_succ, i64_w, i32_w]
                       rfl
                      refine pure_ (i := 3) (N := some 126) (v := ?_) (a' := ?_) #[true, true, true, true, false, false, false, false, false, false, false, false, false, false] rfl rfl (any_of HT_.out (by kernel_rfl)) (fun _ _ _ h => h) (Or.inl ⟨by rfl, ?_⟩) ?_ ?_
                      rotate_left
                      ·intro w'
                       go_simp
                       with_reducible rfl
                      rotate_left
                      ·simp only [Act.put, List.setIfInBounds_toArray, List.set_cons_zero, List.set_cons_succ, i64_w, i32_w]
                       rfl
                      refine pure_ (i := 7) (N := some 130) (v := ?_) (a' := ?_) #[true, true, true, true, false, false, false, true, false, false, false, false, false, false] rfl rfl (any_of HT_.out (by kernel_rfl)) (fun _ _ _ h => h) (Or.inl ⟨by rfl, ?_⟩) ?_ ?_
                      rotate_left
                      ·intro w'
                       go_simp
                       with_reducible rfl
                      rotate_left
                      ·simp only [Act.put, List.setIfInBounds_toArray, List.set_cons_zero, List.set_cons_succ, i64_w, i32_w]
                       rfl
                      refine pure_ (i := 8) (N := some 131) (v := ?_) (a' := ?_) #[true, true, true, true, false, false, false, true, true, false, false, false, false, false] rfl rfl (any_of HT_.out (by kernel_rfl)) (fun _ _ _ h => h) (Or.inl ⟨by rfl, ?_⟩) ?_ ?_
                      rotate_left
                      ·intro w'
                       go_simp
                       with_reducible rfl
                      rotate_left
                      ·simp only [Act.put, List.setIfInBounds_toArray, List.set_cons_zero, List.set_cons_succ, i64_w, i32_w]
                       rfl
                      refine pure_ (i := 9) (N := some 132) (v := ?_) (a' := ?_) #[true, true, true, true, false, false, false, true, true, true, false, false, false, false] rfl rfl (any_of HT_.out (by kernel_rfl)) (fun _ _ _ h => h) (Or.inl ⟨by rfl, ?_⟩) ?_ ?_
                      rotate_left
                      ·intro w'
                       go_simp
                       with_reducible rfl
                      rotate_left
                      ·simp only [Act.put, List.setIfInBounds_toArray, List.set_cons_zero, List.set_cons_succ, i64_w, i32_w]
                       rfl
                      refine pure_ (i := 10) (N := some 133) (v := ?_) (a' := ?_) #[true, true, true, true, false, false, false, true, true, true, true, false, false, false] rfl rfl (any_of HT_.out (by kernel_rfl)) (fun _ _ _ h => h) (Or.inl ⟨by rfl, ?_⟩) ?_ ?_
                      rotate_left
                      ·intro w'
                       go_simp
                       with_reducible rfl
                      rotate_left
                      ·simp only [Act.put, List.setIfInBounds_toArray, List.set_cons_zero, List.set_cons_succ, i64_w, i32_w]
                       rfl
                      refine pure_ (i := 11) (N := some 134) (v := ?_) (a' := ?_) #[true, true, true, true, false, false, false, true, true, true, true, true, false, false] rfl rfl (any_of HT_.out (by kernel_rfl)) (fun _ _ _ h => h) (Or.inl ⟨by rfl, ?_⟩) ?_ ?_
                      rotate_left
                      ·intro w'
                       go_simp
                       with_reducible rfl
                      rotate_left
                      ·simp only [Act.put, List.setIfInBounds_toArray, List.set_cons_zero, List.set_cons_succ, i64_w, i32_w]
                       rfl
                      refine one_ (i := 4) (N := some 127) #[true, true, true, true, true, false, false, true, true, true, true, true, false, false] rfl rfl (one_of HT_.out (by kernel_rfl)) (by decide) (fun K hK => ?_)
                      refine Kd.R_make_step (Kd.int .u8) _ 5 (by rfl) (N := 127) rfl 130 _ _ rfl 256 rfl rfl Try.underlying130 (.int .u8 0) 1 info5 rfl (by decide) (by omega) 0 (ok := fun _ => True) (okp := fun _ => True) rfl (fun _ hk => hk) trivial (by omega) (by omega) (Below.refl _ _) (Nat.le_refl _) ?_
                      intro v128 w59 ho60 hb hg_ hnew_
                      clear hg_ hnew_
                      (first | rw [← Ny127.out] at ho60 | (simp only [Int.reduceToNat] at ho60; rw [← Ny127.out] at ho60))
                      have n0_ := Sq.l (Kd.V_elder' (by (with_reducible repeat (first | apply Sq.x | apply Sq.y | apply Sq.z)); exact HO_3.out) (Sq.b7 ho60) hb)
                      have n1_ := Sq.l (Kd.V_elder' (by (with_reducible repeat (first | apply Sq.x | apply Sq.y | apply Sq.z)); exact HO126.out) (Sq.b7 ho60) hb)
                      have n2_ := Sq.l (Sq.a2 (Kd.R_newM (M := fun k_ => (w.heap.size ≤ k_)) ho60 (Sq.a5 (by repeat (first | (with_reducible first | exact HB.out | apply Sq.i | apply Sq.j | apply Sq.k | refine Sq.h ?_ GE118.out) | exact HB.out))) (fun k_ h_ => h_)) (Sq.a5 (by repeat (first | (with_reducible first | exact HB.out | apply Sq.i | apply Sq.j | apply Sq.k | refine Sq.h ?_ GE118.out) | exact HB.out))))
                      have n3_ := Sq.l (Sq.m (g := gb118) (o := .cells #[.int .i64 a2_0, .int .i64 a2_1, .int .i64 a2_2, .bool false] 124 (0, 0)) (by (with_reducible repeat (first | refine Sq.d ?_ _ | refine Sq.e ?_ | refine Sq.f ?_ _)); exact BK118.out) hb)
                      have n4_ := Sq.l (Sq.a4 (by repeat (first | (with_reducible first | exact HB.out | apply Sq.i | apply Sq.j | apply Sq.k | refine Sq.h ?_ GE118.out) | exact HB.out)) hb)
                      clear HO_3 HO126 BK118 HB; have HO_3 := n0_; have HO126 := n1_; have HO129 := n2_; have BK118 := n3_; have HB := n4_; clear n0_ n1_ n2_ n3_ n4_ hb ho60
                      refine hK.out _ _ trivial (fun hHeld => ?_)
                      clear hK K
                      refine norm_ (a' := ?_) ?_ ?_
                      rotate_left
                      ·show Act.put _ (some 127) _ = _
                       simp only [Act.put, List.setIfInBounds_toArray, List.set_cons_zero, List.set_cons_succ, i64_w, i32_w]
                       rfl
                      refine one_ (i := 5) (N := some 128) #[true, true, true, true, true, true, false, true, true, true, true, true, false, false] rfl rfl (one_of HT_.out (by kernel_rfl)) (by decide) (fun K hK => ?_)
                      have hcv61 := own_string (P := Try.prog) Try.underlying130 Try.underlying5 Try.underlying9 (Kd.own_of_R HO129.out)
                      refine value_ (w1 := ?_) (v := ?_) (by rfl) rfl ?_ ?_
                      rotate_left 2
                      ·go_simp
                       constructor
                       ·rfl
                       ·rfl
                      clear hcv61
                      refine hK.out _ _ trivial (fun hHeld => ?_)
                      clear hK K
                      refine norm_ (a' := ?_) ?_ ?_
                      rotate_left
                      ·show Act.put _ (some 128) _ = _
                       simp only [Act.put, List.setIfInBounds_toArray, List.set_cons_zero, List.set_cons_succ, i64_w, i32_w]
                       rfl
                      refine pure_ (i := 6) (N := some 129) (v := ?_) (a' := ?_) #[true, true, true, true, true, true, true, true, true, true, true, true, false, false] rfl rfl (any_of HT_.out (by kernel_rfl)) (fun _ _ _ h => h) (Or.inl ⟨by rfl, ?_⟩) ?_ ?_
                      rotate_left
                      ·intro w'
                       go_simp
                       with_reducible rfl
                      rotate_left
                      ·simp only [Act.put, List.setIfInBounds_toArray, List.set_cons_zero, List.set_cons_succ, i64_w, i32_w]
                       rfl
                      refine pure_ (i := 12) (N := some 135) (v := ?_) (a' := ?_) #[true, true, true, true, true, true, true, true, true, true, true, true, true, false] rfl rfl (any_of HT_.out (by kernel_rfl)) (fun _ _ _ h => h) (Or.inl ⟨by rfl, ?_⟩) ?_ ?_
                      rotate_left
                      ·intro w'
                       go_simp
                       with_reducible rfl
                      rotate_left
                      ·simp only [Act.put, List.setIfInBounds_toArray, List.set_cons_zero, List.set_cons_succ, i64_w, i32_w]
                       rfl
                      refine pure_ (i := 13) (N := some 0) (v := ?_) (a' := ?_) #[true, true, true, true, true, true, true, true, true, true, true, true, true, true] rfl rfl (any_of HT_.out (by kernel_rfl)) (fun _ _ _ h => h) (Or.inl ⟨by rfl, ?_⟩) ?_ ?_
                      rotate_left
                      ·intro w'
                       go_simp
                       with_reducible rfl
                      rotate_left
                      ·simp only [Act.put, List.setIfInBounds_toArray, List.set_cons_zero, List.set_cons_succ, i64_w, i32_w]
                       rfl
                      refine done_ (done_of HT_.out (by kernel_rfl)) ?_
                      try go_wp2_with (first | ((with_reducible refine gate_callee (f := 114) rfl ?_); refine goesL_ (some 142) rfl rfl Try.func114 (by kernel_rfl) rfl #[.string (((a0.extract 0 ((ji47) : Int).toNat) ++ (strOfNums y127)) ++ (a0.extract ((ji52) : Int).toNat a0.size)), .int .i64 (wrap64 ((wrap64 (a1 * 256)) + (wrap64 (4 * (a2_0 / 8192))))), .int .i64 (Go.bits .or .i64 (ji47) 1)] rfl (by (try simp only [List.map_toArray, List.map_cons, List.map_nil]); first | done | (simp only [hji47, hji52]; rfl) | rfl | (simp only [List.length_drop, List.length_take]; rfl)) ?_; (with_reducible refine (spec_SetWord.calls (((a0.extract 0 ((ji47) : Int).toNat) ++ (strOfNums y127)) ++ (a0.extract ((ji52) : Int).toNat a0.size)) (wrap64 ((wrap64 (a1 * 256)) + (wrap64 (4 * (a2_0 / 8192))))) (Go.bits .or .i64 (ji47) 1) t130 _ A56.out).mono ?_); rintro e w62 ⟨rfl, hb⟩; refine ⟨_, rfl, ?_⟩; have n0_ := Sq.l (Kd.V_below (by (with_reducible repeat (first | apply Sq.x | apply Sq.y | apply Sq.z)); exact HO_3.out) hb); have n1_ := Sq.l (Kd.V_below (by (with_reducible repeat (first | apply Sq.x | apply Sq.y | apply Sq.z)); exact HO126.out) hb); have n2_ := Sq.l (Sq.n (by (with_reducible repeat (first | apply Sq.a | apply Sq.b | apply Sq.c)); exact HO129.out) hb); have n3_ := Sq.l (Sq.m (g := gb118) (o := .cells #[.int .i64 a2_0, .int .i64 a2_1, .int .i64 a2_2, .bool false] 124 (0, 0)) (by (with_reducible repeat (first | refine Sq.d ?_ _ | refine Sq.e ?_ | refine Sq.f ?_ _)); exact BK118.out) hb); have n4_ := Sq.l (Sq.a4 (by repeat (first | (with_reducible first | exact HB.out | apply Sq.i | apply Sq.j | apply Sq.k | refine Sq.h ?_ GE118.out) | exact HB.out)) hb); clear HO_3; clear HO126; clear HO129; clear BK118; clear HB; have HO_3 := n0_; have HO126 := n1_; have HO129 := n2_; have BK118 := n3_; have HB := n4_; clear n0_ n1_ n2_ n3_ n4_; (try clear hb); (try clear hb2); (try clear hk); (try clear hi)))
                      go_meet
                      case rel => exact ⟨_, (t130), (y122), (Go.bits .or .i64 (ji47) 1), (by first | rfl | (simp; done) | (simp [*]; done)), (by first | rfl | (simp; done) | (simp only [← hji47] <;> (first | rfl | simp)) | (simp [*]; done)), H', ⟨by have := HJ4.out; have := HJ8.out; have := HJ37.out; first | omega | exact Nat.le_refl _⟩, ⟨by (with_reducible repeat (first | apply Sq.x | apply Sq.y | apply Sq.z)); exact Sq.a6 HO126.out (fun _ hk => ⟨hk.1.1, hk.1.2⟩)⟩, ⟨by (with_reducible repeat (first | refine Sq.d ?_ _ | refine Sq.e ?_ | refine Sq.f ?_ _)); exact BK118.out⟩, ⟨by repeat (first | (with_reducible first | exact HB.out | apply Sq.i | apply Sq.j | apply Sq.k | refine Sq.h ?_ GE118.out) | exact HB.out)⟩⟩
                     ·rw [if_neg c55] at H
                      exact absurd H (by simp)
                    ·rw [if_neg c54] at H
                     exact absurd H (by simp)
                   ·rw [if_neg c53] at H
                    exact absurd H (by simp)
                  ·rw [if_neg c51] at H
                   exact absurd H (by simp)
                 ·rw [if_neg c50] at H
                  exact absurd H (by simp)
                ·rw [if_neg c49] at H
                 exact absurd H (by simp)
               ·rw [if_neg c48] at H
                exact absurd H (by simp)
              ·rw [if_neg c46] at H
               exact absurd H (by simp)
             ·rw [if_neg c45] at H
              exact absurd H (by simp)
           ·rw [if_neg c43] at H
            have c43b0 : ((Go.bits .and .i64 t119 1) == 0) = false := beq_eq_false_iff_ne.mpr c43
            have c43b1 : ((Go.bits .and .i64 t119 1) != 0) = true := bne_iff_ne.mpr c43
            (first | rw [c43b0] | (simp only [i64_w, i32_w]; rw [c43b0]) | skip)
            have H' := Sq.l H
            clear H
            go_wp2
            go_meet
            case rel => exact ⟨_, (a0), (l3), (t119), (by first | rfl | (simp; done) | (simp [*]; done)), (by first | rfl | (simp; done) | (simp [*]; done)), H', ⟨by have := HJ4.out; have := HJ8.out; have := HJ37.out; first | omega | exact Nat.le_refl _⟩, ⟨by (with_reducible repeat (first | apply Sq.x | apply Sq.y | apply Sq.z)); exact HO_3.out⟩, ⟨by (with_reducible repeat (first | refine Sq.d ?_ _ | refine Sq.e ?_ | refine Sq.f ?_ _)); exact BK118.out⟩, ⟨by repeat (first | (with_reducible first | exact HB.out | apply Sq.i | apply Sq.j | apply Sq.k | refine Sq.h ?_ GE118.out) | exact HB.out)⟩⟩
          case rest =>
           clear HC42; try clear c1; try clear p1; try clear q1; try clear hx1; try clear qi1; try clear c2; try clear p2; try clear c3; try clear c4; try clear c5; try clear q5; try clear p6; try clear hcv6; try clear c7; try clear c8; try clear c10; try clear c10b0; try clear c11; try clear c12; try clear c12b0; try clear p12; try clear q12; try clear hx12; try clear qi12; try clear c14; try clear c14b0; try clear c14b1; try clear c15; try clear c15b0; try clear c15b1; try clear c16; try clear c16b0; try clear c18; try clear c18b0; try clear c20; try clear c21; try clear c21b0; try clear c21b1; try clear c22; try clear c22b0; try clear c22b1; try clear c26; try clear c26b0; try clear c26b1; try clear c30; try clear c32; try clear c33; try clear c33b0; try clear c33b1; try clear c40; try clear c40b0; try clear c40b1; try clear c41; try clear c43; try clear c43b0; try clear c43b1; try clear c44; try clear c44b0; try clear c44b1; try clear c44b2; try clear c45; try clear c45b0; try clear c45b1; try clear c46; try clear c46b0; try clear c46b1; try clear c48; try clear c48b0; try clear c48b1; try clear c49; try clear c49b0; try clear c49b1; try clear c50; try clear c50b0; try clear c50b1; try clear c51; try clear c51b0; try clear c51b1; try clear c51b2; try clear c53; try clear c53b0; try clear c53b1; try clear c54; try clear c54b0; try clear c54b1; try clear c55; try clear c55b0; try clear c55b1; try clear c55b2; try clear c57; try clear q57; try clear hcv61; try clear hcz11_0; try clear hcz11_1; try clear hcz11_2; try clear hcz11_3; try clear hcz13_0; try clear hcz13_1; try clear hcz13_2; try clear hcz13_3; try clear hcz17_0; try clear hcz17_1; try clear hcz17_2; try clear hcz17_3; try clear hcz19_0; try clear hcz19_1; try clear hcz19_2; try clear hcz19_3; try clear hcz23_0; try clear hcz23_1; try clear hcz23_2; try clear hcz23_3; try clear hcz24_0; try clear hcz24_1; try clear hcz24_2; try clear hcz24_3; try clear hcz25_0; try clear hcz25_1; try clear hcz25_2; try clear hcz25_3; try clear hcz27_0; try clear hcz27_1; try clear hcz27_2; try clear hcz27_3; try clear hcz28_0; try clear hcz28_1; try clear hcz28_2; try clear hcz28_3; try clear hcz29_0; try clear hcz29_1; try clear hcz29_2; try clear hcz29_3; try clear hcz35_0; try clear hcz35_1; try clear hcz35_2; try clear hcz35_3; try clear hcz37_0; try clear hcz37_1; try clear hcz37_2; try clear hcz37_3; try clear hcz39_0; try clear hcz39_1; try clear hcz39_2; try clear hcz39_3; try clear hcz7_0; try clear hcz7_1; try clear hcz7_2; try clear hcz7_3; try clear hfz11_0; try clear hfz11_1; try clear hfz11_2; try clear hfz11_3; try clear hfz13_0; try clear hfz13_1; try clear hfz13_2; try clear hfz13_3; try clear hfz17_0; try clear hfz17_1; try clear hfz17_2; try clear hfz17_3; try clear hfz19_0; try clear hfz19_1; try clear hfz19_2; try clear hfz19_3; try clear hfz23_0; try clear hfz23_1; try clear hfz23_2; try clear hfz23_3; try clear hfz24_0; try clear hfz24_1; try clear hfz24_2; try clear hfz24_3; try clear hfz25_0; try clear hfz25_1; try clear hfz25_2; try clear hfz25_3; try clear hfz27_0; try clear hfz27_1; try clear hfz27_2; try clear hfz27_3; try clear hfz28_0; try clear hfz28_1; try clear hfz28_2; try clear hfz28_3; try clear hfz29_0; try clear hfz29_1; try clear hfz29_2; try clear hfz29_3; try clear hfz35_0; try clear hfz35_1; try clear hfz35_2; try clear hfz35_3; try clear hfz37_0; try clear hfz37_1; try clear hfz37_2; try clear hfz37_3; try clear hfz39_0; try clear hfz39_1; try clear hfz39_2; try clear hfz39_3; try clear hfz7_0; try clear hfz7_1; try clear hfz7_2; try clear hfz7_3; try clear hx121_0; try clear p121; try clear p2; try clear p6; try clear q121; try clear q57
           obtain ⟨kq, x0_41, x3_41, x14_41, rfl, rfl, HA, HJ41, HO_3, BK118, HB⟩ := hcut
           cases kq with
           | zero => exact absurd HA.out (by simp [spec_l03Map.j3])
           | succ kj41 =>
            have H := HA.out
            clear HA
            simp only [spec_l03Map.j3] at H
            replace H := Option.bind_eq_some_iff.mp H
            obtain ⟨⟨t131, t132⟩, A630, H⟩ := H
            replace H : (if t132 = true then (if (Go.bits .and .i64 t131 1) = 0 then ((spec_SetWord.f x0_41 (wrap64 ((wrap64 ((x14_41 / 256) * 256)) + (wrap64 (4 * (Int.tmod (a2_0 / 256) 32))))) (Go.bits .or .i64 (Go.bits .or .i64 (wrap64 (a2_1 * 256)) a2_2) 1)).bind fun t133 => (some (t133, x3_41, 0))) else (some (x0_41, x3_41, 9))) else (some (x0_41, x3_41, 9))) = some (r1, r2, r3) := H
            have A63 := Sq.l A630
            clear A630
            by_cases c64 : t132 = true
            ·subst c64
             have H1 : (if (Go.bits .and .i64 t131 1) = 0 then ((spec_SetWord.f x0_41 (wrap64 ((wrap64 ((x14_41 / 256) * 256)) + (wrap64 (4 * (Int.tmod (a2_0 / 256) 32))))) (Go.bits .or .i64 (Go.bits .or .i64 (wrap64 (a2_1 * 256)) a2_2) 1)).bind fun t133 => (some (t133, x3_41, 0))) else (some (x0_41, x3_41, 9))) = some (r1, r2, r3) := by rw [if_pos rfl] at H; exact H
             clear H
             have H := H1
             clear H1
             by_cases c65 : (Go.bits .and .i64 t131 1) = 0
             ·rw [if_pos c65] at H
              have c65b0 : ((Go.bits .and .i64 t131 1) == 0) = true := beq_iff_eq.mpr c65
              have c65b1 : ((Go.bits .and .i64 t131 1) != 0) = false := bne_eq_false_iff_eq.mpr c65
              clear c65
              replace H := Option.bind_eq_some_iff.mp H
              obtain ⟨t133, A660, H⟩ := H
              replace H : (some (t133, x3_41, 0)) = some (r1, r2, r3) := H
              have A66 := Sq.l A660
              clear A660
              simp only [Option.some.injEq, Prod.mk.injEq] at H
              obtain ⟨rfl, rfl, rfl⟩ := H
              have hcz67_0 : wc.cell? ⟨gb118, 0, none⟩ = some (.int .i64 a2_0) := (Sq.o BK118.out 0).trans rfl
              have hcz67_1 : wc.cell? ⟨gb118, 1, none⟩ = some (.int .i64 a2_1) := (Sq.o BK118.out 1).trans rfl
              have hcz67_2 : wc.cell? ⟨gb118, 2, none⟩ = some (.int .i64 a2_2) := (Sq.o BK118.out 2).trans rfl
              have hcz67_3 : wc.cell? ⟨gb118, 3, none⟩ = some (.bool false) := (Sq.o BK118.out 3).trans rfl
              have hfz67_0 := Sq.r BK118.out 0
              have hfz67_1 := Sq.r BK118.out 1
              have hfz67_2 := Sq.r BK118.out 2
              have hfz67_3 := Sq.r BK118.out 3
              go_wp2_with (first | ((with_reducible refine gate_callee (f := 115) rfl ?_); refine goesL_ (some 151) rfl rfl Try.func115 (by kernel_rfl) rfl #[.string x0_41, .int .i64 (x14_41 / 256), .int .i64 (Int.tmod (a2_0 / 256) 32)] rfl (by (try simp only [List.map_toArray, List.map_cons, List.map_nil]); first | done | rfl | (simp only [List.length_drop, List.length_take]; rfl)) ?_; (with_reducible refine (spec_l03Entry.calls x0_41 (x14_41 / 256) (Int.tmod (a2_0 / 256) 32) t131 true _ A63.out).mono ?_); rintro e w' ⟨rfl, ⟨nd, rfl⟩⟩; refine ⟨_, rfl, ?_⟩) | ((with_reducible refine gate_callee (f := 114) rfl ?_); refine goesL_ (some 174) rfl rfl Try.func114 (by kernel_rfl) rfl #[.string x0_41, .int .i64 (wrap64 ((wrap64 ((x14_41 / 256) * 256)) + (wrap64 (4 * (Int.tmod (a2_0 / 256) 32))))), .int .i64 (Go.bits .or .i64 (Go.bits .or .i64 (wrap64 (a2_1 * 256)) a2_2) 1)] rfl (by (try simp only [List.map_toArray, List.map_cons, List.map_nil]); first | done | rfl | (simp only [List.length_drop, List.length_take]; rfl)) ?_; (with_reducible refine (spec_SetWord.calls x0_41 (wrap64 ((wrap64 ((x14_41 / 256) * 256)) + (wrap64 (4 * (Int.tmod (a2_0 / 256) 32))))) (Go.bits .or .i64 (Go.bits .or .i64 (wrap64 (a2_1 * 256)) a2_2) 1) t133 _ A66.out).mono ?_); rintro e w68 ⟨rfl, hb⟩; refine ⟨_, rfl, ?_⟩; have n0_ := Sq.l (Kd.V_below (by (with_reducible repeat (first | apply Sq.x | apply Sq.y | apply Sq.z)); exact HO_3.out) hb); have n1_ := Sq.l (Sq.m (g := gb118) (o := .cells #[.int .i64 a2_0, .int .i64 a2_1, .int .i64 a2_2, .bool false] 124 (0, 0)) (by (with_reducible repeat (first | refine Sq.d ?_ _ | refine Sq.e ?_ | refine Sq.f ?_ _)); exact BK118.out) hb); have n2_ := Sq.l (Sq.a4 (by repeat (first | (with_reducible first | exact HB.out | apply Sq.i | apply Sq.j | apply Sq.k | refine Sq.h ?_ GE118.out) | exact HB.out)) hb); clear HO_3; clear BK118; clear HB; have HO_3 := n0_; have BK118 := n1_; have HB := n2_; clear n0_ n1_ n2_; (try clear hb); (try clear hb2); (try clear hk); (try clear hi)))
              go_ret3
              exact ⟨_, by first | rfl | (simp [errW_none, errW_some] <;> rfl) | (simp [*, errW_none, errW_some] <;> rfl), by (with_reducible repeat (first | apply Sq.x | apply Sq.y | apply Sq.z)); exact Sq.a6 HO_3.out (fun _ hk => hk.1), by repeat (first | (with_reducible first | exact HB.out | apply Sq.i | apply Sq.j | apply Sq.k | refine Sq.h ?_ GE118.out) | exact HB.out)⟩
             ·rw [if_neg c65] at H
              have c65b0 : ((Go.bits .and .i64 t131 1) == 0) = false := beq_eq_false_iff_ne.mpr c65
              have c65b1 : ((Go.bits .and .i64 t131 1) != 0) = true := bne_iff_ne.mpr c65
              simp only [Option.some.injEq, Prod.mk.injEq] at H
              obtain ⟨rfl, rfl, rfl⟩ := H
              have hcz69_0 : wc.cell? ⟨gb118, 0, none⟩ = some (.int .i64 a2_0) := (Sq.o BK118.out 0).trans rfl
              have hcz69_1 : wc.cell? ⟨gb118, 1, none⟩ = some (.int .i64 a2_1) := (Sq.o BK118.out 1).trans rfl
              have hcz69_2 : wc.cell? ⟨gb118, 2, none⟩ = some (.int .i64 a2_2) := (Sq.o BK118.out 2).trans rfl
              have hcz69_3 : wc.cell? ⟨gb118, 3, none⟩ = some (.bool false) := (Sq.o BK118.out 3).trans rfl
              have hfz69_0 := Sq.r BK118.out 0
              have hfz69_1 := Sq.r BK118.out 1
              have hfz69_2 := Sq.r BK118.out 2
              have hfz69_3 := Sq.r BK118.out 3
              go_wp2_with (first | ((with_reducible refine gate_callee (f := 115) rfl ?_); refine goesL_ (some 151) rfl rfl Try.func115 (by kernel_rfl) rfl #[.string x0_41, .int .i64 (x14_41 / 256), .int .i64 (Int.tmod (a2_0 / 256) 32)] rfl (by (try simp only [List.map_toArray, List.map_cons, List.map_nil]); first | done | rfl | (simp only [List.length_drop, List.length_take]; rfl)) ?_; (with_reducible refine (spec_l03Entry.calls x0_41 (x14_41 / 256) (Int.tmod (a2_0 / 256) 32) t131 true _ A63.out).mono ?_); rintro e w' ⟨rfl, ⟨nd, rfl⟩⟩; refine ⟨_, rfl, ?_⟩))
              go_ret3
              exact ⟨_, by first | rfl | (simp [errW_none, errW_some] <;> rfl) | (simp [*, errW_none, errW_some] <;> rfl), by (with_reducible repeat (first | apply Sq.x | apply Sq.y | apply Sq.z)); exact Sq.a6 HO_3.out (fun _ hk => hk.1), by repeat (first | (with_reducible first | exact HB.out | apply Sq.i | apply Sq.j | apply Sq.k | refine Sq.h ?_ GE118.out) | exact HB.out)⟩
            ·replace c64 := Bool.eq_false_iff.mpr c64
             subst c64
             have H1 : (some (x0_41, x3_41, 9)) = some (r1, r2, r3) := by rw [if_neg (show ¬ (false = true) by decide)] at H; exact H
             clear H
             have H := H1
             clear H1
             simp only [Option.some.injEq, Prod.mk.injEq] at H
             obtain ⟨rfl, rfl, rfl⟩ := H
             have hcz70_0 : wc.cell? ⟨gb118, 0, none⟩ = some (.int .i64 a2_0) := (Sq.o BK118.out 0).trans rfl
             have hcz70_1 : wc.cell? ⟨gb118, 1, none⟩ = some (.int .i64 a2_1) := (Sq.o BK118.out 1).trans rfl
             have hcz70_2 : wc.cell? ⟨gb118, 2, none⟩ = some (.int .i64 a2_2) := (Sq.o BK118.out 2).trans rfl
             have hcz70_3 : wc.cell? ⟨gb118, 3, none⟩ = some (.bool false) := (Sq.o BK118.out 3).trans rfl
             have hfz70_0 := Sq.r BK118.out 0
             have hfz70_1 := Sq.r BK118.out 1
             have hfz70_2 := Sq.r BK118.out 2
             have hfz70_3 := Sq.r BK118.out 3
             go_wp2_with (first | ((with_reducible refine gate_callee (f := 115) rfl ?_); refine goesL_ (some 151) rfl rfl Try.func115 (by kernel_rfl) rfl #[.string x0_41, .int .i64 (x14_41 / 256), .int .i64 (Int.tmod (a2_0 / 256) 32)] rfl (by (try simp only [List.map_toArray, List.map_cons, List.map_nil]); first | done | rfl | (simp only [List.length_drop, List.length_take]; rfl)) ?_; (with_reducible refine (spec_l03Entry.calls x0_41 (x14_41 / 256) (Int.tmod (a2_0 / 256) 32) t131 false _ A63.out).mono ?_); rintro e w' ⟨rfl, ⟨nd, rfl⟩⟩; refine ⟨_, rfl, ?_⟩))
             go_ret3
             exact ⟨_, by first | rfl | (simp [errW_none, errW_some] <;> rfl) | (simp [*, errW_none, errW_some] <;> rfl), by (with_reducible repeat (first | apply Sq.x | apply Sq.y | apply Sq.z)); exact Sq.a6 HO_3.out (fun _ hk => hk.1), by repeat (first | (with_reducible first | exact HB.out | apply Sq.i | apply Sq.j | apply Sq.k | refine Sq.h ?_ GE118.out) | exact HB.out)⟩

end Go.Proofs.Ytmajbehafgajmaa.QFnExactMapPages
