-- Written for this claim by this session's own driver (wip/xprint.py).
import Derived.Test.YtmajbehafgajmaaQFnExactMemHostFaultx0
import Derived.Test.YtmajbehafgajmaaQFnExactMemHostFaultx6
import Derived.Test.YtmajbehafgajmaaQFnExactMemHostFaultx7
namespace Go.Proofs.Ytmajbehafgajmaa.QFnExactMemHostFault
open Go.RowKit Go.Proofs.YtmajbehafgajmaaW.PrintWords Go.Proofs.YtmajbehafgajmaaW.PrintLast Go.Proofs.YtmajbehafgajmaaW.PrintMore
attribute [local go_sem] max2_int min2_int max_two min_two max_three min_three max_four min_four   -- for this text's walks alone
set_option linter.unusedVariables false
set_option linter.unusedSimpArgs false

/-! ### impl_MemHostFault: function 11 -/
mutual
def impl_MemHostFault.j0 : Nat → Bool → List ByteArray → List ByteArray → List (S90) → Int → Option (Int)
 | 0, _, _, _, _, _ => none
 | k + 1, x43, x223000, x223001, x223002, x223003 => if x43 = true then (some 1) else ((some (([x223000, x223001] : List (List ByteArray)) : List (List ByteArray))).bind fun y225 => (impl_MemHostFault.l0 k y225 (y225.length : Int) 0 x223000 x223001 x223002 x223003))
def impl_MemHostFault.l0 : Nat → List (List ByteArray) → Int → Int → List ByteArray → List ByteArray → List (S90) → Int → Option (Int)
 | 0, _, _, _, _, _, _, _ => none
 | k + 1, x48, x49, x50, x223000, x223001, x223002, x223003 => if x50 < x49 then (if 0 ≤ x50 then (if x50 < (x48.length : Int) then (impl_MemHostFault.l1 k x48 x49 x50 (rd_L9 x48 x50) ((rd_L9 x48 x50).length : Int) 0 x223000 x223001 x223002 x223003) else (none)) else (none)) else (impl_MemHostFault.l2 k x223002 (x223002.length : Int) 0 x223000 x223001 x223002 x223003)
def impl_MemHostFault.l1 : Nat → List (List ByteArray) → Int → Int → List ByteArray → Int → Int → List ByteArray → List ByteArray → List (S90) → Int → Option (Int)
 | 0, _, _, _, _, _, _, _, _, _, _ => none
 | k + 1, x48, x49, x50, x54, x55, x56, x223000, x223001, x223002, x223003 => if x56 < x55 then (if 0 ≤ x56 then (if x56 < (x54.length : Int) then (if ((rdOf ByteArray.empty x54 x56).size : Int) = 0 then (impl_MemHostFault.l1 k x48 x49 x50 x54 x55 (wrap64 (x56 + 1)) x223000 x223001 x223002 x223003) else (if ((rdOf ByteArray.empty x54 x56).size : Int) = 16 then (impl_MemHostFault.l1 k x48 x49 x50 x54 x55 (wrap64 (x56 + 1)) x223000 x223001 x223002 x223003) else (some 1))) else (none)) else (none)) else (impl_MemHostFault.l0 k x48 x49 (wrap64 (x50 + 1)) x223000 x223001 x223002 x223003)
def impl_MemHostFault.l2 : Nat → List (S90) → Int → Int → List ByteArray → List ByteArray → List (S90) → Int → Option (Int)
 | 0, _, _, _, _, _, _, _ => none
 | k + 1, x71, x72, x73, x223000, x223001, x223002, x223003 => if x73 < x72 then (if 0 ≤ x73 then (if x73 < (x71.length : Int) then (if (((rd_T90 x71 x73).f0).length : Int) > 32 then (impl_MemHostFault.j4 k x71 x72 x73 true x223000 x223001 x223002 x223003 ((rd_T90 x71 x73).f0) ((rd_T90 x71 x73).f1) ((rd_T90 x71 x73).f2)) else (impl_MemHostFault.j4 k x71 x72 x73 (decide ((((rd_T90 x71 x73).f1).size : Int) > 4)) x223000 x223001 x223002 x223003 ((rd_T90 x71 x73).f0) ((rd_T90 x71 x73).f1) ((rd_T90 x71 x73).f2))) else (none)) else (none)) else (impl_MemHostFault.l5 k x223000 (x223000.length : Int) 0 x223000 x223001 x223002 x223003)
def impl_MemHostFault.j4 : Nat → List (S90) → Int → Int → Bool → List ByteArray → List ByteArray → List (S90) → Int → List (S97) → ByteArray → List Int → Option (Int)
 | 0, _, _, _, _, _, _, _, _, _, _, _ => none
 | k + 1, x71, x72, x73, x86, x223000, x223001, x223002, x223003, x232000, x232001, x232002 => if x86 = true then (some 1) else (impl_MemHostFault.l3 k x71 x72 x73 x232000 (x232000.length : Int) 0 x223000 x223001 x223002 x223003 x232000 x232001 x232002)
def impl_MemHostFault.l3 : Nat → List (S90) → Int → Int → List (S97) → Int → Int → List ByteArray → List ByteArray → List (S90) → Int → List (S97) → ByteArray → List Int → Option (Int)
 | 0, _, _, _, _, _, _, _, _, _, _, _, _, _ => none
 | k + 1, x71, x72, x73, x88, x89, x90, x223000, x223001, x223002, x223003, x232000, x232001, x232002 => if x90 < x89 then (if 0 ≤ x90 then (if x90 < (x88.length : Int) then ((impl_yin.f ((rd_T97 x88 x90).f2) 0 x223003).bind fun t234 => (if t234 = true then (if ((rd_T97 x88 x90).f0) = 0 then (if (((rd_T97 x88 x90).f1) = 0) then (impl_MemHostFault.l3 k x71 x72 x73 x88 x89 (wrap64 (x90 + 1)) x223000 x223001 x223002 x223003 x232000 x232001 x232002) else (some 1)) else (if ((rd_T97 x88 x90).f0) = 1 then ((impl_yin.f ((rd_T97 x88 x90).f1) 0 (wrap64 ((x223000.length : Int) - 1))).bind fun t235 => (if t235 = true then (if 0 ≤ ((rd_T97 x88 x90).f1) then (if ((rd_T97 x88 x90).f1) < (x223000.length : Int) then (if (rdOf ByteArray.empty x223000 ((rd_T97 x88 x90).f1)).toList = ([] : List UInt8) then (some 1) else (impl_MemHostFault.l3 k x71 x72 x73 x88 x89 (wrap64 (x90 + 1)) x223000 x223001 x223002 x223003 x232000 x232001 x232002)) else (none)) else (none)) else (some 1))) else (if ((rd_T97 x88 x90).f0) = 2 then ((impl_yin.f ((rd_T97 x88 x90).f1) 0 (wrap64 ((x223001.length : Int) - 1))).bind fun t237 => (if t237 = true then (if 0 ≤ ((rd_T97 x88 x90).f1) then (if ((rd_T97 x88 x90).f1) < (x223001.length : Int) then (if (rdOf ByteArray.empty x223001 ((rd_T97 x88 x90).f1)).toList = ([] : List UInt8) then (some 1) else (impl_MemHostFault.l3 k x71 x72 x73 x88 x89 (wrap64 (x90 + 1)) x223000 x223001 x223002 x223003 x232000 x232001 x232002)) else (none)) else (none)) else (some 1))) else (some 1)))) else (some 1))) else (none)) else (none)) else (impl_MemHostFault.l4 k (x232000.length : Int) x71 x72 x73 x223000 x223001 x223002 x223003 x232000 x232001 x232002)
def impl_MemHostFault.l4 : Nat → Int → List (S90) → Int → Int → List ByteArray → List ByteArray → List (S90) → Int → List (S97) → ByteArray → List Int → Option (Int)
 | 0, _, _, _, _, _, _, _, _, _, _, _ => none
 | k + 1, x12, x71, x72, x73, x223000, x223001, x223002, x223003, x232000, x232001, x232002 => if x12 < 32 then ((impl_yhasBit.f x232001 x12).bind fun t239 => (if t239 = true then (some 1) else (impl_MemHostFault.l4 k (wrap64 (x12 + 1)) x71 x72 x73 x223000 x223001 x223002 x223003 x232000 x232001 x232002))) else (impl_MemHostFault.l2 k x71 x72 (wrap64 (x73 + 1)) x223000 x223001 x223002 x223003)
def impl_MemHostFault.l5 : Nat → List ByteArray → Int → Int → List ByteArray → List ByteArray → List (S90) → Int → Option (Int)
 | 0, _, _, _, _, _, _, _ => none
 | k + 1, x159, x160, x161, x223000, x223001, x223002, x223003 => if x161 < x160 then (if 0 ≤ x161 then (if x161 < (x159.length : Int) then (if (rdOf ByteArray.empty x159 x161).toList = ([] : List UInt8) then (impl_MemHostFault.l5 k x159 x160 (wrap64 (x161 + 1)) x223000 x223001 x223002 x223003) else ((impl_MemHost_yusers.f k x223000 x223001 x223002 x223003 1 x161).bind fun t241 => (if t241 = 0 then (some 1) else (impl_MemHostFault.l5 k x159 x160 (wrap64 (x161 + 1)) x223000 x223001 x223002 x223003)))) else (none)) else (none)) else (impl_MemHostFault.l6 k x223001 (x223001.length : Int) 0 x223000 x223001 x223002 x223003)
def impl_MemHostFault.l6 : Nat → List ByteArray → Int → Int → List ByteArray → List ByteArray → List (S90) → Int → Option (Int)
 | 0, _, _, _, _, _, _, _ => none
 | k + 1, x176, x177, x178, x223000, x223001, x223002, x223003 => if x178 < x177 then (if 0 ≤ x178 then (if x178 < (x176.length : Int) then (if (rdOf ByteArray.empty x176 x178).toList = ([] : List UInt8) then (impl_MemHostFault.l6 k x176 x177 (wrap64 (x178 + 1)) x223000 x223001 x223002 x223003) else ((impl_MemHost_yusers.f k x223000 x223001 x223002 x223003 2 x178).bind fun t243 => (if t243 = 1 then (impl_MemHostFault.l6 k x176 x177 (wrap64 (x178 + 1)) x223000 x223001 x223002 x223003) else (some 1)))) else (none)) else (none)) else (impl_MemHostFault.l7 k x223002 (x223002.length : Int) 0 x223000 x223001 x223002 x223003)
def impl_MemHostFault.l7 : Nat → List (S90) → Int → Int → List ByteArray → List ByteArray → List (S90) → Int → Option (Int)
 | 0, _, _, _, _, _, _, _ => none
 | k + 1, x193, x194, x195, x223000, x223001, x223002, x223003 => if x195 < x194 then (if 0 ≤ x195 then (if x195 < (x193.length : Int) then (impl_MemHostFault.l8 k x193 x194 x195 ((rd_T90 x193 x195).f2) (((rd_T90 x193 x195).f2).length : Int) 0 x223000 x223001 x223002 x223003 ((rd_T90 x193 x195).f0) ((rd_T90 x193 x195).f1) ((rd_T90 x193 x195).f2)) else (none)) else (none)) else (some 0)
def impl_MemHostFault.l8 : Nat → List (S90) → Int → Int → List Int → Int → Int → List ByteArray → List ByteArray → List (S90) → Int → List (S97) → ByteArray → List Int → Option (Int)
 | 0, _, _, _, _, _, _, _, _, _, _, _, _, _ => none
 | k + 1, x193, x194, x195, x200, x201, x202, x223000, x223001, x223002, x223003, x246000, x246001, x246002 => if x202 < x201 then (if 0 ≤ x202 then (if x202 < (x200.length : Int) then (if x202 > 0 then (if 0 ≤ (wrap64 (x202 - 1)) then (if (wrap64 (x202 - 1)) < (x246002.length : Int) then (if (rd x246002 (wrap64 (x202 - 1))) ≥ (rd x200 x202) then (some 1) else ((impl_MemHost_yhugeOk.f k x223000 x223001 x223002 x223003 x246000 x246001 x246002 (rd x200 x202)).bind fun t248 => (if t248 = true then (impl_MemHostFault.l8 k x193 x194 x195 x200 x201 (wrap64 (x202 + 1)) x223000 x223001 x223002 x223003 x246000 x246001 x246002) else (some 1)))) else (none)) else (none)) else ((impl_MemHost_yhugeOk.f k x223000 x223001 x223002 x223003 x246000 x246001 x246002 (rd x200 x202)).bind fun t249 => (if t249 = true then (impl_MemHostFault.l8 k x193 x194 x195 x200 x201 (wrap64 (x202 + 1)) x223000 x223001 x223002 x223003 x246000 x246001 x246002) else (some 1)))) else (none)) else (none)) else (impl_MemHostFault.l7 k x193 x194 (wrap64 (x195 + 1)) x223000 x223001 x223002 x223003)
end
def impl_MemHostFault.f (k : Nat) (l0_0 : List ByteArray) (l0_1 : List ByteArray) (l0_2 : List (S90)) (a0_3 : Int) : Option (Int) := if (l0_0.length : Int) > 64 then (impl_MemHostFault.j0 k true l0_0 l0_1 l0_2 a0_3) else (if (l0_1.length : Int) > 64 then (impl_MemHostFault.j0 k true l0_0 l0_1 l0_2 a0_3) else ((impl_yin.f (l0_2.length : Int) 1 8).bind fun t223 => (if t223 = true then ((impl_yin.f a0_3 0 1099511627776).bind fun t224 => (impl_MemHostFault.j0 k (!t224) l0_0 l0_1 l0_2 a0_3)) else (impl_MemHostFault.j0 k true l0_0 l0_1 l0_2 a0_3))))
theorem impl_MemHostFault.mono_l : ∀ k, (∀ y0 y1 y2 y3 y4, LeO (impl_MemHostFault.j0 k y0 y1 y2 y3 y4) (impl_MemHostFault.j0 (k + 1) y0 y1 y2 y3 y4)) ∧ (∀ y0 y1 y2 y3 y4 y5 y6, LeO (impl_MemHostFault.l0 k y0 y1 y2 y3 y4 y5 y6) (impl_MemHostFault.l0 (k + 1) y0 y1 y2 y3 y4 y5 y6)) ∧ (∀ y0 y1 y2 y3 y4 y5 y6 y7 y8 y9, LeO (impl_MemHostFault.l1 k y0 y1 y2 y3 y4 y5 y6 y7 y8 y9) (impl_MemHostFault.l1 (k + 1) y0 y1 y2 y3 y4 y5 y6 y7 y8 y9)) ∧ (∀ y0 y1 y2 y3 y4 y5 y6, LeO (impl_MemHostFault.l2 k y0 y1 y2 y3 y4 y5 y6) (impl_MemHostFault.l2 (k + 1) y0 y1 y2 y3 y4 y5 y6)) ∧ (∀ y0 y1 y2 y3 y4 y5 y6 y7 y8 y9 y10, LeO (impl_MemHostFault.j4 k y0 y1 y2 y3 y4 y5 y6 y7 y8 y9 y10) (impl_MemHostFault.j4 (k + 1) y0 y1 y2 y3 y4 y5 y6 y7 y8 y9 y10)) ∧ (∀ y0 y1 y2 y3 y4 y5 y6 y7 y8 y9 y10 y11 y12, LeO (impl_MemHostFault.l3 k y0 y1 y2 y3 y4 y5 y6 y7 y8 y9 y10 y11 y12) (impl_MemHostFault.l3 (k + 1) y0 y1 y2 y3 y4 y5 y6 y7 y8 y9 y10 y11 y12)) ∧ (∀ y0 y1 y2 y3 y4 y5 y6 y7 y8 y9 y10, LeO (impl_MemHostFault.l4 k y0 y1 y2 y3 y4 y5 y6 y7 y8 y9 y10) (impl_MemHostFault.l4 (k + 1) y0 y1 y2 y3 y4 y5 y6 y7 y8 y9 y10)) ∧ (∀ y0 y1 y2 y3 y4 y5 y6, LeO (impl_MemHostFault.l5 k y0 y1 y2 y3 y4 y5 y6) (impl_MemHostFault.l5 (k + 1) y0 y1 y2 y3 y4 y5 y6)) ∧ (∀ y0 y1 y2 y3 y4 y5 y6, LeO (impl_MemHostFault.l6 k y0 y1 y2 y3 y4 y5 y6) (impl_MemHostFault.l6 (k + 1) y0 y1 y2 y3 y4 y5 y6)) ∧ (∀ y0 y1 y2 y3 y4 y5 y6, LeO (impl_MemHostFault.l7 k y0 y1 y2 y3 y4 y5 y6) (impl_MemHostFault.l7 (k + 1) y0 y1 y2 y3 y4 y5 y6)) ∧ (∀ y0 y1 y2 y3 y4 y5 y6 y7 y8 y9 y10 y11 y12, LeO (impl_MemHostFault.l8 k y0 y1 y2 y3 y4 y5 y6 y7 y8 y9 y10 y11 y12) (impl_MemHostFault.l8 (k + 1) y0 y1 y2 y3 y4 y5 y6 y7 y8 y9 y10 y11 y12))
 | 0 => ⟨fun _ _ _ _ _ r h => by simp [impl_MemHostFault.j0] at h, fun _ _ _ _ _ _ _ r h => by simp [impl_MemHostFault.l0] at h, fun _ _ _ _ _ _ _ _ _ _ r h => by simp [impl_MemHostFault.l1] at h, fun _ _ _ _ _ _ _ r h => by simp [impl_MemHostFault.l2] at h, fun _ _ _ _ _ _ _ _ _ _ _ r h => by simp [impl_MemHostFault.j4] at h, fun _ _ _ _ _ _ _ _ _ _ _ _ _ r h => by simp [impl_MemHostFault.l3] at h, fun _ _ _ _ _ _ _ _ _ _ _ r h => by simp [impl_MemHostFault.l4] at h, fun _ _ _ _ _ _ _ r h => by simp [impl_MemHostFault.l5] at h, fun _ _ _ _ _ _ _ r h => by simp [impl_MemHostFault.l6] at h, fun _ _ _ _ _ _ _ r h => by simp [impl_MemHostFault.l7] at h, fun _ _ _ _ _ _ _ _ _ _ _ _ _ r h => by simp [impl_MemHostFault.l8] at h⟩
 | k + 1 => by
  obtain ⟨ih0, ih1, ih2, ih3, ih4, ih5, ih6, ih7, ih8, ih9, ih10⟩ := impl_MemHostFault.mono_l k
  refine ⟨?_, ?_, ?_, ?_, ?_, ?_, ?_, ?_, ?_, ?_, ?_⟩
  ·intro y0 y1 y2 y3 y4
   unfold impl_MemHostFault.j0
   repeat' first
   | (with_reducible exact ih0 _ _ _ _ _)
   | (with_reducible exact ih1 _ _ _ _ _ _ _)
   | (with_reducible exact ih2 _ _ _ _ _ _ _ _ _ _)
   | (with_reducible exact ih3 _ _ _ _ _ _ _)
   | (with_reducible exact ih4 _ _ _ _ _ _ _ _ _ _ _)
   | (with_reducible exact ih5 _ _ _ _ _ _ _ _ _ _ _ _ _)
   | (with_reducible exact ih6 _ _ _ _ _ _ _ _ _ _ _)
   | (with_reducible exact ih7 _ _ _ _ _ _ _)
   | (with_reducible exact ih8 _ _ _ _ _ _ _)
   | (with_reducible exact ih9 _ _ _ _ _ _ _)
   | (with_reducible exact ih10 _ _ _ _ _ _ _ _ _ _ _ _ _)
   | (with_reducible exact impl_MemHost_yhugeOk.mono _ _ _ _ _ _ _ _ _)
   | (with_reducible exact impl_MemHost_yusers.mono _ _ _ _ _ _ _)
   | (with_reducible exact LeO.refl _)
   | (with_reducible exact LeO.none _)
   | (with_reducible refine LeO.ite ?_ ?_)
   | (with_reducible refine LeO.bind ?_ (fun _ => ?_))
   | exact ih0 _ _ _ _ _
   | exact ih1 _ _ _ _ _ _ _
   | exact ih2 _ _ _ _ _ _ _ _ _ _
   | exact ih3 _ _ _ _ _ _ _
   | exact ih4 _ _ _ _ _ _ _ _ _ _ _
   | exact ih5 _ _ _ _ _ _ _ _ _ _ _ _ _
   | exact ih6 _ _ _ _ _ _ _ _ _ _ _
   | exact ih7 _ _ _ _ _ _ _
   | exact ih8 _ _ _ _ _ _ _
   | exact ih9 _ _ _ _ _ _ _
   | exact ih10 _ _ _ _ _ _ _ _ _ _ _ _ _
   | exact impl_MemHost_yhugeOk.mono _ _ _ _ _ _ _ _ _
   | exact impl_MemHost_yusers.mono _ _ _ _ _ _ _
   | exact LeO.none _
   | refine LeO.ite ?_ ?_
   | refine LeO.bind ?_ (fun _ => ?_)
  ·intro y0 y1 y2 y3 y4 y5 y6
   unfold impl_MemHostFault.l0
   repeat' first
   | (with_reducible exact ih0 _ _ _ _ _)
   | (with_reducible exact ih1 _ _ _ _ _ _ _)
   | (with_reducible exact ih2 _ _ _ _ _ _ _ _ _ _)
   | (with_reducible exact ih3 _ _ _ _ _ _ _)
   | (with_reducible exact ih4 _ _ _ _ _ _ _ _ _ _ _)
   | (with_reducible exact ih5 _ _ _ _ _ _ _ _ _ _ _ _ _)
   | (with_reducible exact ih6 _ _ _ _ _ _ _ _ _ _ _)
   | (with_reducible exact ih7 _ _ _ _ _ _ _)
   | (with_reducible exact ih8 _ _ _ _ _ _ _)
   | (with_reducible exact ih9 _ _ _ _ _ _ _)
   | (with_reducible exact ih10 _ _ _ _ _ _ _ _ _ _ _ _ _)
   | (with_reducible exact impl_MemHost_yhugeOk.mono _ _ _ _ _ _ _ _ _)
   | (with_reducible exact impl_MemHost_yusers.mono _ _ _ _ _ _ _)
   | (with_reducible exact LeO.refl _)
   | (with_reducible exact LeO.none _)
   | (with_reducible refine LeO.ite ?_ ?_)
   | (with_reducible refine LeO.bind ?_ (fun _ => ?_))
   | exact ih0 _ _ _ _ _
   | exact ih1 _ _ _ _ _ _ _
   | exact ih2 _ _ _ _ _ _ _ _ _ _
   | exact ih3 _ _ _ _ _ _ _
   | exact ih4 _ _ _ _ _ _ _ _ _ _ _
   | exact ih5 _ _ _ _ _ _ _ _ _ _ _ _ _
   | exact ih6 _ _ _ _ _ _ _ _ _ _ _
   | exact ih7 _ _ _ _ _ _ _
   | exact ih8 _ _ _ _ _ _ _
   | exact ih9 _ _ _ _ _ _ _
   | exact ih10 _ _ _ _ _ _ _ _ _ _ _ _ _
   | exact impl_MemHost_yhugeOk.mono _ _ _ _ _ _ _ _ _
   | exact impl_MemHost_yusers.mono _ _ _ _ _ _ _
   | exact LeO.none _
   | refine LeO.ite ?_ ?_
   | refine LeO.bind ?_ (fun _ => ?_)
  ·intro y0 y1 y2 y3 y4 y5 y6 y7 y8 y9
   unfold impl_MemHostFault.l1
   repeat' first
   | (with_reducible exact ih0 _ _ _ _ _)
   | (with_reducible exact ih1 _ _ _ _ _ _ _)
   | (with_reducible exact ih2 _ _ _ _ _ _ _ _ _ _)
   | (with_reducible exact ih3 _ _ _ _ _ _ _)
   | (with_reducible exact ih4 _ _ _ _ _ _ _ _ _ _ _)
   | (with_reducible exact ih5 _ _ _ _ _ _ _ _ _ _ _ _ _)
   | (with_reducible exact ih6 _ _ _ _ _ _ _ _ _ _ _)
   | (with_reducible exact ih7 _ _ _ _ _ _ _)
   | (with_reducible exact ih8 _ _ _ _ _ _ _)
   | (with_reducible exact ih9 _ _ _ _ _ _ _)
   | (with_reducible exact ih10 _ _ _ _ _ _ _ _ _ _ _ _ _)
   | (with_reducible exact impl_MemHost_yhugeOk.mono _ _ _ _ _ _ _ _ _)
   | (with_reducible exact impl_MemHost_yusers.mono _ _ _ _ _ _ _)
   | (with_reducible exact LeO.refl _)
   | (with_reducible exact LeO.none _)
   | (with_reducible refine LeO.ite ?_ ?_)
   | (with_reducible refine LeO.bind ?_ (fun _ => ?_))
   | exact ih0 _ _ _ _ _
   | exact ih1 _ _ _ _ _ _ _
   | exact ih2 _ _ _ _ _ _ _ _ _ _
   | exact ih3 _ _ _ _ _ _ _
   | exact ih4 _ _ _ _ _ _ _ _ _ _ _
   | exact ih5 _ _ _ _ _ _ _ _ _ _ _ _ _
   | exact ih6 _ _ _ _ _ _ _ _ _ _ _
   | exact ih7 _ _ _ _ _ _ _
   | exact ih8 _ _ _ _ _ _ _
   | exact ih9 _ _ _ _ _ _ _
   | exact ih10 _ _ _ _ _ _ _ _ _ _ _ _ _
   | exact impl_MemHost_yhugeOk.mono _ _ _ _ _ _ _ _ _
   | exact impl_MemHost_yusers.mono _ _ _ _ _ _ _
   | exact LeO.none _
   | refine LeO.ite ?_ ?_
   | refine LeO.bind ?_ (fun _ => ?_)
  ·intro y0 y1 y2 y3 y4 y5 y6
   unfold impl_MemHostFault.l2
   repeat' first
   | (with_reducible exact ih0 _ _ _ _ _)
   | (with_reducible exact ih1 _ _ _ _ _ _ _)
   | (with_reducible exact ih2 _ _ _ _ _ _ _ _ _ _)
   | (with_reducible exact ih3 _ _ _ _ _ _ _)
   | (with_reducible exact ih4 _ _ _ _ _ _ _ _ _ _ _)
   | (with_reducible exact ih5 _ _ _ _ _ _ _ _ _ _ _ _ _)
   | (with_reducible exact ih6 _ _ _ _ _ _ _ _ _ _ _)
   | (with_reducible exact ih7 _ _ _ _ _ _ _)
   | (with_reducible exact ih8 _ _ _ _ _ _ _)
   | (with_reducible exact ih9 _ _ _ _ _ _ _)
   | (with_reducible exact ih10 _ _ _ _ _ _ _ _ _ _ _ _ _)
   | (with_reducible exact impl_MemHost_yhugeOk.mono _ _ _ _ _ _ _ _ _)
   | (with_reducible exact impl_MemHost_yusers.mono _ _ _ _ _ _ _)
   | (with_reducible exact LeO.refl _)
   | (with_reducible exact LeO.none _)
   | (with_reducible refine LeO.ite ?_ ?_)
   | (with_reducible refine LeO.bind ?_ (fun _ => ?_))
   | exact ih0 _ _ _ _ _
   | exact ih1 _ _ _ _ _ _ _
   | exact ih2 _ _ _ _ _ _ _ _ _ _
   | exact ih3 _ _ _ _ _ _ _
   | exact ih4 _ _ _ _ _ _ _ _ _ _ _
   | exact ih5 _ _ _ _ _ _ _ _ _ _ _ _ _
   | exact ih6 _ _ _ _ _ _ _ _ _ _ _
   | exact ih7 _ _ _ _ _ _ _
   | exact ih8 _ _ _ _ _ _ _
   | exact ih9 _ _ _ _ _ _ _
   | exact ih10 _ _ _ _ _ _ _ _ _ _ _ _ _
   | exact impl_MemHost_yhugeOk.mono _ _ _ _ _ _ _ _ _
   | exact impl_MemHost_yusers.mono _ _ _ _ _ _ _
   | exact LeO.none _
   | refine LeO.ite ?_ ?_
   | refine LeO.bind ?_ (fun _ => ?_)
  ·intro y0 y1 y2 y3 y4 y5 y6 y7 y8 y9 y10
   unfold impl_MemHostFault.j4
   repeat' first
   | (with_reducible exact ih0 _ _ _ _ _)
   | (with_reducible exact ih1 _ _ _ _ _ _ _)
   | (with_reducible exact ih2 _ _ _ _ _ _ _ _ _ _)
   | (with_reducible exact ih3 _ _ _ _ _ _ _)
   | (with_reducible exact ih4 _ _ _ _ _ _ _ _ _ _ _)
   | (with_reducible exact ih5 _ _ _ _ _ _ _ _ _ _ _ _ _)
   | (with_reducible exact ih6 _ _ _ _ _ _ _ _ _ _ _)
   | (with_reducible exact ih7 _ _ _ _ _ _ _)
   | (with_reducible exact ih8 _ _ _ _ _ _ _)
   | (with_reducible exact ih9 _ _ _ _ _ _ _)
   | (with_reducible exact ih10 _ _ _ _ _ _ _ _ _ _ _ _ _)
   | (with_reducible exact impl_MemHost_yhugeOk.mono _ _ _ _ _ _ _ _ _)
   | (with_reducible exact impl_MemHost_yusers.mono _ _ _ _ _ _ _)
   | (with_reducible exact LeO.refl _)
   | (with_reducible exact LeO.none _)
   | (with_reducible refine LeO.ite ?_ ?_)
   | (with_reducible refine LeO.bind ?_ (fun _ => ?_))
   | exact ih0 _ _ _ _ _
   | exact ih1 _ _ _ _ _ _ _
   | exact ih2 _ _ _ _ _ _ _ _ _ _
   | exact ih3 _ _ _ _ _ _ _
   | exact ih4 _ _ _ _ _ _ _ _ _ _ _
   | exact ih5 _ _ _ _ _ _ _ _ _ _ _ _ _
   | exact ih6 _ _ _ _ _ _ _ _ _ _ _
   | exact ih7 _ _ _ _ _ _ _
   | exact ih8 _ _ _ _ _ _ _
   | exact ih9 _ _ _ _ _ _ _
   | exact ih10 _ _ _ _ _ _ _ _ _ _ _ _ _
   | exact impl_MemHost_yhugeOk.mono _ _ _ _ _ _ _ _ _
   | exact impl_MemHost_yusers.mono _ _ _ _ _ _ _
   | exact LeO.none _
   | refine LeO.ite ?_ ?_
   | refine LeO.bind ?_ (fun _ => ?_)
  ·intro y0 y1 y2 y3 y4 y5 y6 y7 y8 y9 y10 y11 y12
   unfold impl_MemHostFault.l3
   repeat' first
   | (with_reducible exact ih0 _ _ _ _ _)
   | (with_reducible exact ih1 _ _ _ _ _ _ _)
   | (with_reducible exact ih2 _ _ _ _ _ _ _ _ _ _)
   | (with_reducible exact ih3 _ _ _ _ _ _ _)
   | (with_reducible exact ih4 _ _ _ _ _ _ _ _ _ _ _)
   | (with_reducible exact ih5 _ _ _ _ _ _ _ _ _ _ _ _ _)
   | (with_reducible exact ih6 _ _ _ _ _ _ _ _ _ _ _)
   | (with_reducible exact ih7 _ _ _ _ _ _ _)
   | (with_reducible exact ih8 _ _ _ _ _ _ _)
   | (with_reducible exact ih9 _ _ _ _ _ _ _)
   | (with_reducible exact ih10 _ _ _ _ _ _ _ _ _ _ _ _ _)
   | (with_reducible exact impl_MemHost_yhugeOk.mono _ _ _ _ _ _ _ _ _)
   | (with_reducible exact impl_MemHost_yusers.mono _ _ _ _ _ _ _)
   | (with_reducible exact LeO.refl _)
   | (with_reducible exact LeO.none _)
   | (with_reducible refine LeO.ite ?_ ?_)
   | (with_reducible refine LeO.bind ?_ (fun _ => ?_))
   | exact ih0 _ _ _ _ _
   | exact ih1 _ _ _ _ _ _ _
   | exact ih2 _ _ _ _ _ _ _ _ _ _
   | exact ih3 _ _ _ _ _ _ _
   | exact ih4 _ _ _ _ _ _ _ _ _ _ _
   | exact ih5 _ _ _ _ _ _ _ _ _ _ _ _ _
   | exact ih6 _ _ _ _ _ _ _ _ _ _ _
   | exact ih7 _ _ _ _ _ _ _
   | exact ih8 _ _ _ _ _ _ _
   | exact ih9 _ _ _ _ _ _ _
   | exact ih10 _ _ _ _ _ _ _ _ _ _ _ _ _
   | exact impl_MemHost_yhugeOk.mono _ _ _ _ _ _ _ _ _
   | exact impl_MemHost_yusers.mono _ _ _ _ _ _ _
   | exact LeO.none _
   | refine LeO.ite ?_ ?_
   | refine LeO.bind ?_ (fun _ => ?_)
  ·intro y0 y1 y2 y3 y4 y5 y6 y7 y8 y9 y10
   unfold impl_MemHostFault.l4
   repeat' first
   | (with_reducible exact ih0 _ _ _ _ _)
   | (with_reducible exact ih1 _ _ _ _ _ _ _)
   | (with_reducible exact ih2 _ _ _ _ _ _ _ _ _ _)
   | (with_reducible exact ih3 _ _ _ _ _ _ _)
   | (with_reducible exact ih4 _ _ _ _ _ _ _ _ _ _ _)
   | (with_reducible exact ih5 _ _ _ _ _ _ _ _ _ _ _ _ _)
   | (with_reducible exact ih6 _ _ _ _ _ _ _ _ _ _ _)
   | (with_reducible exact ih7 _ _ _ _ _ _ _)
   | (with_reducible exact ih8 _ _ _ _ _ _ _)
   | (with_reducible exact ih9 _ _ _ _ _ _ _)
   | (with_reducible exact ih10 _ _ _ _ _ _ _ _ _ _ _ _ _)
   | (with_reducible exact impl_MemHost_yhugeOk.mono _ _ _ _ _ _ _ _ _)
   | (with_reducible exact impl_MemHost_yusers.mono _ _ _ _ _ _ _)
   | (with_reducible exact LeO.refl _)
   | (with_reducible exact LeO.none _)
   | (with_reducible refine LeO.ite ?_ ?_)
   | (with_reducible refine LeO.bind ?_ (fun _ => ?_))
   | exact ih0 _ _ _ _ _
   | exact ih1 _ _ _ _ _ _ _
   | exact ih2 _ _ _ _ _ _ _ _ _ _
   | exact ih3 _ _ _ _ _ _ _
   | exact ih4 _ _ _ _ _ _ _ _ _ _ _
   | exact ih5 _ _ _ _ _ _ _ _ _ _ _ _ _
   | exact ih6 _ _ _ _ _ _ _ _ _ _ _
   | exact ih7 _ _ _ _ _ _ _
   | exact ih8 _ _ _ _ _ _ _
   | exact ih9 _ _ _ _ _ _ _
   | exact ih10 _ _ _ _ _ _ _ _ _ _ _ _ _
   | exact impl_MemHost_yhugeOk.mono _ _ _ _ _ _ _ _ _
   | exact impl_MemHost_yusers.mono _ _ _ _ _ _ _
   | exact LeO.none _
   | refine LeO.ite ?_ ?_
   | refine LeO.bind ?_ (fun _ => ?_)
  ·intro y0 y1 y2 y3 y4 y5 y6
   unfold impl_MemHostFault.l5
   repeat' first
   | (with_reducible exact ih0 _ _ _ _ _)
   | (with_reducible exact ih1 _ _ _ _ _ _ _)
   | (with_reducible exact ih2 _ _ _ _ _ _ _ _ _ _)
   | (with_reducible exact ih3 _ _ _ _ _ _ _)
   | (with_reducible exact ih4 _ _ _ _ _ _ _ _ _ _ _)
   | (with_reducible exact ih5 _ _ _ _ _ _ _ _ _ _ _ _ _)
   | (with_reducible exact ih6 _ _ _ _ _ _ _ _ _ _ _)
   | (with_reducible exact ih7 _ _ _ _ _ _ _)
   | (with_reducible exact ih8 _ _ _ _ _ _ _)
   | (with_reducible exact ih9 _ _ _ _ _ _ _)
   | (with_reducible exact ih10 _ _ _ _ _ _ _ _ _ _ _ _ _)
   | (with_reducible exact impl_MemHost_yhugeOk.mono _ _ _ _ _ _ _ _ _)
   | (with_reducible exact impl_MemHost_yusers.mono _ _ _ _ _ _ _)
   | (with_reducible exact LeO.refl _)
   | (with_reducible exact LeO.none _)
   | (with_reducible refine LeO.ite ?_ ?_)
   | (with_reducible refine LeO.bind ?_ (fun _ => ?_))
   | exact ih0 _ _ _ _ _
   | exact ih1 _ _ _ _ _ _ _
   | exact ih2 _ _ _ _ _ _ _ _ _ _
   | exact ih3 _ _ _ _ _ _ _
   | exact ih4 _ _ _ _ _ _ _ _ _ _ _
   | exact ih5 _ _ _ _ _ _ _ _ _ _ _ _ _
   | exact ih6 _ _ _ _ _ _ _ _ _ _ _
   | exact ih7 _ _ _ _ _ _ _
   | exact ih8 _ _ _ _ _ _ _
   | exact ih9 _ _ _ _ _ _ _
   | exact ih10 _ _ _ _ _ _ _ _ _ _ _ _ _
   | exact impl_MemHost_yhugeOk.mono _ _ _ _ _ _ _ _ _
   | exact impl_MemHost_yusers.mono _ _ _ _ _ _ _
   | exact LeO.none _
   | refine LeO.ite ?_ ?_
   | refine LeO.bind ?_ (fun _ => ?_)
  ·intro y0 y1 y2 y3 y4 y5 y6
   unfold impl_MemHostFault.l6
   repeat' first
   | (with_reducible exact ih0 _ _ _ _ _)
   | (with_reducible exact ih1 _ _ _ _ _ _ _)
   | (with_reducible exact ih2 _ _ _ _ _ _ _ _ _ _)
   | (with_reducible exact ih3 _ _ _ _ _ _ _)
   | (with_reducible exact ih4 _ _ _ _ _ _ _ _ _ _ _)
   | (with_reducible exact ih5 _ _ _ _ _ _ _ _ _ _ _ _ _)
   | (with_reducible exact ih6 _ _ _ _ _ _ _ _ _ _ _)
   | (with_reducible exact ih7 _ _ _ _ _ _ _)
   | (with_reducible exact ih8 _ _ _ _ _ _ _)
   | (with_reducible exact ih9 _ _ _ _ _ _ _)
   | (with_reducible exact ih10 _ _ _ _ _ _ _ _ _ _ _ _ _)
   | (with_reducible exact impl_MemHost_yhugeOk.mono _ _ _ _ _ _ _ _ _)
   | (with_reducible exact impl_MemHost_yusers.mono _ _ _ _ _ _ _)
   | (with_reducible exact LeO.refl _)
   | (with_reducible exact LeO.none _)
   | (with_reducible refine LeO.ite ?_ ?_)
   | (with_reducible refine LeO.bind ?_ (fun _ => ?_))
   | exact ih0 _ _ _ _ _
   | exact ih1 _ _ _ _ _ _ _
   | exact ih2 _ _ _ _ _ _ _ _ _ _
   | exact ih3 _ _ _ _ _ _ _
   | exact ih4 _ _ _ _ _ _ _ _ _ _ _
   | exact ih5 _ _ _ _ _ _ _ _ _ _ _ _ _
   | exact ih6 _ _ _ _ _ _ _ _ _ _ _
   | exact ih7 _ _ _ _ _ _ _
   | exact ih8 _ _ _ _ _ _ _
   | exact ih9 _ _ _ _ _ _ _
   | exact ih10 _ _ _ _ _ _ _ _ _ _ _ _ _
   | exact impl_MemHost_yhugeOk.mono _ _ _ _ _ _ _ _ _
   | exact impl_MemHost_yusers.mono _ _ _ _ _ _ _
   | exact LeO.none _
   | refine LeO.ite ?_ ?_
   | refine LeO.bind ?_ (fun _ => ?_)
  ·intro y0 y1 y2 y3 y4 y5 y6
   unfold impl_MemHostFault.l7
   repeat' first
   | (with_reducible exact ih0 _ _ _ _ _)
   | (with_reducible exact ih1 _ _ _ _ _ _ _)
   | (with_reducible exact ih2 _ _ _ _ _ _ _ _ _ _)
   | (with_reducible exact ih3 _ _ _ _ _ _ _)
   | (with_reducible exact ih4 _ _ _ _ _ _ _ _ _ _ _)
   | (with_reducible exact ih5 _ _ _ _ _ _ _ _ _ _ _ _ _)
   | (with_reducible exact ih6 _ _ _ _ _ _ _ _ _ _ _)
   | (with_reducible exact ih7 _ _ _ _ _ _ _)
   | (with_reducible exact ih8 _ _ _ _ _ _ _)
   | (with_reducible exact ih9 _ _ _ _ _ _ _)
   | (with_reducible exact ih10 _ _ _ _ _ _ _ _ _ _ _ _ _)
   | (with_reducible exact impl_MemHost_yhugeOk.mono _ _ _ _ _ _ _ _ _)
   | (with_reducible exact impl_MemHost_yusers.mono _ _ _ _ _ _ _)
   | (with_reducible exact LeO.refl _)
   | (with_reducible exact LeO.none _)
   | (with_reducible refine LeO.ite ?_ ?_)
   | (with_reducible refine LeO.bind ?_ (fun _ => ?_))
   | exact ih0 _ _ _ _ _
   | exact ih1 _ _ _ _ _ _ _
   | exact ih2 _ _ _ _ _ _ _ _ _ _
   | exact ih3 _ _ _ _ _ _ _
   | exact ih4 _ _ _ _ _ _ _ _ _ _ _
   | exact ih5 _ _ _ _ _ _ _ _ _ _ _ _ _
   | exact ih6 _ _ _ _ _ _ _ _ _ _ _
   | exact ih7 _ _ _ _ _ _ _
   | exact ih8 _ _ _ _ _ _ _
   | exact ih9 _ _ _ _ _ _ _
   | exact ih10 _ _ _ _ _ _ _ _ _ _ _ _ _
   | exact impl_MemHost_yhugeOk.mono _ _ _ _ _ _ _ _ _
   | exact impl_MemHost_yusers.mono _ _ _ _ _ _ _
   | exact LeO.none _
   | refine LeO.ite ?_ ?_
   | refine LeO.bind ?_ (fun _ => ?_)
  ·intro y0 y1 y2 y3 y4 y5 y6 y7 y8 y9 y10 y11 y12
   unfold impl_MemHostFault.l8
   repeat' first
   | (with_reducible exact ih0 _ _ _ _ _)
   | (with_reducible exact ih1 _ _ _ _ _ _ _)
   | (with_reducible exact ih2 _ _ _ _ _ _ _ _ _ _)
   | (with_reducible exact ih3 _ _ _ _ _ _ _)
   | (with_reducible exact ih4 _ _ _ _ _ _ _ _ _ _ _)
   | (with_reducible exact ih5 _ _ _ _ _ _ _ _ _ _ _ _ _)
   | (with_reducible exact ih6 _ _ _ _ _ _ _ _ _ _ _)
   | (with_reducible exact ih7 _ _ _ _ _ _ _)
   | (with_reducible exact ih8 _ _ _ _ _ _ _)
   | (with_reducible exact ih9 _ _ _ _ _ _ _)
   | (with_reducible exact ih10 _ _ _ _ _ _ _ _ _ _ _ _ _)
   | (with_reducible exact impl_MemHost_yhugeOk.mono _ _ _ _ _ _ _ _ _)
   | (with_reducible exact impl_MemHost_yusers.mono _ _ _ _ _ _ _)
   | (with_reducible exact LeO.refl _)
   | (with_reducible exact LeO.none _)
   | (with_reducible refine LeO.ite ?_ ?_)
   | (with_reducible refine LeO.bind ?_ (fun _ => ?_))
   | exact ih0 _ _ _ _ _
   | exact ih1 _ _ _ _ _ _ _
   | exact ih2 _ _ _ _ _ _ _ _ _ _
   | exact ih3 _ _ _ _ _ _ _
   | exact ih4 _ _ _ _ _ _ _ _ _ _ _
   | exact ih5 _ _ _ _ _ _ _ _ _ _ _ _ _
   | exact ih6 _ _ _ _ _ _ _ _ _ _ _
   | exact ih7 _ _ _ _ _ _ _
   | exact ih8 _ _ _ _ _ _ _
   | exact ih9 _ _ _ _ _ _ _
   | exact ih10 _ _ _ _ _ _ _ _ _ _ _ _ _
   | exact impl_MemHost_yhugeOk.mono _ _ _ _ _ _ _ _ _
   | exact impl_MemHost_yusers.mono _ _ _ _ _ _ _
   | exact LeO.none _
   | refine LeO.ite ?_ ?_
   | refine LeO.bind ?_ (fun _ => ?_)
theorem impl_MemHostFault.mono : ∀ a0 a1 a2 a3 k, LeO (impl_MemHostFault.f k a0 a1 a2 a3) (impl_MemHostFault.f (k + 1) a0 a1 a2 a3) := by
 intro a0 a1 a2 a3 k
 obtain ⟨ih0, ih1, ih2, ih3, ih4, ih5, ih6, ih7, ih8, ih9, ih10⟩ := impl_MemHostFault.mono_l k
 unfold impl_MemHostFault.f
 repeat' first
   | (with_reducible exact ih0 _ _ _ _ _)
   | (with_reducible exact ih1 _ _ _ _ _ _ _)
   | (with_reducible exact ih2 _ _ _ _ _ _ _ _ _ _)
   | (with_reducible exact ih3 _ _ _ _ _ _ _)
   | (with_reducible exact ih4 _ _ _ _ _ _ _ _ _ _ _)
   | (with_reducible exact ih5 _ _ _ _ _ _ _ _ _ _ _ _ _)
   | (with_reducible exact ih6 _ _ _ _ _ _ _ _ _ _ _)
   | (with_reducible exact ih7 _ _ _ _ _ _ _)
   | (with_reducible exact ih8 _ _ _ _ _ _ _)
   | (with_reducible exact ih9 _ _ _ _ _ _ _)
   | (with_reducible exact ih10 _ _ _ _ _ _ _ _ _ _ _ _ _)
   | (with_reducible exact impl_MemHost_yhugeOk.mono _ _ _ _ _ _ _ _ _)
   | (with_reducible exact impl_MemHost_yusers.mono _ _ _ _ _ _ _)
   | (with_reducible exact LeO.refl _)
   | (with_reducible exact LeO.none _)
   | (with_reducible refine LeO.ite ?_ ?_)
   | (with_reducible refine LeO.bind ?_ (fun _ => ?_))
   | exact ih0 _ _ _ _ _
   | exact ih1 _ _ _ _ _ _ _
   | exact ih2 _ _ _ _ _ _ _ _ _ _
   | exact ih3 _ _ _ _ _ _ _
   | exact ih4 _ _ _ _ _ _ _ _ _ _ _
   | exact ih5 _ _ _ _ _ _ _ _ _ _ _ _ _
   | exact ih6 _ _ _ _ _ _ _ _ _ _ _
   | exact ih7 _ _ _ _ _ _ _
   | exact ih8 _ _ _ _ _ _ _
   | exact ih9 _ _ _ _ _ _ _
   | exact ih10 _ _ _ _ _ _ _ _ _ _ _ _ _
   | exact impl_MemHost_yhugeOk.mono _ _ _ _ _ _ _ _ _
   | exact impl_MemHost_yusers.mono _ _ _ _ _ _ _
   | exact LeO.none _
   | refine LeO.ite ?_ ?_
   | refine LeO.bind ?_ (fun _ => ?_)
set_option maxHeartbeats 8000000 in
set_option maxRecDepth 100000 in
theorem impl_MemHostFault.calls (k : Nat) (P0_0_ : Nat → Prop) (A0_0 : Option Addr) (c0_0 : Nat) (l0_0 : List ByteArray) (P0_1_ : Nat → Prop) (A0_1 : Option Addr) (c0_1 : Nat) (l0_1 : List ByteArray) (A0_2 : Option Addr) (c0_2 : Nat) (l0_2 : List (S90)) (a0_3 : Int) (r : Int) (w : World) (hs0_0 : Kd.V Kd.string 9 w w.heap.size (fun k_ => P0_0_ k_) (.slice A0_0 l0_0.length c0_0) l0_0) (hs0_1 : Kd.V Kd.string 9 w w.heap.size (fun k_ => P0_1_ k_) (.slice A0_1 l0_1.length c0_1) l0_1) (hr0_2 : Kd.C k90 w A0_2 l0_2.length l0_2) (hc0_2 : l0_2.length ≤ c0_2) (h : impl_MemHostFault.f k l0_0 l0_1 l0_2 a0_3 = some r) :
  Calls Try.prog 11 #[.agg #[.slice A0_0 l0_0.length c0_0, .slice A0_1 l0_1.length c0_1, .slice A0_2 l0_2.length c0_2, .int .i64 a0_3]] w fun e w' => e = .returned (.int .i64 r) ∧ Below w.heap.size w w' := by
 have hu30 := Try.underlying30
 have hu90 := Try.underlying90
 have hu97 := Try.underlying97
 have HO0_0 := Sq.l (show Kd.V Kd.string 9 w w.heap.size (fun k_ => ((P0_0_ k_ ∨ P0_1_ k_) ∨ w.heap.size ≤ k_)) (.slice A0_0 l0_0.length c0_0) l0_0 from Sq.a6 hs0_0 (fun k_ hk => .inl (.inl hk)))
 have HO0_1 := Sq.l (show Kd.V Kd.string 9 w w.heap.size (fun k_ => ((P0_0_ k_ ∨ P0_1_ k_) ∨ w.heap.size ≤ k_)) (.slice A0_1 l0_1.length c0_1) l0_1 from Sq.a6 hs0_1 (fun k_ hk => .inl (.inr hk)))
 have HR0_2 := Sq.l hr0_2
 have HC0_2 := Sq.l hc0_2
 clear hr0_2 hc0_2
 have HB := Sq.l (Below.refl w.heap.size w)
 have H : (if (l0_0.length : Int) > 64 then (impl_MemHostFault.j0 k true l0_0 l0_1 l0_2 a0_3) else (if (l0_1.length : Int) > 64 then (impl_MemHostFault.j0 k true l0_0 l0_1 l0_2 a0_3) else ((impl_yin.f (l0_2.length : Int) 1 8).bind fun t223 => (if t223 = true then ((impl_yin.f a0_3 0 1099511627776).bind fun t224 => (impl_MemHostFault.j0 k (!t224) l0_0 l0_1 l0_2 a0_3)) else (impl_MemHostFault.j0 k true l0_0 l0_1 l0_2 a0_3))))) = some r := h
 clear h
 have HC2 := Sq.l H
 clear H
 go_enter Try.func11, Try.ntmps11
 go_upto_region 1 with (first | ((with_reducible refine gate_dst (N := 1) rfl ?_); (try (refine gate_guard (by rfl) ?_; dsimp only)); refine box_event ?hg (N := 1) ?hd (cs := #[.slice A0_0 l0_0.length c0_0, .slice A0_1 l0_1.length c0_1, .slice A0_2 l0_2.length c0_2, .int .i64 a0_3]) (t := 30) ?hr ?_; (case hd => rfl); (case hg => rfl); (case hr => first | (go_simp; done) | (go_simp; rfl)); intro gb222 hg w3 hbox hb; have n0_ := Sq.l (Kd.V_below (Kd.V_elderB (by (with_reducible repeat (first | apply Sq.x | apply Sq.y | apply Sq.z)); exact HO0_0.out) gb222 (Nat.le_of_eq hg.symm)) hb); have n1_ := Sq.l (Kd.V_below (Kd.V_elderB (by (with_reducible repeat (first | apply Sq.x | apply Sq.y | apply Sq.z)); exact HO0_1.out) gb222 (Nat.le_of_eq hg.symm)) hb); have n2_ := Sq.l (Sq.a4 (by repeat (first | (with_reducible first | exact HB.out | apply Sq.i | apply Sq.j | apply Sq.k) | exact HB.out)) hb); have n3_ := Sq.l (hbox); have n4_ := Sq.l ((by rw [hg]; exact (Sq.a5 (by repeat (first | (with_reducible first | exact HB.out | apply Sq.i | apply Sq.j | apply Sq.k) | exact HB.out))) : w.heap.size ≤ gb222)); have n5_ := Sq.l ((by rw [hg]; exact (Sq.a5 (by repeat (first | (with_reducible first | exact HB.out | apply Sq.i | apply Sq.j | apply Sq.k) | exact HB.out))) : w.heap.size ≤ gb222)); clear HO0_0; clear HO0_1; clear HB; have HO0_0 := n0_; have HO0_1 := n1_; have HB := n2_; have BK222 := n3_; have GW222 := n4_; have GE222 := n5_; clear n0_ n1_ n2_ n3_ n4_ n5_; clear hb hbox hg))
 (try simp only [Act.put, List.setIfInBounds_toArray, List.set_cons_zero, List.set_cons_succ])
 go_cut [43] (fun v43 wc => ∃ (kq : Nat) (x43_1 : Bool), v43 = .bool x43_1 ∧ Aside0 (impl_MemHostFault.j0 kq x43_1 l0_0 l0_1 l0_2 a0_3 = some r) ∧ Aside0 (kq ≤ k) ∧ Aside0 (Kd.V Kd.string 9 wc w.heap.size (fun k_ => ((P0_0_ k_ ∨ P0_1_ k_) ∨ w.heap.size ≤ k_) ∧ k_ ≠ gb222) (.slice A0_0 l0_0.length c0_0) l0_0) ∧ Aside0 (Kd.V Kd.string 9 wc w.heap.size (fun k_ => ((P0_0_ k_ ∨ P0_1_ k_) ∨ w.heap.size ≤ k_) ∧ k_ ≠ gb222) (.slice A0_1 l0_1.length c0_1) l0_1) ∧ Aside0 (wc.heap[gb222]? = some (.cells #[(.slice A0_0 l0_0.length c0_0), (.slice A0_1 l0_1.length c0_1), (.slice A0_2 l0_2.length c0_2), .int .i64 a0_3] 30 (0, 0))) ∧ Aside0 (Below w.heap.size w wc))
 case first =>
  have H := HC2.out
  clear HC2
  by_cases c4 : (l0_0.length : Int) > 64
  ·rw [if_pos c4] at H
   have c4b0 : decide (64 < (l0_0.length : Int)) = true := decide_eq_true c4
   have c4b1 : decide (64 < l0_0.length) = true := decide_eq_true (by omega)
   clear c4
   (first | rw [c4b0] | (simp only [i64_w, i32_w]; rw [c4b0]) | skip)
   have H' := Sq.l H
   clear H
   have hcz5_0 : w3.cell? ⟨gb222, 0, none⟩ = some (.slice A0_0 l0_0.length c0_0) := (Sq.o BK222.out 0).trans rfl
   have hcz5_1 : w3.cell? ⟨gb222, 1, none⟩ = some (.slice A0_1 l0_1.length c0_1) := (Sq.o BK222.out 1).trans rfl
   have hcz5_2 : w3.cell? ⟨gb222, 2, none⟩ = some (.slice A0_2 l0_2.length c0_2) := (Sq.o BK222.out 2).trans rfl
   have hcz5_3 : w3.cell? ⟨gb222, 3, none⟩ = some (.int .i64 a0_3) := (Sq.o BK222.out 3).trans rfl
   have hfz5_0 := Sq.r BK222.out 0
   have hfz5_1 := Sq.r BK222.out 1
   have hfz5_2 := Sq.r BK222.out 2
   have hfz5_3 := Sq.r BK222.out 3
   go_wp2
   go_meet
   case rel => exact ⟨_, (true), (by first | rfl | (simp; done) | (simp [*]; done)), H', ⟨by first | omega | exact Nat.le_refl _⟩, ⟨by (with_reducible repeat (first | apply Sq.x | apply Sq.y | apply Sq.z)); exact HO0_0.out⟩, ⟨by (with_reducible repeat (first | apply Sq.x | apply Sq.y | apply Sq.z)); exact HO0_1.out⟩, ⟨by (with_reducible repeat (first | refine Sq.d ?_ _ | refine Sq.e ?_ | refine Sq.f ?_ _)); exact BK222.out⟩, ⟨by repeat (first | (with_reducible first | exact HB.out | apply Sq.i | apply Sq.j | apply Sq.k | refine Sq.h ?_ GE222.out) | exact HB.out)⟩⟩
  ·rw [if_neg c4] at H
   have c4b0 : decide (64 < (l0_0.length : Int)) = false := decide_eq_false c4
   have c4b1 : decide (64 < l0_0.length) = false := decide_eq_false (by omega)
   clear c4
   (first | rw [c4b0] | (simp only [i64_w, i32_w]; rw [c4b0]) | skip)
   by_cases c6 : (l0_1.length : Int) > 64
   ·rw [if_pos c6] at H
    have c6b0 : decide (64 < (l0_1.length : Int)) = true := decide_eq_true c6
    have c6b1 : decide (64 < l0_1.length) = true := decide_eq_true (by omega)
    clear c6
    have H' := Sq.l H
    clear H
    have hcz7_0 : w3.cell? ⟨gb222, 0, none⟩ = some (.slice A0_0 l0_0.length c0_0) := (Sq.o BK222.out 0).trans rfl
    have hcz7_1 : w3.cell? ⟨gb222, 1, none⟩ = some (.slice A0_1 l0_1.length c0_1) := (Sq.o BK222.out 1).trans rfl
    have hcz7_2 : w3.cell? ⟨gb222, 2, none⟩ = some (.slice A0_2 l0_2.length c0_2) := (Sq.o BK222.out 2).trans rfl
    have hcz7_3 : w3.cell? ⟨gb222, 3, none⟩ = some (.int .i64 a0_3) := (Sq.o BK222.out 3).trans rfl
    have hfz7_0 := Sq.r BK222.out 0
    have hfz7_1 := Sq.r BK222.out 1
    have hfz7_2 := Sq.r BK222.out 2
    have hfz7_3 := Sq.r BK222.out 3
    go_wp2
    go_meet
    case rel => exact ⟨_, (true), (by first | rfl | (simp; done) | (simp [*]; done)), H', ⟨by first | omega | exact Nat.le_refl _⟩, ⟨by (with_reducible repeat (first | apply Sq.x | apply Sq.y | apply Sq.z)); exact HO0_0.out⟩, ⟨by (with_reducible repeat (first | apply Sq.x | apply Sq.y | apply Sq.z)); exact HO0_1.out⟩, ⟨by (with_reducible repeat (first | refine Sq.d ?_ _ | refine Sq.e ?_ | refine Sq.f ?_ _)); exact BK222.out⟩, ⟨by repeat (first | (with_reducible first | exact HB.out | apply Sq.i | apply Sq.j | apply Sq.k | refine Sq.h ?_ GE222.out) | exact HB.out)⟩⟩
   ·rw [if_neg c6] at H
    have c6b0 : decide (64 < (l0_1.length : Int)) = false := decide_eq_false c6
    have c6b1 : decide (64 < l0_1.length) = false := decide_eq_false (by omega)
    clear c6
    replace H := Option.bind_eq_some_iff.mp H
    obtain ⟨t223, A80, H⟩ := H
    (try dsimp only at H)
    have A8 := Sq.l A80
    clear A80
    by_cases c9 : t223 = true
    ·subst c9
     rw [if_pos rfl] at H
     replace H := Option.bind_eq_some_iff.mp H
     obtain ⟨t224, A100, H⟩ := H
     (try dsimp only at H)
     have A10 := Sq.l A100
     clear A100
     have H' := Sq.l H
     clear H
     have hcz11_0 : w3.cell? ⟨gb222, 0, none⟩ = some (.slice A0_0 l0_0.length c0_0) := (Sq.o BK222.out 0).trans rfl
     have hcz11_1 : w3.cell? ⟨gb222, 1, none⟩ = some (.slice A0_1 l0_1.length c0_1) := (Sq.o BK222.out 1).trans rfl
     have hcz11_2 : w3.cell? ⟨gb222, 2, none⟩ = some (.slice A0_2 l0_2.length c0_2) := (Sq.o BK222.out 2).trans rfl
     have hcz11_3 : w3.cell? ⟨gb222, 3, none⟩ = some (.int .i64 a0_3) := (Sq.o BK222.out 3).trans rfl
     have hfz11_0 := Sq.r BK222.out 0
     have hfz11_1 := Sq.r BK222.out 1
     have hfz11_2 := Sq.r BK222.out 2
     have hfz11_3 := Sq.r BK222.out 3
     go_wp2_with (first | (go_at_call 49; (with_reducible refine (impl_yin.calls (l0_2.length : Int) 1 8 true _ A8.out).mono ?_); rintro e w' ⟨rfl, ⟨nd, rfl⟩⟩) | (go_at_call 49; (with_reducible refine (impl_yin.calls a0_3 0 1099511627776 t224 _ A10.out).mono ?_); rintro e w' ⟨rfl, ⟨nd, rfl⟩⟩))
     go_meet
     case rel => exact ⟨_, (!t224), (by first | rfl | (simp; done) | (simp [*]; done)), H', ⟨by first | omega | exact Nat.le_refl _⟩, ⟨by (with_reducible repeat (first | apply Sq.x | apply Sq.y | apply Sq.z)); exact HO0_0.out⟩, ⟨by (with_reducible repeat (first | apply Sq.x | apply Sq.y | apply Sq.z)); exact HO0_1.out⟩, ⟨by (with_reducible repeat (first | refine Sq.d ?_ _ | refine Sq.e ?_ | refine Sq.f ?_ _)); exact BK222.out⟩, ⟨by repeat (first | (with_reducible first | exact HB.out | apply Sq.i | apply Sq.j | apply Sq.k | refine Sq.h ?_ GE222.out) | exact HB.out)⟩⟩
    ·replace c9 := Bool.eq_false_iff.mpr c9
     subst c9
     rw [if_neg (show ¬ (false = true) by decide)] at H
     have H' := Sq.l H
     clear H
     have hcz12_0 : w3.cell? ⟨gb222, 0, none⟩ = some (.slice A0_0 l0_0.length c0_0) := (Sq.o BK222.out 0).trans rfl
     have hcz12_1 : w3.cell? ⟨gb222, 1, none⟩ = some (.slice A0_1 l0_1.length c0_1) := (Sq.o BK222.out 1).trans rfl
     have hcz12_2 : w3.cell? ⟨gb222, 2, none⟩ = some (.slice A0_2 l0_2.length c0_2) := (Sq.o BK222.out 2).trans rfl
     have hcz12_3 : w3.cell? ⟨gb222, 3, none⟩ = some (.int .i64 a0_3) := (Sq.o BK222.out 3).trans rfl
     have hfz12_0 := Sq.r BK222.out 0
     have hfz12_1 := Sq.r BK222.out 1
     have hfz12_2 := Sq.r BK222.out 2
     have hfz12_3 := Sq.r BK222.out 3
     go_wp2_with (first | (go_at_call 49; (with_reducible refine (impl_yin.calls (l0_2.length : Int) 1 8 false _ A8.out).mono ?_); rintro e w' ⟨rfl, ⟨nd, rfl⟩⟩))
     go_meet
     case rel => exact ⟨_, (true), (by first | rfl | (simp; done) | (simp [*]; done)), H', ⟨by first | omega | exact Nat.le_refl _⟩, ⟨by (with_reducible repeat (first | apply Sq.x | apply Sq.y | apply Sq.z)); exact HO0_0.out⟩, ⟨by (with_reducible repeat (first | apply Sq.x | apply Sq.y | apply Sq.z)); exact HO0_1.out⟩, ⟨by (with_reducible repeat (first | refine Sq.d ?_ _ | refine Sq.e ?_ | refine Sq.f ?_ _)); exact BK222.out⟩, ⟨by repeat (first | (with_reducible first | exact HB.out | apply Sq.i | apply Sq.j | apply Sq.k | refine Sq.h ?_ GE222.out) | exact HB.out)⟩⟩
 case rest =>
  clear HC2; try clear c1; try clear p2; try clear c4; try clear c4b0; try clear c4b1; try clear c6; try clear c6b0; try clear c6b1; try clear c9; try clear c11; try clear hcz11_0; try clear hcz11_1; try clear hcz11_2; try clear hcz11_3; try clear hcz12_0; try clear hcz12_1; try clear hcz12_2; try clear hcz12_3; try clear hcz5_0; try clear hcz5_1; try clear hcz5_2; try clear hcz5_3; try clear hcz7_0; try clear hcz7_1; try clear hcz7_2; try clear hcz7_3; try clear hfz11_0; try clear hfz11_1; try clear hfz11_2; try clear hfz11_3; try clear hfz12_0; try clear hfz12_1; try clear hfz12_2; try clear hfz12_3; try clear hfz5_0; try clear hfz5_1; try clear hfz5_2; try clear hfz5_3; try clear hfz7_0; try clear hfz7_1; try clear hfz7_2; try clear hfz7_3
  obtain ⟨kq, x43_1, rfl, HA, HJ1, HO_223000, HO_223001, BK222, HB⟩ := hcut
  cases kq with
  | zero => exact absurd HA.out (by simp [impl_MemHostFault.j0])
  | succ kj1 =>
   have H := HA.out
   clear HA
   simp only [impl_MemHostFault.j0] at H
   have HC13 := Sq.l H
   clear H
   go_upto_if 43 with (fail)
   have H := HC13.out
   clear HC13
   by_cases c14 : x43_1 = true
   ·subst c14
    rw [if_pos rfl] at H
    obtain rfl := Option.some.inj H
    go_wp2
    go_ret
    exact ⟨by first | rfl | (simp [errW_none, errW_some] <;> rfl) | (simp [*, errW_none, errW_some] <;> rfl), by repeat (first | (with_reducible first | exact HB.out | apply Sq.i | apply Sq.j | apply Sq.k | refine Sq.h ?_ GE222.out) | exact HB.out)⟩
   ·replace c14 := Bool.eq_false_iff.mpr c14
    subst c14
    rw [if_neg (show ¬ (false = true) by decide)] at H
    obtain ⟨y225, hy225⟩ : ∃ y_ : List (List ByteArray), y_ = (([l0_0, l0_1] : List (List ByteArray))) := ⟨_, rfl⟩
    replace H : (impl_MemHostFault.l0 kj1 y225 (y225.length : Int) 0 l0_0 l0_1 l0_2 a0_3) = some r := by first | (rw [hy225]; with_reducible exact H) | (have H2_ := (Option.bind_some _ _).symm.trans H; rw [hy225]; with_reducible exact H2_) | (have H2_ := (Option.bind_some _ _).symm.trans H; with_reducible exact H2_) | with_reducible exact H | (rw [hy225]; exact H) | exact H
    have Ny225 := Sq.l hy225
    clear hy225
    have H' := Sq.l H
    clear H
    have hcz15_0 : wc.cell? ⟨gb222, 0, none⟩ = some (.slice A0_0 l0_0.length c0_0) := (Sq.o BK222.out 0).trans rfl
    have hcz15_1 : wc.cell? ⟨gb222, 1, none⟩ = some (.slice A0_1 l0_1.length c0_1) := (Sq.o BK222.out 1).trans rfl
    have hcz15_2 : wc.cell? ⟨gb222, 2, none⟩ = some (.slice A0_2 l0_2.length c0_2) := (Sq.o BK222.out 2).trans rfl
    have hcz15_3 : wc.cell? ⟨gb222, 3, none⟩ = some (.int .i64 a0_3) := (Sq.o BK222.out 3).trans rfl
    have hfz15_0 := Sq.r BK222.out 0
    have hfz15_1 := Sq.r BK222.out 1
    have hfz15_2 := Sq.r BK222.out 2
    have hfz15_3 := Sq.r BK222.out 3
    go_wp2_with (first | ((with_reducible refine gate_dst (N := 48) rfl ?_); (try (refine gate_guard (by rfl) ?_; dsimp only)); refine Kd.N_lit (Kd.slice 9 Kd.string) _ 22 ?hg (N' := 48) ?hd (xs := ([l0_0, l0_1] : List (List ByteArray))) (inner := [.slice A0_0 l0_0.length c0_0, .slice A0_1 l0_1.length c0_1]) (ok := (fun k_ => ((P0_0_ k_ ∨ P0_1_ k_) ∨ w.heap.size ≤ k_) ∧ k_ ≠ gb222)) (okp := (fun k_ => ((P0_0_ k_ ∨ P0_1_ k_) ∨ w.heap.size ≤ k_) ∧ k_ ≠ gb222)) ?hr ?hp (fun _ hk => hk) ((show ∀ k_, wc.heap.size ≤ k_ → (fun k_ => ((P0_0_ k_ ∨ P0_1_ k_) ∨ w.heap.size ≤ k_) ∧ k_ ≠ gb222) k_ from fun k_ hk => ⟨(.inr (Nat.le_trans (Sq.a5 (by repeat (first | (with_reducible first | exact HB.out | apply Sq.i | apply Sq.j | apply Sq.k | refine Sq.h ?_ GE222.out) | exact HB.out))) hk)), Kd.freshB (g := gb222) (o := .cells #[.slice A0_0 l0_0.length c0_0, .slice A0_1 l0_1.length c0_1, .slice A0_2 l0_2.length c0_2, .int .i64 a0_3] 30 (0, 0)) (by (with_reducible repeat (first | refine Sq.d ?_ _ | refine Sq.e ?_ | refine Sq.f ?_ _)); exact BK222.out) k_ hk⟩) _ (Nat.le_refl _)) (Below.refl _ _) (Nat.le_refl _) (by simp) ?_; (case hd => rfl); (case hg => rfl); (case hr => first | (go_simp; done) | (go_simp; rfl)); (case hp => exact (Reps.one (show Kd.FK (Kd.slice 9 Kd.string) _ _ l0_0 [.slice A0_0 l0_0.length c0_0] from (Kd.FK_slice_mk (Kd.V_reads' (Sq.a6 (ok' := (fun k_ => ((P0_0_ k_ ∨ P0_1_ k_) ∨ w.heap.size ≤ k_) ∧ k_ ≠ gb222)) (HO_223000.out) (fun k_ hk => ⟨hk.1, hk.2⟩))).2.1 (Kd.V_F (Sq.a6 (ok' := (fun k_ => ((P0_0_ k_ ∨ P0_1_ k_) ∨ w.heap.size ≤ k_) ∧ k_ ≠ gb222)) (HO_223000.out) (fun k_ hk => ⟨hk.1, hk.2⟩))))) (Reps.one (show Kd.FK (Kd.slice 9 Kd.string) _ _ l0_1 [.slice A0_1 l0_1.length c0_1] from (Kd.FK_slice_mk (Kd.V_reads' (Sq.a6 (ok' := (fun k_ => ((P0_0_ k_ ∨ P0_1_ k_) ∨ w.heap.size ≤ k_) ∧ k_ ≠ gb222)) (HO_223001.out) (fun k_ hk => ⟨hk.1, hk.2⟩))).2.1 (Kd.V_F (Sq.a6 (ok' := (fun k_ => ((P0_0_ k_ ∨ P0_1_ k_) ∨ w.heap.size ≤ k_) ∧ k_ ≠ gb222)) (HO_223001.out) (fun k_ hk => ⟨hk.1, hk.2⟩))))) (Reps.none _ _)))); intro v226 w16 ho17 hb hg_ hnew_; clear hg_ hnew_; (first | rw [← Ny225.out] at ho17 | (simp only [Int.reduceToNat] at ho17; rw [← Ny225.out] at ho17)); have n0_ := Sq.l (Kd.V_elder' (by (with_reducible repeat (first | apply Sq.x | apply Sq.y | apply Sq.z)); exact HO_223000.out) (Kd.N_base ho17) hb); have n1_ := Sq.l (Kd.V_elder' (by (with_reducible repeat (first | apply Sq.x | apply Sq.y | apply Sq.z)); exact HO_223001.out) (Kd.N_base ho17) hb); have n2_ := Sq.l (Kd.N_lower ho17 (Sq.a5 (by repeat (first | (with_reducible first | exact HB.out | apply Sq.i | apply Sq.j | apply Sq.k | refine Sq.h ?_ GE222.out) | exact HB.out)))); have n3_ := Sq.l (Sq.m (g := gb222) (o := .cells #[.slice A0_0 l0_0.length c0_0, .slice A0_1 l0_1.length c0_1, .slice A0_2 l0_2.length c0_2, .int .i64 a0_3] 30 (0, 0)) (by (with_reducible repeat (first | refine Sq.d ?_ _ | refine Sq.e ?_ | refine Sq.f ?_ _)); exact BK222.out) hb); have n4_ := Sq.l (Sq.a4 (by repeat (first | (with_reducible first | exact HB.out | apply Sq.i | apply Sq.j | apply Sq.k | refine Sq.h ?_ GE222.out) | exact HB.out)) hb); clear HO_223000; clear HO_223001; clear BK222; clear HB; have HO_223000 := n0_; have HO_223001 := n1_; have HO227 := n2_; have BK222 := n3_; have HB := n4_; clear n0_ n1_ n2_ n3_ n4_; clear hb ho17; obtain ⟨Ao18, co18, eo18⟩ := Kd.N_slice HO227.out; subst eo18))
    go_loopg [50] kj1 (fun kq v50 w' => ∃ (x50_2 : Int), v50 = .int .i64 x50_2 ∧ Aside0 (impl_MemHostFault.l0 kq y225 (y225.length : Int) x50_2 l0_0 l0_1 l0_2 a0_3 = some r) ∧ Aside0 (kq ≤ kj1) ∧ Aside0 (Kd.N (Kd.slice 9 Kd.string) 22 w' w.heap.size (fun k_ => ((P0_0_ k_ ∨ P0_1_ k_) ∨ w.heap.size ≤ k_) ∧ k_ ≠ gb222) (.slice Ao18 y225.length co18) y225) ∧ Aside0 (Kd.V Kd.string 9 w' w.heap.size (fun k_ => ((P0_0_ k_ ∨ P0_1_ k_) ∨ w.heap.size ≤ k_) ∧ some k_ ≠ ((.slice Ao18 y225.length co18) : Value).ownBlock ∧ k_ ≠ gb222) (.slice A0_0 l0_0.length c0_0) l0_0) ∧ Aside0 (Kd.V Kd.string 9 w' w.heap.size (fun k_ => ((P0_0_ k_ ∨ P0_1_ k_) ∨ w.heap.size ≤ k_) ∧ some k_ ≠ ((.slice Ao18 y225.length co18) : Value).ownBlock ∧ k_ ≠ gb222) (.slice A0_1 l0_1.length c0_1) l0_1) ∧ Aside0 (w'.heap[gb222]? = some (.cells #[(.slice A0_0 l0_0.length c0_0), (.slice A0_1 l0_1.length c0_1), (.slice A0_2 l0_2.length c0_2), .int .i64 a0_3] 30 (0, 0))) ∧ Aside0 (Below w.heap.size w w'))
    case atStart => exact ⟨(0), (by first | rfl | (simp; done) | (simp [*]; done)), H', ⟨Nat.le_refl _⟩, ⟨by (with_reducible repeat (first | apply Sq.b1 | apply Sq.b2 | apply Sq.b3)); exact HO227.out⟩, ⟨by (with_reducible repeat (first | apply Sq.x | apply Sq.y | apply Sq.z)); exact Sq.a6 HO_223000.out (fun _ hk => ⟨hk.1.1, ⟨hk.2, hk.1.2⟩⟩)⟩, ⟨by (with_reducible repeat (first | apply Sq.x | apply Sq.y | apply Sq.z)); exact Sq.a6 HO_223001.out (fun _ hk => ⟨hk.1.1, ⟨hk.2, hk.1.2⟩⟩)⟩, ⟨by (with_reducible repeat (first | refine Sq.d ?_ _ | refine Sq.e ?_ | refine Sq.f ?_ _)); exact BK222.out⟩, ⟨by repeat (first | (with_reducible first | exact HB.out | apply Sq.i | apply Sq.j | apply Sq.k | refine Sq.h ?_ GE222.out) | exact HB.out)⟩⟩
    case round =>
     clear H'
     try clear c1; try clear p2; try clear c4; try clear c4b0; try clear c4b1; try clear c6; try clear c6b0; try clear c6b1; try clear c9; try clear c11; try clear c14; try clear hcz11_0; try clear hcz11_1; try clear hcz11_2; try clear hcz11_3; try clear hcz12_0; try clear hcz12_1; try clear hcz12_2; try clear hcz12_3; try clear hcz15_0; try clear hcz15_1; try clear hcz15_2; try clear hcz15_3; try clear hcz5_0; try clear hcz5_1; try clear hcz5_2; try clear hcz5_3; try clear hcz7_0; try clear hcz7_1; try clear hcz7_2; try clear hcz7_3; try clear hfz11_0; try clear hfz11_1; try clear hfz11_2; try clear hfz11_3; try clear hfz12_0; try clear hfz12_1; try clear hfz12_2; try clear hfz12_3; try clear hfz15_0; try clear hfz15_1; try clear hfz15_2; try clear hfz15_3; try clear hfz5_0; try clear hfz5_1; try clear hfz5_2; try clear hfz5_3; try clear hfz7_0; try clear hfz7_1; try clear hfz7_2; try clear hfz7_3; try clear p2
     obtain ⟨x50_2, rfl, HA, HK2, HO_48, HO_223000, HO_223001, BK222, HB⟩ := hrel
     cases gk with
     | zero => exact absurd HA.out (by simp [impl_MemHostFault.l0])
     | succ k2 =>
      have H := HA.out
      clear HA
      simp only [impl_MemHostFault.l0] at H
      have HC19 := Sq.l H
      clear H
      go_upto_if 51 with (fail)
      have H := HC19.out
      clear HC19
      by_cases c20 : x50_2 < (y225.length : Int)
      ·rw [if_pos c20] at H
       have c20b0 : decide (x50_2 < (y225.length : Int)) = true := decide_eq_true c20
       clear c20
       (first | rw [c20b0] | (simp only [i64_w, i32_w]; rw [c20b0]) | skip)
       by_cases c21 : 0 ≤ x50_2
       ·rw [if_pos c21] at H
        have c21b0 : decide (0 ≤ x50_2) = true := decide_eq_true c21
        clear c21
        by_cases c22 : x50_2 < (y225.length : Int)
        ·rw [if_pos c22] at H
         have c22b0 : decide (x50_2 < (y225.length : Int)) = true := decide_eq_true c22
         clear c22
         have H' := Sq.l H
         clear H
         have p228 : 0 ≤ (x50_2 : Int) := of_decide_eq_true (by first | (with_reducible assumption) | assumption)
         have q228 : x50_2 < (y225.length : Int) := of_decide_eq_true (by first | (with_reducible assumption) | assumption)
         obtain ⟨ad228, A228_0, c228_0, e228, hx228_0, hl228_0, hi228_0⟩ := at_L9 (Kd.N_reads' HO_48.out).2.2 x50_2 p228 q228
         cases e228
         obtain ⟨ce228, hce228, hMe228, hcc228⟩ := Kd.N_get HO_48.out [] x50_2 p228 (by first | exact q228 | exact of_decide_eq_true (by first | (with_reducible assumption) | assumption) | (have e_ := (Kd.N_reads' HO_48.out).1; omega))
         obtain ⟨ua228_0, uc228_0, rfl, ul228_0, ge228_0⟩ := Kd.FK_slice_open hMe228
         have hv228_0 := hcc228 0 _ rfl
         rw [Nat.add_zero, show ((Kd.slice 9 Kd.string)).sz = 1 from rfl, Nat.mul_one] at hv228_0
         replace hv228_0 := Option.some.inj (hv228_0.symm.trans hx228_0)
         injection hv228_0 with hva_ hvn_ hvc_
         rw [hva_] at ge228_0
         rw [hvc_] at ul228_0
         have HL228_0 := Sq.l (show Kd.V Kd.string 9 _ w.heap.size _ _ (rd_L9 y225 x50_2) from Kd.V_mk ul228_0 ge228_0)
         clear hva_ hvn_ hvc_ ge228_0 ul228_0 hcc228 hce228
         have HR228_0 := Sq.l hi228_0
         have HC228_0 := Sq.l hl228_0
         clear hi228_0 hl228_0; replace p228 := eq_true p228; replace q228 := eq_true q228
         go_wp2
         go_loopg [56] k2 (fun kq v56 w' => ∃ (x56_3 : Int), v56 = .int .i64 x56_3 ∧ Aside0 (impl_MemHostFault.l1 kq y225 (y225.length : Int) x50_2 (rd_L9 y225 x50_2) ((rd_L9 y225 x50_2).length : Int) x56_3 l0_0 l0_1 l0_2 a0_3 = some r) ∧ Aside0 (kq ≤ k2) ∧ Aside0 (Kd.N (Kd.slice 9 Kd.string) 22 w' w.heap.size (fun k_ => ((P0_0_ k_ ∨ P0_1_ k_) ∨ w.heap.size ≤ k_) ∧ k_ ≠ gb222) (.slice (some ad228) y225.length co18) y225) ∧ Aside0 (Kd.V Kd.string 9 w' w.heap.size (fun k_ => ((P0_0_ k_ ∨ P0_1_ k_) ∨ w.heap.size ≤ k_) ∧ some k_ ≠ ((.slice (some ad228) y225.length co18) : Value).ownBlock ∧ k_ ≠ gb222) (.slice A0_0 l0_0.length c0_0) l0_0) ∧ Aside0 (Kd.V Kd.string 9 w' w.heap.size (fun k_ => ((P0_0_ k_ ∨ P0_1_ k_) ∨ w.heap.size ≤ k_) ∧ some k_ ≠ ((.slice (some ad228) y225.length co18) : Value).ownBlock ∧ k_ ≠ gb222) (.slice A0_1 l0_1.length c0_1) l0_1) ∧ Aside0 (w'.heap[gb222]? = some (.cells #[(.slice A0_0 l0_0.length c0_0), (.slice A0_1 l0_1.length c0_1), (.slice A0_2 l0_2.length c0_2), .int .i64 a0_3] 30 (0, 0))) ∧ Aside0 (Kd.C Kd.string w' A228_0 (rd_L9 y225 x50_2).length (rd_L9 y225 x50_2)) ∧ Aside0 (Below w.heap.size w w'))
         case atStart => exact ⟨(0), (by first | rfl | (simp; done) | (simp [*]; done)), H', ⟨Nat.le_refl _⟩, ⟨by (with_reducible repeat (first | apply Sq.b1 | apply Sq.b2 | apply Sq.b3)); exact HO_48.out⟩, ⟨by (with_reducible repeat (first | apply Sq.x | apply Sq.y | apply Sq.z)); exact HO_223000.out⟩, ⟨by (with_reducible repeat (first | apply Sq.x | apply Sq.y | apply Sq.z)); exact HO_223001.out⟩, ⟨by (with_reducible repeat (first | refine Sq.d ?_ _ | refine Sq.e ?_ | refine Sq.f ?_ _)); exact BK222.out⟩, ⟨by repeat (first | (with_reducible exact HR228_0.out) | (with_reducible refine Sq.s ?_ _) | (with_reducible refine Sq.t ?_ _) | (with_reducible refine Sq.u ?_) | exact HR228_0.out)⟩, ⟨by repeat (first | (with_reducible first | exact HB.out | apply Sq.i | apply Sq.j | apply Sq.k | refine Sq.h ?_ GE222.out) | exact HB.out)⟩⟩
         case round =>
          clear H'
          try clear c1; try clear c2; try clear p2; try clear q2; try clear hx2; try clear c4; try clear c4b0; try clear c4b1; try clear c6; try clear c6b0; try clear c6b1; try clear c9; try clear c11; try clear c14; try clear c20; try clear c20b0; try clear c21; try clear c21b0; try clear c22; try clear c22b0; try clear p22; try clear q22; try clear hx22; try clear hcz11_0; try clear hcz11_1; try clear hcz11_2; try clear hcz11_3; try clear hcz12_0; try clear hcz12_1; try clear hcz12_2; try clear hcz12_3; try clear hcz15_0; try clear hcz15_1; try clear hcz15_2; try clear hcz15_3; try clear hcz5_0; try clear hcz5_1; try clear hcz5_2; try clear hcz5_3; try clear hcz7_0; try clear hcz7_1; try clear hcz7_2; try clear hcz7_3; try clear hfz11_0; try clear hfz11_1; try clear hfz11_2; try clear hfz11_3; try clear hfz12_0; try clear hfz12_1; try clear hfz12_2; try clear hfz12_3; try clear hfz15_0; try clear hfz15_1; try clear hfz15_2; try clear hfz15_3; try clear hfz5_0; try clear hfz5_1; try clear hfz5_2; try clear hfz5_3; try clear hfz7_0; try clear hfz7_1; try clear hfz7_2; try clear hfz7_3; try clear hx228_0; try clear p2; try clear p228; try clear q228
          obtain ⟨x56_3, rfl, HA, HK3, HO_48, HO_223000, HO_223001, BK222, HR228_0, HB⟩ := hrel
          cases gk with
          | zero => exact absurd HA.out (by simp [impl_MemHostFault.l1])
          | succ k3 =>
           have H := HA.out
           clear HA
           simp only [impl_MemHostFault.l1] at H
           have HC23 := Sq.l H
           clear H
           go_upto_if 57 with (fail)
           have H := HC23.out
           clear HC23
           by_cases c24 : x56_3 < ((rd_L9 y225 x50_2).length : Int)
           ·rw [if_pos c24] at H
            have c24b0 : decide (x56_3 < ((rd_L9 y225 x50_2).length : Int)) = true := decide_eq_true c24
            clear c24
            (first | rw [c24b0] | (simp only [i64_w, i32_w]; rw [c24b0]) | skip)
            by_cases c25 : 0 ≤ x56_3
            ·rw [if_pos c25] at H
             have c25b0 : decide (0 ≤ x56_3) = true := decide_eq_true c25
             clear c25
             by_cases c26 : x56_3 < ((rd_L9 y225 x50_2).length : Int)
             ·rw [if_pos c26] at H
              have c26b0 : decide (x56_3 < ((rd_L9 y225 x50_2).length : Int)) = true := decide_eq_true c26
              clear c26
              by_cases c27 : ((rdOf ByteArray.empty (rd_L9 y225 x50_2) x56_3).size : Int) = 0
              ·rw [if_pos c27] at H
               have c27b0 : (((rdOf ByteArray.empty (rd_L9 y225 x50_2) x56_3).size : Int) == 0) = true := beq_iff_eq.mpr c27
               have c27b1 : (((rdOf ByteArray.empty (rd_L9 y225 x50_2) x56_3).size : Int) != 0) = false := bne_eq_false_iff_eq.mpr c27
               clear c27
               have H' := Sq.l H
               clear H
               have p229 : 0 ≤ (x56_3 : Int) := of_decide_eq_true (by first | (with_reducible assumption) | assumption)
               have q229 : x56_3 < ((rd_L9 y225 x50_2).length : Int) := of_decide_eq_true (by first | (with_reducible assumption) | assumption)
               obtain ⟨ad229, e229, hx229_0⟩ := Kd.at_string HR228_0.out x56_3 p229 q229
               cases e229
               try replace hx229_0 := (HB.out.cell (World.block_lt_of_cell? w _ hx229_0)).trans hx229_0
               replace p229 := eq_true p229; replace q229 := eq_true q229
               go_wp2
               go_roundg k3
               case measure => have := HJ1.out; have := HK2.out; have := HK3.out; omega
               case rel => exact ⟨(wrap64 (x56_3 + 1)), (by first | rfl | (simp; done) | (simp [*]; done)), H', ⟨by have := HJ1.out; have := HK2.out; have := HK3.out; omega⟩, ⟨by (with_reducible repeat (first | apply Sq.b1 | apply Sq.b2 | apply Sq.b3)); exact HO_48.out⟩, ⟨by (with_reducible repeat (first | apply Sq.x | apply Sq.y | apply Sq.z)); exact HO_223000.out⟩, ⟨by (with_reducible repeat (first | apply Sq.x | apply Sq.y | apply Sq.z)); exact HO_223001.out⟩, ⟨by (with_reducible repeat (first | refine Sq.d ?_ _ | refine Sq.e ?_ | refine Sq.f ?_ _)); exact BK222.out⟩, ⟨by repeat (first | (with_reducible exact HR228_0.out) | (with_reducible refine Sq.s ?_ _) | (with_reducible refine Sq.t ?_ _) | (with_reducible refine Sq.u ?_) | exact HR228_0.out)⟩, ⟨by repeat (first | (with_reducible first | exact HB.out | apply Sq.i | apply Sq.j | apply Sq.k | refine Sq.h ?_ GE222.out) | exact HB.out)⟩⟩
              ·rw [if_neg c27] at H
               have c27b0 : (((rdOf ByteArray.empty (rd_L9 y225 x50_2) x56_3).size : Int) == 0) = false := beq_eq_false_iff_ne.mpr c27
               have c27b1 : (((rdOf ByteArray.empty (rd_L9 y225 x50_2) x56_3).size : Int) != 0) = true := bne_iff_ne.mpr c27
               have HC28 := Sq.l H
               clear H
               have p229 : 0 ≤ (x56_3 : Int) := of_decide_eq_true (by first | (with_reducible assumption) | assumption)
               have q229 : x56_3 < ((rd_L9 y225 x50_2).length : Int) := of_decide_eq_true (by first | (with_reducible assumption) | assumption)
               obtain ⟨ad229, e229, hx229_0⟩ := Kd.at_string HR228_0.out x56_3 p229 q229
               cases e229
               try replace hx229_0 := (HB.out.cell (World.block_lt_of_cell? w _ hx229_0)).trans hx229_0
               replace p229 := eq_true p229; replace q229 := eq_true q229
               go_upto_if 67 with (fail)
               have H := HC28.out
               clear HC28
               by_cases c29 : ((rdOf ByteArray.empty (rd_L9 y225 x50_2) x56_3).size : Int) = 16
               ·rw [if_pos c29] at H
                have c29b0 : (((rdOf ByteArray.empty (rd_L9 y225 x50_2) x56_3).size : Int) == 16) = true := beq_iff_eq.mpr c29
                have c29b1 : (((rdOf ByteArray.empty (rd_L9 y225 x50_2) x56_3).size : Int) != 16) = false := bne_eq_false_iff_eq.mpr c29
                clear c29
                (first | rw [c29b0] | (simp only [i64_w, i32_w]; rw [c29b0]) | skip)
                have H' := Sq.l H
                clear H
                go_wp2
                go_roundg k3
                case measure => have := HJ1.out; have := HK2.out; have := HK3.out; omega
                case rel => exact ⟨(wrap64 (x56_3 + 1)), (by first | rfl | (simp; done) | (simp [*]; done)), H', ⟨by have := HJ1.out; have := HK2.out; have := HK3.out; omega⟩, ⟨by (with_reducible repeat (first | apply Sq.b1 | apply Sq.b2 | apply Sq.b3)); exact HO_48.out⟩, ⟨by (with_reducible repeat (first | apply Sq.x | apply Sq.y | apply Sq.z)); exact HO_223000.out⟩, ⟨by (with_reducible repeat (first | apply Sq.x | apply Sq.y | apply Sq.z)); exact HO_223001.out⟩, ⟨by (with_reducible repeat (first | refine Sq.d ?_ _ | refine Sq.e ?_ | refine Sq.f ?_ _)); exact BK222.out⟩, ⟨by repeat (first | (with_reducible exact HR228_0.out) | (with_reducible refine Sq.s ?_ _) | (with_reducible refine Sq.t ?_ _) | (with_reducible refine Sq.u ?_) | exact HR228_0.out)⟩, ⟨by repeat (first | (with_reducible first | exact HB.out | apply Sq.i | apply Sq.j | apply Sq.k | refine Sq.h ?_ GE222.out) | exact HB.out)⟩⟩
               ·rw [if_neg c29] at H
                have c29b0 : (((rdOf ByteArray.empty (rd_L9 y225 x50_2) x56_3).size : Int) == 16) = false := beq_eq_false_iff_ne.mpr c29
                have c29b1 : (((rdOf ByteArray.empty (rd_L9 y225 x50_2) x56_3).size : Int) != 16) = true := bne_iff_ne.mpr c29
                (first | rw [c29b0] | (simp only [i64_w, i32_w]; rw [c29b0]) | skip)
                obtain rfl := Option.some.inj H
                go_wp2
                go_ret
                exact ⟨by first | rfl | (simp [errW_none, errW_some] <;> rfl) | (simp [*, errW_none, errW_some] <;> rfl), by repeat (first | (with_reducible first | exact HB.out | apply Sq.i | apply Sq.j | apply Sq.k | refine Sq.h ?_ GE222.out) | exact HB.out)⟩
             ·rw [if_neg c26] at H
              exact absurd H (by simp)
            ·rw [if_neg c25] at H
             exact absurd H (by simp)
           ·rw [if_neg c24] at H
            have c24b0 : decide (x56_3 < ((rd_L9 y225 x50_2).length : Int)) = false := decide_eq_false c24
            clear c24
            (first | rw [c24b0] | (simp only [i64_w, i32_w]; rw [c24b0]) | skip)
            have H' := Sq.l H
            clear H
            go_wp2
            go_roundg k3
            case measure => have := HJ1.out; have := HK2.out; have := HK3.out; omega
            case rel => exact ⟨(wrap64 (x50_2 + 1)), (by first | rfl | (simp; done) | (simp [*]; done)), H', ⟨by have := HJ1.out; have := HK2.out; have := HK3.out; omega⟩, ⟨by (with_reducible repeat (first | apply Sq.b1 | apply Sq.b2 | apply Sq.b3)); exact HO_48.out⟩, ⟨by (with_reducible repeat (first | apply Sq.x | apply Sq.y | apply Sq.z)); exact HO_223000.out⟩, ⟨by (with_reducible repeat (first | apply Sq.x | apply Sq.y | apply Sq.z)); exact HO_223001.out⟩, ⟨by (with_reducible repeat (first | refine Sq.d ?_ _ | refine Sq.e ?_ | refine Sq.f ?_ _)); exact BK222.out⟩, ⟨by repeat (first | (with_reducible first | exact HB.out | apply Sq.i | apply Sq.j | apply Sq.k | refine Sq.h ?_ GE222.out) | exact HB.out)⟩⟩
        ·rw [if_neg c22] at H
         exact absurd H (by simp)
       ·rw [if_neg c21] at H
        exact absurd H (by simp)
      ·rw [if_neg c20] at H
       have c20b0 : decide (x50_2 < (y225.length : Int)) = false := decide_eq_false c20
       clear c20
       (first | rw [c20b0] | (simp only [i64_w, i32_w]; rw [c20b0]) | skip)
       have H' := Sq.l H
       clear H
       have hcz30_0 : wr.cell? ⟨gb222, 0, none⟩ = some (.slice A0_0 l0_0.length c0_0) := (Sq.o BK222.out 0).trans rfl
       have hcz30_1 : wr.cell? ⟨gb222, 1, none⟩ = some (.slice A0_1 l0_1.length c0_1) := (Sq.o BK222.out 1).trans rfl
       have hcz30_2 : wr.cell? ⟨gb222, 2, none⟩ = some (.slice A0_2 l0_2.length c0_2) := (Sq.o BK222.out 2).trans rfl
       have hcz30_3 : wr.cell? ⟨gb222, 3, none⟩ = some (.int .i64 a0_3) := (Sq.o BK222.out 3).trans rfl
       have hfz30_0 := Sq.r BK222.out 0
       have hfz30_1 := Sq.r BK222.out 1
       have hfz30_2 := Sq.r BK222.out 2
       have hfz30_3 := Sq.r BK222.out 3
       go_wp2
       go_loopg [73] k2 (fun kq v73 w' => ∃ (x73_3 : Int), v73 = .int .i64 x73_3 ∧ Aside0 (impl_MemHostFault.l2 kq l0_2 (l0_2.length : Int) x73_3 l0_0 l0_1 l0_2 a0_3 = some r) ∧ Aside0 (kq ≤ k2) ∧ Aside0 (Kd.V Kd.string 9 w' w.heap.size (fun k_ => ((P0_0_ k_ ∨ P0_1_ k_) ∨ w.heap.size ≤ k_) ∧ k_ ≠ gb222) (.slice A0_0 l0_0.length c0_0) l0_0) ∧ Aside0 (Kd.V Kd.string 9 w' w.heap.size (fun k_ => ((P0_0_ k_ ∨ P0_1_ k_) ∨ w.heap.size ≤ k_) ∧ k_ ≠ gb222) (.slice A0_1 l0_1.length c0_1) l0_1) ∧ Aside0 (w'.heap[gb222]? = some (.cells #[(.slice A0_0 l0_0.length c0_0), (.slice A0_1 l0_1.length c0_1), (.slice A0_2 l0_2.length c0_2), .int .i64 a0_3] 30 (0, 0))) ∧ Aside0 (Below w.heap.size w w'))
       case atStart => exact ⟨(0), (by first | rfl | (simp; done) | (simp [*]; done)), H', ⟨Nat.le_refl _⟩, ⟨by (with_reducible repeat (first | apply Sq.x | apply Sq.y | apply Sq.z)); exact Sq.a6 HO_223000.out (fun _ hk => ⟨hk.1, hk.2.2⟩)⟩, ⟨by (with_reducible repeat (first | apply Sq.x | apply Sq.y | apply Sq.z)); exact Sq.a6 HO_223001.out (fun _ hk => ⟨hk.1, hk.2.2⟩)⟩, ⟨by (with_reducible repeat (first | refine Sq.d ?_ _ | refine Sq.e ?_ | refine Sq.f ?_ _)); exact BK222.out⟩, ⟨by repeat (first | (with_reducible first | exact HB.out | apply Sq.i | apply Sq.j | apply Sq.k | refine Sq.h ?_ GE222.out) | exact HB.out)⟩⟩
       case round =>
        clear H'
        try clear c1; try clear c2; try clear p2; try clear q2; try clear hx2; try clear c4; try clear c4b0; try clear c4b1; try clear c6; try clear c6b0; try clear c6b1; try clear p6; try clear c9; try clear c11; try clear c14; try clear c20; try clear c20b0; try clear c21; try clear c21b0; try clear c22; try clear c22b0; try clear p22; try clear q22; try clear hx22; try clear c24; try clear c24b0; try clear c25; try clear c25b0; try clear c26; try clear c26b0; try clear c27; try clear c27b0; try clear c27b1; try clear c29; try clear c29b0; try clear c29b1; try clear hcz11_0; try clear hcz11_1; try clear hcz11_2; try clear hcz11_3; try clear hcz12_0; try clear hcz12_1; try clear hcz12_2; try clear hcz12_3; try clear hcz15_0; try clear hcz15_1; try clear hcz15_2; try clear hcz15_3; try clear hcz30_0; try clear hcz30_1; try clear hcz30_2; try clear hcz30_3; try clear hcz5_0; try clear hcz5_1; try clear hcz5_2; try clear hcz5_3; try clear hcz7_0; try clear hcz7_1; try clear hcz7_2; try clear hcz7_3; try clear hfz11_0; try clear hfz11_1; try clear hfz11_2; try clear hfz11_3; try clear hfz12_0; try clear hfz12_1; try clear hfz12_2; try clear hfz12_3; try clear hfz15_0; try clear hfz15_1; try clear hfz15_2; try clear hfz15_3; try clear hfz30_0; try clear hfz30_1; try clear hfz30_2; try clear hfz30_3; try clear hfz5_0; try clear hfz5_1; try clear hfz5_2; try clear hfz5_3; try clear hfz7_0; try clear hfz7_1; try clear hfz7_2; try clear hfz7_3; try clear hx228_0; try clear hx229_0; try clear p2; try clear p22; try clear p228; try clear p229; try clear q2; try clear q22; try clear q228; try clear q229
        obtain ⟨x73_3, rfl, HA, HK3, HO_223000, HO_223001, BK222, HB⟩ := hrel
        cases gk with
        | zero => exact absurd HA.out (by simp [impl_MemHostFault.l2])
        | succ k3 =>
         have H := HA.out
         clear HA
         simp only [impl_MemHostFault.l2] at H
         have HC31 := Sq.l H
         clear H
         go_upto_if 74 with (fail)
         have H := HC31.out
         clear HC31
         by_cases c32 : x73_3 < (l0_2.length : Int)
         ·rw [if_pos c32] at H
          have c32b0 : decide (x73_3 < (l0_2.length : Int)) = true := decide_eq_true c32
          clear c32
          (first | rw [c32b0] | (simp only [i64_w, i32_w]; rw [c32b0]) | skip)
          by_cases c33 : 0 ≤ x73_3
          ·rw [if_pos c33] at H
           have c33b0 : decide (0 ≤ x73_3) = true := decide_eq_true c33
           clear c33
           by_cases c34 : x73_3 < (l0_2.length : Int)
           ·rw [if_pos c34] at H
            have c34b0 : decide (x73_3 < (l0_2.length : Int)) = true := decide_eq_true c34
            clear c34
            have HC35 := Sq.l H
            clear H
            have p230 : 0 ≤ (x73_3 : Int) := of_decide_eq_true (by first | (with_reducible assumption) | assumption)
            have q230 : x73_3 < (l0_2.length : Int) := of_decide_eq_true (by first | (with_reducible assumption) | assumption)
            obtain ⟨ad230, A230_0, c230_0, A230_2, c230_2, e230, hx230_0, hx230_1, hx230_2, hl230_0, hi230_0, hl230_2, hi230_2⟩ := at_T90 HR0_2.out x73_3 p230 q230
            cases e230
            try replace hx230_0 := (HB.out.cell (World.block_lt_of_cell? w _ hx230_0)).trans hx230_0
            try replace hx230_1 := (HB.out.cell (World.block_lt_of_cell? w _ hx230_1)).trans hx230_1
            try replace hx230_2 := (HB.out.cell (World.block_lt_of_cell? w _ hx230_2)).trans hx230_2
            have HR230_0 := Sq.l hi230_0
            have HC230_0 := Sq.l hl230_0
            clear hi230_0 hl230_0
            have HR230_2 := Sq.l hi230_2
            have HC230_2 := Sq.l hl230_2
            clear hi230_2 hl230_2; replace p230 := eq_true p230; replace q230 := eq_true q230
            go_upto_region 16 with (first | ((with_reducible refine gate_dst (N := 8) rfl ?_); (try (refine gate_guard (by rfl) ?_; dsimp only)); refine box_event ?hg (N := 8) ?hd (cs := #[.slice none 0 0, .string (⟨#[]⟩ : ByteArray), .slice none 0 0]) (t := 90) ?hr ?_; (case hd => rfl); (case hg => rfl); (case hr => first | (go_simp; done) | (go_simp; rfl)); intro gb231 hg w36 hbox hb; have n0_ := Sq.l (Kd.V_below (Kd.V_elderB (by (with_reducible repeat (first | apply Sq.x | apply Sq.y | apply Sq.z)); exact HO_223000.out) gb231 (Nat.le_of_eq hg.symm)) hb); have n1_ := Sq.l (Kd.V_below (Kd.V_elderB (by (with_reducible repeat (first | apply Sq.x | apply Sq.y | apply Sq.z)); exact HO_223001.out) gb231 (Nat.le_of_eq hg.symm)) hb); have n2_ := Sq.l (Sq.m (g := gb222) (o := .cells #[.slice A0_0 l0_0.length c0_0, .slice A0_1 l0_1.length c0_1, .slice (some ad230) l0_2.length c0_2, .int .i64 a0_3] 30 (0, 0)) (by (with_reducible repeat (first | refine Sq.d ?_ _ | refine Sq.e ?_ | refine Sq.f ?_ _)); exact BK222.out) hb); have n3_ := Sq.l (Sq.a4 (by repeat (first | (with_reducible first | exact HB.out | apply Sq.i | apply Sq.j | apply Sq.k | refine Sq.h ?_ GE222.out) | exact HB.out)) hb); have n4_ := Sq.l (hbox); have n5_ := Sq.l ((by rw [hg]; exact (Sq.a5 (by repeat (first | (with_reducible first | exact HB.out | apply Sq.i | apply Sq.j | apply Sq.k | refine Sq.h ?_ GE222.out) | exact HB.out))) : w.heap.size ≤ gb231)); have n6_ := Sq.l ((by rw [hg]; exact (Sq.a5 (by repeat (first | (with_reducible first | exact HB.out | apply Sq.i | apply Sq.j | apply Sq.k | refine Sq.h ?_ GE222.out) | exact HB.out))) : w.heap.size ≤ gb231)); have n7_ := Sq.l ((by rw [hg]; exact Nat.ne_of_lt (blk_lt (g := gb222) (o := .cells #[.slice A0_0 l0_0.length c0_0, .slice A0_1 l0_1.length c0_1, .slice (some ad230) l0_2.length c0_2, .int .i64 a0_3] 30 (0, 0)) (by (with_reducible repeat (first | refine Sq.d ?_ _ | refine Sq.e ?_ | refine Sq.f ?_ _)); exact BK222.out)) : gb222 ≠ gb231)); have n8_ := Sq.l ((by rw [hg]; exact Nat.ne_of_gt (blk_lt (g := gb222) (o := .cells #[.slice A0_0 l0_0.length c0_0, .slice A0_1 l0_1.length c0_1, .slice (some ad230) l0_2.length c0_2, .int .i64 a0_3] 30 (0, 0)) (by (with_reducible repeat (first | refine Sq.d ?_ _ | refine Sq.e ?_ | refine Sq.f ?_ _)); exact BK222.out)) : gb231 ≠ gb222)); clear HO_223000; clear HO_223001; clear BK222; clear HB; have HO_223000 := n0_; have HO_223001 := n1_; have BK222 := n2_; have HB := n3_; have BK231 := n4_; have GW231 := n5_; have GE231 := n6_; have NB222_231 := n7_; have NB231_222 := n8_; clear n0_ n1_ n2_ n3_ n4_ n5_ n6_ n7_ n8_; clear hb hbox hg; have hnb37 := NB231_222.out; have hnc37 := NB222_231.out; have hcz38_0 : w36.cell? ⟨gb231, 0, none⟩ = some (.slice none 0 0) := (Sq.o BK231.out 0).trans rfl; have hcz38_1 : w36.cell? ⟨gb231, 1, none⟩ = some (.string (⟨#[]⟩ : ByteArray)) := (Sq.o BK231.out 1).trans rfl; have hcz38_2 : w36.cell? ⟨gb231, 2, none⟩ = some (.slice none 0 0) := (Sq.o BK231.out 2).trans rfl; have hfz38_0 := Sq.r BK231.out 0; have hfz38_1 := Sq.r BK231.out 1; have hfz38_2 := Sq.r BK231.out 2))
            (try simp only [Act.put, List.setIfInBounds_toArray, List.set_cons_zero, List.set_cons_succ])
            go_cut [86] (fun v86 wc => ∃ (kq : Nat) (x86_34 : Bool), v86 = .bool x86_34 ∧ Aside0 (impl_MemHostFault.j4 kq l0_2 (l0_2.length : Int) x73_3 x86_34 l0_0 l0_1 l0_2 a0_3 ((rd_T90 l0_2 x73_3).f0) ((rd_T90 l0_2 x73_3).f1) ((rd_T90 l0_2 x73_3).f2) = some r) ∧ Aside0 (kq ≤ k3) ∧ Aside0 (Kd.V Kd.string 9 wc w.heap.size (fun k_ => ((P0_0_ k_ ∨ P0_1_ k_) ∨ w.heap.size ≤ k_) ∧ k_ ≠ gb222 ∧ k_ ≠ gb231) (.slice A0_0 l0_0.length c0_0) l0_0) ∧ Aside0 (Kd.V Kd.string 9 wc w.heap.size (fun k_ => ((P0_0_ k_ ∨ P0_1_ k_) ∨ w.heap.size ≤ k_) ∧ k_ ≠ gb222 ∧ k_ ≠ gb231) (.slice A0_1 l0_1.length c0_1) l0_1) ∧ Aside0 (wc.heap[gb222]? = some (.cells #[(.slice A0_0 l0_0.length c0_0), (.slice A0_1 l0_1.length c0_1), (.slice (some ad230) l0_2.length c0_2), .int .i64 a0_3] 30 (0, 0))) ∧ Aside0 (wc.heap[gb231]? = some (.cells #[(.slice A230_0 ((rd_T90 l0_2 x73_3).f0).length c230_0), .string ((rd_T90 l0_2 x73_3).f1), (.slice A230_2 ((rd_T90 l0_2 x73_3).f2).length c230_2)] 90 (0, 0))) ∧ Aside0 (Below w.heap.size w wc))
            case first =>
             have H := HC35.out
             clear HC35
             by_cases c39 : (((rd_T90 l0_2 x73_3).f0).length : Int) > 32
             ·rw [if_pos c39] at H
              have c39b0 : decide (32 < (((rd_T90 l0_2 x73_3).f0).length : Int)) = true := decide_eq_true c39
              have c39b1 : decide (32 < ((rd_T90 l0_2 x73_3).f0).length) = true := decide_eq_true (by omega)
              clear c39
              (first | rw [c39b0] | (simp only [i64_w, i32_w]; rw [c39b0]) | skip)
              have H' := Sq.l H
              clear H; have hnb40 := NB231_222.out; have hnc40 := NB222_231.out
              have hcz41_0 : w36.cell? ⟨gb231, 0, none⟩ = some (.slice none 0 0) := (Sq.o BK231.out 0).trans rfl
              have hcz41_1 : w36.cell? ⟨gb231, 1, none⟩ = some (.string (⟨#[]⟩ : ByteArray)) := (Sq.o BK231.out 1).trans rfl
              have hcz41_2 : w36.cell? ⟨gb231, 2, none⟩ = some (.slice none 0 0) := (Sq.o BK231.out 2).trans rfl
              have hfz41_0 := Sq.r BK231.out 0
              have hfz41_1 := Sq.r BK231.out 1
              have hfz41_2 := Sq.r BK231.out 2
              go_wp2
              go_meet
              case rel => exact ⟨_, (true), (by first | rfl | (simp; done) | (simp [*]; done)), H', ⟨by have := HJ1.out; have := HK2.out; have := HK3.out; first | omega | exact Nat.le_refl _⟩, ⟨by (with_reducible repeat (first | apply Sq.x | apply Sq.y | apply Sq.z)); exact Sq.a6 (Sq.V3 (Sq.a6 HO_223000.out (fun k_ hk => (⟨hk, hk.2⟩ : _ ∧ k_ ≠ gb231))) (fun _ hk => hk.2)) (fun _ hk => ⟨hk.1.1.1, ⟨hk.1.1.2, hk.1.2⟩⟩)⟩, ⟨by (with_reducible repeat (first | apply Sq.x | apply Sq.y | apply Sq.z)); exact Sq.a6 (Sq.V3 (Sq.a6 HO_223001.out (fun k_ hk => (⟨hk, hk.2⟩ : _ ∧ k_ ≠ gb231))) (fun _ hk => hk.2)) (fun _ hk => ⟨hk.1.1.1, ⟨hk.1.1.2, hk.1.2⟩⟩)⟩, ⟨by (with_reducible repeat (first | refine Sq.d ?_ _ | refine Sq.e ?_ | refine Sq.f ?_ _)); refine Sq.B3 ?_ NB222_231.out; (with_reducible repeat (first | refine Sq.d ?_ _ | refine Sq.e ?_ | refine Sq.f ?_ _)); exact BK222.out⟩, ⟨by (with_reducible repeat (first | refine Sq.d ?_ _ | refine Sq.e ?_ | refine Sq.f ?_ _)); refine Sq.v (cs := #[.slice A230_0 ((rd_T90 l0_2 x73_3).f0).length c230_0, .string ((rd_T90 l0_2 x73_3).f1), .slice none 0 0]) ?_ 2 _ rfl; (with_reducible repeat (first | refine Sq.d ?_ _ | refine Sq.e ?_ | refine Sq.f ?_ _)); refine Sq.v (cs := #[.slice A230_0 ((rd_T90 l0_2 x73_3).f0).length c230_0, .string (⟨#[]⟩ : ByteArray), .slice none 0 0]) ?_ 1 _ rfl; (with_reducible repeat (first | refine Sq.d ?_ _ | refine Sq.e ?_ | refine Sq.f ?_ _)); refine Sq.v (cs := #[.slice none 0 0, .string (⟨#[]⟩ : ByteArray), .slice none 0 0]) ?_ 0 _ rfl; (with_reducible repeat (first | refine Sq.d ?_ _ | refine Sq.e ?_ | refine Sq.f ?_ _)); exact BK231.out⟩, ⟨by repeat (first | (with_reducible first | exact HB.out | apply Sq.i | apply Sq.j | apply Sq.k | refine Sq.h ?_ GE222.out | refine Sq.h ?_ GE231.out) | exact HB.out)⟩⟩
             ·rw [if_neg c39] at H
              have c39b0 : decide (32 < (((rd_T90 l0_2 x73_3).f0).length : Int)) = false := decide_eq_false c39
              have c39b1 : decide (32 < ((rd_T90 l0_2 x73_3).f0).length) = false := decide_eq_false (by omega)
              clear c39
              (first | rw [c39b0] | (simp only [i64_w, i32_w]; rw [c39b0]) | skip)
              have H' := Sq.l H
              clear H; have hnb42 := NB231_222.out; have hnc42 := NB222_231.out
              have hcz43_0 : w36.cell? ⟨gb231, 0, none⟩ = some (.slice none 0 0) := (Sq.o BK231.out 0).trans rfl
              have hcz43_1 : w36.cell? ⟨gb231, 1, none⟩ = some (.string (⟨#[]⟩ : ByteArray)) := (Sq.o BK231.out 1).trans rfl
              have hcz43_2 : w36.cell? ⟨gb231, 2, none⟩ = some (.slice none 0 0) := (Sq.o BK231.out 2).trans rfl
              have hfz43_0 := Sq.r BK231.out 0
              have hfz43_1 := Sq.r BK231.out 1
              have hfz43_2 := Sq.r BK231.out 2
              go_wp2
              go_meet
              case rel => exact ⟨_, (decide ((((rd_T90 l0_2 x73_3).f1).size : Int) > 4)), (by first | rfl | (simp; done) | (simp [*]; done)), H', ⟨by have := HJ1.out; have := HK2.out; have := HK3.out; first | omega | exact Nat.le_refl _⟩, ⟨by (with_reducible repeat (first | apply Sq.x | apply Sq.y | apply Sq.z)); exact Sq.a6 (Sq.V3 (Sq.a6 HO_223000.out (fun k_ hk => (⟨hk, hk.2⟩ : _ ∧ k_ ≠ gb231))) (fun _ hk => hk.2)) (fun _ hk => ⟨hk.1.1.1, ⟨hk.1.1.2, hk.1.2⟩⟩)⟩, ⟨by (with_reducible repeat (first | apply Sq.x | apply Sq.y | apply Sq.z)); exact Sq.a6 (Sq.V3 (Sq.a6 HO_223001.out (fun k_ hk => (⟨hk, hk.2⟩ : _ ∧ k_ ≠ gb231))) (fun _ hk => hk.2)) (fun _ hk => ⟨hk.1.1.1, ⟨hk.1.1.2, hk.1.2⟩⟩)⟩, ⟨by (with_reducible repeat (first | refine Sq.d ?_ _ | refine Sq.e ?_ | refine Sq.f ?_ _)); refine Sq.B3 ?_ NB222_231.out; (with_reducible repeat (first | refine Sq.d ?_ _ | refine Sq.e ?_ | refine Sq.f ?_ _)); exact BK222.out⟩, ⟨by (with_reducible repeat (first | refine Sq.d ?_ _ | refine Sq.e ?_ | refine Sq.f ?_ _)); refine Sq.v (cs := #[.slice A230_0 ((rd_T90 l0_2 x73_3).f0).length c230_0, .string ((rd_T90 l0_2 x73_3).f1), .slice none 0 0]) ?_ 2 _ rfl; (with_reducible repeat (first | refine Sq.d ?_ _ | refine Sq.e ?_ | refine Sq.f ?_ _)); refine Sq.v (cs := #[.slice A230_0 ((rd_T90 l0_2 x73_3).f0).length c230_0, .string (⟨#[]⟩ : ByteArray), .slice none 0 0]) ?_ 1 _ rfl; (with_reducible repeat (first | refine Sq.d ?_ _ | refine Sq.e ?_ | refine Sq.f ?_ _)); refine Sq.v (cs := #[.slice none 0 0, .string (⟨#[]⟩ : ByteArray), .slice none 0 0]) ?_ 0 _ rfl; (with_reducible repeat (first | refine Sq.d ?_ _ | refine Sq.e ?_ | refine Sq.f ?_ _)); exact BK231.out⟩, ⟨by repeat (first | (with_reducible first | exact HB.out | apply Sq.i | apply Sq.j | apply Sq.k | refine Sq.h ?_ GE222.out | refine Sq.h ?_ GE231.out) | exact HB.out)⟩⟩
            case rest =>
             clear HC35; try clear c1; try clear c2; try clear p2; try clear q2; try clear hx2; try clear c3; try clear c4; try clear c4b0; try clear c4b1; try clear c6; try clear c6b0; try clear c6b1; try clear p6; try clear c9; try clear c11; try clear c14; try clear c20; try clear c20b0; try clear c21; try clear c21b0; try clear c22; try clear c22b0; try clear p22; try clear q22; try clear hx22; try clear c23; try clear p23; try clear q23; try clear hx23; try clear c24; try clear c24b0; try clear c25; try clear c25b0; try clear c26; try clear c26b0; try clear c27; try clear c27b0; try clear c27b1; try clear c29; try clear c29b0; try clear c29b1; try clear c32; try clear c32b0; try clear c33; try clear c33b0; try clear c34; try clear c34b0; try clear c37; try clear c39; try clear c39b0; try clear c39b1; try clear c40; try clear c42; try clear hcz11_0; try clear hcz11_1; try clear hcz11_2; try clear hcz11_3; try clear hcz12_0; try clear hcz12_1; try clear hcz12_2; try clear hcz12_3; try clear hcz15_0; try clear hcz15_1; try clear hcz15_2; try clear hcz15_3; try clear hcz30_0; try clear hcz30_1; try clear hcz30_2; try clear hcz30_3; try clear hcz38_0; try clear hcz38_1; try clear hcz38_2; try clear hcz41_0; try clear hcz41_1; try clear hcz41_2; try clear hcz43_0; try clear hcz43_1; try clear hcz43_2; try clear hcz5_0; try clear hcz5_1; try clear hcz5_2; try clear hcz5_3; try clear hcz7_0; try clear hcz7_1; try clear hcz7_2; try clear hcz7_3; try clear hfz11_0; try clear hfz11_1; try clear hfz11_2; try clear hfz11_3; try clear hfz12_0; try clear hfz12_1; try clear hfz12_2; try clear hfz12_3; try clear hfz15_0; try clear hfz15_1; try clear hfz15_2; try clear hfz15_3; try clear hfz30_0; try clear hfz30_1; try clear hfz30_2; try clear hfz30_3; try clear hfz38_0; try clear hfz38_1; try clear hfz38_2; try clear hfz41_0; try clear hfz41_1; try clear hfz41_2; try clear hfz43_0; try clear hfz43_1; try clear hfz43_2; try clear hfz5_0; try clear hfz5_1; try clear hfz5_2; try clear hfz5_3; try clear hfz7_0; try clear hfz7_1; try clear hfz7_2; try clear hfz7_3; try clear hx228_0; try clear hx229_0; try clear hx230_0; try clear hx230_1; try clear hx230_2; try clear p2; try clear p22; try clear p228; try clear p229; try clear p230; try clear p6; try clear q2; try clear q22; try clear q228; try clear q229; try clear q230
             obtain ⟨kq, x86_34, rfl, HA, HJ34, HO_223000, HO_223001, BK222, BK231, HB⟩ := hcut
             cases kq with
             | zero => exact absurd HA.out (by simp [impl_MemHostFault.j4])
             | succ kj34 =>
              have H := HA.out
              clear HA
              simp only [impl_MemHostFault.j4] at H
              have HC44 := Sq.l H
              clear H
              go_upto_if 86 with (fail)
              have H := HC44.out
              clear HC44
              by_cases c45 : x86_34 = true
              ·subst c45
               rw [if_pos rfl] at H
               obtain rfl := Option.some.inj H
               go_wp2
               go_ret
               exact ⟨by first | rfl | (simp [errW_none, errW_some] <;> rfl) | (simp [*, errW_none, errW_some] <;> rfl), by repeat (first | (with_reducible first | exact HB.out | apply Sq.i | apply Sq.j | apply Sq.k | refine Sq.h ?_ GE222.out | refine Sq.h ?_ GE231.out) | exact HB.out)⟩
              ·replace c45 := Bool.eq_false_iff.mpr c45
               subst c45
               rw [if_neg (show ¬ (false = true) by decide)] at H
               have H' := Sq.l H
               clear H; have hnb46 := NB231_222.out; have hnc46 := NB222_231.out
               have hcz47_0 : wc.cell? ⟨gb231, 0, none⟩ = some (.slice A230_0 ((rd_T90 l0_2 x73_3).f0).length c230_0) := (Sq.o BK231.out 0).trans rfl
               have hcz47_1 : wc.cell? ⟨gb231, 1, none⟩ = some (.string ((rd_T90 l0_2 x73_3).f1)) := (Sq.o BK231.out 1).trans rfl
               have hcz47_2 : wc.cell? ⟨gb231, 2, none⟩ = some (.slice A230_2 ((rd_T90 l0_2 x73_3).f2).length c230_2) := (Sq.o BK231.out 2).trans rfl
               have hfz47_0 := Sq.r BK231.out 0
               have hfz47_1 := Sq.r BK231.out 1
               have hfz47_2 := Sq.r BK231.out 2
               go_wp2
               go_loopg [90] kj34 (fun kq v90 w' => ∃ (x90_5 : Int), v90 = .int .i64 x90_5 ∧ Aside0 (impl_MemHostFault.l3 kq l0_2 (l0_2.length : Int) x73_3 ((rd_T90 l0_2 x73_3).f0) (((rd_T90 l0_2 x73_3).f0).length : Int) x90_5 l0_0 l0_1 l0_2 a0_3 ((rd_T90 l0_2 x73_3).f0) ((rd_T90 l0_2 x73_3).f1) ((rd_T90 l0_2 x73_3).f2) = some r) ∧ Aside0 (kq ≤ kj34) ∧ Aside0 (Kd.V Kd.string 9 w' w.heap.size (fun k_ => ((P0_0_ k_ ∨ P0_1_ k_) ∨ w.heap.size ≤ k_) ∧ k_ ≠ gb222 ∧ k_ ≠ gb231) (.slice A0_0 l0_0.length c0_0) l0_0) ∧ Aside0 (Kd.V Kd.string 9 w' w.heap.size (fun k_ => ((P0_0_ k_ ∨ P0_1_ k_) ∨ w.heap.size ≤ k_) ∧ k_ ≠ gb222 ∧ k_ ≠ gb231) (.slice A0_1 l0_1.length c0_1) l0_1) ∧ Aside0 (w'.heap[gb222]? = some (.cells #[(.slice A0_0 l0_0.length c0_0), (.slice A0_1 l0_1.length c0_1), (.slice (some ad230) l0_2.length c0_2), .int .i64 a0_3] 30 (0, 0))) ∧ Aside0 (w'.heap[gb231]? = some (.cells #[(.slice A230_0 ((rd_T90 l0_2 x73_3).f0).length c230_0), .string ((rd_T90 l0_2 x73_3).f1), (.slice A230_2 ((rd_T90 l0_2 x73_3).f2).length c230_2)] 90 (0, 0))) ∧ Aside0 (Below w.heap.size w w'))
               case atStart => exact ⟨(0), (by first | rfl | (simp; done) | (simp [*]; done)), H', ⟨Nat.le_refl _⟩, ⟨by (with_reducible repeat (first | apply Sq.x | apply Sq.y | apply Sq.z)); exact HO_223000.out⟩, ⟨by (with_reducible repeat (first | apply Sq.x | apply Sq.y | apply Sq.z)); exact HO_223001.out⟩, ⟨by (with_reducible repeat (first | refine Sq.d ?_ _ | refine Sq.e ?_ | refine Sq.f ?_ _)); exact BK222.out⟩, ⟨by (with_reducible repeat (first | refine Sq.d ?_ _ | refine Sq.e ?_ | refine Sq.f ?_ _)); exact BK231.out⟩, ⟨by repeat (first | (with_reducible first | exact HB.out | apply Sq.i | apply Sq.j | apply Sq.k | refine Sq.h ?_ GE222.out | refine Sq.h ?_ GE231.out) | exact HB.out)⟩⟩
               case round =>
                clear H'
                try clear c1; try clear c2; try clear p2; try clear q2; try clear hx2; try clear c3; try clear c4; try clear c4b0; try clear c4b1; try clear c6; try clear c6b0; try clear c6b1; try clear p6; try clear c9; try clear c11; try clear c14; try clear c20; try clear c20b0; try clear c21; try clear c21b0; try clear c22; try clear c22b0; try clear p22; try clear q22; try clear hx22; try clear c23; try clear p23; try clear q23; try clear hx23; try clear c24; try clear c24b0; try clear c25; try clear c25b0; try clear c26; try clear c26b0; try clear c27; try clear c27b0; try clear c27b1; try clear c29; try clear c29b0; try clear c29b1; try clear c32; try clear c32b0; try clear c33; try clear c33b0; try clear c34; try clear c34b0; try clear c37; try clear c39; try clear c39b0; try clear c39b1; try clear c40; try clear c42; try clear c45; try clear c46; try clear hcz11_0; try clear hcz11_1; try clear hcz11_2; try clear hcz11_3; try clear hcz12_0; try clear hcz12_1; try clear hcz12_2; try clear hcz12_3; try clear hcz15_0; try clear hcz15_1; try clear hcz15_2; try clear hcz15_3; try clear hcz30_0; try clear hcz30_1; try clear hcz30_2; try clear hcz30_3; try clear hcz38_0; try clear hcz38_1; try clear hcz38_2; try clear hcz41_0; try clear hcz41_1; try clear hcz41_2; try clear hcz43_0; try clear hcz43_1; try clear hcz43_2; try clear hcz47_0; try clear hcz47_1; try clear hcz47_2; try clear hcz5_0; try clear hcz5_1; try clear hcz5_2; try clear hcz5_3; try clear hcz7_0; try clear hcz7_1; try clear hcz7_2; try clear hcz7_3; try clear hfz11_0; try clear hfz11_1; try clear hfz11_2; try clear hfz11_3; try clear hfz12_0; try clear hfz12_1; try clear hfz12_2; try clear hfz12_3; try clear hfz15_0; try clear hfz15_1; try clear hfz15_2; try clear hfz15_3; try clear hfz30_0; try clear hfz30_1; try clear hfz30_2; try clear hfz30_3; try clear hfz38_0; try clear hfz38_1; try clear hfz38_2; try clear hfz41_0; try clear hfz41_1; try clear hfz41_2; try clear hfz43_0; try clear hfz43_1; try clear hfz43_2; try clear hfz47_0; try clear hfz47_1; try clear hfz47_2; try clear hfz5_0; try clear hfz5_1; try clear hfz5_2; try clear hfz5_3; try clear hfz7_0; try clear hfz7_1; try clear hfz7_2; try clear hfz7_3; try clear hx228_0; try clear hx229_0; try clear hx230_0; try clear hx230_1; try clear hx230_2; try clear p2; try clear p22; try clear p228; try clear p229; try clear p23; try clear p230; try clear p6; try clear q2; try clear q22; try clear q228; try clear q229; try clear q23; try clear q230
                obtain ⟨x90_5, rfl, HA, HK5, HO_223000, HO_223001, BK222, BK231, HB⟩ := hrel
                cases gk with
                | zero => exact absurd HA.out (by simp [impl_MemHostFault.l3])
                | succ k5 =>
                 have H := HA.out
                 clear HA
                 simp only [impl_MemHostFault.l3] at H
                 have HC48 := Sq.l H
                 clear H
                 go_upto_if 91 with (fail)
                 have H := HC48.out
                 clear HC48
                 by_cases c49 : x90_5 < (((rd_T90 l0_2 x73_3).f0).length : Int)
                 ·rw [if_pos c49] at H
                  have c49b0 : decide (x90_5 < (((rd_T90 l0_2 x73_3).f0).length : Int)) = true := decide_eq_true c49
                  clear c49
                  (first | rw [c49b0] | (simp only [i64_w, i32_w]; rw [c49b0]) | skip)
                  by_cases c50 : 0 ≤ x90_5
                  ·rw [if_pos c50] at H
                   have c50b0 : decide (0 ≤ x90_5) = true := decide_eq_true c50
                   clear c50
                   by_cases c51 : x90_5 < (((rd_T90 l0_2 x73_3).f0).length : Int)
                   ·rw [if_pos c51] at H
                    have c51b0 : decide (x90_5 < (((rd_T90 l0_2 x73_3).f0).length : Int)) = true := decide_eq_true c51
                    clear c51
                    replace H := Option.bind_eq_some_iff.mp H
                    obtain ⟨t234, A520, H⟩ := H
                    (try dsimp only at H)
                    have A52 := Sq.l A520
                    clear A520
                    have HC53 := Sq.l H
                    clear H
                    have p232 : 0 ≤ (x90_5 : Int) := of_decide_eq_true (by first | (with_reducible assumption) | assumption)
                    have q232 : x90_5 < (((rd_T90 l0_2 x73_3).f0).length : Int) := of_decide_eq_true (by first | (with_reducible assumption) | assumption)
                    obtain ⟨ad232, e232, hx232_0, hx232_1, hx232_2⟩ := at_T97 HR230_0.out x90_5 p232 q232
                    cases e232
                    try replace hx232_0 := (HB.out.cell (World.block_lt_of_cell? w _ hx232_0)).trans hx232_0
                    try replace hx232_1 := (HB.out.cell (World.block_lt_of_cell? w _ hx232_1)).trans hx232_1
                    try replace hx232_2 := (HB.out.cell (World.block_lt_of_cell? w _ hx232_2)).trans hx232_2
                    replace p232 := eq_true p232; replace q232 := eq_true q232
                    go_upto_if 99 with (first | ((with_reducible refine gate_dst (N := 10) rfl ?_); (try (refine gate_guard (by rfl) ?_; dsimp only)); refine box_event ?hg (N := 10) ?hd (cs := #[.int .i64 0, .int .i64 0, .int .i64 0]) (t := 97) ?hr ?_; (case hd => rfl); (case hg => rfl); (case hr => first | (go_simp; done) | (go_simp; rfl)); intro gb233 hg w54 hbox hb; have n0_ := Sq.l (Kd.V_below (Kd.V_elderB (by (with_reducible repeat (first | apply Sq.x | apply Sq.y | apply Sq.z)); exact HO_223000.out) gb233 (Nat.le_of_eq hg.symm)) hb); have n1_ := Sq.l (Kd.V_below (Kd.V_elderB (by (with_reducible repeat (first | apply Sq.x | apply Sq.y | apply Sq.z)); exact HO_223001.out) gb233 (Nat.le_of_eq hg.symm)) hb); have n2_ := Sq.l (Sq.m (g := gb222) (o := .cells #[.slice A0_0 l0_0.length c0_0, .slice A0_1 l0_1.length c0_1, .slice (some ad230) l0_2.length c0_2, .int .i64 a0_3] 30 (0, 0)) (by (with_reducible repeat (first | refine Sq.d ?_ _ | refine Sq.e ?_ | refine Sq.f ?_ _)); exact BK222.out) hb); have n3_ := Sq.l (Sq.m (g := gb231) (o := .cells #[.slice (some ad232) ((rd_T90 l0_2 x73_3).f0).length c230_0, .string ((rd_T90 l0_2 x73_3).f1), .slice A230_2 ((rd_T90 l0_2 x73_3).f2).length c230_2] 90 (0, 0)) (by (with_reducible repeat (first | refine Sq.d ?_ _ | refine Sq.e ?_ | refine Sq.f ?_ _)); exact BK231.out) hb); have n4_ := Sq.l (Sq.a4 (by repeat (first | (with_reducible first | exact HB.out | apply Sq.i | apply Sq.j | apply Sq.k | refine Sq.h ?_ GE222.out | refine Sq.h ?_ GE231.out) | exact HB.out)) hb); have n5_ := Sq.l (hbox); have n6_ := Sq.l ((by rw [hg]; exact (Sq.a5 (by repeat (first | (with_reducible first | exact HB.out | apply Sq.i | apply Sq.j | apply Sq.k | refine Sq.h ?_ GE222.out | refine Sq.h ?_ GE231.out) | exact HB.out))) : w.heap.size ≤ gb233)); have n7_ := Sq.l ((by rw [hg]; exact (Sq.a5 (by repeat (first | (with_reducible first | exact HB.out | apply Sq.i | apply Sq.j | apply Sq.k | refine Sq.h ?_ GE222.out | refine Sq.h ?_ GE231.out) | exact HB.out))) : w.heap.size ≤ gb233)); have n8_ := Sq.l ((by rw [hg]; exact Nat.ne_of_lt (blk_lt (g := gb222) (o := .cells #[.slice A0_0 l0_0.length c0_0, .slice A0_1 l0_1.length c0_1, .slice (some ad230) l0_2.length c0_2, .int .i64 a0_3] 30 (0, 0)) (by (with_reducible repeat (first | refine Sq.d ?_ _ | refine Sq.e ?_ | refine Sq.f ?_ _)); exact BK222.out)) : gb222 ≠ gb233)); have n9_ := Sq.l ((by rw [hg]; exact Nat.ne_of_gt (blk_lt (g := gb222) (o := .cells #[.slice A0_0 l0_0.length c0_0, .slice A0_1 l0_1.length c0_1, .slice (some ad230) l0_2.length c0_2, .int .i64 a0_3] 30 (0, 0)) (by (with_reducible repeat (first | refine Sq.d ?_ _ | refine Sq.e ?_ | refine Sq.f ?_ _)); exact BK222.out)) : gb233 ≠ gb222)); have n10_ := Sq.l ((by rw [hg]; exact Nat.ne_of_lt (blk_lt (g := gb231) (o := .cells #[.slice (some ad232) ((rd_T90 l0_2 x73_3).f0).length c230_0, .string ((rd_T90 l0_2 x73_3).f1), .slice A230_2 ((rd_T90 l0_2 x73_3).f2).length c230_2] 90 (0, 0)) (by (with_reducible repeat (first | refine Sq.d ?_ _ | refine Sq.e ?_ | refine Sq.f ?_ _)); exact BK231.out)) : gb231 ≠ gb233)); have n11_ := Sq.l ((by rw [hg]; exact Nat.ne_of_gt (blk_lt (g := gb231) (o := .cells #[.slice (some ad232) ((rd_T90 l0_2 x73_3).f0).length c230_0, .string ((rd_T90 l0_2 x73_3).f1), .slice A230_2 ((rd_T90 l0_2 x73_3).f2).length c230_2] 90 (0, 0)) (by (with_reducible repeat (first | refine Sq.d ?_ _ | refine Sq.e ?_ | refine Sq.f ?_ _)); exact BK231.out)) : gb233 ≠ gb231)); clear HO_223000; clear HO_223001; clear BK222; clear BK231; clear HB; have HO_223000 := n0_; have HO_223001 := n1_; have BK222 := n2_; have BK231 := n3_; have HB := n4_; have BK233 := n5_; have GW233 := n6_; have GE233 := n7_; have NB222_233 := n8_; have NB233_222 := n9_; have NB231_233 := n10_; have NB233_231 := n11_; clear n0_ n1_ n2_ n3_ n4_ n5_ n6_ n7_ n8_ n9_ n10_ n11_; clear hb hbox hg; have hnb55 := NB233_222.out; have hnc55 := NB222_233.out; have hnb56 := NB233_231.out; have hnc56 := NB231_233.out; have hcz57_0 : w54.cell? ⟨gb233, 0, none⟩ = some (.int .i64 0) := (Sq.o BK233.out 0).trans rfl; have hcz57_1 : w54.cell? ⟨gb233, 1, none⟩ = some (.int .i64 0) := (Sq.o BK233.out 1).trans rfl; have hcz57_2 : w54.cell? ⟨gb233, 2, none⟩ = some (.int .i64 0) := (Sq.o BK233.out 2).trans rfl; have hfz57_0 := Sq.r BK233.out 0; have hfz57_1 := Sq.r BK233.out 1; have hfz57_2 := Sq.r BK233.out 2; have hnb58 := NB222_231.out; have hnc58 := NB231_222.out; have hcz59_0 : w54.cell? ⟨gb222, 0, none⟩ = some (.slice A0_0 l0_0.length c0_0) := (Sq.o BK222.out 0).trans rfl; have hcz59_1 : w54.cell? ⟨gb222, 1, none⟩ = some (.slice A0_1 l0_1.length c0_1) := (Sq.o BK222.out 1).trans rfl; have hcz59_2 : w54.cell? ⟨gb222, 2, none⟩ = some (.slice (some ad230) l0_2.length c0_2) := (Sq.o BK222.out 2).trans rfl; have hcz59_3 : w54.cell? ⟨gb222, 3, none⟩ = some (.int .i64 a0_3) := (Sq.o BK222.out 3).trans rfl; have hfz59_0 := Sq.r BK222.out 0; have hfz59_1 := Sq.r BK222.out 1; have hfz59_2 := Sq.r BK222.out 2; have hfz59_3 := Sq.r BK222.out 3) | ((with_reducible refine gate_callee (f := 49) rfl ?_); refine goesL_ (some 98) rfl rfl Try.func49 (by kernel_rfl) rfl #[.int .i64 ((rd_T97 ((rd_T90 l0_2 x73_3).f0) x90_5).f2), .int .i64 0, .int .i64 a0_3] rfl (by (try simp only [List.map_toArray, List.map_cons, List.map_nil]); first | done | rfl | (simp only [List.length_drop, List.length_take]; rfl)) ?_; (with_reducible refine (impl_yin.calls ((rd_T97 ((rd_T90 l0_2 x73_3).f0) x90_5).f2) 0 a0_3 t234 _ A52.out).mono ?_); rintro e w' ⟨rfl, ⟨nd, rfl⟩⟩; refine ⟨_, rfl, ?_⟩))
                    (try simp only [Act.put, List.setIfInBounds_toArray, List.set_cons_zero, List.set_cons_succ])
                    have H := HC53.out
                    clear HC53
                    by_cases c60 : t234 = true
                    ·subst c60
                     rw [if_pos rfl] at H
                     have HC61 := Sq.l H
                     clear H; have hnb62 := NB233_222.out; have hnc62 := NB222_233.out; have hnb63 := NB233_231.out; have hnc63 := NB231_233.out
                     have hcz64_0 : w54.cell? ⟨gb233, 0, none⟩ = some (.int .i64 0) := (Sq.o BK233.out 0).trans rfl
                     have hcz64_1 : w54.cell? ⟨gb233, 1, none⟩ = some (.int .i64 0) := (Sq.o BK233.out 1).trans rfl
                     have hcz64_2 : w54.cell? ⟨gb233, 2, none⟩ = some (.int .i64 0) := (Sq.o BK233.out 2).trans rfl
                     have hfz64_0 := Sq.r BK233.out 0
                     have hfz64_1 := Sq.r BK233.out 1
                     have hfz64_2 := Sq.r BK233.out 2
                     go_upto_if 102 with (fail)
                     have H := HC61.out
                     clear HC61
                     by_cases c65 : ((rd_T97 ((rd_T90 l0_2 x73_3).f0) x90_5).f0) = 0
                     ·rw [if_pos c65] at H
                      have c65b0 : (((rd_T97 ((rd_T90 l0_2 x73_3).f0) x90_5).f0) == 0) = true := beq_iff_eq.mpr c65
                      have c65b1 : (((rd_T97 ((rd_T90 l0_2 x73_3).f0) x90_5).f0) != 0) = false := bne_eq_false_iff_eq.mpr c65
                      clear c65
                      (first | rw [c65b0] | (simp only [i64_w, i32_w]; rw [c65b0]) | skip)
                      have HC66 := Sq.l H
                      clear H; have hnb67 := NB233_222.out; have hnc67 := NB222_233.out; have hnb68 := NB233_231.out; have hnc68 := NB231_233.out
                      have hcz69_0 : w54.cell? ⟨gb233, 0, none⟩ = some (.int .i64 0) := (Sq.o BK233.out 0).trans rfl
                      have hcz69_1 : w54.cell? ⟨gb233, 1, none⟩ = some (.int .i64 0) := (Sq.o BK233.out 1).trans rfl
                      have hcz69_2 : w54.cell? ⟨gb233, 2, none⟩ = some (.int .i64 0) := (Sq.o BK233.out 2).trans rfl
                      have hfz69_0 := Sq.r BK233.out 0
                      have hfz69_1 := Sq.r BK233.out 1
                      have hfz69_2 := Sq.r BK233.out 2
                      go_upto_if 144 with (fail)
                      have H := HC66.out
                      clear HC66
                      by_cases c70 : (((rd_T97 ((rd_T90 l0_2 x73_3).f0) x90_5).f1) = 0)
                      ·rw [if_pos c70] at H
                       have c70b0 : (((rd_T97 ((rd_T90 l0_2 x73_3).f0) x90_5).f1) == 0) = true := beq_iff_eq.mpr c70
                       have c70b1 : (((rd_T97 ((rd_T90 l0_2 x73_3).f0) x90_5).f1) != 0) = false := bne_eq_false_iff_eq.mpr c70
                       clear c70
                       (first | rw [c70b0] | (simp only [i64_w, i32_w]; rw [c70b0]) | skip)
                       have H' := Sq.l H
                       clear H
                       go_wp2
                       go_roundg k5
                       case measure => have := HJ1.out; have := HK2.out; have := HK3.out; have := HJ34.out; have := HK5.out; omega
                       case rel => exact ⟨(wrap64 (x90_5 + 1)), (by first | rfl | (simp; done) | (simp [*]; done)), H', ⟨by have := HJ1.out; have := HK2.out; have := HK3.out; have := HJ34.out; have := HK5.out; omega⟩, ⟨by (with_reducible repeat (first | apply Sq.x | apply Sq.y | apply Sq.z)); exact Sq.a6 (Sq.V3 (Sq.a6 HO_223000.out (fun k_ hk => (⟨hk, hk.2⟩ : _ ∧ k_ ≠ gb233))) (fun _ hk => hk.2)) (fun _ hk => ⟨hk.1.1.1, ⟨hk.1.1.2.1, hk.1.1.2.2⟩⟩)⟩, ⟨by (with_reducible repeat (first | apply Sq.x | apply Sq.y | apply Sq.z)); exact Sq.a6 (Sq.V3 (Sq.a6 HO_223001.out (fun k_ hk => (⟨hk, hk.2⟩ : _ ∧ k_ ≠ gb233))) (fun _ hk => hk.2)) (fun _ hk => ⟨hk.1.1.1, ⟨hk.1.1.2.1, hk.1.1.2.2⟩⟩)⟩, ⟨by (with_reducible repeat (first | refine Sq.d ?_ _ | refine Sq.e ?_ | refine Sq.f ?_ _)); refine Sq.B3 ?_ NB222_233.out; (with_reducible repeat (first | refine Sq.d ?_ _ | refine Sq.e ?_ | refine Sq.f ?_ _)); exact BK222.out⟩, ⟨by (with_reducible repeat (first | refine Sq.d ?_ _ | refine Sq.e ?_ | refine Sq.f ?_ _)); refine Sq.B3 ?_ NB231_233.out; (with_reducible repeat (first | refine Sq.d ?_ _ | refine Sq.e ?_ | refine Sq.f ?_ _)); exact BK231.out⟩, ⟨by repeat (first | (with_reducible first | exact HB.out | apply Sq.i | apply Sq.j | apply Sq.k | refine Sq.h ?_ GE222.out | refine Sq.h ?_ GE231.out | refine Sq.h ?_ GE233.out) | exact HB.out)⟩⟩
                      ·rw [if_neg c70] at H
                       have c70b0 : (((rd_T97 ((rd_T90 l0_2 x73_3).f0) x90_5).f1) == 0) = false := beq_eq_false_iff_ne.mpr c70
                       have c70b1 : (((rd_T97 ((rd_T90 l0_2 x73_3).f0) x90_5).f1) != 0) = true := bne_iff_ne.mpr c70
                       (first | rw [c70b0] | (simp only [i64_w, i32_w]; rw [c70b0]) | skip)
                       obtain rfl := Option.some.inj H
                       go_wp2
                       go_ret
                       exact ⟨by first | rfl | (simp [errW_none, errW_some] <;> rfl) | (simp [*, errW_none, errW_some] <;> rfl), by repeat (first | (with_reducible first | exact HB.out | apply Sq.i | apply Sq.j | apply Sq.k | refine Sq.h ?_ GE222.out | refine Sq.h ?_ GE231.out | refine Sq.h ?_ GE233.out) | exact HB.out)⟩
                     ·rw [if_neg c65] at H
                      have c65b0 : (((rd_T97 ((rd_T90 l0_2 x73_3).f0) x90_5).f0) == 0) = false := beq_eq_false_iff_ne.mpr c65
                      have c65b1 : (((rd_T97 ((rd_T90 l0_2 x73_3).f0) x90_5).f0) != 0) = true := bne_iff_ne.mpr c65
                      (first | rw [c65b0] | (simp only [i64_w, i32_w]; rw [c65b0]) | skip)
                      have HC71 := Sq.l H
                      clear H
                      go_upto_if 107 with (fail)
                      have H := HC71.out
                      clear HC71
                      by_cases c72 : ((rd_T97 ((rd_T90 l0_2 x73_3).f0) x90_5).f0) = 1
                      ·rw [if_pos c72] at H
                       have c72b0 : (((rd_T97 ((rd_T90 l0_2 x73_3).f0) x90_5).f0) == 1) = true := beq_iff_eq.mpr c72
                       have c72b1 : (((rd_T97 ((rd_T90 l0_2 x73_3).f0) x90_5).f0) != 1) = false := bne_eq_false_iff_eq.mpr c72
                       clear c72
                       (first | rw [c72b0] | (simp only [i64_w, i32_w]; rw [c72b0]) | skip)
                       replace H := Option.bind_eq_some_iff.mp H
                       obtain ⟨t235, A730, H⟩ := H
                       (try dsimp only at H)
                       have A73 := Sq.l A730
                       clear A730
                       by_cases c74 : t235 = true
                       ·subst c74
                        rw [if_pos rfl] at H
                        by_cases c75 : 0 ≤ ((rd_T97 ((rd_T90 l0_2 x73_3).f0) x90_5).f1)
                        ·rw [if_pos c75] at H
                         have c75b0 : decide (0 ≤ ((rd_T97 ((rd_T90 l0_2 x73_3).f0) x90_5).f1)) = true := decide_eq_true c75
                         clear c75
                         by_cases c76 : ((rd_T97 ((rd_T90 l0_2 x73_3).f0) x90_5).f1) < (l0_0.length : Int)
                         ·rw [if_pos c76] at H
                          have c76b0 : decide (((rd_T97 ((rd_T90 l0_2 x73_3).f0) x90_5).f1) < (l0_0.length : Int)) = true := decide_eq_true c76
                          clear c76
                          have HC77 := Sq.l H
                          clear H; have hnb78 := NB233_222.out; have hnc78 := NB222_233.out; have hnb79 := NB233_231.out; have hnc79 := NB231_233.out
                          have hcz80_0 : w54.cell? ⟨gb233, 0, none⟩ = some (.int .i64 0) := (Sq.o BK233.out 0).trans rfl
                          have hcz80_1 : w54.cell? ⟨gb233, 1, none⟩ = some (.int .i64 0) := (Sq.o BK233.out 1).trans rfl
                          have hcz80_2 : w54.cell? ⟨gb233, 2, none⟩ = some (.int .i64 0) := (Sq.o BK233.out 2).trans rfl
                          have hfz80_0 := Sq.r BK233.out 0
                          have hfz80_1 := Sq.r BK233.out 1
                          have hfz80_2 := Sq.r BK233.out 2
                          have hnb81 := NB222_231.out; have hnc81 := NB231_222.out
                          have hcz82_0 : w54.cell? ⟨gb222, 0, none⟩ = some (.slice A0_0 l0_0.length c0_0) := (Sq.o BK222.out 0).trans rfl
                          have hcz82_1 : w54.cell? ⟨gb222, 1, none⟩ = some (.slice A0_1 l0_1.length c0_1) := (Sq.o BK222.out 1).trans rfl
                          have hcz82_2 : w54.cell? ⟨gb222, 2, none⟩ = some (.slice (some ad230) l0_2.length c0_2) := (Sq.o BK222.out 2).trans rfl
                          have hcz82_3 : w54.cell? ⟨gb222, 3, none⟩ = some (.int .i64 a0_3) := (Sq.o BK222.out 3).trans rfl
                          have hfz82_0 := Sq.r BK222.out 0
                          have hfz82_1 := Sq.r BK222.out 1
                          have hfz82_2 := Sq.r BK222.out 2
                          have hfz82_3 := Sq.r BK222.out 3
                          go_upto_if 144 with (first | ((with_reducible refine gate_callee (f := 49) rfl ?_); refine goesL_ (some 115) rfl rfl Try.func49 (by kernel_rfl) rfl #[.int .i64 ((rd_T97 ((rd_T90 l0_2 x73_3).f0) x90_5).f1), .int .i64 0, .int .i64 (wrap64 ((l0_0.length : Int) - 1))] rfl (by (try simp only [List.map_toArray, List.map_cons, List.map_nil]); first | done | rfl | (simp only [List.length_drop, List.length_take]; rfl)) ?_; (with_reducible refine (impl_yin.calls ((rd_T97 ((rd_T90 l0_2 x73_3).f0) x90_5).f1) 0 (wrap64 ((l0_0.length : Int) - 1)) true _ A73.out).mono ?_); rintro e w' ⟨rfl, ⟨nd, rfl⟩⟩; refine ⟨_, rfl, ?_⟩; have p236 : 0 ≤ (((rd_T97 ((rd_T90 l0_2 x73_3).f0) x90_5).f1) : Int) := of_decide_eq_true (by first | (with_reducible assumption) | assumption); have q236 : ((rd_T97 ((rd_T90 l0_2 x73_3).f0) x90_5).f1) < (l0_0.length : Int) := of_decide_eq_true (by first | (with_reducible assumption) | assumption); obtain ⟨ad236, e236, hx236_0⟩ := Kd.at_string (Kd.V_reads' HO_223000.out).2.2 ((rd_T97 ((rd_T90 l0_2 x73_3).f0) x90_5).f1) p236 q236; cases e236; have hn236_0 : ad236.block ≠ gb233 := (by have h_ := Kd.F_in (Kd.V_F HO_223000.out) rfl (by have := Int.lt_of_le_of_lt p236 q236; omega) (by decide); intro e_; rw [e_] at h_; simp at h_); have hn236_1 : ad236.block ≠ gb233 := (by have h_ := Kd.F_in (Kd.V_F HO_223000.out) rfl (by have := Int.lt_of_le_of_lt p236 q236; omega) (by decide); intro e_; rw [e_] at h_; simp at h_); have hn236_2 : ad236.block ≠ gb233 := (by have h_ := Kd.F_in (Kd.V_F HO_223000.out) rfl (by have := Int.lt_of_le_of_lt p236 q236; omega) (by decide); intro e_; rw [e_] at h_; simp at h_); replace hx236_0 := (cell_far (p := ⟨gb233, 0, none⟩) (by first | (rw [add_block]; exact hn236_0) | (show (Addr.add _ _).block ≠ _; rw [add_block]; exact hn236_0) | exact hn236_0) (.int .i64 ((rd_T97 ((rd_T90 l0_2 x73_3).f0) x90_5).f0))).trans hx236_0; replace hx236_0 := (cell_far (p := ⟨gb233, 1, none⟩) (by first | (rw [add_block]; exact hn236_1) | (show (Addr.add _ _).block ≠ _; rw [add_block]; exact hn236_1) | exact hn236_1) (.int .i64 ((rd_T97 ((rd_T90 l0_2 x73_3).f0) x90_5).f1))).trans hx236_0; replace hx236_0 := (cell_far (p := ⟨gb233, 2, none⟩) (by first | (rw [add_block]; exact hn236_2) | (show (Addr.add _ _).block ≠ _; rw [add_block]; exact hn236_2) | exact hn236_2) (.int .i64 ((rd_T97 ((rd_T90 l0_2 x73_3).f0) x90_5).f2))).trans hx236_0; clear hn236_0; clear hn236_1; clear hn236_2; replace p236 := eq_true p236; replace q236 := eq_true q236))
                          (try simp only [Act.put, List.setIfInBounds_toArray, List.set_cons_zero, List.set_cons_succ])
                          have H := HC77.out
                          clear HC77
                          by_cases c83 : (rdOf ByteArray.empty l0_0 ((rd_T97 ((rd_T90 l0_2 x73_3).f0) x90_5).f1)).toList = ([] : List UInt8)
                          ·rw [if_pos c83] at H
                           have c83b0 : ((rdOf ByteArray.empty l0_0 ((rd_T97 ((rd_T90 l0_2 x73_3).f0) x90_5).f1)).toList == ([] : List UInt8)) = true := beq_iff_eq.mpr c83
                           have c83b1 : ((rdOf ByteArray.empty l0_0 ((rd_T97 ((rd_T90 l0_2 x73_3).f0) x90_5).f1)).toList != ([] : List UInt8)) = false := bne_eq_false_iff_eq.mpr c83
                           (try (have c83b2 : ((rdOf ByteArray.empty l0_0 ((rd_T97 ((rd_T90 l0_2 x73_3).f0) x90_5).f1)).toList.isEmpty) = true := Sq.it c83))
                           clear c83
                           (first | rw [c83b0] | (simp only [i64_w, i32_w]; rw [c83b0]) | skip)
                           obtain rfl := Option.some.inj H
                           go_wp2
                           all_goals (try exact absurd (c83b2.symm.trans (show ((rdOf ByteArray.empty l0_0 ((rd_T97 ((rd_T90 l0_2 x73_3).f0) x90_5).f1)).toList.isEmpty) = false by assumption)) (by decide))
                           go_ret
                           exact ⟨by first | rfl | (simp [errW_none, errW_some] <;> rfl) | (simp [*, errW_none, errW_some] <;> rfl), by repeat (first | (with_reducible first | exact HB.out | apply Sq.i | apply Sq.j | apply Sq.k | refine Sq.h ?_ GE222.out | refine Sq.h ?_ GE231.out | refine Sq.h ?_ GE233.out) | exact HB.out)⟩
                          ·rw [if_neg c83] at H
                           have c83b0 : ((rdOf ByteArray.empty l0_0 ((rd_T97 ((rd_T90 l0_2 x73_3).f0) x90_5).f1)).toList == ([] : List UInt8)) = false := beq_eq_false_iff_ne.mpr c83
                           have c83b1 : ((rdOf ByteArray.empty l0_0 ((rd_T97 ((rd_T90 l0_2 x73_3).f0) x90_5).f1)).toList != ([] : List UInt8)) = true := bne_iff_ne.mpr c83
                           (try (have c83b2 : ((rdOf ByteArray.empty l0_0 ((rd_T97 ((rd_T90 l0_2 x73_3).f0) x90_5).f1)).toList.isEmpty) = false := Sq.ie c83))
                           (first | rw [c83b0] | (simp only [i64_w, i32_w]; rw [c83b0]) | skip)
                           have H' := Sq.l H
                           clear H
                           go_wp2
                           all_goals (try exact absurd (c83b2.symm.trans (show ((rdOf ByteArray.empty l0_0 ((rd_T97 ((rd_T90 l0_2 x73_3).f0) x90_5).f1)).toList.isEmpty) = true by assumption)) (by decide))
                           go_roundg k5
                           case measure => have := HJ1.out; have := HK2.out; have := HK3.out; have := HJ34.out; have := HK5.out; omega
                           case rel => exact ⟨(wrap64 (x90_5 + 1)), (by first | rfl | (simp; done) | (simp [*]; done)), H', ⟨by have := HJ1.out; have := HK2.out; have := HK3.out; have := HJ34.out; have := HK5.out; omega⟩, ⟨by (with_reducible repeat (first | apply Sq.x | apply Sq.y | apply Sq.z)); exact Sq.a6 (Sq.V3 (Sq.a6 HO_223000.out (fun k_ hk => (⟨hk, hk.2⟩ : _ ∧ k_ ≠ gb233))) (fun _ hk => hk.2)) (fun _ hk => ⟨hk.1.1.1, ⟨hk.1.1.2.1, hk.1.1.2.2⟩⟩)⟩, ⟨by (with_reducible repeat (first | apply Sq.x | apply Sq.y | apply Sq.z)); exact Sq.a6 (Sq.V3 (Sq.a6 HO_223001.out (fun k_ hk => (⟨hk, hk.2⟩ : _ ∧ k_ ≠ gb233))) (fun _ hk => hk.2)) (fun _ hk => ⟨hk.1.1.1, ⟨hk.1.1.2.1, hk.1.1.2.2⟩⟩)⟩, ⟨by (with_reducible repeat (first | refine Sq.d ?_ _ | refine Sq.e ?_ | refine Sq.f ?_ _)); refine Sq.B3 ?_ NB222_233.out; (with_reducible repeat (first | refine Sq.d ?_ _ | refine Sq.e ?_ | refine Sq.f ?_ _)); exact BK222.out⟩, ⟨by (with_reducible repeat (first | refine Sq.d ?_ _ | refine Sq.e ?_ | refine Sq.f ?_ _)); refine Sq.B3 ?_ NB231_233.out; (with_reducible repeat (first | refine Sq.d ?_ _ | refine Sq.e ?_ | refine Sq.f ?_ _)); exact BK231.out⟩, ⟨by repeat (first | (with_reducible first | exact HB.out | apply Sq.i | apply Sq.j | apply Sq.k | refine Sq.h ?_ GE222.out | refine Sq.h ?_ GE231.out | refine Sq.h ?_ GE233.out) | exact HB.out)⟩⟩
                         ·rw [if_neg c76] at H
                          exact absurd H (by simp)
                        ·rw [if_neg c75] at H
                         exact absurd H (by simp)
                       ·replace c74 := Bool.eq_false_iff.mpr c74
                        subst c74
                        rw [if_neg (show ¬ (false = true) by decide)] at H
                        obtain rfl := Option.some.inj H
                        have hnb84 := NB233_222.out; have hnc84 := NB222_233.out; have hnb85 := NB233_231.out; have hnc85 := NB231_233.out
                        have hcz86_0 : w54.cell? ⟨gb233, 0, none⟩ = some (.int .i64 0) := (Sq.o BK233.out 0).trans rfl
                        have hcz86_1 : w54.cell? ⟨gb233, 1, none⟩ = some (.int .i64 0) := (Sq.o BK233.out 1).trans rfl
                        have hcz86_2 : w54.cell? ⟨gb233, 2, none⟩ = some (.int .i64 0) := (Sq.o BK233.out 2).trans rfl
                        have hfz86_0 := Sq.r BK233.out 0
                        have hfz86_1 := Sq.r BK233.out 1
                        have hfz86_2 := Sq.r BK233.out 2
                        have hnb87 := NB222_231.out; have hnc87 := NB231_222.out
                        have hcz88_0 : w54.cell? ⟨gb222, 0, none⟩ = some (.slice A0_0 l0_0.length c0_0) := (Sq.o BK222.out 0).trans rfl
                        have hcz88_1 : w54.cell? ⟨gb222, 1, none⟩ = some (.slice A0_1 l0_1.length c0_1) := (Sq.o BK222.out 1).trans rfl
                        have hcz88_2 : w54.cell? ⟨gb222, 2, none⟩ = some (.slice (some ad230) l0_2.length c0_2) := (Sq.o BK222.out 2).trans rfl
                        have hcz88_3 : w54.cell? ⟨gb222, 3, none⟩ = some (.int .i64 a0_3) := (Sq.o BK222.out 3).trans rfl
                        have hfz88_0 := Sq.r BK222.out 0
                        have hfz88_1 := Sq.r BK222.out 1
                        have hfz88_2 := Sq.r BK222.out 2
                        have hfz88_3 := Sq.r BK222.out 3
                        go_wp2_with (first | ((with_reducible refine gate_callee (f := 49) rfl ?_); refine goesL_ (some 115) rfl rfl Try.func49 (by kernel_rfl) rfl #[.int .i64 ((rd_T97 ((rd_T90 l0_2 x73_3).f0) x90_5).f1), .int .i64 0, .int .i64 (wrap64 ((l0_0.length : Int) - 1))] rfl (by (try simp only [List.map_toArray, List.map_cons, List.map_nil]); first | done | rfl | (simp only [List.length_drop, List.length_take]; rfl)) ?_; (with_reducible refine (impl_yin.calls ((rd_T97 ((rd_T90 l0_2 x73_3).f0) x90_5).f1) 0 (wrap64 ((l0_0.length : Int) - 1)) false _ A73.out).mono ?_); rintro e w' ⟨rfl, ⟨nd, rfl⟩⟩; refine ⟨_, rfl, ?_⟩))
                        go_ret
                        exact ⟨by first | rfl | (simp [errW_none, errW_some] <;> rfl) | (simp [*, errW_none, errW_some] <;> rfl), by repeat (first | (with_reducible first | exact HB.out | apply Sq.i | apply Sq.j | apply Sq.k | refine Sq.h ?_ GE222.out | refine Sq.h ?_ GE231.out | refine Sq.h ?_ GE233.out) | exact HB.out)⟩
                      ·rw [if_neg c72] at H
                       have c72b0 : (((rd_T97 ((rd_T90 l0_2 x73_3).f0) x90_5).f0) == 1) = false := beq_eq_false_iff_ne.mpr c72
                       have c72b1 : (((rd_T97 ((rd_T90 l0_2 x73_3).f0) x90_5).f0) != 1) = true := bne_iff_ne.mpr c72
                       (first | rw [c72b0] | (simp only [i64_w, i32_w]; rw [c72b0]) | skip)
                       have HC89 := Sq.l H
                       clear H
                       go_upto_if 125 with (fail)
                       have H := HC89.out
                       clear HC89
                       by_cases c90 : ((rd_T97 ((rd_T90 l0_2 x73_3).f0) x90_5).f0) = 2
                       ·rw [if_pos c90] at H
                        have c90b0 : (((rd_T97 ((rd_T90 l0_2 x73_3).f0) x90_5).f0) == 2) = true := beq_iff_eq.mpr c90
                        have c90b1 : (((rd_T97 ((rd_T90 l0_2 x73_3).f0) x90_5).f0) != 2) = false := bne_eq_false_iff_eq.mpr c90
                        clear c90
                        (first | rw [c90b0] | (simp only [i64_w, i32_w]; rw [c90b0]) | skip)
                        replace H := Option.bind_eq_some_iff.mp H
                        obtain ⟨t237, A910, H⟩ := H
                        (try dsimp only at H)
                        have A91 := Sq.l A910
                        clear A910
                        by_cases c92 : t237 = true
                        ·subst c92
                         rw [if_pos rfl] at H
                         by_cases c93 : 0 ≤ ((rd_T97 ((rd_T90 l0_2 x73_3).f0) x90_5).f1)
                         ·rw [if_pos c93] at H
                          have c93b0 : decide (0 ≤ ((rd_T97 ((rd_T90 l0_2 x73_3).f0) x90_5).f1)) = true := decide_eq_true c93
                          clear c93
                          by_cases c94 : ((rd_T97 ((rd_T90 l0_2 x73_3).f0) x90_5).f1) < (l0_1.length : Int)
                          ·rw [if_pos c94] at H
                           have c94b0 : decide (((rd_T97 ((rd_T90 l0_2 x73_3).f0) x90_5).f1) < (l0_1.length : Int)) = true := decide_eq_true c94
                           clear c94
                           have HC95 := Sq.l H
                           clear H; have hnb96 := NB233_222.out; have hnc96 := NB222_233.out; have hnb97 := NB233_231.out; have hnc97 := NB231_233.out
                           have hcz98_0 : w54.cell? ⟨gb233, 0, none⟩ = some (.int .i64 0) := (Sq.o BK233.out 0).trans rfl
                           have hcz98_1 : w54.cell? ⟨gb233, 1, none⟩ = some (.int .i64 0) := (Sq.o BK233.out 1).trans rfl
                           have hcz98_2 : w54.cell? ⟨gb233, 2, none⟩ = some (.int .i64 0) := (Sq.o BK233.out 2).trans rfl
                           have hfz98_0 := Sq.r BK233.out 0
                           have hfz98_1 := Sq.r BK233.out 1
                           have hfz98_2 := Sq.r BK233.out 2
                           have hnb99 := NB222_231.out; have hnc99 := NB231_222.out
                           have hcz100_0 : w54.cell? ⟨gb222, 0, none⟩ = some (.slice A0_0 l0_0.length c0_0) := (Sq.o BK222.out 0).trans rfl
                           have hcz100_1 : w54.cell? ⟨gb222, 1, none⟩ = some (.slice A0_1 l0_1.length c0_1) := (Sq.o BK222.out 1).trans rfl
                           have hcz100_2 : w54.cell? ⟨gb222, 2, none⟩ = some (.slice (some ad230) l0_2.length c0_2) := (Sq.o BK222.out 2).trans rfl
                           have hcz100_3 : w54.cell? ⟨gb222, 3, none⟩ = some (.int .i64 a0_3) := (Sq.o BK222.out 3).trans rfl
                           have hfz100_0 := Sq.r BK222.out 0
                           have hfz100_1 := Sq.r BK222.out 1
                           have hfz100_2 := Sq.r BK222.out 2
                           have hfz100_3 := Sq.r BK222.out 3
                           go_upto_if 144 with (first | ((with_reducible refine gate_callee (f := 49) rfl ?_); refine goesL_ (some 133) rfl rfl Try.func49 (by kernel_rfl) rfl #[.int .i64 ((rd_T97 ((rd_T90 l0_2 x73_3).f0) x90_5).f1), .int .i64 0, .int .i64 (wrap64 ((l0_1.length : Int) - 1))] rfl (by (try simp only [List.map_toArray, List.map_cons, List.map_nil]); first | done | rfl | (simp only [List.length_drop, List.length_take]; rfl)) ?_; (with_reducible refine (impl_yin.calls ((rd_T97 ((rd_T90 l0_2 x73_3).f0) x90_5).f1) 0 (wrap64 ((l0_1.length : Int) - 1)) true _ A91.out).mono ?_); rintro e w' ⟨rfl, ⟨nd, rfl⟩⟩; refine ⟨_, rfl, ?_⟩; have p238 : 0 ≤ (((rd_T97 ((rd_T90 l0_2 x73_3).f0) x90_5).f1) : Int) := of_decide_eq_true (by first | (with_reducible assumption) | assumption); have q238 : ((rd_T97 ((rd_T90 l0_2 x73_3).f0) x90_5).f1) < (l0_1.length : Int) := of_decide_eq_true (by first | (with_reducible assumption) | assumption); obtain ⟨ad238, e238, hx238_0⟩ := Kd.at_string (Kd.V_reads' HO_223001.out).2.2 ((rd_T97 ((rd_T90 l0_2 x73_3).f0) x90_5).f1) p238 q238; cases e238; have hn238_0 : ad238.block ≠ gb233 := (by have h_ := Kd.F_in (Kd.V_F HO_223001.out) rfl (by have := Int.lt_of_le_of_lt p238 q238; omega) (by decide); intro e_; rw [e_] at h_; simp at h_); have hn238_1 : ad238.block ≠ gb233 := (by have h_ := Kd.F_in (Kd.V_F HO_223001.out) rfl (by have := Int.lt_of_le_of_lt p238 q238; omega) (by decide); intro e_; rw [e_] at h_; simp at h_); have hn238_2 : ad238.block ≠ gb233 := (by have h_ := Kd.F_in (Kd.V_F HO_223001.out) rfl (by have := Int.lt_of_le_of_lt p238 q238; omega) (by decide); intro e_; rw [e_] at h_; simp at h_); replace hx238_0 := (cell_far (p := ⟨gb233, 0, none⟩) (by first | (rw [add_block]; exact hn238_0) | (show (Addr.add _ _).block ≠ _; rw [add_block]; exact hn238_0) | exact hn238_0) (.int .i64 ((rd_T97 ((rd_T90 l0_2 x73_3).f0) x90_5).f0))).trans hx238_0; replace hx238_0 := (cell_far (p := ⟨gb233, 1, none⟩) (by first | (rw [add_block]; exact hn238_1) | (show (Addr.add _ _).block ≠ _; rw [add_block]; exact hn238_1) | exact hn238_1) (.int .i64 ((rd_T97 ((rd_T90 l0_2 x73_3).f0) x90_5).f1))).trans hx238_0; replace hx238_0 := (cell_far (p := ⟨gb233, 2, none⟩) (by first | (rw [add_block]; exact hn238_2) | (show (Addr.add _ _).block ≠ _; rw [add_block]; exact hn238_2) | exact hn238_2) (.int .i64 ((rd_T97 ((rd_T90 l0_2 x73_3).f0) x90_5).f2))).trans hx238_0; clear hn238_0; clear hn238_1; clear hn238_2; replace p238 := eq_true p238; replace q238 := eq_true q238))
                           (try simp only [Act.put, List.setIfInBounds_toArray, List.set_cons_zero, List.set_cons_succ])
                           have H := HC95.out
                           clear HC95
                           by_cases c101 : (rdOf ByteArray.empty l0_1 ((rd_T97 ((rd_T90 l0_2 x73_3).f0) x90_5).f1)).toList = ([] : List UInt8)
                           ·rw [if_pos c101] at H
                            have c101b0 : ((rdOf ByteArray.empty l0_1 ((rd_T97 ((rd_T90 l0_2 x73_3).f0) x90_5).f1)).toList == ([] : List UInt8)) = true := beq_iff_eq.mpr c101
                            have c101b1 : ((rdOf ByteArray.empty l0_1 ((rd_T97 ((rd_T90 l0_2 x73_3).f0) x90_5).f1)).toList != ([] : List UInt8)) = false := bne_eq_false_iff_eq.mpr c101
                            (try (have c101b2 : ((rdOf ByteArray.empty l0_1 ((rd_T97 ((rd_T90 l0_2 x73_3).f0) x90_5).f1)).toList.isEmpty) = true := Sq.it c101))
                            clear c101
                            (first | rw [c101b0] | (simp only [i64_w, i32_w]; rw [c101b0]) | skip)
                            obtain rfl := Option.some.inj H
                            go_wp2
                            all_goals (try exact absurd (c101b2.symm.trans (show ((rdOf ByteArray.empty l0_1 ((rd_T97 ((rd_T90 l0_2 x73_3).f0) x90_5).f1)).toList.isEmpty) = false by assumption)) (by decide))
                            go_ret
                            exact ⟨by first | rfl | (simp [errW_none, errW_some] <;> rfl) | (simp [*, errW_none, errW_some] <;> rfl), by repeat (first | (with_reducible first | exact HB.out | apply Sq.i | apply Sq.j | apply Sq.k | refine Sq.h ?_ GE222.out | refine Sq.h ?_ GE231.out | refine Sq.h ?_ GE233.out) | exact HB.out)⟩
                           ·rw [if_neg c101] at H
                            have c101b0 : ((rdOf ByteArray.empty l0_1 ((rd_T97 ((rd_T90 l0_2 x73_3).f0) x90_5).f1)).toList == ([] : List UInt8)) = false := beq_eq_false_iff_ne.mpr c101
                            have c101b1 : ((rdOf ByteArray.empty l0_1 ((rd_T97 ((rd_T90 l0_2 x73_3).f0) x90_5).f1)).toList != ([] : List UInt8)) = true := bne_iff_ne.mpr c101
                            (try (have c101b2 : ((rdOf ByteArray.empty l0_1 ((rd_T97 ((rd_T90 l0_2 x73_3).f0) x90_5).f1)).toList.isEmpty) = false := Sq.ie c101))
                            (first | rw [c101b0] | (simp only [i64_w, i32_w]; rw [c101b0]) | skip)
                            have H' := Sq.l H
                            clear H
                            go_wp2
                            all_goals (try exact absurd (c101b2.symm.trans (show ((rdOf ByteArray.empty l0_1 ((rd_T97 ((rd_T90 l0_2 x73_3).f0) x90_5).f1)).toList.isEmpty) = true by assumption)) (by decide))
                            go_roundg k5
                            case measure => have := HJ1.out; have := HK2.out; have := HK3.out; have := HJ34.out; have := HK5.out; omega
                            case rel => exact ⟨(wrap64 (x90_5 + 1)), (by first | rfl | (simp; done) | (simp [*]; done)), H', ⟨by have := HJ1.out; have := HK2.out; have := HK3.out; have := HJ34.out; have := HK5.out; omega⟩, ⟨by (with_reducible repeat (first | apply Sq.x | apply Sq.y | apply Sq.z)); exact Sq.a6 (Sq.V3 (Sq.a6 HO_223000.out (fun k_ hk => (⟨hk, hk.2⟩ : _ ∧ k_ ≠ gb233))) (fun _ hk => hk.2)) (fun _ hk => ⟨hk.1.1.1, ⟨hk.1.1.2.1, hk.1.1.2.2⟩⟩)⟩, ⟨by (with_reducible repeat (first | apply Sq.x | apply Sq.y | apply Sq.z)); exact Sq.a6 (Sq.V3 (Sq.a6 HO_223001.out (fun k_ hk => (⟨hk, hk.2⟩ : _ ∧ k_ ≠ gb233))) (fun _ hk => hk.2)) (fun _ hk => ⟨hk.1.1.1, ⟨hk.1.1.2.1, hk.1.1.2.2⟩⟩)⟩, ⟨by (with_reducible repeat (first | refine Sq.d ?_ _ | refine Sq.e ?_ | refine Sq.f ?_ _)); refine Sq.B3 ?_ NB222_233.out; (with_reducible repeat (first | refine Sq.d ?_ _ | refine Sq.e ?_ | refine Sq.f ?_ _)); exact BK222.out⟩, ⟨by (with_reducible repeat (first | refine Sq.d ?_ _ | refine Sq.e ?_ | refine Sq.f ?_ _)); refine Sq.B3 ?_ NB231_233.out; (with_reducible repeat (first | refine Sq.d ?_ _ | refine Sq.e ?_ | refine Sq.f ?_ _)); exact BK231.out⟩, ⟨by repeat (first | (with_reducible first | exact HB.out | apply Sq.i | apply Sq.j | apply Sq.k | refine Sq.h ?_ GE222.out | refine Sq.h ?_ GE231.out | refine Sq.h ?_ GE233.out) | exact HB.out)⟩⟩
                          ·rw [if_neg c94] at H
                           exact absurd H (by simp)
                         ·rw [if_neg c93] at H
                          exact absurd H (by simp)
                        ·replace c92 := Bool.eq_false_iff.mpr c92
                         subst c92
                         rw [if_neg (show ¬ (false = true) by decide)] at H
                         obtain rfl := Option.some.inj H
                         have hnb102 := NB233_222.out; have hnc102 := NB222_233.out; have hnb103 := NB233_231.out; have hnc103 := NB231_233.out
                         have hcz104_0 : w54.cell? ⟨gb233, 0, none⟩ = some (.int .i64 0) := (Sq.o BK233.out 0).trans rfl
                         have hcz104_1 : w54.cell? ⟨gb233, 1, none⟩ = some (.int .i64 0) := (Sq.o BK233.out 1).trans rfl
                         have hcz104_2 : w54.cell? ⟨gb233, 2, none⟩ = some (.int .i64 0) := (Sq.o BK233.out 2).trans rfl
                         have hfz104_0 := Sq.r BK233.out 0
                         have hfz104_1 := Sq.r BK233.out 1
                         have hfz104_2 := Sq.r BK233.out 2
                         have hnb105 := NB222_231.out; have hnc105 := NB231_222.out
                         have hcz106_0 : w54.cell? ⟨gb222, 0, none⟩ = some (.slice A0_0 l0_0.length c0_0) := (Sq.o BK222.out 0).trans rfl
                         have hcz106_1 : w54.cell? ⟨gb222, 1, none⟩ = some (.slice A0_1 l0_1.length c0_1) := (Sq.o BK222.out 1).trans rfl
                         have hcz106_2 : w54.cell? ⟨gb222, 2, none⟩ = some (.slice (some ad230) l0_2.length c0_2) := (Sq.o BK222.out 2).trans rfl
                         have hcz106_3 : w54.cell? ⟨gb222, 3, none⟩ = some (.int .i64 a0_3) := (Sq.o BK222.out 3).trans rfl
                         have hfz106_0 := Sq.r BK222.out 0
                         have hfz106_1 := Sq.r BK222.out 1
                         have hfz106_2 := Sq.r BK222.out 2
                         have hfz106_3 := Sq.r BK222.out 3
                         go_wp2_with (first | ((with_reducible refine gate_callee (f := 49) rfl ?_); refine goesL_ (some 133) rfl rfl Try.func49 (by kernel_rfl) rfl #[.int .i64 ((rd_T97 ((rd_T90 l0_2 x73_3).f0) x90_5).f1), .int .i64 0, .int .i64 (wrap64 ((l0_1.length : Int) - 1))] rfl (by (try simp only [List.map_toArray, List.map_cons, List.map_nil]); first | done | rfl | (simp only [List.length_drop, List.length_take]; rfl)) ?_; (with_reducible refine (impl_yin.calls ((rd_T97 ((rd_T90 l0_2 x73_3).f0) x90_5).f1) 0 (wrap64 ((l0_1.length : Int) - 1)) false _ A91.out).mono ?_); rintro e w' ⟨rfl, ⟨nd, rfl⟩⟩; refine ⟨_, rfl, ?_⟩))
                         go_ret
                         exact ⟨by first | rfl | (simp [errW_none, errW_some] <;> rfl) | (simp [*, errW_none, errW_some] <;> rfl), by repeat (first | (with_reducible first | exact HB.out | apply Sq.i | apply Sq.j | apply Sq.k | refine Sq.h ?_ GE222.out | refine Sq.h ?_ GE231.out | refine Sq.h ?_ GE233.out) | exact HB.out)⟩
                       ·rw [if_neg c90] at H
                        have c90b0 : (((rd_T97 ((rd_T90 l0_2 x73_3).f0) x90_5).f0) == 2) = false := beq_eq_false_iff_ne.mpr c90
                        have c90b1 : (((rd_T97 ((rd_T90 l0_2 x73_3).f0) x90_5).f0) != 2) = true := bne_iff_ne.mpr c90
                        (first | rw [c90b0] | (simp only [i64_w, i32_w]; rw [c90b0]) | skip)
                        obtain rfl := Option.some.inj H
                        go_wp2
                        go_ret
                        exact ⟨by first | rfl | (simp [errW_none, errW_some] <;> rfl) | (simp [*, errW_none, errW_some] <;> rfl), by repeat (first | (with_reducible first | exact HB.out | apply Sq.i | apply Sq.j | apply Sq.k | refine Sq.h ?_ GE222.out | refine Sq.h ?_ GE231.out | refine Sq.h ?_ GE233.out) | exact HB.out)⟩
                    ·replace c60 := Bool.eq_false_iff.mpr c60
                     subst c60
                     rw [if_neg (show ¬ (false = true) by decide)] at H
                     obtain rfl := Option.some.inj H
                     go_wp2
                     go_ret
                     exact ⟨by first | rfl | (simp [errW_none, errW_some] <;> rfl) | (simp [*, errW_none, errW_some] <;> rfl), by repeat (first | (with_reducible first | exact HB.out | apply Sq.i | apply Sq.j | apply Sq.k | refine Sq.h ?_ GE222.out | refine Sq.h ?_ GE231.out | refine Sq.h ?_ GE233.out) | exact HB.out)⟩
                   ·rw [if_neg c51] at H
                    exact absurd H (by simp)
                  ·rw [if_neg c50] at H
                   exact absurd H (by simp)
                 ·rw [if_neg c49] at H
                  have c49b0 : decide (x90_5 < (((rd_T90 l0_2 x73_3).f0).length : Int)) = false := decide_eq_false c49
                  clear c49
                  (first | rw [c49b0] | (simp only [i64_w, i32_w]; rw [c49b0]) | skip)
                  have H' := Sq.l H
                  clear H; have hnb107 := NB231_222.out; have hnc107 := NB222_231.out
                  have hcz108_0 : wr.cell? ⟨gb231, 0, none⟩ = some (.slice A230_0 ((rd_T90 l0_2 x73_3).f0).length c230_0) := (Sq.o BK231.out 0).trans rfl
                  have hcz108_1 : wr.cell? ⟨gb231, 1, none⟩ = some (.string ((rd_T90 l0_2 x73_3).f1)) := (Sq.o BK231.out 1).trans rfl
                  have hcz108_2 : wr.cell? ⟨gb231, 2, none⟩ = some (.slice A230_2 ((rd_T90 l0_2 x73_3).f2).length c230_2) := (Sq.o BK231.out 2).trans rfl
                  have hfz108_0 := Sq.r BK231.out 0
                  have hfz108_1 := Sq.r BK231.out 1
                  have hfz108_2 := Sq.r BK231.out 2
                  go_wp2
                  go_loopg [12] k5 (fun kq v12 w' => ∃ (x12_6 : Int), v12 = .int .i64 x12_6 ∧ Aside0 (impl_MemHostFault.l4 kq x12_6 l0_2 (l0_2.length : Int) x73_3 l0_0 l0_1 l0_2 a0_3 ((rd_T90 l0_2 x73_3).f0) ((rd_T90 l0_2 x73_3).f1) ((rd_T90 l0_2 x73_3).f2) = some r) ∧ Aside0 (kq ≤ k5) ∧ Aside0 (Kd.V Kd.string 9 w' w.heap.size (fun k_ => ((P0_0_ k_ ∨ P0_1_ k_) ∨ w.heap.size ≤ k_) ∧ k_ ≠ gb222 ∧ k_ ≠ gb231) (.slice A0_0 l0_0.length c0_0) l0_0) ∧ Aside0 (Kd.V Kd.string 9 w' w.heap.size (fun k_ => ((P0_0_ k_ ∨ P0_1_ k_) ∨ w.heap.size ≤ k_) ∧ k_ ≠ gb222 ∧ k_ ≠ gb231) (.slice A0_1 l0_1.length c0_1) l0_1) ∧ Aside0 (w'.heap[gb222]? = some (.cells #[(.slice A0_0 l0_0.length c0_0), (.slice A0_1 l0_1.length c0_1), (.slice (some ad230) l0_2.length c0_2), .int .i64 a0_3] 30 (0, 0))) ∧ Aside0 (w'.heap[gb231]? = some (.cells #[(.slice A230_0 ((rd_T90 l0_2 x73_3).f0).length c230_0), .string ((rd_T90 l0_2 x73_3).f1), (.slice A230_2 ((rd_T90 l0_2 x73_3).f2).length c230_2)] 90 (0, 0))) ∧ Aside0 (Below w.heap.size w w'))
                  case atStart => exact ⟨((((rd_T90 l0_2 x73_3).f0).length : Int)), (by first | rfl | (simp; done) | (simp [*]; done)), H', ⟨Nat.le_refl _⟩, ⟨by (with_reducible repeat (first | apply Sq.x | apply Sq.y | apply Sq.z)); exact HO_223000.out⟩, ⟨by (with_reducible repeat (first | apply Sq.x | apply Sq.y | apply Sq.z)); exact HO_223001.out⟩, ⟨by (with_reducible repeat (first | refine Sq.d ?_ _ | refine Sq.e ?_ | refine Sq.f ?_ _)); exact BK222.out⟩, ⟨by (with_reducible repeat (first | refine Sq.d ?_ _ | refine Sq.e ?_ | refine Sq.f ?_ _)); exact BK231.out⟩, ⟨by repeat (first | (with_reducible first | exact HB.out | apply Sq.i | apply Sq.j | apply Sq.k | refine Sq.h ?_ GE222.out | refine Sq.h ?_ GE231.out) | exact HB.out)⟩⟩
                  case round =>
                   clear H'
                   try clear c1; try clear c2; try clear p2; try clear q2; try clear hx2; try clear c3; try clear c4; try clear c4b0; try clear c4b1; try clear c5; try clear c6; try clear c6b0; try clear c6b1; try clear p6; try clear c7; try clear c8; try clear c9; try clear c10; try clear c11; try clear c14; try clear c20; try clear c20b0; try clear c21; try clear c21b0; try clear c22; try clear c22b0; try clear p22; try clear q22; try clear hx22; try clear c23; try clear p23; try clear q23; try clear hx23; try clear c24; try clear c24b0; try clear c25; try clear c25b0; try clear c26; try clear c26b0; try clear c27; try clear c27b0; try clear c27b1; try clear c29; try clear c29b0; try clear c29b1; try clear c32; try clear c32b0; try clear c33; try clear c33b0; try clear c34; try clear c34b0; try clear c37; try clear c39; try clear c39b0; try clear c39b1; try clear c40; try clear c42; try clear c45; try clear c46; try clear c49; try clear c49b0; try clear c50; try clear c50b0; try clear c51; try clear c51b0; try clear c55; try clear c56; try clear c58; try clear c60; try clear c62; try clear c63; try clear p64; try clear c65; try clear c65b0; try clear c65b1; try clear c67; try clear c68; try clear c70; try clear c70b0; try clear c70b1; try clear c72; try clear c72b0; try clear c72b1; try clear c74; try clear c75; try clear c75b0; try clear c76; try clear c76b0; try clear c78; try clear c79; try clear c81; try clear c83; try clear c83b0; try clear c83b1; try clear c83b2; try clear c84; try clear c85; try clear c87; try clear c90; try clear c90b0; try clear c90b1; try clear c92; try clear c93; try clear c93b0; try clear c94; try clear c94b0; try clear c96; try clear c97; try clear c99; try clear c101; try clear c101b0; try clear c101b1; try clear c101b2; try clear c102; try clear c103; try clear c105; try clear c107; try clear hcz100_0; try clear hcz100_1; try clear hcz100_2; try clear hcz100_3; try clear hcz104_0; try clear hcz104_1; try clear hcz104_2; try clear hcz106_0; try clear hcz106_1; try clear hcz106_2; try clear hcz106_3; try clear hcz108_0; try clear hcz108_1; try clear hcz108_2; try clear hcz11_0; try clear hcz11_1; try clear hcz11_2; try clear hcz11_3; try clear hcz12_0; try clear hcz12_1; try clear hcz12_2; try clear hcz12_3; try clear hcz15_0; try clear hcz15_1; try clear hcz15_2; try clear hcz15_3; try clear hcz30_0; try clear hcz30_1; try clear hcz30_2; try clear hcz30_3; try clear hcz38_0; try clear hcz38_1; try clear hcz38_2; try clear hcz41_0; try clear hcz41_1; try clear hcz41_2; try clear hcz43_0; try clear hcz43_1; try clear hcz43_2; try clear hcz47_0; try clear hcz47_1; try clear hcz47_2; try clear hcz57_0; try clear hcz57_1; try clear hcz57_2; try clear hcz59_0; try clear hcz59_1; try clear hcz59_2; try clear hcz59_3; try clear hcz5_0; try clear hcz5_1; try clear hcz5_2; try clear hcz5_3; try clear hcz64_0; try clear hcz64_1; try clear hcz64_2; try clear hcz69_0; try clear hcz69_1; try clear hcz69_2; try clear hcz7_0; try clear hcz7_1; try clear hcz7_2; try clear hcz7_3; try clear hcz80_0; try clear hcz80_1; try clear hcz80_2; try clear hcz82_0; try clear hcz82_1; try clear hcz82_2; try clear hcz82_3; try clear hcz86_0; try clear hcz86_1; try clear hcz86_2; try clear hcz88_0; try clear hcz88_1; try clear hcz88_2; try clear hcz88_3; try clear hcz98_0; try clear hcz98_1; try clear hcz98_2; try clear hfz100_0; try clear hfz100_1; try clear hfz100_2; try clear hfz100_3; try clear hfz104_0; try clear hfz104_1; try clear hfz104_2; try clear hfz106_0; try clear hfz106_1; try clear hfz106_2; try clear hfz106_3; try clear hfz108_0; try clear hfz108_1; try clear hfz108_2; try clear hfz11_0; try clear hfz11_1; try clear hfz11_2; try clear hfz11_3; try clear hfz12_0; try clear hfz12_1; try clear hfz12_2; try clear hfz12_3; try clear hfz15_0; try clear hfz15_1; try clear hfz15_2; try clear hfz15_3; try clear hfz30_0; try clear hfz30_1; try clear hfz30_2; try clear hfz30_3; try clear hfz38_0; try clear hfz38_1; try clear hfz38_2; try clear hfz41_0; try clear hfz41_1; try clear hfz41_2; try clear hfz43_0; try clear hfz43_1; try clear hfz43_2; try clear hfz47_0; try clear hfz47_1; try clear hfz47_2; try clear hfz57_0; try clear hfz57_1; try clear hfz57_2; try clear hfz59_0; try clear hfz59_1; try clear hfz59_2; try clear hfz59_3; try clear hfz5_0; try clear hfz5_1; try clear hfz5_2; try clear hfz5_3; try clear hfz64_0; try clear hfz64_1; try clear hfz64_2; try clear hfz69_0; try clear hfz69_1; try clear hfz69_2; try clear hfz7_0; try clear hfz7_1; try clear hfz7_2; try clear hfz7_3; try clear hfz80_0; try clear hfz80_1; try clear hfz80_2; try clear hfz82_0; try clear hfz82_1; try clear hfz82_2; try clear hfz82_3; try clear hfz86_0; try clear hfz86_1; try clear hfz86_2; try clear hfz88_0; try clear hfz88_1; try clear hfz88_2; try clear hfz88_3; try clear hfz98_0; try clear hfz98_1; try clear hfz98_2; try clear hx228_0; try clear hx229_0; try clear hx230_0; try clear hx230_1; try clear hx230_2; try clear hx232_0; try clear hx232_1; try clear hx232_2; try clear hx236_0; try clear hx238_0; try clear p2; try clear p22; try clear p228; try clear p229; try clear p23; try clear p230; try clear p232; try clear p236; try clear p238; try clear p6; try clear q2; try clear q22; try clear q228; try clear q229; try clear q23; try clear q230; try clear q232; try clear q236; try clear q238
                   obtain ⟨x12_6, rfl, HA, HK6, HO_223000, HO_223001, BK222, BK231, HB⟩ := hrel
                   cases gk with
                   | zero => exact absurd HA.out (by simp [impl_MemHostFault.l4])
                   | succ k6 =>
                    have H := HA.out
                    clear HA
                    simp only [impl_MemHostFault.l4] at H
                    have HC109 := Sq.l H
                    clear H
                    go_upto_if 150 with (fail)
                    have H := HC109.out
                    clear HC109
                    by_cases c110 : x12_6 < 32
                    ·rw [if_pos c110] at H
                     have c110b0 : decide (x12_6 < 32) = true := decide_eq_true c110
                     clear c110
                     (first | rw [c110b0] | (simp only [i64_w, i32_w]; rw [c110b0]) | skip)
                     replace H := Option.bind_eq_some_iff.mp H
                     obtain ⟨t239, A1110, H⟩ := H
                     (try dsimp only at H)
                     have A111 := Sq.l A1110
                     clear A1110
                     have HC112 := Sq.l H
                     clear H; have hnb113 := NB231_222.out; have hnc113 := NB222_231.out
                     have hcz114_0 : wr.cell? ⟨gb231, 0, none⟩ = some (.slice A230_0 ((rd_T90 l0_2 x73_3).f0).length c230_0) := (Sq.o BK231.out 0).trans rfl
                     have hcz114_1 : wr.cell? ⟨gb231, 1, none⟩ = some (.string ((rd_T90 l0_2 x73_3).f1)) := (Sq.o BK231.out 1).trans rfl
                     have hcz114_2 : wr.cell? ⟨gb231, 2, none⟩ = some (.slice A230_2 ((rd_T90 l0_2 x73_3).f2).length c230_2) := (Sq.o BK231.out 2).trans rfl
                     have hfz114_0 := Sq.r BK231.out 0
                     have hfz114_1 := Sq.r BK231.out 1
                     have hfz114_2 := Sq.r BK231.out 2
                     go_upto_if 156 with (first | ((with_reducible refine gate_callee (f := 50) rfl ?_); refine goesL_ (some 156) rfl rfl Try.func50 (by kernel_rfl) rfl #[.string ((rd_T90 l0_2 x73_3).f1), .int .i64 x12_6] rfl (by (try simp only [List.map_toArray, List.map_cons, List.map_nil]); first | done | rfl | (simp only [List.length_drop, List.length_take]; rfl)) ?_; (with_reducible refine (impl_yhasBit.calls ((rd_T90 l0_2 x73_3).f1) x12_6 t239 _ A111.out).mono ?_); rintro e w' ⟨rfl, ⟨nd, rfl⟩⟩; refine ⟨_, rfl, ?_⟩))
                     (try simp only [Act.put, List.setIfInBounds_toArray, List.set_cons_zero, List.set_cons_succ])
                     have H := HC112.out
                     clear HC112
                     by_cases c115 : t239 = true
                     ·subst c115
                      rw [if_pos rfl] at H
                      obtain rfl := Option.some.inj H
                      go_wp2
                      go_ret
                      exact ⟨by first | rfl | (simp [errW_none, errW_some] <;> rfl) | (simp [*, errW_none, errW_some] <;> rfl), by repeat (first | (with_reducible first | exact HB.out | apply Sq.i | apply Sq.j | apply Sq.k | refine Sq.h ?_ GE222.out | refine Sq.h ?_ GE231.out) | exact HB.out)⟩
                     ·replace c115 := Bool.eq_false_iff.mpr c115
                      subst c115
                      rw [if_neg (show ¬ (false = true) by decide)] at H
                      have H' := Sq.l H
                      clear H
                      go_wp2
                      go_roundg k6
                      case measure => have := HJ1.out; have := HK2.out; have := HK3.out; have := HJ34.out; have := HK5.out; have := HK6.out; omega
                      case rel => exact ⟨(wrap64 (x12_6 + 1)), (by first | rfl | (simp; done) | (simp [*]; done)), H', ⟨by have := HJ1.out; have := HK2.out; have := HK3.out; have := HJ34.out; have := HK5.out; have := HK6.out; omega⟩, ⟨by (with_reducible repeat (first | apply Sq.x | apply Sq.y | apply Sq.z)); exact HO_223000.out⟩, ⟨by (with_reducible repeat (first | apply Sq.x | apply Sq.y | apply Sq.z)); exact HO_223001.out⟩, ⟨by (with_reducible repeat (first | refine Sq.d ?_ _ | refine Sq.e ?_ | refine Sq.f ?_ _)); exact BK222.out⟩, ⟨by (with_reducible repeat (first | refine Sq.d ?_ _ | refine Sq.e ?_ | refine Sq.f ?_ _)); exact BK231.out⟩, ⟨by repeat (first | (with_reducible first | exact HB.out | apply Sq.i | apply Sq.j | apply Sq.k | refine Sq.h ?_ GE222.out | refine Sq.h ?_ GE231.out) | exact HB.out)⟩⟩
                    ·rw [if_neg c110] at H
                     have c110b0 : decide (x12_6 < 32) = false := decide_eq_false c110
                     clear c110
                     (first | rw [c110b0] | (simp only [i64_w, i32_w]; rw [c110b0]) | skip)
                     have H' := Sq.l H
                     clear H
                     go_wp2
                     go_roundg k6
                     case measure => have := HJ1.out; have := HK2.out; have := HK3.out; have := HJ34.out; have := HK5.out; have := HK6.out; omega
                     case rel => exact ⟨(wrap64 (x73_3 + 1)), (by first | rfl | (simp; done) | (simp [*]; done)), H', ⟨by have := HJ1.out; have := HK2.out; have := HK3.out; have := HJ34.out; have := HK5.out; have := HK6.out; omega⟩, ⟨by (with_reducible repeat (first | apply Sq.x | apply Sq.y | apply Sq.z)); exact Sq.a6 HO_223000.out (fun _ hk => ⟨hk.1, hk.2.1⟩)⟩, ⟨by (with_reducible repeat (first | apply Sq.x | apply Sq.y | apply Sq.z)); exact Sq.a6 HO_223001.out (fun _ hk => ⟨hk.1, hk.2.1⟩)⟩, ⟨by (with_reducible repeat (first | refine Sq.d ?_ _ | refine Sq.e ?_ | refine Sq.f ?_ _)); exact BK222.out⟩, ⟨by repeat (first | (with_reducible first | exact HB.out | apply Sq.i | apply Sq.j | apply Sq.k | refine Sq.h ?_ GE222.out | refine Sq.h ?_ GE231.out) | exact HB.out)⟩⟩
           ·rw [if_neg c34] at H
            exact absurd H (by simp)
          ·rw [if_neg c33] at H
           exact absurd H (by simp)
         ·rw [if_neg c32] at H
          have c32b0 : decide (x73_3 < (l0_2.length : Int)) = false := decide_eq_false c32
          clear c32
          (first | rw [c32b0] | (simp only [i64_w, i32_w]; rw [c32b0]) | skip)
          have H' := Sq.l H
          clear H
          have hcz116_0 : wr.cell? ⟨gb222, 0, none⟩ = some (.slice A0_0 l0_0.length c0_0) := (Sq.o BK222.out 0).trans rfl
          have hcz116_1 : wr.cell? ⟨gb222, 1, none⟩ = some (.slice A0_1 l0_1.length c0_1) := (Sq.o BK222.out 1).trans rfl
          have hcz116_2 : wr.cell? ⟨gb222, 2, none⟩ = some (.slice A0_2 l0_2.length c0_2) := (Sq.o BK222.out 2).trans rfl
          have hcz116_3 : wr.cell? ⟨gb222, 3, none⟩ = some (.int .i64 a0_3) := (Sq.o BK222.out 3).trans rfl
          have hfz116_0 := Sq.r BK222.out 0
          have hfz116_1 := Sq.r BK222.out 1
          have hfz116_2 := Sq.r BK222.out 2
          have hfz116_3 := Sq.r BK222.out 3
          go_wp2
          go_loopg [161] k3 (fun kq v161 w' => ∃ (x161_4 : Int), v161 = .int .i64 x161_4 ∧ Aside0 (impl_MemHostFault.l5 kq l0_0 (l0_0.length : Int) x161_4 l0_0 l0_1 l0_2 a0_3 = some r) ∧ Aside0 (kq ≤ k3) ∧ Aside0 (Kd.V Kd.string 9 w' w.heap.size (fun k_ => ((P0_0_ k_ ∨ P0_1_ k_) ∨ w.heap.size ≤ k_) ∧ k_ ≠ gb222) (.slice A0_0 l0_0.length c0_0) l0_0) ∧ Aside0 (Kd.V Kd.string 9 w' w.heap.size (fun k_ => ((P0_0_ k_ ∨ P0_1_ k_) ∨ w.heap.size ≤ k_) ∧ k_ ≠ gb222) (.slice A0_0 l0_0.length c0_0) l0_0) ∧ Aside0 (Kd.V Kd.string 9 w' w.heap.size (fun k_ => ((P0_0_ k_ ∨ P0_1_ k_) ∨ w.heap.size ≤ k_) ∧ k_ ≠ gb222) (.slice A0_1 l0_1.length c0_1) l0_1) ∧ Aside0 (w'.heap[gb222]? = some (.cells #[(.slice A0_0 l0_0.length c0_0), (.slice A0_1 l0_1.length c0_1), (.slice A0_2 l0_2.length c0_2), .int .i64 a0_3] 30 (0, 0))) ∧ Aside0 (Below w.heap.size w w'))
          case atStart => exact ⟨(0), (by first | rfl | (simp; done) | (simp [*]; done)), H', ⟨Nat.le_refl _⟩, ⟨by (with_reducible repeat (first | apply Sq.x | apply Sq.y | apply Sq.z)); exact HO_223000.out⟩, ⟨by (with_reducible repeat (first | apply Sq.x | apply Sq.y | apply Sq.z)); exact HO_223000.out⟩, ⟨by (with_reducible repeat (first | apply Sq.x | apply Sq.y | apply Sq.z)); exact HO_223001.out⟩, ⟨by (with_reducible repeat (first | refine Sq.d ?_ _ | refine Sq.e ?_ | refine Sq.f ?_ _)); exact BK222.out⟩, ⟨by repeat (first | (with_reducible first | exact HB.out | apply Sq.i | apply Sq.j | apply Sq.k | refine Sq.h ?_ GE222.out) | exact HB.out)⟩⟩
          case round =>
           clear H'
           try clear c1; try clear c2; try clear p2; try clear q2; try clear hx2; try clear c3; try clear c4; try clear c4b0; try clear c4b1; try clear c5; try clear c6; try clear c6b0; try clear c6b1; try clear p6; try clear c7; try clear c8; try clear c9; try clear c10; try clear c11; try clear c14; try clear c20; try clear c20b0; try clear c21; try clear c21b0; try clear c22; try clear c22b0; try clear p22; try clear q22; try clear hx22; try clear c23; try clear p23; try clear q23; try clear hx23; try clear c24; try clear c24b0; try clear c25; try clear c25b0; try clear c26; try clear c26b0; try clear c27; try clear c27b0; try clear c27b1; try clear c29; try clear c29b0; try clear c29b1; try clear c32; try clear c32b0; try clear c33; try clear c33b0; try clear c34; try clear c34b0; try clear c37; try clear c39; try clear c39b0; try clear c39b1; try clear c40; try clear c42; try clear c45; try clear c46; try clear c49; try clear c49b0; try clear c50; try clear c50b0; try clear c51; try clear c51b0; try clear c55; try clear c56; try clear c58; try clear c60; try clear c62; try clear c63; try clear p64; try clear c65; try clear c65b0; try clear c65b1; try clear c67; try clear c68; try clear c70; try clear c70b0; try clear c70b1; try clear c72; try clear c72b0; try clear c72b1; try clear c74; try clear c75; try clear c75b0; try clear c76; try clear c76b0; try clear c78; try clear c79; try clear c81; try clear c83; try clear c83b0; try clear c83b1; try clear c83b2; try clear c84; try clear c85; try clear c87; try clear c90; try clear c90b0; try clear c90b1; try clear c92; try clear c93; try clear c93b0; try clear c94; try clear c94b0; try clear c96; try clear c97; try clear c99; try clear c101; try clear c101b0; try clear c101b1; try clear c101b2; try clear c102; try clear c103; try clear c105; try clear c107; try clear c110; try clear c110b0; try clear c113; try clear c115; try clear hcz100_0; try clear hcz100_1; try clear hcz100_2; try clear hcz100_3; try clear hcz104_0; try clear hcz104_1; try clear hcz104_2; try clear hcz106_0; try clear hcz106_1; try clear hcz106_2; try clear hcz106_3; try clear hcz108_0; try clear hcz108_1; try clear hcz108_2; try clear hcz114_0; try clear hcz114_1; try clear hcz114_2; try clear hcz116_0; try clear hcz116_1; try clear hcz116_2; try clear hcz116_3; try clear hcz11_0; try clear hcz11_1; try clear hcz11_2; try clear hcz11_3; try clear hcz12_0; try clear hcz12_1; try clear hcz12_2; try clear hcz12_3; try clear hcz15_0; try clear hcz15_1; try clear hcz15_2; try clear hcz15_3; try clear hcz30_0; try clear hcz30_1; try clear hcz30_2; try clear hcz30_3; try clear hcz38_0; try clear hcz38_1; try clear hcz38_2; try clear hcz41_0; try clear hcz41_1; try clear hcz41_2; try clear hcz43_0; try clear hcz43_1; try clear hcz43_2; try clear hcz47_0; try clear hcz47_1; try clear hcz47_2; try clear hcz57_0; try clear hcz57_1; try clear hcz57_2; try clear hcz59_0; try clear hcz59_1; try clear hcz59_2; try clear hcz59_3; try clear hcz5_0; try clear hcz5_1; try clear hcz5_2; try clear hcz5_3; try clear hcz64_0; try clear hcz64_1; try clear hcz64_2; try clear hcz69_0; try clear hcz69_1; try clear hcz69_2; try clear hcz7_0; try clear hcz7_1; try clear hcz7_2; try clear hcz7_3; try clear hcz80_0; try clear hcz80_1; try clear hcz80_2; try clear hcz82_0; try clear hcz82_1; try clear hcz82_2; try clear hcz82_3; try clear hcz86_0; try clear hcz86_1; try clear hcz86_2; try clear hcz88_0; try clear hcz88_1; try clear hcz88_2; try clear hcz88_3; try clear hcz98_0; try clear hcz98_1; try clear hcz98_2; try clear hfz100_0; try clear hfz100_1; try clear hfz100_2; try clear hfz100_3; try clear hfz104_0; try clear hfz104_1; try clear hfz104_2; try clear hfz106_0; try clear hfz106_1; try clear hfz106_2; try clear hfz106_3; try clear hfz108_0; try clear hfz108_1; try clear hfz108_2; try clear hfz114_0; try clear hfz114_1; try clear hfz114_2; try clear hfz116_0; try clear hfz116_1; try clear hfz116_2; try clear hfz116_3; try clear hfz11_0; try clear hfz11_1; try clear hfz11_2; try clear hfz11_3; try clear hfz12_0; try clear hfz12_1; try clear hfz12_2; try clear hfz12_3; try clear hfz15_0; try clear hfz15_1; try clear hfz15_2; try clear hfz15_3; try clear hfz30_0; try clear hfz30_1; try clear hfz30_2; try clear hfz30_3; try clear hfz38_0; try clear hfz38_1; try clear hfz38_2; try clear hfz41_0; try clear hfz41_1; try clear hfz41_2; try clear hfz43_0; try clear hfz43_1; try clear hfz43_2; try clear hfz47_0; try clear hfz47_1; try clear hfz47_2; try clear hfz57_0; try clear hfz57_1; try clear hfz57_2; try clear hfz59_0; try clear hfz59_1; try clear hfz59_2; try clear hfz59_3; try clear hfz5_0; try clear hfz5_1; try clear hfz5_2; try clear hfz5_3; try clear hfz64_0; try clear hfz64_1; try clear hfz64_2; try clear hfz69_0; try clear hfz69_1; try clear hfz69_2; try clear hfz7_0; try clear hfz7_1; try clear hfz7_2; try clear hfz7_3; try clear hfz80_0; try clear hfz80_1; try clear hfz80_2; try clear hfz82_0; try clear hfz82_1; try clear hfz82_2; try clear hfz82_3; try clear hfz86_0; try clear hfz86_1; try clear hfz86_2; try clear hfz88_0; try clear hfz88_1; try clear hfz88_2; try clear hfz88_3; try clear hfz98_0; try clear hfz98_1; try clear hfz98_2; try clear hx228_0; try clear hx229_0; try clear hx230_0; try clear hx230_1; try clear hx230_2; try clear hx232_0; try clear hx232_1; try clear hx232_2; try clear hx236_0; try clear hx238_0; try clear p2; try clear p22; try clear p228; try clear p229; try clear p23; try clear p230; try clear p232; try clear p236; try clear p238; try clear p6; try clear p64; try clear q2; try clear q22; try clear q228; try clear q229; try clear q23; try clear q230; try clear q232; try clear q236; try clear q238
           obtain ⟨x161_4, rfl, HA, HK4, HO_159, HO_223000, HO_223001, BK222, HB⟩ := hrel
           cases gk with
           | zero => exact absurd HA.out (by simp [impl_MemHostFault.l5])
           | succ k4 =>
            have H := HA.out
            clear HA
            simp only [impl_MemHostFault.l5] at H
            have HC117 := Sq.l H
            clear H
            go_upto_if 162 with (fail)
            have H := HC117.out
            clear HC117
            by_cases c118 : x161_4 < (l0_0.length : Int)
            ·rw [if_pos c118] at H
             have c118b0 : decide (x161_4 < (l0_0.length : Int)) = true := decide_eq_true c118
             clear c118
             (first | rw [c118b0] | (simp only [i64_w, i32_w]; rw [c118b0]) | skip)
             by_cases c119 : 0 ≤ x161_4
             ·rw [if_pos c119] at H
              have c119b0 : decide (0 ≤ x161_4) = true := decide_eq_true c119
              clear c119
              by_cases c120 : x161_4 < (l0_0.length : Int)
              ·rw [if_pos c120] at H
               have c120b0 : decide (x161_4 < (l0_0.length : Int)) = true := decide_eq_true c120
               clear c120
               by_cases c121 : (rdOf ByteArray.empty l0_0 x161_4).toList = ([] : List UInt8)
               ·rw [if_pos c121] at H
                have c121b0 : ((rdOf ByteArray.empty l0_0 x161_4).toList == ([] : List UInt8)) = true := beq_iff_eq.mpr c121
                have c121b1 : ((rdOf ByteArray.empty l0_0 x161_4).toList != ([] : List UInt8)) = false := bne_eq_false_iff_eq.mpr c121
                (try (have c121b2 : ((rdOf ByteArray.empty l0_0 x161_4).toList.isEmpty) = true := Sq.it c121))
                clear c121
                have H' := Sq.l H
                clear H
                have p240 : 0 ≤ (x161_4 : Int) := of_decide_eq_true (by first | (with_reducible assumption) | assumption)
                have q240 : x161_4 < (l0_0.length : Int) := of_decide_eq_true (by first | (with_reducible assumption) | assumption)
                obtain ⟨ad240, e240, hx240_0⟩ := Kd.at_string (Kd.V_reads' HO_159.out).2.2 x161_4 p240 q240
                cases e240
                replace p240 := eq_true p240; replace q240 := eq_true q240
                go_wp2
                all_goals (try exact absurd (c121b2.symm.trans (show ((rdOf ByteArray.empty l0_0 x161_4).toList.isEmpty) = false by assumption)) (by decide))
                go_roundg k4
                case measure => have := HJ1.out; have := HK2.out; have := HK3.out; have := HK4.out; omega
                case rel => exact ⟨(wrap64 (x161_4 + 1)), (by first | rfl | (simp; done) | (simp [*]; done)), H', ⟨by have := HJ1.out; have := HK2.out; have := HK3.out; have := HK4.out; omega⟩, ⟨by (with_reducible repeat (first | apply Sq.x | apply Sq.y | apply Sq.z)); exact HO_159.out⟩, ⟨by (with_reducible repeat (first | apply Sq.x | apply Sq.y | apply Sq.z)); exact HO_223000.out⟩, ⟨by (with_reducible repeat (first | apply Sq.x | apply Sq.y | apply Sq.z)); exact HO_223001.out⟩, ⟨by (with_reducible repeat (first | refine Sq.d ?_ _ | refine Sq.e ?_ | refine Sq.f ?_ _)); exact BK222.out⟩, ⟨by repeat (first | (with_reducible first | exact HB.out | apply Sq.i | apply Sq.j | apply Sq.k | refine Sq.h ?_ GE222.out) | exact HB.out)⟩⟩
               ·rw [if_neg c121] at H
                have c121b0 : ((rdOf ByteArray.empty l0_0 x161_4).toList == ([] : List UInt8)) = false := beq_eq_false_iff_ne.mpr c121
                have c121b1 : ((rdOf ByteArray.empty l0_0 x161_4).toList != ([] : List UInt8)) = true := bne_iff_ne.mpr c121
                (try (have c121b2 : ((rdOf ByteArray.empty l0_0 x161_4).toList.isEmpty) = false := Sq.ie c121))
                replace H := Option.bind_eq_some_iff.mp H
                obtain ⟨t241, A1220, H⟩ := H
                (try dsimp only at H)
                have A122 := Sq.l A1220
                clear A1220
                have HC123 := Sq.l H
                clear H
                have p240 : 0 ≤ (x161_4 : Int) := of_decide_eq_true (by first | (with_reducible assumption) | assumption)
                have q240 : x161_4 < (l0_0.length : Int) := of_decide_eq_true (by first | (with_reducible assumption) | assumption)
                obtain ⟨ad240, e240, hx240_0⟩ := Kd.at_string (Kd.V_reads' HO_159.out).2.2 x161_4 p240 q240
                cases e240
                replace p240 := eq_true p240; replace q240 := eq_true q240
                have hcz124_0 : wr.cell? ⟨gb222, 0, none⟩ = some (.slice (some ad240) l0_0.length c0_0) := (Sq.o BK222.out 0).trans rfl
                have hcz124_1 : wr.cell? ⟨gb222, 1, none⟩ = some (.slice A0_1 l0_1.length c0_1) := (Sq.o BK222.out 1).trans rfl
                have hcz124_2 : wr.cell? ⟨gb222, 2, none⟩ = some (.slice A0_2 l0_2.length c0_2) := (Sq.o BK222.out 2).trans rfl
                have hcz124_3 : wr.cell? ⟨gb222, 3, none⟩ = some (.int .i64 a0_3) := (Sq.o BK222.out 3).trans rfl
                have hfz124_0 := Sq.r BK222.out 0
                have hfz124_1 := Sq.r BK222.out 1
                have hfz124_2 := Sq.r BK222.out 2
                have hfz124_3 := Sq.r BK222.out 3
                go_upto_if 173 with (first | (go_at_call 51; (with_reducible refine (impl_MemHost_yusers.calls k4 _ _ l0_0 _ _ l0_1 _ _ l0_2 a0_3 1 x161_4 t241 _ ?side1 ?side2 ?side3 ?side4 ?side5 ?side6 A122.out).mono ?_); (case side1 => repeat (first | exact (Kd.V_reads' HO_223000.out).2.2 | (with_reducible refine Sq.s ?_ _) | (with_reducible refine Sq.t ?_ _) | (with_reducible refine Sq.u ?_))); (case side2 => exact (Kd.V_reads' HO_223000.out).2.1); (case side3 => repeat (first | exact (Kd.V_reads' HO_223001.out).2.2 | (with_reducible refine Sq.s ?_ _) | (with_reducible refine Sq.t ?_ _) | (with_reducible refine Sq.u ?_))); (case side4 => exact (Kd.V_reads' HO_223001.out).2.1); (case side5 => repeat (first | exact (Sq.a1 HR0_2.out HB.out) | (with_reducible refine Sq.s ?_ _) | (with_reducible refine Sq.t ?_ _) | (with_reducible refine Sq.u ?_))); (case side6 => exact HC0_2.out); rintro e w125 ⟨rfl, hb⟩; have n0_ := Sq.l (Kd.V_below (by (with_reducible repeat (first | apply Sq.x | apply Sq.y | apply Sq.z)); exact HO_159.out) hb); have n1_ := Sq.l (Kd.V_below (by (with_reducible repeat (first | apply Sq.x | apply Sq.y | apply Sq.z)); exact HO_223000.out) hb); have n2_ := Sq.l (Kd.V_below (by (with_reducible repeat (first | apply Sq.x | apply Sq.y | apply Sq.z)); exact HO_223001.out) hb); have n3_ := Sq.l (Sq.m (g := gb222) (o := .cells #[.slice (some ad240) l0_0.length c0_0, .slice A0_1 l0_1.length c0_1, .slice A0_2 l0_2.length c0_2, .int .i64 a0_3] 30 (0, 0)) (by (with_reducible repeat (first | refine Sq.d ?_ _ | refine Sq.e ?_ | refine Sq.f ?_ _)); exact BK222.out) hb); have n4_ := Sq.l (Sq.a4 (by repeat (first | (with_reducible first | exact HB.out | apply Sq.i | apply Sq.j | apply Sq.k | refine Sq.h ?_ GE222.out) | exact HB.out)) hb); clear HO_159; clear HO_223000; clear HO_223001; clear BK222; clear HB; have HO_159 := n0_; have HO_223000 := n1_; have HO_223001 := n2_; have BK222 := n3_; have HB := n4_; clear n0_ n1_ n2_ n3_ n4_; (try clear hb); (try clear hb2); (try clear hk); (try clear hi)))
                (try simp only [Act.put, List.setIfInBounds_toArray, List.set_cons_zero, List.set_cons_succ])
                have H := HC123.out
                clear HC123
                by_cases c126 : t241 = 0
                ·rw [if_pos c126] at H
                 have c126b0 : (t241 == 0) = true := beq_iff_eq.mpr c126
                 have c126b1 : (t241 != 0) = false := bne_eq_false_iff_eq.mpr c126
                 clear c126
                 (first | rw [c126b0] | (simp only [i64_w, i32_w]; rw [c126b0]) | skip)
                 obtain rfl := Option.some.inj H
                 go_wp2
                 go_ret
                 exact ⟨by first | rfl | (simp [errW_none, errW_some] <;> rfl) | (simp [*, errW_none, errW_some] <;> rfl), by repeat (first | (with_reducible first | exact HB.out | apply Sq.i | apply Sq.j | apply Sq.k | refine Sq.h ?_ GE222.out) | exact HB.out)⟩
                ·rw [if_neg c126] at H
                 have c126b0 : (t241 == 0) = false := beq_eq_false_iff_ne.mpr c126
                 have c126b1 : (t241 != 0) = true := bne_iff_ne.mpr c126
                 (first | rw [c126b0] | (simp only [i64_w, i32_w]; rw [c126b0]) | skip)
                 have H' := Sq.l H
                 clear H
                 go_wp2
                 go_roundg k4
                 case measure => have := HJ1.out; have := HK2.out; have := HK3.out; have := HK4.out; omega
                 case rel => exact ⟨(wrap64 (x161_4 + 1)), (by first | rfl | (simp; done) | (simp [*]; done)), H', ⟨by have := HJ1.out; have := HK2.out; have := HK3.out; have := HK4.out; omega⟩, ⟨by (with_reducible repeat (first | apply Sq.x | apply Sq.y | apply Sq.z)); exact HO_159.out⟩, ⟨by (with_reducible repeat (first | apply Sq.x | apply Sq.y | apply Sq.z)); exact HO_223000.out⟩, ⟨by (with_reducible repeat (first | apply Sq.x | apply Sq.y | apply Sq.z)); exact HO_223001.out⟩, ⟨by (with_reducible repeat (first | refine Sq.d ?_ _ | refine Sq.e ?_ | refine Sq.f ?_ _)); exact BK222.out⟩, ⟨by repeat (first | (with_reducible first | exact HB.out | apply Sq.i | apply Sq.j | apply Sq.k | refine Sq.h ?_ GE222.out) | exact HB.out)⟩⟩
              ·rw [if_neg c120] at H
               exact absurd H (by simp)
             ·rw [if_neg c119] at H
              exact absurd H (by simp)
            ·rw [if_neg c118] at H
             have c118b0 : decide (x161_4 < (l0_0.length : Int)) = false := decide_eq_false c118
             clear c118
             (first | rw [c118b0] | (simp only [i64_w, i32_w]; rw [c118b0]) | skip)
             have H' := Sq.l H
             clear H
             have hcz127_0 : wr.cell? ⟨gb222, 0, none⟩ = some (.slice A0_0 l0_0.length c0_0) := (Sq.o BK222.out 0).trans rfl
             have hcz127_1 : wr.cell? ⟨gb222, 1, none⟩ = some (.slice A0_1 l0_1.length c0_1) := (Sq.o BK222.out 1).trans rfl
             have hcz127_2 : wr.cell? ⟨gb222, 2, none⟩ = some (.slice A0_2 l0_2.length c0_2) := (Sq.o BK222.out 2).trans rfl
             have hcz127_3 : wr.cell? ⟨gb222, 3, none⟩ = some (.int .i64 a0_3) := (Sq.o BK222.out 3).trans rfl
             have hfz127_0 := Sq.r BK222.out 0
             have hfz127_1 := Sq.r BK222.out 1
             have hfz127_2 := Sq.r BK222.out 2
             have hfz127_3 := Sq.r BK222.out 3
             go_wp2
             go_loopg [178] k4 (fun kq v178 w' => ∃ (x178_5 : Int), v178 = .int .i64 x178_5 ∧ Aside0 (impl_MemHostFault.l6 kq l0_1 (l0_1.length : Int) x178_5 l0_0 l0_1 l0_2 a0_3 = some r) ∧ Aside0 (kq ≤ k4) ∧ Aside0 (Kd.V Kd.string 9 w' w.heap.size (fun k_ => ((P0_0_ k_ ∨ P0_1_ k_) ∨ w.heap.size ≤ k_) ∧ k_ ≠ gb222) (.slice A0_1 l0_1.length c0_1) l0_1) ∧ Aside0 (Kd.V Kd.string 9 w' w.heap.size (fun k_ => ((P0_0_ k_ ∨ P0_1_ k_) ∨ w.heap.size ≤ k_) ∧ k_ ≠ gb222) (.slice A0_0 l0_0.length c0_0) l0_0) ∧ Aside0 (Kd.V Kd.string 9 w' w.heap.size (fun k_ => ((P0_0_ k_ ∨ P0_1_ k_) ∨ w.heap.size ≤ k_) ∧ k_ ≠ gb222) (.slice A0_1 l0_1.length c0_1) l0_1) ∧ Aside0 (w'.heap[gb222]? = some (.cells #[(.slice A0_0 l0_0.length c0_0), (.slice A0_1 l0_1.length c0_1), (.slice A0_2 l0_2.length c0_2), .int .i64 a0_3] 30 (0, 0))) ∧ Aside0 (Below w.heap.size w w'))
             case atStart => exact ⟨(0), (by first | rfl | (simp; done) | (simp [*]; done)), H', ⟨Nat.le_refl _⟩, ⟨by (with_reducible repeat (first | apply Sq.x | apply Sq.y | apply Sq.z)); exact HO_223001.out⟩, ⟨by (with_reducible repeat (first | apply Sq.x | apply Sq.y | apply Sq.z)); exact HO_223000.out⟩, ⟨by (with_reducible repeat (first | apply Sq.x | apply Sq.y | apply Sq.z)); exact HO_223001.out⟩, ⟨by (with_reducible repeat (first | refine Sq.d ?_ _ | refine Sq.e ?_ | refine Sq.f ?_ _)); exact BK222.out⟩, ⟨by repeat (first | (with_reducible first | exact HB.out | apply Sq.i | apply Sq.j | apply Sq.k | refine Sq.h ?_ GE222.out) | exact HB.out)⟩⟩
             case round =>
              clear H'
              try clear c1; try clear c2; try clear p2; try clear q2; try clear hx2; try clear c3; try clear c4; try clear c4b0; try clear c4b1; try clear c5; try clear c6; try clear c6b0; try clear c6b1; try clear p6; try clear c7; try clear c8; try clear c9; try clear c10; try clear c11; try clear c12; try clear c14; try clear c20; try clear c20b0; try clear c21; try clear c21b0; try clear c22; try clear c22b0; try clear p22; try clear q22; try clear hx22; try clear c23; try clear p23; try clear q23; try clear hx23; try clear c24; try clear c24b0; try clear p24; try clear q24; try clear hx24; try clear c25; try clear c25b0; try clear c26; try clear c26b0; try clear c27; try clear c27b0; try clear c27b1; try clear c29; try clear c29b0; try clear c29b1; try clear c32; try clear c32b0; try clear c33; try clear c33b0; try clear c34; try clear c34b0; try clear c37; try clear c39; try clear c39b0; try clear c39b1; try clear c40; try clear c42; try clear c45; try clear c46; try clear c49; try clear c49b0; try clear c50; try clear c50b0; try clear c51; try clear c51b0; try clear c55; try clear c56; try clear c58; try clear c60; try clear c62; try clear c63; try clear p64; try clear c65; try clear c65b0; try clear c65b1; try clear c67; try clear c68; try clear c70; try clear c70b0; try clear c70b1; try clear c72; try clear c72b0; try clear c72b1; try clear c74; try clear c75; try clear c75b0; try clear c76; try clear c76b0; try clear c78; try clear c79; try clear c81; try clear c83; try clear c83b0; try clear c83b1; try clear c83b2; try clear c84; try clear c85; try clear c87; try clear c90; try clear c90b0; try clear c90b1; try clear c92; try clear c93; try clear c93b0; try clear c94; try clear c94b0; try clear c96; try clear c97; try clear c99; try clear c101; try clear c101b0; try clear c101b1; try clear c101b2; try clear c102; try clear c103; try clear c105; try clear c107; try clear c110; try clear c110b0; try clear c113; try clear c115; try clear c118; try clear c118b0; try clear c119; try clear c119b0; try clear c120; try clear c120b0; try clear c121; try clear c121b0; try clear c121b1; try clear c121b2; try clear c126; try clear c126b0; try clear c126b1; try clear hcz100_0; try clear hcz100_1; try clear hcz100_2; try clear hcz100_3; try clear hcz104_0; try clear hcz104_1; try clear hcz104_2; try clear hcz106_0; try clear hcz106_1; try clear hcz106_2; try clear hcz106_3; try clear hcz108_0; try clear hcz108_1; try clear hcz108_2; try clear hcz114_0; try clear hcz114_1; try clear hcz114_2; try clear hcz116_0; try clear hcz116_1; try clear hcz116_2; try clear hcz116_3; try clear hcz11_0; try clear hcz11_1; try clear hcz11_2; try clear hcz11_3; try clear hcz124_0; try clear hcz124_1; try clear hcz124_2; try clear hcz124_3; try clear hcz127_0; try clear hcz127_1; try clear hcz127_2; try clear hcz127_3; try clear hcz12_0; try clear hcz12_1; try clear hcz12_2; try clear hcz12_3; try clear hcz15_0; try clear hcz15_1; try clear hcz15_2; try clear hcz15_3; try clear hcz30_0; try clear hcz30_1; try clear hcz30_2; try clear hcz30_3; try clear hcz38_0; try clear hcz38_1; try clear hcz38_2; try clear hcz41_0; try clear hcz41_1; try clear hcz41_2; try clear hcz43_0; try clear hcz43_1; try clear hcz43_2; try clear hcz47_0; try clear hcz47_1; try clear hcz47_2; try clear hcz57_0; try clear hcz57_1; try clear hcz57_2; try clear hcz59_0; try clear hcz59_1; try clear hcz59_2; try clear hcz59_3; try clear hcz5_0; try clear hcz5_1; try clear hcz5_2; try clear hcz5_3; try clear hcz64_0; try clear hcz64_1; try clear hcz64_2; try clear hcz69_0; try clear hcz69_1; try clear hcz69_2; try clear hcz7_0; try clear hcz7_1; try clear hcz7_2; try clear hcz7_3; try clear hcz80_0; try clear hcz80_1; try clear hcz80_2; try clear hcz82_0; try clear hcz82_1; try clear hcz82_2; try clear hcz82_3; try clear hcz86_0; try clear hcz86_1; try clear hcz86_2; try clear hcz88_0; try clear hcz88_1; try clear hcz88_2; try clear hcz88_3; try clear hcz98_0; try clear hcz98_1; try clear hcz98_2; try clear hfz100_0; try clear hfz100_1; try clear hfz100_2; try clear hfz100_3; try clear hfz104_0; try clear hfz104_1; try clear hfz104_2; try clear hfz106_0; try clear hfz106_1; try clear hfz106_2; try clear hfz106_3; try clear hfz108_0; try clear hfz108_1; try clear hfz108_2; try clear hfz114_0; try clear hfz114_1; try clear hfz114_2; try clear hfz116_0; try clear hfz116_1; try clear hfz116_2; try clear hfz116_3; try clear hfz11_0; try clear hfz11_1; try clear hfz11_2; try clear hfz11_3; try clear hfz124_0; try clear hfz124_1; try clear hfz124_2; try clear hfz124_3; try clear hfz127_0; try clear hfz127_1; try clear hfz127_2; try clear hfz127_3; try clear hfz12_0; try clear hfz12_1; try clear hfz12_2; try clear hfz12_3; try clear hfz15_0; try clear hfz15_1; try clear hfz15_2; try clear hfz15_3; try clear hfz30_0; try clear hfz30_1; try clear hfz30_2; try clear hfz30_3; try clear hfz38_0; try clear hfz38_1; try clear hfz38_2; try clear hfz41_0; try clear hfz41_1; try clear hfz41_2; try clear hfz43_0; try clear hfz43_1; try clear hfz43_2; try clear hfz47_0; try clear hfz47_1; try clear hfz47_2; try clear hfz57_0; try clear hfz57_1; try clear hfz57_2; try clear hfz59_0; try clear hfz59_1; try clear hfz59_2; try clear hfz59_3; try clear hfz5_0; try clear hfz5_1; try clear hfz5_2; try clear hfz5_3; try clear hfz64_0; try clear hfz64_1; try clear hfz64_2; try clear hfz69_0; try clear hfz69_1; try clear hfz69_2; try clear hfz7_0; try clear hfz7_1; try clear hfz7_2; try clear hfz7_3; try clear hfz80_0; try clear hfz80_1; try clear hfz80_2; try clear hfz82_0; try clear hfz82_1; try clear hfz82_2; try clear hfz82_3; try clear hfz86_0; try clear hfz86_1; try clear hfz86_2; try clear hfz88_0; try clear hfz88_1; try clear hfz88_2; try clear hfz88_3; try clear hfz98_0; try clear hfz98_1; try clear hfz98_2; try clear hx228_0; try clear hx229_0; try clear hx230_0; try clear hx230_1; try clear hx230_2; try clear hx232_0; try clear hx232_1; try clear hx232_2; try clear hx236_0; try clear hx238_0; try clear hx240_0; try clear p2; try clear p22; try clear p228; try clear p229; try clear p23; try clear p230; try clear p232; try clear p236; try clear p238; try clear p240; try clear p6; try clear p64; try clear q2; try clear q22; try clear q228; try clear q229; try clear q23; try clear q230; try clear q232; try clear q236; try clear q238; try clear q240
              obtain ⟨x178_5, rfl, HA, HK5, HO_176, HO_223000, HO_223001, BK222, HB⟩ := hrel
              cases gk with
              | zero => exact absurd HA.out (by simp [impl_MemHostFault.l6])
              | succ k5 =>
               have H := HA.out
               clear HA
               simp only [impl_MemHostFault.l6] at H
               have HC128 := Sq.l H
               clear H
               go_upto_if 179 with (fail)
               have H := HC128.out
               clear HC128
               by_cases c129 : x178_5 < (l0_1.length : Int)
               ·rw [if_pos c129] at H
                have c129b0 : decide (x178_5 < (l0_1.length : Int)) = true := decide_eq_true c129
                clear c129
                (first | rw [c129b0] | (simp only [i64_w, i32_w]; rw [c129b0]) | skip)
                by_cases c130 : 0 ≤ x178_5
                ·rw [if_pos c130] at H
                 have c130b0 : decide (0 ≤ x178_5) = true := decide_eq_true c130
                 clear c130
                 by_cases c131 : x178_5 < (l0_1.length : Int)
                 ·rw [if_pos c131] at H
                  have c131b0 : decide (x178_5 < (l0_1.length : Int)) = true := decide_eq_true c131
                  clear c131
                  by_cases c132 : (rdOf ByteArray.empty l0_1 x178_5).toList = ([] : List UInt8)
                  ·rw [if_pos c132] at H
                   have c132b0 : ((rdOf ByteArray.empty l0_1 x178_5).toList == ([] : List UInt8)) = true := beq_iff_eq.mpr c132
                   have c132b1 : ((rdOf ByteArray.empty l0_1 x178_5).toList != ([] : List UInt8)) = false := bne_eq_false_iff_eq.mpr c132
                   (try (have c132b2 : ((rdOf ByteArray.empty l0_1 x178_5).toList.isEmpty) = true := Sq.it c132))
                   clear c132
                   have H' := Sq.l H
                   clear H
                   have p242 : 0 ≤ (x178_5 : Int) := of_decide_eq_true (by first | (with_reducible assumption) | assumption)
                   have q242 : x178_5 < (l0_1.length : Int) := of_decide_eq_true (by first | (with_reducible assumption) | assumption)
                   obtain ⟨ad242, e242, hx242_0⟩ := Kd.at_string (Kd.V_reads' HO_176.out).2.2 x178_5 p242 q242
                   cases e242
                   replace p242 := eq_true p242; replace q242 := eq_true q242
                   go_wp2
                   all_goals (try exact absurd (c132b2.symm.trans (show ((rdOf ByteArray.empty l0_1 x178_5).toList.isEmpty) = false by assumption)) (by decide))
                   go_roundg k5
                   case measure => have := HJ1.out; have := HK2.out; have := HK3.out; have := HK4.out; have := HK5.out; omega
                   case rel => exact ⟨(wrap64 (x178_5 + 1)), (by first | rfl | (simp; done) | (simp [*]; done)), H', ⟨by have := HJ1.out; have := HK2.out; have := HK3.out; have := HK4.out; have := HK5.out; omega⟩, ⟨by (with_reducible repeat (first | apply Sq.x | apply Sq.y | apply Sq.z)); exact HO_176.out⟩, ⟨by (with_reducible repeat (first | apply Sq.x | apply Sq.y | apply Sq.z)); exact HO_223000.out⟩, ⟨by (with_reducible repeat (first | apply Sq.x | apply Sq.y | apply Sq.z)); exact HO_223001.out⟩, ⟨by (with_reducible repeat (first | refine Sq.d ?_ _ | refine Sq.e ?_ | refine Sq.f ?_ _)); exact BK222.out⟩, ⟨by repeat (first | (with_reducible first | exact HB.out | apply Sq.i | apply Sq.j | apply Sq.k | refine Sq.h ?_ GE222.out) | exact HB.out)⟩⟩
                  ·rw [if_neg c132] at H
                   have c132b0 : ((rdOf ByteArray.empty l0_1 x178_5).toList == ([] : List UInt8)) = false := beq_eq_false_iff_ne.mpr c132
                   have c132b1 : ((rdOf ByteArray.empty l0_1 x178_5).toList != ([] : List UInt8)) = true := bne_iff_ne.mpr c132
                   (try (have c132b2 : ((rdOf ByteArray.empty l0_1 x178_5).toList.isEmpty) = false := Sq.ie c132))
                   replace H := Option.bind_eq_some_iff.mp H
                   obtain ⟨t243, A1330, H⟩ := H
                   (try dsimp only at H)
                   have A133 := Sq.l A1330
                   clear A1330
                   have HC134 := Sq.l H
                   clear H
                   have p242 : 0 ≤ (x178_5 : Int) := of_decide_eq_true (by first | (with_reducible assumption) | assumption)
                   have q242 : x178_5 < (l0_1.length : Int) := of_decide_eq_true (by first | (with_reducible assumption) | assumption)
                   obtain ⟨ad242, e242, hx242_0⟩ := Kd.at_string (Kd.V_reads' HO_176.out).2.2 x178_5 p242 q242
                   cases e242
                   replace p242 := eq_true p242; replace q242 := eq_true q242
                   have hcz135_0 : wr.cell? ⟨gb222, 0, none⟩ = some (.slice A0_0 l0_0.length c0_0) := (Sq.o BK222.out 0).trans rfl
                   have hcz135_1 : wr.cell? ⟨gb222, 1, none⟩ = some (.slice (some ad242) l0_1.length c0_1) := (Sq.o BK222.out 1).trans rfl
                   have hcz135_2 : wr.cell? ⟨gb222, 2, none⟩ = some (.slice A0_2 l0_2.length c0_2) := (Sq.o BK222.out 2).trans rfl
                   have hcz135_3 : wr.cell? ⟨gb222, 3, none⟩ = some (.int .i64 a0_3) := (Sq.o BK222.out 3).trans rfl
                   have hfz135_0 := Sq.r BK222.out 0
                   have hfz135_1 := Sq.r BK222.out 1
                   have hfz135_2 := Sq.r BK222.out 2
                   have hfz135_3 := Sq.r BK222.out 3
                   go_upto_if 190 with (first | (go_at_call 51; (with_reducible refine (impl_MemHost_yusers.calls k5 _ _ l0_0 _ _ l0_1 _ _ l0_2 a0_3 2 x178_5 t243 _ ?side1 ?side2 ?side3 ?side4 ?side5 ?side6 A133.out).mono ?_); (case side1 => repeat (first | exact (Kd.V_reads' HO_223000.out).2.2 | (with_reducible refine Sq.s ?_ _) | (with_reducible refine Sq.t ?_ _) | (with_reducible refine Sq.u ?_))); (case side2 => exact (Kd.V_reads' HO_223000.out).2.1); (case side3 => repeat (first | exact (Kd.V_reads' HO_223001.out).2.2 | (with_reducible refine Sq.s ?_ _) | (with_reducible refine Sq.t ?_ _) | (with_reducible refine Sq.u ?_))); (case side4 => exact (Kd.V_reads' HO_223001.out).2.1); (case side5 => repeat (first | exact (Sq.a1 HR0_2.out HB.out) | (with_reducible refine Sq.s ?_ _) | (with_reducible refine Sq.t ?_ _) | (with_reducible refine Sq.u ?_))); (case side6 => exact HC0_2.out); rintro e w136 ⟨rfl, hb⟩; have n0_ := Sq.l (Kd.V_below (by (with_reducible repeat (first | apply Sq.x | apply Sq.y | apply Sq.z)); exact HO_176.out) hb); have n1_ := Sq.l (Kd.V_below (by (with_reducible repeat (first | apply Sq.x | apply Sq.y | apply Sq.z)); exact HO_223000.out) hb); have n2_ := Sq.l (Kd.V_below (by (with_reducible repeat (first | apply Sq.x | apply Sq.y | apply Sq.z)); exact HO_223001.out) hb); have n3_ := Sq.l (Sq.m (g := gb222) (o := .cells #[.slice A0_0 l0_0.length c0_0, .slice (some ad242) l0_1.length c0_1, .slice A0_2 l0_2.length c0_2, .int .i64 a0_3] 30 (0, 0)) (by (with_reducible repeat (first | refine Sq.d ?_ _ | refine Sq.e ?_ | refine Sq.f ?_ _)); exact BK222.out) hb); have n4_ := Sq.l (Sq.a4 (by repeat (first | (with_reducible first | exact HB.out | apply Sq.i | apply Sq.j | apply Sq.k | refine Sq.h ?_ GE222.out) | exact HB.out)) hb); clear HO_176; clear HO_223000; clear HO_223001; clear BK222; clear HB; have HO_176 := n0_; have HO_223000 := n1_; have HO_223001 := n2_; have BK222 := n3_; have HB := n4_; clear n0_ n1_ n2_ n3_ n4_; (try clear hb); (try clear hb2); (try clear hk); (try clear hi)))
                   (try simp only [Act.put, List.setIfInBounds_toArray, List.set_cons_zero, List.set_cons_succ])
                   have H := HC134.out
                   clear HC134
                   by_cases c137 : t243 = 1
                   ·rw [if_pos c137] at H
                    have c137b0 : (t243 == 1) = true := beq_iff_eq.mpr c137
                    have c137b1 : (t243 != 1) = false := bne_eq_false_iff_eq.mpr c137
                    clear c137
                    (first | rw [c137b0] | (simp only [i64_w, i32_w]; rw [c137b0]) | skip)
                    have H' := Sq.l H
                    clear H
                    go_wp2
                    go_roundg k5
                    case measure => have := HJ1.out; have := HK2.out; have := HK3.out; have := HK4.out; have := HK5.out; omega
                    case rel => exact ⟨(wrap64 (x178_5 + 1)), (by first | rfl | (simp; done) | (simp [*]; done)), H', ⟨by have := HJ1.out; have := HK2.out; have := HK3.out; have := HK4.out; have := HK5.out; omega⟩, ⟨by (with_reducible repeat (first | apply Sq.x | apply Sq.y | apply Sq.z)); exact HO_176.out⟩, ⟨by (with_reducible repeat (first | apply Sq.x | apply Sq.y | apply Sq.z)); exact HO_223000.out⟩, ⟨by (with_reducible repeat (first | apply Sq.x | apply Sq.y | apply Sq.z)); exact HO_223001.out⟩, ⟨by (with_reducible repeat (first | refine Sq.d ?_ _ | refine Sq.e ?_ | refine Sq.f ?_ _)); exact BK222.out⟩, ⟨by repeat (first | (with_reducible first | exact HB.out | apply Sq.i | apply Sq.j | apply Sq.k | refine Sq.h ?_ GE222.out) | exact HB.out)⟩⟩
                   ·rw [if_neg c137] at H
                    have c137b0 : (t243 == 1) = false := beq_eq_false_iff_ne.mpr c137
                    have c137b1 : (t243 != 1) = true := bne_iff_ne.mpr c137
                    (first | rw [c137b0] | (simp only [i64_w, i32_w]; rw [c137b0]) | skip)
                    obtain rfl := Option.some.inj H
                    go_wp2
                    go_ret
                    exact ⟨by first | rfl | (simp [errW_none, errW_some] <;> rfl) | (simp [*, errW_none, errW_some] <;> rfl), by repeat (first | (with_reducible first | exact HB.out | apply Sq.i | apply Sq.j | apply Sq.k | refine Sq.h ?_ GE222.out) | exact HB.out)⟩
                 ·rw [if_neg c131] at H
                  exact absurd H (by simp)
                ·rw [if_neg c130] at H
                 exact absurd H (by simp)
               ·rw [if_neg c129] at H
                have c129b0 : decide (x178_5 < (l0_1.length : Int)) = false := decide_eq_false c129
                clear c129
                (first | rw [c129b0] | (simp only [i64_w, i32_w]; rw [c129b0]) | skip)
                have H' := Sq.l H
                clear H
                have hcz138_0 : wr.cell? ⟨gb222, 0, none⟩ = some (.slice A0_0 l0_0.length c0_0) := (Sq.o BK222.out 0).trans rfl
                have hcz138_1 : wr.cell? ⟨gb222, 1, none⟩ = some (.slice A0_1 l0_1.length c0_1) := (Sq.o BK222.out 1).trans rfl
                have hcz138_2 : wr.cell? ⟨gb222, 2, none⟩ = some (.slice A0_2 l0_2.length c0_2) := (Sq.o BK222.out 2).trans rfl
                have hcz138_3 : wr.cell? ⟨gb222, 3, none⟩ = some (.int .i64 a0_3) := (Sq.o BK222.out 3).trans rfl
                have hfz138_0 := Sq.r BK222.out 0
                have hfz138_1 := Sq.r BK222.out 1
                have hfz138_2 := Sq.r BK222.out 2
                have hfz138_3 := Sq.r BK222.out 3
                go_wp2
                go_loopg [195] k5 (fun kq v195 w' => ∃ (x195_6 : Int), v195 = .int .i64 x195_6 ∧ Aside0 (impl_MemHostFault.l7 kq l0_2 (l0_2.length : Int) x195_6 l0_0 l0_1 l0_2 a0_3 = some r) ∧ Aside0 (kq ≤ k5) ∧ Aside0 (Kd.V Kd.string 9 w' w.heap.size (fun k_ => ((P0_0_ k_ ∨ P0_1_ k_) ∨ w.heap.size ≤ k_) ∧ k_ ≠ gb222) (.slice A0_0 l0_0.length c0_0) l0_0) ∧ Aside0 (Kd.V Kd.string 9 w' w.heap.size (fun k_ => ((P0_0_ k_ ∨ P0_1_ k_) ∨ w.heap.size ≤ k_) ∧ k_ ≠ gb222) (.slice A0_1 l0_1.length c0_1) l0_1) ∧ Aside0 (w'.heap[gb222]? = some (.cells #[(.slice A0_0 l0_0.length c0_0), (.slice A0_1 l0_1.length c0_1), (.slice A0_2 l0_2.length c0_2), .int .i64 a0_3] 30 (0, 0))) ∧ Aside0 (Below w.heap.size w w'))
                case atStart => exact ⟨(0), (by first | rfl | (simp; done) | (simp [*]; done)), H', ⟨Nat.le_refl _⟩, ⟨by (with_reducible repeat (first | apply Sq.x | apply Sq.y | apply Sq.z)); exact HO_223000.out⟩, ⟨by (with_reducible repeat (first | apply Sq.x | apply Sq.y | apply Sq.z)); exact HO_223001.out⟩, ⟨by (with_reducible repeat (first | refine Sq.d ?_ _ | refine Sq.e ?_ | refine Sq.f ?_ _)); exact BK222.out⟩, ⟨by repeat (first | (with_reducible first | exact HB.out | apply Sq.i | apply Sq.j | apply Sq.k | refine Sq.h ?_ GE222.out) | exact HB.out)⟩⟩
                case round =>
                 clear H'
                 try clear c1; try clear c2; try clear p2; try clear q2; try clear hx2; try clear c3; try clear c4; try clear c4b0; try clear c4b1; try clear c5; try clear c6; try clear c6b0; try clear c6b1; try clear p6; try clear c7; try clear c8; try clear c9; try clear c10; try clear c11; try clear c12; try clear c13; try clear c14; try clear c20; try clear c20b0; try clear c21; try clear c21b0; try clear c22; try clear c22b0; try clear p22; try clear q22; try clear hx22; try clear c23; try clear p23; try clear q23; try clear hx23; try clear c24; try clear c24b0; try clear p24; try clear q24; try clear hx24; try clear c25; try clear c25b0; try clear c26; try clear c26b0; try clear c27; try clear c27b0; try clear c27b1; try clear c29; try clear c29b0; try clear c29b1; try clear c32; try clear c32b0; try clear c33; try clear c33b0; try clear c34; try clear c34b0; try clear c37; try clear c39; try clear c39b0; try clear c39b1; try clear c40; try clear c42; try clear c45; try clear c46; try clear c49; try clear c49b0; try clear c50; try clear c50b0; try clear c51; try clear c51b0; try clear c55; try clear c56; try clear c58; try clear c60; try clear c62; try clear c63; try clear p64; try clear c65; try clear c65b0; try clear c65b1; try clear c67; try clear c68; try clear c70; try clear c70b0; try clear c70b1; try clear c72; try clear c72b0; try clear c72b1; try clear c74; try clear c75; try clear c75b0; try clear c76; try clear c76b0; try clear c78; try clear c79; try clear c81; try clear c83; try clear c83b0; try clear c83b1; try clear c83b2; try clear c84; try clear c85; try clear c87; try clear c90; try clear c90b0; try clear c90b1; try clear c92; try clear c93; try clear c93b0; try clear c94; try clear c94b0; try clear c96; try clear c97; try clear c99; try clear c101; try clear c101b0; try clear c101b1; try clear c101b2; try clear c102; try clear c103; try clear c105; try clear c107; try clear c110; try clear c110b0; try clear c113; try clear c115; try clear c118; try clear c118b0; try clear c119; try clear c119b0; try clear c120; try clear c120b0; try clear c121; try clear c121b0; try clear c121b1; try clear c121b2; try clear c126; try clear c126b0; try clear c126b1; try clear c129; try clear c129b0; try clear c130; try clear c130b0; try clear c131; try clear c131b0; try clear c132; try clear c132b0; try clear c132b1; try clear c132b2; try clear c137; try clear c137b0; try clear c137b1; try clear hcz100_0; try clear hcz100_1; try clear hcz100_2; try clear hcz100_3; try clear hcz104_0; try clear hcz104_1; try clear hcz104_2; try clear hcz106_0; try clear hcz106_1; try clear hcz106_2; try clear hcz106_3; try clear hcz108_0; try clear hcz108_1; try clear hcz108_2; try clear hcz114_0; try clear hcz114_1; try clear hcz114_2; try clear hcz116_0; try clear hcz116_1; try clear hcz116_2; try clear hcz116_3; try clear hcz11_0; try clear hcz11_1; try clear hcz11_2; try clear hcz11_3; try clear hcz124_0; try clear hcz124_1; try clear hcz124_2; try clear hcz124_3; try clear hcz127_0; try clear hcz127_1; try clear hcz127_2; try clear hcz127_3; try clear hcz12_0; try clear hcz12_1; try clear hcz12_2; try clear hcz12_3; try clear hcz135_0; try clear hcz135_1; try clear hcz135_2; try clear hcz135_3; try clear hcz138_0; try clear hcz138_1; try clear hcz138_2; try clear hcz138_3; try clear hcz15_0; try clear hcz15_1; try clear hcz15_2; try clear hcz15_3; try clear hcz30_0; try clear hcz30_1; try clear hcz30_2; try clear hcz30_3; try clear hcz38_0; try clear hcz38_1; try clear hcz38_2; try clear hcz41_0; try clear hcz41_1; try clear hcz41_2; try clear hcz43_0; try clear hcz43_1; try clear hcz43_2; try clear hcz47_0; try clear hcz47_1; try clear hcz47_2; try clear hcz57_0; try clear hcz57_1; try clear hcz57_2; try clear hcz59_0; try clear hcz59_1; try clear hcz59_2; try clear hcz59_3; try clear hcz5_0; try clear hcz5_1; try clear hcz5_2; try clear hcz5_3; try clear hcz64_0; try clear hcz64_1; try clear hcz64_2; try clear hcz69_0; try clear hcz69_1; try clear hcz69_2; try clear hcz7_0; try clear hcz7_1; try clear hcz7_2; try clear hcz7_3; try clear hcz80_0; try clear hcz80_1; try clear hcz80_2; try clear hcz82_0; try clear hcz82_1; try clear hcz82_2; try clear hcz82_3; try clear hcz86_0; try clear hcz86_1; try clear hcz86_2; try clear hcz88_0; try clear hcz88_1; try clear hcz88_2; try clear hcz88_3; try clear hcz98_0; try clear hcz98_1; try clear hcz98_2; try clear hfz100_0; try clear hfz100_1; try clear hfz100_2; try clear hfz100_3; try clear hfz104_0; try clear hfz104_1; try clear hfz104_2; try clear hfz106_0; try clear hfz106_1; try clear hfz106_2; try clear hfz106_3; try clear hfz108_0; try clear hfz108_1; try clear hfz108_2; try clear hfz114_0; try clear hfz114_1; try clear hfz114_2; try clear hfz116_0; try clear hfz116_1; try clear hfz116_2; try clear hfz116_3; try clear hfz11_0; try clear hfz11_1; try clear hfz11_2; try clear hfz11_3; try clear hfz124_0; try clear hfz124_1; try clear hfz124_2; try clear hfz124_3; try clear hfz127_0; try clear hfz127_1; try clear hfz127_2; try clear hfz127_3; try clear hfz12_0; try clear hfz12_1; try clear hfz12_2; try clear hfz12_3; try clear hfz135_0; try clear hfz135_1; try clear hfz135_2; try clear hfz135_3; try clear hfz138_0; try clear hfz138_1; try clear hfz138_2; try clear hfz138_3; try clear hfz15_0; try clear hfz15_1; try clear hfz15_2; try clear hfz15_3; try clear hfz30_0; try clear hfz30_1; try clear hfz30_2; try clear hfz30_3; try clear hfz38_0; try clear hfz38_1; try clear hfz38_2; try clear hfz41_0; try clear hfz41_1; try clear hfz41_2; try clear hfz43_0; try clear hfz43_1; try clear hfz43_2; try clear hfz47_0; try clear hfz47_1; try clear hfz47_2; try clear hfz57_0; try clear hfz57_1; try clear hfz57_2; try clear hfz59_0; try clear hfz59_1; try clear hfz59_2; try clear hfz59_3; try clear hfz5_0; try clear hfz5_1; try clear hfz5_2; try clear hfz5_3; try clear hfz64_0; try clear hfz64_1; try clear hfz64_2; try clear hfz69_0; try clear hfz69_1; try clear hfz69_2; try clear hfz7_0; try clear hfz7_1; try clear hfz7_2; try clear hfz7_3; try clear hfz80_0; try clear hfz80_1; try clear hfz80_2; try clear hfz82_0; try clear hfz82_1; try clear hfz82_2; try clear hfz82_3; try clear hfz86_0; try clear hfz86_1; try clear hfz86_2; try clear hfz88_0; try clear hfz88_1; try clear hfz88_2; try clear hfz88_3; try clear hfz98_0; try clear hfz98_1; try clear hfz98_2; try clear hx228_0; try clear hx229_0; try clear hx230_0; try clear hx230_1; try clear hx230_2; try clear hx232_0; try clear hx232_1; try clear hx232_2; try clear hx236_0; try clear hx238_0; try clear hx240_0; try clear hx242_0; try clear p2; try clear p22; try clear p228; try clear p229; try clear p23; try clear p230; try clear p232; try clear p236; try clear p238; try clear p24; try clear p240; try clear p242; try clear p6; try clear p64; try clear q2; try clear q22; try clear q228; try clear q229; try clear q23; try clear q230; try clear q232; try clear q236; try clear q238; try clear q24; try clear q240; try clear q242
                 obtain ⟨x195_6, rfl, HA, HK6, HO_223000, HO_223001, BK222, HB⟩ := hrel
                 cases gk with
                 | zero => exact absurd HA.out (by simp [impl_MemHostFault.l7])
                 | succ k6 =>
                  have H := HA.out
                  clear HA
                  simp only [impl_MemHostFault.l7] at H
                  have HC139 := Sq.l H
                  clear H
                  go_upto_if 196 with (fail)
                  have H := HC139.out
                  clear HC139
                  by_cases c140 : x195_6 < (l0_2.length : Int)
                  ·rw [if_pos c140] at H
                   have c140b0 : decide (x195_6 < (l0_2.length : Int)) = true := decide_eq_true c140
                   clear c140
                   (first | rw [c140b0] | (simp only [i64_w, i32_w]; rw [c140b0]) | skip)
                   by_cases c141 : 0 ≤ x195_6
                   ·rw [if_pos c141] at H
                    have c141b0 : decide (0 ≤ x195_6) = true := decide_eq_true c141
                    clear c141
                    by_cases c142 : x195_6 < (l0_2.length : Int)
                    ·rw [if_pos c142] at H
                     have c142b0 : decide (x195_6 < (l0_2.length : Int)) = true := decide_eq_true c142
                     clear c142
                     have H' := Sq.l H
                     clear H
                     have p244 : 0 ≤ (x195_6 : Int) := of_decide_eq_true (by first | (with_reducible assumption) | assumption)
                     have q244 : x195_6 < (l0_2.length : Int) := of_decide_eq_true (by first | (with_reducible assumption) | assumption)
                     obtain ⟨ad244, A244_0, c244_0, A244_2, c244_2, e244, hx244_0, hx244_1, hx244_2, hl244_0, hi244_0, hl244_2, hi244_2⟩ := at_T90 HR0_2.out x195_6 p244 q244
                     cases e244
                     try replace hx244_0 := (HB.out.cell (World.block_lt_of_cell? w _ hx244_0)).trans hx244_0
                     try replace hx244_1 := (HB.out.cell (World.block_lt_of_cell? w _ hx244_1)).trans hx244_1
                     try replace hx244_2 := (HB.out.cell (World.block_lt_of_cell? w _ hx244_2)).trans hx244_2
                     have HR244_0 := Sq.l hi244_0
                     have HC244_0 := Sq.l hl244_0
                     clear hi244_0 hl244_0
                     have HR244_2 := Sq.l hi244_2
                     have HC244_2 := Sq.l hl244_2
                     clear hi244_2 hl244_2; replace p244 := eq_true p244; replace q244 := eq_true q244
                     go_wp2_with (first | ((with_reducible refine gate_dst (N := 18) rfl ?_); (try (refine gate_guard (by rfl) ?_; dsimp only)); refine box_event ?hg (N := 18) ?hd (cs := #[.slice none 0 0, .string (⟨#[]⟩ : ByteArray), .slice none 0 0]) (t := 90) ?hr ?_; (case hd => rfl); (case hg => rfl); (case hr => first | (go_simp; done) | (go_simp; rfl)); intro gb245 hg w143 hbox hb; have n0_ := Sq.l (Kd.V_below (Kd.V_elderB (by (with_reducible repeat (first | apply Sq.x | apply Sq.y | apply Sq.z)); exact HO_223000.out) gb245 (Nat.le_of_eq hg.symm)) hb); have n1_ := Sq.l (Kd.V_below (Kd.V_elderB (by (with_reducible repeat (first | apply Sq.x | apply Sq.y | apply Sq.z)); exact HO_223001.out) gb245 (Nat.le_of_eq hg.symm)) hb); have n2_ := Sq.l (Sq.m (g := gb222) (o := .cells #[.slice A0_0 l0_0.length c0_0, .slice A0_1 l0_1.length c0_1, .slice (some ad244) l0_2.length c0_2, .int .i64 a0_3] 30 (0, 0)) (by (with_reducible repeat (first | refine Sq.d ?_ _ | refine Sq.e ?_ | refine Sq.f ?_ _)); exact BK222.out) hb); have n3_ := Sq.l (Sq.a4 (by repeat (first | (with_reducible first | exact HB.out | apply Sq.i | apply Sq.j | apply Sq.k | refine Sq.h ?_ GE222.out) | exact HB.out)) hb); have n4_ := Sq.l (hbox); have n5_ := Sq.l ((by rw [hg]; exact (Sq.a5 (by repeat (first | (with_reducible first | exact HB.out | apply Sq.i | apply Sq.j | apply Sq.k | refine Sq.h ?_ GE222.out) | exact HB.out))) : w.heap.size ≤ gb245)); have n6_ := Sq.l ((by rw [hg]; exact (Sq.a5 (by repeat (first | (with_reducible first | exact HB.out | apply Sq.i | apply Sq.j | apply Sq.k | refine Sq.h ?_ GE222.out) | exact HB.out))) : w.heap.size ≤ gb245)); have n7_ := Sq.l ((by rw [hg]; exact Nat.ne_of_lt (blk_lt (g := gb222) (o := .cells #[.slice A0_0 l0_0.length c0_0, .slice A0_1 l0_1.length c0_1, .slice (some ad244) l0_2.length c0_2, .int .i64 a0_3] 30 (0, 0)) (by (with_reducible repeat (first | refine Sq.d ?_ _ | refine Sq.e ?_ | refine Sq.f ?_ _)); exact BK222.out)) : gb222 ≠ gb245)); have n8_ := Sq.l ((by rw [hg]; exact Nat.ne_of_gt (blk_lt (g := gb222) (o := .cells #[.slice A0_0 l0_0.length c0_0, .slice A0_1 l0_1.length c0_1, .slice (some ad244) l0_2.length c0_2, .int .i64 a0_3] 30 (0, 0)) (by (with_reducible repeat (first | refine Sq.d ?_ _ | refine Sq.e ?_ | refine Sq.f ?_ _)); exact BK222.out)) : gb245 ≠ gb222)); clear HO_223000; clear HO_223001; clear BK222; clear HB; have HO_223000 := n0_; have HO_223001 := n1_; have BK222 := n2_; have HB := n3_; have BK245 := n4_; have GW245 := n5_; have GE245 := n6_; have NB222_245 := n7_; have NB245_222 := n8_; clear n0_ n1_ n2_ n3_ n4_ n5_ n6_ n7_ n8_; clear hb hbox hg; have hnb144 := NB245_222.out; have hnc144 := NB222_245.out; have hcz145_0 : w143.cell? ⟨gb245, 0, none⟩ = some (.slice none 0 0) := (Sq.o BK245.out 0).trans rfl; have hcz145_1 : w143.cell? ⟨gb245, 1, none⟩ = some (.string (⟨#[]⟩ : ByteArray)) := (Sq.o BK245.out 1).trans rfl; have hcz145_2 : w143.cell? ⟨gb245, 2, none⟩ = some (.slice none 0 0) := (Sq.o BK245.out 2).trans rfl; have hfz145_0 := Sq.r BK245.out 0; have hfz145_1 := Sq.r BK245.out 1; have hfz145_2 := Sq.r BK245.out 2))
                     go_loopg [202] k6 (fun kq v202 w' => ∃ (x202_7 : Int), v202 = .int .i64 x202_7 ∧ Aside0 (impl_MemHostFault.l8 kq l0_2 (l0_2.length : Int) x195_6 ((rd_T90 l0_2 x195_6).f2) (((rd_T90 l0_2 x195_6).f2).length : Int) x202_7 l0_0 l0_1 l0_2 a0_3 ((rd_T90 l0_2 x195_6).f0) ((rd_T90 l0_2 x195_6).f1) ((rd_T90 l0_2 x195_6).f2) = some r) ∧ Aside0 (kq ≤ k6) ∧ Aside0 (Kd.V Kd.string 9 w' w.heap.size (fun k_ => ((P0_0_ k_ ∨ P0_1_ k_) ∨ w.heap.size ≤ k_) ∧ k_ ≠ gb222 ∧ k_ ≠ gb245) (.slice A0_0 l0_0.length c0_0) l0_0) ∧ Aside0 (Kd.V Kd.string 9 w' w.heap.size (fun k_ => ((P0_0_ k_ ∨ P0_1_ k_) ∨ w.heap.size ≤ k_) ∧ k_ ≠ gb222 ∧ k_ ≠ gb245) (.slice A0_1 l0_1.length c0_1) l0_1) ∧ Aside0 (w'.heap[gb222]? = some (.cells #[(.slice A0_0 l0_0.length c0_0), (.slice A0_1 l0_1.length c0_1), (.slice (some ad244) l0_2.length c0_2), .int .i64 a0_3] 30 (0, 0))) ∧ Aside0 (w'.heap[gb245]? = some (.cells #[(.slice A244_0 ((rd_T90 l0_2 x195_6).f0).length c244_0), .string ((rd_T90 l0_2 x195_6).f1), (.slice A244_2 ((rd_T90 l0_2 x195_6).f2).length c244_2)] 90 (0, 0))) ∧ Aside0 (Below w.heap.size w w'))
                     case atStart => exact ⟨(0), (by first | rfl | (simp; done) | (simp [*]; done)), H', ⟨Nat.le_refl _⟩, ⟨by (with_reducible repeat (first | apply Sq.x | apply Sq.y | apply Sq.z)); exact Sq.a6 (Sq.V3 (Sq.a6 HO_223000.out (fun k_ hk => (⟨hk, hk.2⟩ : _ ∧ k_ ≠ gb245))) (fun _ hk => hk.2)) (fun _ hk => ⟨hk.1.1.1, ⟨hk.1.1.2, hk.1.2⟩⟩)⟩, ⟨by (with_reducible repeat (first | apply Sq.x | apply Sq.y | apply Sq.z)); exact Sq.a6 (Sq.V3 (Sq.a6 HO_223001.out (fun k_ hk => (⟨hk, hk.2⟩ : _ ∧ k_ ≠ gb245))) (fun _ hk => hk.2)) (fun _ hk => ⟨hk.1.1.1, ⟨hk.1.1.2, hk.1.2⟩⟩)⟩, ⟨by (with_reducible repeat (first | refine Sq.d ?_ _ | refine Sq.e ?_ | refine Sq.f ?_ _)); refine Sq.B3 ?_ NB222_245.out; (with_reducible repeat (first | refine Sq.d ?_ _ | refine Sq.e ?_ | refine Sq.f ?_ _)); exact BK222.out⟩, ⟨by (with_reducible repeat (first | refine Sq.d ?_ _ | refine Sq.e ?_ | refine Sq.f ?_ _)); refine Sq.v (cs := #[.slice A244_0 ((rd_T90 l0_2 x195_6).f0).length c244_0, .string ((rd_T90 l0_2 x195_6).f1), .slice none 0 0]) ?_ 2 _ rfl; (with_reducible repeat (first | refine Sq.d ?_ _ | refine Sq.e ?_ | refine Sq.f ?_ _)); refine Sq.v (cs := #[.slice A244_0 ((rd_T90 l0_2 x195_6).f0).length c244_0, .string (⟨#[]⟩ : ByteArray), .slice none 0 0]) ?_ 1 _ rfl; (with_reducible repeat (first | refine Sq.d ?_ _ | refine Sq.e ?_ | refine Sq.f ?_ _)); refine Sq.v (cs := #[.slice none 0 0, .string (⟨#[]⟩ : ByteArray), .slice none 0 0]) ?_ 0 _ rfl; (with_reducible repeat (first | refine Sq.d ?_ _ | refine Sq.e ?_ | refine Sq.f ?_ _)); exact BK245.out⟩, ⟨by repeat (first | (with_reducible first | exact HB.out | apply Sq.i | apply Sq.j | apply Sq.k | refine Sq.h ?_ GE222.out | refine Sq.h ?_ GE245.out) | exact HB.out)⟩⟩
                     case round =>
                      clear H'
                      try clear c1; try clear c2; try clear p2; try clear q2; try clear hx2; try clear c3; try clear c4; try clear c4b0; try clear c4b1; try clear c5; try clear c6; try clear c6b0; try clear c6b1; try clear p6; try clear c7; try clear c8; try clear c9; try clear c10; try clear c11; try clear c12; try clear c13; try clear c14; try clear c20; try clear c20b0; try clear c21; try clear c21b0; try clear c22; try clear c22b0; try clear p22; try clear q22; try clear hx22; try clear c23; try clear p23; try clear q23; try clear hx23; try clear c24; try clear c24b0; try clear p24; try clear q24; try clear hx24; try clear c25; try clear c25b0; try clear c26; try clear c26b0; try clear c27; try clear c27b0; try clear c27b1; try clear c29; try clear c29b0; try clear c29b1; try clear c32; try clear c32b0; try clear c33; try clear c33b0; try clear c34; try clear c34b0; try clear c37; try clear c39; try clear c39b0; try clear c39b1; try clear c40; try clear c42; try clear c45; try clear c46; try clear c49; try clear c49b0; try clear c50; try clear c50b0; try clear c51; try clear c51b0; try clear c55; try clear c56; try clear c58; try clear c60; try clear c62; try clear c63; try clear p64; try clear c65; try clear c65b0; try clear c65b1; try clear c67; try clear c68; try clear c70; try clear c70b0; try clear c70b1; try clear c72; try clear c72b0; try clear c72b1; try clear c74; try clear c75; try clear c75b0; try clear c76; try clear c76b0; try clear c78; try clear c79; try clear c81; try clear c83; try clear c83b0; try clear c83b1; try clear c83b2; try clear c84; try clear c85; try clear c87; try clear c90; try clear c90b0; try clear c90b1; try clear c92; try clear c93; try clear c93b0; try clear c94; try clear c94b0; try clear c96; try clear c97; try clear c99; try clear c101; try clear c101b0; try clear c101b1; try clear c101b2; try clear c102; try clear c103; try clear c105; try clear c107; try clear c110; try clear c110b0; try clear c113; try clear c115; try clear c118; try clear c118b0; try clear c119; try clear c119b0; try clear c120; try clear c120b0; try clear c121; try clear c121b0; try clear c121b1; try clear c121b2; try clear c126; try clear c126b0; try clear c126b1; try clear c129; try clear c129b0; try clear c130; try clear c130b0; try clear c131; try clear c131b0; try clear c132; try clear c132b0; try clear c132b1; try clear c132b2; try clear c137; try clear c137b0; try clear c137b1; try clear c140; try clear c140b0; try clear c141; try clear c141b0; try clear c142; try clear c142b0; try clear c144; try clear hcz100_0; try clear hcz100_1; try clear hcz100_2; try clear hcz100_3; try clear hcz104_0; try clear hcz104_1; try clear hcz104_2; try clear hcz106_0; try clear hcz106_1; try clear hcz106_2; try clear hcz106_3; try clear hcz108_0; try clear hcz108_1; try clear hcz108_2; try clear hcz114_0; try clear hcz114_1; try clear hcz114_2; try clear hcz116_0; try clear hcz116_1; try clear hcz116_2; try clear hcz116_3; try clear hcz11_0; try clear hcz11_1; try clear hcz11_2; try clear hcz11_3; try clear hcz124_0; try clear hcz124_1; try clear hcz124_2; try clear hcz124_3; try clear hcz127_0; try clear hcz127_1; try clear hcz127_2; try clear hcz127_3; try clear hcz12_0; try clear hcz12_1; try clear hcz12_2; try clear hcz12_3; try clear hcz135_0; try clear hcz135_1; try clear hcz135_2; try clear hcz135_3; try clear hcz138_0; try clear hcz138_1; try clear hcz138_2; try clear hcz138_3; try clear hcz145_0; try clear hcz145_1; try clear hcz145_2; try clear hcz15_0; try clear hcz15_1; try clear hcz15_2; try clear hcz15_3; try clear hcz30_0; try clear hcz30_1; try clear hcz30_2; try clear hcz30_3; try clear hcz38_0; try clear hcz38_1; try clear hcz38_2; try clear hcz41_0; try clear hcz41_1; try clear hcz41_2; try clear hcz43_0; try clear hcz43_1; try clear hcz43_2; try clear hcz47_0; try clear hcz47_1; try clear hcz47_2; try clear hcz57_0; try clear hcz57_1; try clear hcz57_2; try clear hcz59_0; try clear hcz59_1; try clear hcz59_2; try clear hcz59_3; try clear hcz5_0; try clear hcz5_1; try clear hcz5_2; try clear hcz5_3; try clear hcz64_0; try clear hcz64_1; try clear hcz64_2; try clear hcz69_0; try clear hcz69_1; try clear hcz69_2; try clear hcz7_0; try clear hcz7_1; try clear hcz7_2; try clear hcz7_3; try clear hcz80_0; try clear hcz80_1; try clear hcz80_2; try clear hcz82_0; try clear hcz82_1; try clear hcz82_2; try clear hcz82_3; try clear hcz86_0; try clear hcz86_1; try clear hcz86_2; try clear hcz88_0; try clear hcz88_1; try clear hcz88_2; try clear hcz88_3; try clear hcz98_0; try clear hcz98_1; try clear hcz98_2; try clear hfz100_0; try clear hfz100_1; try clear hfz100_2; try clear hfz100_3; try clear hfz104_0; try clear hfz104_1; try clear hfz104_2; try clear hfz106_0; try clear hfz106_1; try clear hfz106_2; try clear hfz106_3; try clear hfz108_0; try clear hfz108_1; try clear hfz108_2; try clear hfz114_0; try clear hfz114_1; try clear hfz114_2; try clear hfz116_0; try clear hfz116_1; try clear hfz116_2; try clear hfz116_3; try clear hfz11_0; try clear hfz11_1; try clear hfz11_2; try clear hfz11_3; try clear hfz124_0; try clear hfz124_1; try clear hfz124_2; try clear hfz124_3; try clear hfz127_0; try clear hfz127_1; try clear hfz127_2; try clear hfz127_3; try clear hfz12_0; try clear hfz12_1; try clear hfz12_2; try clear hfz12_3; try clear hfz135_0; try clear hfz135_1; try clear hfz135_2; try clear hfz135_3; try clear hfz138_0; try clear hfz138_1; try clear hfz138_2; try clear hfz138_3; try clear hfz145_0; try clear hfz145_1; try clear hfz145_2; try clear hfz15_0; try clear hfz15_1; try clear hfz15_2; try clear hfz15_3; try clear hfz30_0; try clear hfz30_1; try clear hfz30_2; try clear hfz30_3; try clear hfz38_0; try clear hfz38_1; try clear hfz38_2; try clear hfz41_0; try clear hfz41_1; try clear hfz41_2; try clear hfz43_0; try clear hfz43_1; try clear hfz43_2; try clear hfz47_0; try clear hfz47_1; try clear hfz47_2; try clear hfz57_0; try clear hfz57_1; try clear hfz57_2; try clear hfz59_0; try clear hfz59_1; try clear hfz59_2; try clear hfz59_3; try clear hfz5_0; try clear hfz5_1; try clear hfz5_2; try clear hfz5_3; try clear hfz64_0; try clear hfz64_1; try clear hfz64_2; try clear hfz69_0; try clear hfz69_1; try clear hfz69_2; try clear hfz7_0; try clear hfz7_1; try clear hfz7_2; try clear hfz7_3; try clear hfz80_0; try clear hfz80_1; try clear hfz80_2; try clear hfz82_0; try clear hfz82_1; try clear hfz82_2; try clear hfz82_3; try clear hfz86_0; try clear hfz86_1; try clear hfz86_2; try clear hfz88_0; try clear hfz88_1; try clear hfz88_2; try clear hfz88_3; try clear hfz98_0; try clear hfz98_1; try clear hfz98_2; try clear hx228_0; try clear hx229_0; try clear hx230_0; try clear hx230_1; try clear hx230_2; try clear hx232_0; try clear hx232_1; try clear hx232_2; try clear hx236_0; try clear hx238_0; try clear hx240_0; try clear hx242_0; try clear hx244_0; try clear hx244_1; try clear hx244_2; try clear p2; try clear p22; try clear p228; try clear p229; try clear p23; try clear p230; try clear p232; try clear p236; try clear p238; try clear p24; try clear p240; try clear p242; try clear p244; try clear p6; try clear p64; try clear q2; try clear q22; try clear q228; try clear q229; try clear q23; try clear q230; try clear q232; try clear q236; try clear q238; try clear q24; try clear q240; try clear q242; try clear q244
                      obtain ⟨x202_7, rfl, HA, HK7, HO_223000, HO_223001, BK222, BK245, HB⟩ := hrel
                      cases gk with
                      | zero => exact absurd HA.out (by simp [impl_MemHostFault.l8])
                      | succ k7 =>
                       have H := HA.out
                       clear HA
                       simp only [impl_MemHostFault.l8] at H
                       have HC146 := Sq.l H
                       clear H
                       go_upto_if 203 with (fail)
                       have H := HC146.out
                       clear HC146
                       by_cases c147 : x202_7 < (((rd_T90 l0_2 x195_6).f2).length : Int)
                       ·rw [if_pos c147] at H
                        have c147b0 : decide (x202_7 < (((rd_T90 l0_2 x195_6).f2).length : Int)) = true := decide_eq_true c147
                        clear c147
                        (first | rw [c147b0] | (simp only [i64_w, i32_w]; rw [c147b0]) | skip)
                        by_cases c148 : 0 ≤ x202_7
                        ·rw [if_pos c148] at H
                         have c148b0 : decide (0 ≤ x202_7) = true := decide_eq_true c148
                         clear c148
                         by_cases c149 : x202_7 < (((rd_T90 l0_2 x195_6).f2).length : Int)
                         ·rw [if_pos c149] at H
                          have c149b0 : decide (x202_7 < (((rd_T90 l0_2 x195_6).f2).length : Int)) = true := decide_eq_true c149
                          clear c149
                          by_cases c150 : x202_7 > 0
                          ·rw [if_pos c150] at H
                           have c150b0 : decide (0 < x202_7) = true := decide_eq_true c150
                           clear c150
                           obtain ⟨ji151, hji151⟩ : ∃ j_ : Int, (wrap64 (x202_7 - 1)) = j_ := ⟨_, rfl⟩
                           replace H : (if 0 ≤ (ji151) then (if (ji151) < (((rd_T90 l0_2 x195_6).f2).length : Int) then (if (rd ((rd_T90 l0_2 x195_6).f2) (ji151)) ≥ (rd ((rd_T90 l0_2 x195_6).f2) x202_7) then (some 1) else ((impl_MemHost_yhugeOk.f k7 l0_0 l0_1 l0_2 a0_3 ((rd_T90 l0_2 x195_6).f0) ((rd_T90 l0_2 x195_6).f1) ((rd_T90 l0_2 x195_6).f2) (rd ((rd_T90 l0_2 x195_6).f2) x202_7)).bind fun t248 => (if t248 = true then (impl_MemHostFault.l8 k7 l0_2 (l0_2.length : Int) x195_6 ((rd_T90 l0_2 x195_6).f2) (((rd_T90 l0_2 x195_6).f2).length : Int) (wrap64 (x202_7 + 1)) l0_0 l0_1 l0_2 a0_3 ((rd_T90 l0_2 x195_6).f0) ((rd_T90 l0_2 x195_6).f1) ((rd_T90 l0_2 x195_6).f2)) else (some 1)))) else (none)) else (none)) = some r := by first | (rw [hji151] at H; exact H) | (simp only [hji151] at H ⊢; exact H)
                           have hji151w : (IntKind.i64.wrap (x202_7 - 1)) = ji151 := (i64_w _).trans hji151
                           by_cases c152 : 0 ≤ (ji151)
                           ·rw [if_pos c152] at H
                            have c152b0 : decide (0 ≤ (ji151)) = true := decide_eq_true c152
                            clear c152
                            by_cases c153 : (ji151) < (((rd_T90 l0_2 x195_6).f2).length : Int)
                            ·rw [if_pos c153] at H
                             have c153b0 : decide ((ji151) < (((rd_T90 l0_2 x195_6).f2).length : Int)) = true := decide_eq_true c153
                             clear c153
                             by_cases c154 : (rd ((rd_T90 l0_2 x195_6).f2) (ji151)) ≥ (rd ((rd_T90 l0_2 x195_6).f2) x202_7)
                             ·rw [if_pos c154] at H
                              have c154b0 : decide ((rd ((rd_T90 l0_2 x195_6).f2) x202_7) ≤ (rd ((rd_T90 l0_2 x195_6).f2) (ji151))) = true := decide_eq_true c154
                              clear c154
                              obtain rfl := Option.some.inj H
                              have p246 : 0 ≤ (x202_7 : Int) := of_decide_eq_true (by first | (with_reducible assumption) | assumption)
                              have q246 : x202_7 < (((rd_T90 l0_2 x195_6).f2).length : Int) := of_decide_eq_true (by first | (with_reducible assumption) | assumption)
                              obtain ⟨ad246, e246, hx246_0⟩ := Kd.at_int HR244_2.out x202_7 p246 q246
                              cases e246
                              try replace hx246_0 := (HB.out.cell (World.block_lt_of_cell? w _ hx246_0)).trans hx246_0
                              replace p246 := eq_true p246; replace q246 := eq_true q246; have hnb155 := NB245_222.out; have hnc155 := NB222_245.out
                              have hcz156_0 : wr.cell? ⟨gb245, 0, none⟩ = some (.slice A244_0 ((rd_T90 l0_2 x195_6).f0).length c244_0) := (Sq.o BK245.out 0).trans rfl
                              have hcz156_1 : wr.cell? ⟨gb245, 1, none⟩ = some (.string ((rd_T90 l0_2 x195_6).f1)) := (Sq.o BK245.out 1).trans rfl
                              have hcz156_2 : wr.cell? ⟨gb245, 2, none⟩ = some (.slice (some ad246) ((rd_T90 l0_2 x195_6).f2).length c244_2) := (Sq.o BK245.out 2).trans rfl
                              have hfz156_0 := Sq.r BK245.out 0
                              have hfz156_1 := Sq.r BK245.out 1
                              have hfz156_2 := Sq.r BK245.out 2
                              have p247 : 0 ≤ ((ji151) : Int) := of_decide_eq_true (by first | (with_reducible assumption) | assumption)
                              have q247 : (ji151) < (((rd_T90 l0_2 x195_6).f2).length : Int) := of_decide_eq_true (by first | (with_reducible assumption) | assumption)
                              obtain ⟨ad247, e247, hx247_0⟩ := Kd.at_int HR244_2.out (ji151) p247 q247
                              obtain rfl : ad246 = ad247 := (by injection e247)
                              try replace hx247_0 := (HB.out.cell (World.block_lt_of_cell? w _ hx247_0)).trans hx247_0
                              replace p247 := eq_true p247; replace q247 := eq_true q247
                              go_wp2
                              go_ret
                              exact ⟨by first | rfl | (simp [errW_none, errW_some] <;> rfl) | (simp only [← hji151]; first | rfl | (simp [errW_none, errW_some] <;> rfl)) | (simp [*, errW_none, errW_some] <;> rfl), by repeat (first | (with_reducible first | exact HB.out | apply Sq.i | apply Sq.j | apply Sq.k | refine Sq.h ?_ GE222.out | refine Sq.h ?_ GE245.out) | exact HB.out)⟩
                             ·rw [if_neg c154] at H
                              have c154b0 : decide ((rd ((rd_T90 l0_2 x195_6).f2) x202_7) ≤ (rd ((rd_T90 l0_2 x195_6).f2) (ji151))) = false := decide_eq_false c154
                              clear c154
                              replace H := Option.bind_eq_some_iff.mp H
                              obtain ⟨t248, A1570, H⟩ := H
                              (try dsimp only at H)
                              have A157 := Sq.l A1570
                              clear A1570
                              have HC158 := Sq.l H
                              clear H
                              have p246 : 0 ≤ (x202_7 : Int) := of_decide_eq_true (by first | (with_reducible assumption) | assumption)
                              have q246 : x202_7 < (((rd_T90 l0_2 x195_6).f2).length : Int) := of_decide_eq_true (by first | (with_reducible assumption) | assumption)
                              obtain ⟨ad246, e246, hx246_0⟩ := Kd.at_int HR244_2.out x202_7 p246 q246
                              cases e246
                              try replace hx246_0 := (HB.out.cell (World.block_lt_of_cell? w _ hx246_0)).trans hx246_0
                              replace p246 := eq_true p246; replace q246 := eq_true q246; have hnb159 := NB245_222.out; have hnc159 := NB222_245.out
                              have hcz160_0 : wr.cell? ⟨gb245, 0, none⟩ = some (.slice A244_0 ((rd_T90 l0_2 x195_6).f0).length c244_0) := (Sq.o BK245.out 0).trans rfl
                              have hcz160_1 : wr.cell? ⟨gb245, 1, none⟩ = some (.string ((rd_T90 l0_2 x195_6).f1)) := (Sq.o BK245.out 1).trans rfl
                              have hcz160_2 : wr.cell? ⟨gb245, 2, none⟩ = some (.slice (some ad246) ((rd_T90 l0_2 x195_6).f2).length c244_2) := (Sq.o BK245.out 2).trans rfl
                              have hfz160_0 := Sq.r BK245.out 0
                              have hfz160_1 := Sq.r BK245.out 1
                              have hfz160_2 := Sq.r BK245.out 2
                              have p247 : 0 ≤ ((ji151) : Int) := of_decide_eq_true (by first | (with_reducible assumption) | assumption)
                              have q247 : (ji151) < (((rd_T90 l0_2 x195_6).f2).length : Int) := of_decide_eq_true (by first | (with_reducible assumption) | assumption)
                              obtain ⟨ad247, e247, hx247_0⟩ := Kd.at_int HR244_2.out (ji151) p247 q247
                              obtain rfl : ad246 = ad247 := (by injection e247)
                              try replace hx247_0 := (HB.out.cell (World.block_lt_of_cell? w _ hx247_0)).trans hx247_0
                              replace p247 := eq_true p247; replace q247 := eq_true q247
                              have hcz161_0 : wr.cell? ⟨gb222, 0, none⟩ = some (.slice A0_0 l0_0.length c0_0) := (Sq.o BK222.out 0).trans rfl
                              have hcz161_1 : wr.cell? ⟨gb222, 1, none⟩ = some (.slice A0_1 l0_1.length c0_1) := (Sq.o BK222.out 1).trans rfl
                              have hcz161_2 : wr.cell? ⟨gb222, 2, none⟩ = some (.slice (some ad244) l0_2.length c0_2) := (Sq.o BK222.out 2).trans rfl
                              have hcz161_3 : wr.cell? ⟨gb222, 3, none⟩ = some (.int .i64 a0_3) := (Sq.o BK222.out 3).trans rfl
                              have hfz161_0 := Sq.r BK222.out 0
                              have hfz161_1 := Sq.r BK222.out 1
                              have hfz161_2 := Sq.r BK222.out 2
                              have hfz161_3 := Sq.r BK222.out 3
                              go_upto_if 225 with (first | (go_at_call 52; (with_reducible refine (impl_MemHost_yhugeOk.calls k7 _ _ l0_0 _ _ l0_1 _ _ l0_2 a0_3 _ _ ((rd_T90 l0_2 x195_6).f0) ((rd_T90 l0_2 x195_6).f1) _ _ ((rd_T90 l0_2 x195_6).f2) (rd ((rd_T90 l0_2 x195_6).f2) x202_7) t248 _ ?side1 ?side2 ?side3 ?side4 ?side5 ?side6 ?side7 ?side8 ?side9 ?side10 A157.out).mono ?_); (case side1 => repeat (first | exact (Kd.V_reads' HO_223000.out).2.2 | (with_reducible refine Sq.s ?_ _) | (with_reducible refine Sq.t ?_ _) | (with_reducible refine Sq.u ?_))); (case side2 => exact (Kd.V_reads' HO_223000.out).2.1); (case side3 => repeat (first | exact (Kd.V_reads' HO_223001.out).2.2 | (with_reducible refine Sq.s ?_ _) | (with_reducible refine Sq.t ?_ _) | (with_reducible refine Sq.u ?_))); (case side4 => exact (Kd.V_reads' HO_223001.out).2.1); (case side5 => repeat (first | exact (Sq.a1 HR0_2.out HB.out) | (with_reducible refine Sq.s ?_ _) | (with_reducible refine Sq.t ?_ _) | (with_reducible refine Sq.u ?_))); (case side6 => exact HC0_2.out); (case side7 => repeat (first | exact (Sq.a1 HR244_0.out HB.out) | (with_reducible refine Sq.s ?_ _) | (with_reducible refine Sq.t ?_ _) | (with_reducible refine Sq.u ?_))); (case side8 => exact HC244_0.out); (case side9 => repeat (first | exact (Sq.a1 HR244_2.out HB.out) | (with_reducible refine Sq.s ?_ _) | (with_reducible refine Sq.t ?_ _) | (with_reducible refine Sq.u ?_))); (case side10 => exact HC244_2.out); rintro e w162 ⟨rfl, hb⟩; have n0_ := Sq.l (Kd.V_below (by (with_reducible repeat (first | apply Sq.x | apply Sq.y | apply Sq.z)); exact HO_223000.out) hb); have n1_ := Sq.l (Kd.V_below (by (with_reducible repeat (first | apply Sq.x | apply Sq.y | apply Sq.z)); exact HO_223001.out) hb); have n2_ := Sq.l (Sq.m (g := gb222) (o := .cells #[.slice A0_0 l0_0.length c0_0, .slice A0_1 l0_1.length c0_1, .slice (some ad244) l0_2.length c0_2, .int .i64 a0_3] 30 (0, 0)) (by (with_reducible repeat (first | refine Sq.d ?_ _ | refine Sq.e ?_ | refine Sq.f ?_ _)); exact BK222.out) hb); have n3_ := Sq.l (Sq.m (g := gb245) (o := .cells #[.slice A244_0 ((rd_T90 l0_2 x195_6).f0).length c244_0, .string ((rd_T90 l0_2 x195_6).f1), .slice (some ad246) ((rd_T90 l0_2 x195_6).f2).length c244_2] 90 (0, 0)) (by (with_reducible repeat (first | refine Sq.d ?_ _ | refine Sq.e ?_ | refine Sq.f ?_ _)); exact BK245.out) hb); have n4_ := Sq.l (Sq.a4 (by repeat (first | (with_reducible first | exact HB.out | apply Sq.i | apply Sq.j | apply Sq.k | refine Sq.h ?_ GE222.out | refine Sq.h ?_ GE245.out) | exact HB.out)) hb); clear HO_223000; clear HO_223001; clear BK222; clear BK245; clear HB; have HO_223000 := n0_; have HO_223001 := n1_; have BK222 := n2_; have BK245 := n3_; have HB := n4_; clear n0_ n1_ n2_ n3_ n4_; (try clear hb); (try clear hb2); (try clear hk); (try clear hi)))
                              (try simp only [Act.put, List.setIfInBounds_toArray, List.set_cons_zero, List.set_cons_succ])
                              have H := HC158.out
                              clear HC158
                              by_cases c163 : t248 = true
                              ·subst c163
                               rw [if_pos rfl] at H
                               have H' := Sq.l H
                               clear H
                               go_wp2
                               go_roundg k7
                               case measure => have := HJ1.out; have := HK2.out; have := HK3.out; have := HK4.out; have := HK5.out; have := HK6.out; have := HK7.out; omega
                               case rel => exact ⟨(wrap64 (x202_7 + 1)), (by first | rfl | (simp; done) | (simp [*]; done)), H', ⟨by have := HJ1.out; have := HK2.out; have := HK3.out; have := HK4.out; have := HK5.out; have := HK6.out; have := HK7.out; omega⟩, ⟨by (with_reducible repeat (first | apply Sq.x | apply Sq.y | apply Sq.z)); exact HO_223000.out⟩, ⟨by (with_reducible repeat (first | apply Sq.x | apply Sq.y | apply Sq.z)); exact HO_223001.out⟩, ⟨by (with_reducible repeat (first | refine Sq.d ?_ _ | refine Sq.e ?_ | refine Sq.f ?_ _)); exact BK222.out⟩, ⟨by (with_reducible repeat (first | refine Sq.d ?_ _ | refine Sq.e ?_ | refine Sq.f ?_ _)); exact BK245.out⟩, ⟨by repeat (first | (with_reducible first | exact HB.out | apply Sq.i | apply Sq.j | apply Sq.k | refine Sq.h ?_ GE222.out | refine Sq.h ?_ GE245.out) | exact HB.out)⟩⟩
                              ·replace c163 := Bool.eq_false_iff.mpr c163
                               subst c163
                               rw [if_neg (show ¬ (false = true) by decide)] at H
                               obtain rfl := Option.some.inj H
                               go_wp2
                               go_ret
                               exact ⟨by first | rfl | (simp [errW_none, errW_some] <;> rfl) | (simp only [← hji151]; first | rfl | (simp [errW_none, errW_some] <;> rfl)) | (simp [*, errW_none, errW_some] <;> rfl), by repeat (first | (with_reducible first | exact HB.out | apply Sq.i | apply Sq.j | apply Sq.k | refine Sq.h ?_ GE222.out | refine Sq.h ?_ GE245.out) | exact HB.out)⟩
                            ·rw [if_neg c153] at H
                             exact absurd H (by simp)
                           ·rw [if_neg c152] at H
                            exact absurd H (by simp)
                          ·rw [if_neg c150] at H
                           have c150b0 : decide (0 < x202_7) = false := decide_eq_false c150
                           clear c150
                           replace H := Option.bind_eq_some_iff.mp H
                           obtain ⟨t249, A1640, H⟩ := H
                           (try dsimp only at H)
                           have A164 := Sq.l A1640
                           clear A1640
                           have HC165 := Sq.l H
                           clear H
                           have p246 : 0 ≤ (x202_7 : Int) := of_decide_eq_true (by first | (with_reducible assumption) | assumption)
                           have q246 : x202_7 < (((rd_T90 l0_2 x195_6).f2).length : Int) := of_decide_eq_true (by first | (with_reducible assumption) | assumption)
                           obtain ⟨ad246, e246, hx246_0⟩ := Kd.at_int HR244_2.out x202_7 p246 q246
                           cases e246
                           try replace hx246_0 := (HB.out.cell (World.block_lt_of_cell? w _ hx246_0)).trans hx246_0
                           replace p246 := eq_true p246; replace q246 := eq_true q246; have hnb166 := NB222_245.out; have hnc166 := NB245_222.out
                           have hcz167_0 : wr.cell? ⟨gb222, 0, none⟩ = some (.slice A0_0 l0_0.length c0_0) := (Sq.o BK222.out 0).trans rfl
                           have hcz167_1 : wr.cell? ⟨gb222, 1, none⟩ = some (.slice A0_1 l0_1.length c0_1) := (Sq.o BK222.out 1).trans rfl
                           have hcz167_2 : wr.cell? ⟨gb222, 2, none⟩ = some (.slice (some ad244) l0_2.length c0_2) := (Sq.o BK222.out 2).trans rfl
                           have hcz167_3 : wr.cell? ⟨gb222, 3, none⟩ = some (.int .i64 a0_3) := (Sq.o BK222.out 3).trans rfl
                           have hfz167_0 := Sq.r BK222.out 0
                           have hfz167_1 := Sq.r BK222.out 1
                           have hfz167_2 := Sq.r BK222.out 2
                           have hfz167_3 := Sq.r BK222.out 3
                           have hcz168_0 : wr.cell? ⟨gb245, 0, none⟩ = some (.slice A244_0 ((rd_T90 l0_2 x195_6).f0).length c244_0) := (Sq.o BK245.out 0).trans rfl
                           have hcz168_1 : wr.cell? ⟨gb245, 1, none⟩ = some (.string ((rd_T90 l0_2 x195_6).f1)) := (Sq.o BK245.out 1).trans rfl
                           have hcz168_2 : wr.cell? ⟨gb245, 2, none⟩ = some (.slice (some ad246) ((rd_T90 l0_2 x195_6).f2).length c244_2) := (Sq.o BK245.out 2).trans rfl
                           have hfz168_0 := Sq.r BK245.out 0
                           have hfz168_1 := Sq.r BK245.out 1
                           have hfz168_2 := Sq.r BK245.out 2
                           go_upto_if 225 with (first | (go_at_call 52; (with_reducible refine (impl_MemHost_yhugeOk.calls k7 _ _ l0_0 _ _ l0_1 _ _ l0_2 a0_3 _ _ ((rd_T90 l0_2 x195_6).f0) ((rd_T90 l0_2 x195_6).f1) _ _ ((rd_T90 l0_2 x195_6).f2) (rd ((rd_T90 l0_2 x195_6).f2) x202_7) t249 _ ?side1 ?side2 ?side3 ?side4 ?side5 ?side6 ?side7 ?side8 ?side9 ?side10 A164.out).mono ?_); (case side1 => repeat (first | exact (Kd.V_reads' HO_223000.out).2.2 | (with_reducible refine Sq.s ?_ _) | (with_reducible refine Sq.t ?_ _) | (with_reducible refine Sq.u ?_))); (case side2 => exact (Kd.V_reads' HO_223000.out).2.1); (case side3 => repeat (first | exact (Kd.V_reads' HO_223001.out).2.2 | (with_reducible refine Sq.s ?_ _) | (with_reducible refine Sq.t ?_ _) | (with_reducible refine Sq.u ?_))); (case side4 => exact (Kd.V_reads' HO_223001.out).2.1); (case side5 => repeat (first | exact (Sq.a1 HR0_2.out HB.out) | (with_reducible refine Sq.s ?_ _) | (with_reducible refine Sq.t ?_ _) | (with_reducible refine Sq.u ?_))); (case side6 => exact HC0_2.out); (case side7 => repeat (first | exact (Sq.a1 HR244_0.out HB.out) | (with_reducible refine Sq.s ?_ _) | (with_reducible refine Sq.t ?_ _) | (with_reducible refine Sq.u ?_))); (case side8 => exact HC244_0.out); (case side9 => repeat (first | exact (Sq.a1 HR244_2.out HB.out) | (with_reducible refine Sq.s ?_ _) | (with_reducible refine Sq.t ?_ _) | (with_reducible refine Sq.u ?_))); (case side10 => exact HC244_2.out); rintro e w169 ⟨rfl, hb⟩; have n0_ := Sq.l (Kd.V_below (by (with_reducible repeat (first | apply Sq.x | apply Sq.y | apply Sq.z)); exact HO_223000.out) hb); have n1_ := Sq.l (Kd.V_below (by (with_reducible repeat (first | apply Sq.x | apply Sq.y | apply Sq.z)); exact HO_223001.out) hb); have n2_ := Sq.l (Sq.m (g := gb222) (o := .cells #[.slice A0_0 l0_0.length c0_0, .slice A0_1 l0_1.length c0_1, .slice (some ad244) l0_2.length c0_2, .int .i64 a0_3] 30 (0, 0)) (by (with_reducible repeat (first | refine Sq.d ?_ _ | refine Sq.e ?_ | refine Sq.f ?_ _)); exact BK222.out) hb); have n3_ := Sq.l (Sq.m (g := gb245) (o := .cells #[.slice A244_0 ((rd_T90 l0_2 x195_6).f0).length c244_0, .string ((rd_T90 l0_2 x195_6).f1), .slice (some ad246) ((rd_T90 l0_2 x195_6).f2).length c244_2] 90 (0, 0)) (by (with_reducible repeat (first | refine Sq.d ?_ _ | refine Sq.e ?_ | refine Sq.f ?_ _)); exact BK245.out) hb); have n4_ := Sq.l (Sq.a4 (by repeat (first | (with_reducible first | exact HB.out | apply Sq.i | apply Sq.j | apply Sq.k | refine Sq.h ?_ GE222.out | refine Sq.h ?_ GE245.out) | exact HB.out)) hb); clear HO_223000; clear HO_223001; clear BK222; clear BK245; clear HB; have HO_223000 := n0_; have HO_223001 := n1_; have BK222 := n2_; have BK245 := n3_; have HB := n4_; clear n0_ n1_ n2_ n3_ n4_; (try clear hb); (try clear hb2); (try clear hk); (try clear hi)))
                           (try simp only [Act.put, List.setIfInBounds_toArray, List.set_cons_zero, List.set_cons_succ])
                           have H := HC165.out
                           clear HC165
                           by_cases c170 : t249 = true
                           ·subst c170
                            rw [if_pos rfl] at H
                            have H' := Sq.l H
                            clear H
                            go_wp2
                            go_roundg k7
                            case measure => have := HJ1.out; have := HK2.out; have := HK3.out; have := HK4.out; have := HK5.out; have := HK6.out; have := HK7.out; omega
                            case rel => exact ⟨(wrap64 (x202_7 + 1)), (by first | rfl | (simp; done) | (simp [*]; done)), H', ⟨by have := HJ1.out; have := HK2.out; have := HK3.out; have := HK4.out; have := HK5.out; have := HK6.out; have := HK7.out; omega⟩, ⟨by (with_reducible repeat (first | apply Sq.x | apply Sq.y | apply Sq.z)); exact HO_223000.out⟩, ⟨by (with_reducible repeat (first | apply Sq.x | apply Sq.y | apply Sq.z)); exact HO_223001.out⟩, ⟨by (with_reducible repeat (first | refine Sq.d ?_ _ | refine Sq.e ?_ | refine Sq.f ?_ _)); exact BK222.out⟩, ⟨by (with_reducible repeat (first | refine Sq.d ?_ _ | refine Sq.e ?_ | refine Sq.f ?_ _)); exact BK245.out⟩, ⟨by repeat (first | (with_reducible first | exact HB.out | apply Sq.i | apply Sq.j | apply Sq.k | refine Sq.h ?_ GE222.out | refine Sq.h ?_ GE245.out) | exact HB.out)⟩⟩
                           ·replace c170 := Bool.eq_false_iff.mpr c170
                            subst c170
                            rw [if_neg (show ¬ (false = true) by decide)] at H
                            obtain rfl := Option.some.inj H
                            go_wp2
                            go_ret
                            exact ⟨by first | rfl | (simp [errW_none, errW_some] <;> rfl) | (simp [*, errW_none, errW_some] <;> rfl), by repeat (first | (with_reducible first | exact HB.out | apply Sq.i | apply Sq.j | apply Sq.k | refine Sq.h ?_ GE222.out | refine Sq.h ?_ GE245.out) | exact HB.out)⟩
                         ·rw [if_neg c149] at H
                          exact absurd H (by simp)
                        ·rw [if_neg c148] at H
                         exact absurd H (by simp)
                       ·rw [if_neg c147] at H
                        have c147b0 : decide (x202_7 < (((rd_T90 l0_2 x195_6).f2).length : Int)) = false := decide_eq_false c147
                        clear c147
                        (first | rw [c147b0] | (simp only [i64_w, i32_w]; rw [c147b0]) | skip)
                        have H' := Sq.l H
                        clear H
                        go_wp2
                        go_roundg k7
                        case measure => have := HJ1.out; have := HK2.out; have := HK3.out; have := HK4.out; have := HK5.out; have := HK6.out; have := HK7.out; omega
                        case rel => exact ⟨(wrap64 (x195_6 + 1)), (by first | rfl | (simp; done) | (simp [*]; done)), H', ⟨by have := HJ1.out; have := HK2.out; have := HK3.out; have := HK4.out; have := HK5.out; have := HK6.out; have := HK7.out; omega⟩, ⟨by (with_reducible repeat (first | apply Sq.x | apply Sq.y | apply Sq.z)); exact Sq.a6 HO_223000.out (fun _ hk => ⟨hk.1, hk.2.1⟩)⟩, ⟨by (with_reducible repeat (first | apply Sq.x | apply Sq.y | apply Sq.z)); exact Sq.a6 HO_223001.out (fun _ hk => ⟨hk.1, hk.2.1⟩)⟩, ⟨by (with_reducible repeat (first | refine Sq.d ?_ _ | refine Sq.e ?_ | refine Sq.f ?_ _)); exact BK222.out⟩, ⟨by repeat (first | (with_reducible first | exact HB.out | apply Sq.i | apply Sq.j | apply Sq.k | refine Sq.h ?_ GE222.out | refine Sq.h ?_ GE245.out) | exact HB.out)⟩⟩
                    ·rw [if_neg c142] at H
                     exact absurd H (by simp)
                   ·rw [if_neg c141] at H
                    exact absurd H (by simp)
                  ·rw [if_neg c140] at H
                   have c140b0 : decide (x195_6 < (l0_2.length : Int)) = false := decide_eq_false c140
                   clear c140
                   (first | rw [c140b0] | (simp only [i64_w, i32_w]; rw [c140b0]) | skip)
                   obtain rfl := Option.some.inj H
                   go_wp2
                   go_ret
                   exact ⟨by first | rfl | (simp [errW_none, errW_some] <;> rfl) | (simp [*, errW_none, errW_some] <;> rfl), by repeat (first | (with_reducible first | exact HB.out | apply Sq.i | apply Sq.j | apply Sq.k | refine Sq.h ?_ GE222.out) | exact HB.out)⟩

end Go.Proofs.Ytmajbehafgajmaa.QFnExactMemHostFault
