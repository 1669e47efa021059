-- Written for this claim by this session's own driver (wip/xprint.py).
import Derived.Test.YtmajbehafgajmaaQFnExactRouterFaultx0
import Derived.Test.YtmajbehafgajmaaQFnExactRouterFaultx19
import Derived.Test.YtmajbehafgajmaaQFnExactRouterFaultx20
import Derived.Test.YtmajbehafgajmaaQFnExactRouterFaultx21
namespace Go.Proofs.Ytmajbehafgajmaa.QFnExactRouterFault
open Go.RowKit Go.Proofs.YtmajbehafgajmaaW.PrintWords Go.Proofs.YtmajbehafgajmaaW.PrintLast Go.Proofs.YtmajbehafgajmaaW.PrintMore
attribute [local go_sem] max2_int min2_int max_two min_two max_three min_three max_four min_four   -- for this text's walks alone
set_option linter.unusedVariables false
set_option linter.unusedSimpArgs false

/-! ### impl_RouterFault: function 16 -/
mutual
def impl_RouterFault.j0 : Nat → Bool → List (S107) → List (S111) → List (S113) → Option (Int)
 | 0, _, _, _, _ => none
 | k + 1, x32, x197000, x197001, x197002 => if x32 = true then (some 1) else (impl_RouterFault.l0 k x197000 (x197000.length : Int) 0 x197000 x197001 x197002)
def impl_RouterFault.l0 : Nat → List (S107) → Int → Int → List (S107) → List (S111) → List (S113) → Option (Int)
 | 0, _, _, _, _, _, _ => none
 | k + 1, x35, x36, x37, x197000, x197001, x197002 => if x37 < x36 then (if 0 ≤ x37 then (if x37 < (x35.length : Int) then ((impl_RouterFault_1.f ((rd_T107 x35 x37).f0) x197000 x197001 x197002).bind fun t200 => (if t200 = true then ((impl_RouterFault_2.f ((rd_T107 x35 x37).f1)).bind fun t201 => (if t201 = true then (impl_RouterFault.l0 k x35 x36 (wrap64 (x37 + 1)) x197000 x197001 x197002) else (some 1))) else (some 1))) else (none)) else (none)) else (impl_RouterFault.l1 k x197001 (x197001.length : Int) 0 x197000 x197001 x197002)
def impl_RouterFault.l1 : Nat → List (S111) → Int → Int → List (S107) → List (S111) → List (S113) → Option (Int)
 | 0, _, _, _, _, _, _ => none
 | k + 1, x55, x56, x57, x197000, x197001, x197002 => if x57 < x56 then (if 0 ≤ x57 then (if x57 < (x55.length : Int) then ((impl_yin.f ((rd_T111 x55 x57).f0) 0 16).bind fun t204 => (if t204 = true then (impl_RouterFault.j3 k x55 x56 x57 (decide ((((rd_T111 x55 x57).f2).length : Int) > 16)) x197000 x197001 x197002 ((rd_T111 x55 x57).f0) ((rd_T111 x55 x57).f1) ((rd_T111 x55 x57).f2)) else (impl_RouterFault.j3 k x55 x56 x57 true x197000 x197001 x197002 ((rd_T111 x55 x57).f0) ((rd_T111 x55 x57).f1) ((rd_T111 x55 x57).f2)))) else (none)) else (none)) else (impl_RouterFault.l4 k x197002 (x197002.length : Int) 0 x197000 x197001 x197002)
def impl_RouterFault.j3 : Nat → List (S111) → Int → Int → Bool → List (S107) → List (S111) → List (S113) → Int → List Int → List Int → Option (Int)
 | 0, _, _, _, _, _, _, _, _, _, _ => none
 | k + 1, x55, x56, x57, x70, x197000, x197001, x197002, x204000, x204001, x204002 => if x70 = true then (some 1) else (impl_RouterFault.l2 k x55 x56 x57 x204001 (x204001.length : Int) 0 x197000 x197001 x197002 x204000 x204001 x204002)
def impl_RouterFault.l2 : Nat → List (S111) → Int → Int → List Int → Int → Int → List (S107) → List (S111) → List (S113) → Int → List Int → List Int → Option (Int)
 | 0, _, _, _, _, _, _, _, _, _, _, _, _ => none
 | k + 1, x55, x56, x57, x72, x73, x74, x197000, x197001, x197002, x204000, x204001, x204002 => if x74 < x73 then (if 0 ≤ x74 then (if x74 < (x72.length : Int) then ((impl_RouterFault_2.f (rd x72 x74)).bind fun t206 => (if t206 = true then (if x74 > 0 then (if 0 ≤ (wrap64 (x74 - 1)) then (if (wrap64 (x74 - 1)) < (x204001.length : Int) then (if (rd x204001 (wrap64 (x74 - 1))) ≥ (rd x72 x74) then (some 1) else (impl_RouterFault.l2 k x55 x56 x57 x72 x73 (wrap64 (x74 + 1)) x197000 x197001 x197002 x204000 x204001 x204002)) else (none)) else (none)) else (impl_RouterFault.l2 k x55 x56 x57 x72 x73 (wrap64 (x74 + 1)) x197000 x197001 x197002 x204000 x204001 x204002)) else (some 1))) else (none)) else (none)) else (impl_RouterFault.l3 k x55 x56 x57 x204002 (x204002.length : Int) 0 x197000 x197001 x197002 x204000 x204001 x204002)
def impl_RouterFault.l3 : Nat → List (S111) → Int → Int → List Int → Int → Int → List (S107) → List (S111) → List (S113) → Int → List Int → List Int → Option (Int)
 | 0, _, _, _, _, _, _, _, _, _, _, _, _ => none
 | k + 1, x55, x56, x57, x99, x100, x101, x197000, x197001, x197002, x204000, x204001, x204002 => if x101 < x100 then (if 0 ≤ x101 then (if x101 < (x99.length : Int) then ((impl_RouterFault_2.f (rd x99 x101)).bind fun t209 => (if t209 = true then (if x101 > 0 then (if 0 ≤ (wrap64 (x101 - 1)) then (if (wrap64 (x101 - 1)) < (x204002.length : Int) then (if (wrap64 (Int.tdiv (rd x204002 (wrap64 (x101 - 1))) 4)) ≥ (wrap64 (Int.tdiv (rd x99 x101) 4)) then (some 1) else (impl_RouterFault.l3 k x55 x56 x57 x99 x100 (wrap64 (x101 + 1)) x197000 x197001 x197002 x204000 x204001 x204002)) else (none)) else (none)) else (impl_RouterFault.l3 k x55 x56 x57 x99 x100 (wrap64 (x101 + 1)) x197000 x197001 x197002 x204000 x204001 x204002)) else (some 1))) else (none)) else (none)) else (impl_RouterFault.l1 k x55 x56 (wrap64 (x57 + 1)) x197000 x197001 x197002)
def impl_RouterFault.l4 : Nat → List (S113) → Int → Int → List (S107) → List (S111) → List (S113) → Option (Int)
 | 0, _, _, _, _, _, _ => none
 | k + 1, x129, x130, x131, x197000, x197001, x197002 => if x131 < x130 then (if 0 ≤ x131 then (if x131 < (x129.length : Int) then ((impl_yin.f ((rd_T113 x129 x131).f0) 0 255).bind fun t213 => (if t213 = true then ((impl_yin.f ((rd_T113 x129 x131).f1) 0 255).bind fun t214 => (if t214 = true then ((impl_RouterFault_1.f ((rd_T113 x129 x131).f2) x197000 x197001 x197002).bind fun t215 => (if t215 = true then ((impl_RouterFault_2.f ((rd_T113 x129 x131).f3)).bind fun t216 => (impl_RouterFault.j7 k x131 x129 x130 x131 (!t216) x197000 x197001 x197002 ((rd_T113 x129 x131).f0) ((rd_T113 x129 x131).f1) ((rd_T113 x129 x131).f2) ((rd_T113 x129 x131).f3))) else (impl_RouterFault.j7 k x131 x129 x130 x131 true x197000 x197001 x197002 ((rd_T113 x129 x131).f0) ((rd_T113 x129 x131).f1) ((rd_T113 x129 x131).f2) ((rd_T113 x129 x131).f3)))) else (impl_RouterFault.j7 k x131 x129 x130 x131 true x197000 x197001 x197002 ((rd_T113 x129 x131).f0) ((rd_T113 x129 x131).f1) ((rd_T113 x129 x131).f2) ((rd_T113 x129 x131).f3)))) else (impl_RouterFault.j7 k x131 x129 x130 x131 true x197000 x197001 x197002 ((rd_T113 x129 x131).f0) ((rd_T113 x129 x131).f1) ((rd_T113 x129 x131).f2) ((rd_T113 x129 x131).f3)))) else (none)) else (none)) else (some 0)
def impl_RouterFault.j7 : Nat → Int → List (S113) → Int → Int → Bool → List (S107) → List (S111) → List (S113) → Int → Int → Int → Int → Option (Int)
 | 0, _, _, _, _, _, _, _, _, _, _, _, _ => none
 | k + 1, x13, x129, x130, x131, x159, x197000, x197001, x197002, x213000, x213001, x213002, x213003 => if x159 = true then (some 1) else (if x13 > 0 then (if 0 ≤ (wrap64 (x13 - 1)) then (if (wrap64 (x13 - 1)) < (x197002.length : Int) then (if ((rd_T113 x197002 (wrap64 (x13 - 1))).f0) > x213000 then (some 1) else (if ((rd_T113 x197002 (wrap64 (x13 - 1))).f0) = x213000 then (if ((rd_T113 x197002 (wrap64 (x13 - 1))).f1) ≥ x213001 then (some 1) else (impl_RouterFault.l4 k x129 x130 (wrap64 (x131 + 1)) x197000 x197001 x197002)) else (impl_RouterFault.l4 k x129 x130 (wrap64 (x131 + 1)) x197000 x197001 x197002))) else (none)) else (none)) else (impl_RouterFault.l4 k x129 x130 (wrap64 (x131 + 1)) x197000 x197001 x197002))
end
def impl_RouterFault.f (k : Nat) (l0_0 : List (S107)) (l0_1 : List (S111)) (l0_2 : List (S113)) : Option (Int) := if (l0_0.length : Int) > 64 then (impl_RouterFault.j0 k true l0_0 l0_1 l0_2) else ((impl_yin.f (l0_1.length : Int) 1 8).bind fun t197 => (if t197 = true then (impl_RouterFault.j0 k (decide ((l0_2.length : Int) > 1000)) l0_0 l0_1 l0_2) else (impl_RouterFault.j0 k true l0_0 l0_1 l0_2)))
theorem impl_RouterFault.mono_l : ∀ k, (∀ y0 y1 y2 y3, LeO (impl_RouterFault.j0 k y0 y1 y2 y3) (impl_RouterFault.j0 (k + 1) y0 y1 y2 y3)) ∧ (∀ y0 y1 y2 y3 y4 y5, LeO (impl_RouterFault.l0 k y0 y1 y2 y3 y4 y5) (impl_RouterFault.l0 (k + 1) y0 y1 y2 y3 y4 y5)) ∧ (∀ y0 y1 y2 y3 y4 y5, LeO (impl_RouterFault.l1 k y0 y1 y2 y3 y4 y5) (impl_RouterFault.l1 (k + 1) y0 y1 y2 y3 y4 y5)) ∧ (∀ y0 y1 y2 y3 y4 y5 y6 y7 y8 y9, LeO (impl_RouterFault.j3 k y0 y1 y2 y3 y4 y5 y6 y7 y8 y9) (impl_RouterFault.j3 (k + 1) y0 y1 y2 y3 y4 y5 y6 y7 y8 y9)) ∧ (∀ y0 y1 y2 y3 y4 y5 y6 y7 y8 y9 y10 y11, LeO (impl_RouterFault.l2 k y0 y1 y2 y3 y4 y5 y6 y7 y8 y9 y10 y11) (impl_RouterFault.l2 (k + 1) y0 y1 y2 y3 y4 y5 y6 y7 y8 y9 y10 y11)) ∧ (∀ y0 y1 y2 y3 y4 y5 y6 y7 y8 y9 y10 y11, LeO (impl_RouterFault.l3 k y0 y1 y2 y3 y4 y5 y6 y7 y8 y9 y10 y11) (impl_RouterFault.l3 (k + 1) y0 y1 y2 y3 y4 y5 y6 y7 y8 y9 y10 y11)) ∧ (∀ y0 y1 y2 y3 y4 y5, LeO (impl_RouterFault.l4 k y0 y1 y2 y3 y4 y5) (impl_RouterFault.l4 (k + 1) y0 y1 y2 y3 y4 y5)) ∧ (∀ y0 y1 y2 y3 y4 y5 y6 y7 y8 y9 y10 y11, LeO (impl_RouterFault.j7 k y0 y1 y2 y3 y4 y5 y6 y7 y8 y9 y10 y11) (impl_RouterFault.j7 (k + 1) y0 y1 y2 y3 y4 y5 y6 y7 y8 y9 y10 y11))
 | 0 => ⟨fun _ _ _ _ r h => by simp [impl_RouterFault.j0] at h, fun _ _ _ _ _ _ r h => by simp [impl_RouterFault.l0] at h, fun _ _ _ _ _ _ r h => by simp [impl_RouterFault.l1] at h, fun _ _ _ _ _ _ _ _ _ _ r h => by simp [impl_RouterFault.j3] at h, fun _ _ _ _ _ _ _ _ _ _ _ _ r h => by simp [impl_RouterFault.l2] at h, fun _ _ _ _ _ _ _ _ _ _ _ _ r h => by simp [impl_RouterFault.l3] at h, fun _ _ _ _ _ _ r h => by simp [impl_RouterFault.l4] at h, fun _ _ _ _ _ _ _ _ _ _ _ _ r h => by simp [impl_RouterFault.j7] at h⟩
 | k + 1 => by
  obtain ⟨ih0, ih1, ih2, ih3, ih4, ih5, ih6, ih7⟩ := impl_RouterFault.mono_l k
  refine ⟨?_, ?_, ?_, ?_, ?_, ?_, ?_, ?_⟩
  ·intro y0 y1 y2 y3
   unfold impl_RouterFault.j0
   repeat' first
   | (with_reducible exact ih0 _ _ _ _)
   | (with_reducible exact ih1 _ _ _ _ _ _)
   | (with_reducible exact ih2 _ _ _ _ _ _)
   | (with_reducible exact ih3 _ _ _ _ _ _ _ _ _ _)
   | (with_reducible exact ih4 _ _ _ _ _ _ _ _ _ _ _ _)
   | (with_reducible exact ih5 _ _ _ _ _ _ _ _ _ _ _ _)
   | (with_reducible exact ih6 _ _ _ _ _ _)
   | (with_reducible exact ih7 _ _ _ _ _ _ _ _ _ _ _ _)
   | (with_reducible exact LeO.refl _)
   | (with_reducible exact LeO.none _)
   | (with_reducible refine LeO.ite ?_ ?_)
   | (with_reducible refine LeO.bind ?_ (fun _ => ?_))
   | exact ih0 _ _ _ _
   | exact ih1 _ _ _ _ _ _
   | exact ih2 _ _ _ _ _ _
   | exact ih3 _ _ _ _ _ _ _ _ _ _
   | exact ih4 _ _ _ _ _ _ _ _ _ _ _ _
   | exact ih5 _ _ _ _ _ _ _ _ _ _ _ _
   | exact ih6 _ _ _ _ _ _
   | exact ih7 _ _ _ _ _ _ _ _ _ _ _ _
   | exact LeO.none _
   | refine LeO.ite ?_ ?_
   | refine LeO.bind ?_ (fun _ => ?_)
  ·intro y0 y1 y2 y3 y4 y5
   unfold impl_RouterFault.l0
   repeat' first
   | (with_reducible exact ih0 _ _ _ _)
   | (with_reducible exact ih1 _ _ _ _ _ _)
   | (with_reducible exact ih2 _ _ _ _ _ _)
   | (with_reducible exact ih3 _ _ _ _ _ _ _ _ _ _)
   | (with_reducible exact ih4 _ _ _ _ _ _ _ _ _ _ _ _)
   | (with_reducible exact ih5 _ _ _ _ _ _ _ _ _ _ _ _)
   | (with_reducible exact ih6 _ _ _ _ _ _)
   | (with_reducible exact ih7 _ _ _ _ _ _ _ _ _ _ _ _)
   | (with_reducible exact LeO.refl _)
   | (with_reducible exact LeO.none _)
   | (with_reducible refine LeO.ite ?_ ?_)
   | (with_reducible refine LeO.bind ?_ (fun _ => ?_))
   | exact ih0 _ _ _ _
   | exact ih1 _ _ _ _ _ _
   | exact ih2 _ _ _ _ _ _
   | exact ih3 _ _ _ _ _ _ _ _ _ _
   | exact ih4 _ _ _ _ _ _ _ _ _ _ _ _
   | exact ih5 _ _ _ _ _ _ _ _ _ _ _ _
   | exact ih6 _ _ _ _ _ _
   | exact ih7 _ _ _ _ _ _ _ _ _ _ _ _
   | exact LeO.none _
   | refine LeO.ite ?_ ?_
   | refine LeO.bind ?_ (fun _ => ?_)
  ·intro y0 y1 y2 y3 y4 y5
   unfold impl_RouterFault.l1
   repeat' first
   | (with_reducible exact ih0 _ _ _ _)
   | (with_reducible exact ih1 _ _ _ _ _ _)
   | (with_reducible exact ih2 _ _ _ _ _ _)
   | (with_reducible exact ih3 _ _ _ _ _ _ _ _ _ _)
   | (with_reducible exact ih4 _ _ _ _ _ _ _ _ _ _ _ _)
   | (with_reducible exact ih5 _ _ _ _ _ _ _ _ _ _ _ _)
   | (with_reducible exact ih6 _ _ _ _ _ _)
   | (with_reducible exact ih7 _ _ _ _ _ _ _ _ _ _ _ _)
   | (with_reducible exact LeO.refl _)
   | (with_reducible exact LeO.none _)
   | (with_reducible refine LeO.ite ?_ ?_)
   | (with_reducible refine LeO.bind ?_ (fun _ => ?_))
   | exact ih0 _ _ _ _
   | exact ih1 _ _ _ _ _ _
   | exact ih2 _ _ _ _ _ _
   | exact ih3 _ _ _ _ _ _ _ _ _ _
   | exact ih4 _ _ _ _ _ _ _ _ _ _ _ _
   | exact ih5 _ _ _ _ _ _ _ _ _ _ _ _
   | exact ih6 _ _ _ _ _ _
   | exact ih7 _ _ _ _ _ _ _ _ _ _ _ _
   | exact LeO.none _
   | refine LeO.ite ?_ ?_
   | refine LeO.bind ?_ (fun _ => ?_)
  ·intro y0 y1 y2 y3 y4 y5 y6 y7 y8 y9
   unfold impl_RouterFault.j3
   repeat' first
   | (with_reducible exact ih0 _ _ _ _)
   | (with_reducible exact ih1 _ _ _ _ _ _)
   | (with_reducible exact ih2 _ _ _ _ _ _)
   | (with_reducible exact ih3 _ _ _ _ _ _ _ _ _ _)
   | (with_reducible exact ih4 _ _ _ _ _ _ _ _ _ _ _ _)
   | (with_reducible exact ih5 _ _ _ _ _ _ _ _ _ _ _ _)
   | (with_reducible exact ih6 _ _ _ _ _ _)
   | (with_reducible exact ih7 _ _ _ _ _ _ _ _ _ _ _ _)
   | (with_reducible exact LeO.refl _)
   | (with_reducible exact LeO.none _)
   | (with_reducible refine LeO.ite ?_ ?_)
   | (with_reducible refine LeO.bind ?_ (fun _ => ?_))
   | exact ih0 _ _ _ _
   | exact ih1 _ _ _ _ _ _
   | exact ih2 _ _ _ _ _ _
   | exact ih3 _ _ _ _ _ _ _ _ _ _
   | exact ih4 _ _ _ _ _ _ _ _ _ _ _ _
   | exact ih5 _ _ _ _ _ _ _ _ _ _ _ _
   | exact ih6 _ _ _ _ _ _
   | exact ih7 _ _ _ _ _ _ _ _ _ _ _ _
   | exact LeO.none _
   | refine LeO.ite ?_ ?_
   | refine LeO.bind ?_ (fun _ => ?_)
  ·intro y0 y1 y2 y3 y4 y5 y6 y7 y8 y9 y10 y11
   unfold impl_RouterFault.l2
   repeat' first
   | (with_reducible exact ih0 _ _ _ _)
   | (with_reducible exact ih1 _ _ _ _ _ _)
   | (with_reducible exact ih2 _ _ _ _ _ _)
   | (with_reducible exact ih3 _ _ _ _ _ _ _ _ _ _)
   | (with_reducible exact ih4 _ _ _ _ _ _ _ _ _ _ _ _)
   | (with_reducible exact ih5 _ _ _ _ _ _ _ _ _ _ _ _)
   | (with_reducible exact ih6 _ _ _ _ _ _)
   | (with_reducible exact ih7 _ _ _ _ _ _ _ _ _ _ _ _)
   | (with_reducible exact LeO.refl _)
   | (with_reducible exact LeO.none _)
   | (with_reducible refine LeO.ite ?_ ?_)
   | (with_reducible refine LeO.bind ?_ (fun _ => ?_))
   | exact ih0 _ _ _ _
   | exact ih1 _ _ _ _ _ _
   | exact ih2 _ _ _ _ _ _
   | exact ih3 _ _ _ _ _ _ _ _ _ _
   | exact ih4 _ _ _ _ _ _ _ _ _ _ _ _
   | exact ih5 _ _ _ _ _ _ _ _ _ _ _ _
   | exact ih6 _ _ _ _ _ _
   | exact ih7 _ _ _ _ _ _ _ _ _ _ _ _
   | exact LeO.none _
   | refine LeO.ite ?_ ?_
   | refine LeO.bind ?_ (fun _ => ?_)
  ·intro y0 y1 y2 y3 y4 y5 y6 y7 y8 y9 y10 y11
   unfold impl_RouterFault.l3
   repeat' first
   | (with_reducible exact ih0 _ _ _ _)
   | (with_reducible exact ih1 _ _ _ _ _ _)
   | (with_reducible exact ih2 _ _ _ _ _ _)
   | (with_reducible exact ih3 _ _ _ _ _ _ _ _ _ _)
   | (with_reducible exact ih4 _ _ _ _ _ _ _ _ _ _ _ _)
   | (with_reducible exact ih5 _ _ _ _ _ _ _ _ _ _ _ _)
   | (with_reducible exact ih6 _ _ _ _ _ _)
   | (with_reducible exact ih7 _ _ _ _ _ _ _ _ _ _ _ _)
   | (with_reducible exact LeO.refl _)
   | (with_reducible exact LeO.none _)
   | (with_reducible refine LeO.ite ?_ ?_)
   | (with_reducible refine LeO.bind ?_ (fun _ => ?_))
   | exact ih0 _ _ _ _
   | exact ih1 _ _ _ _ _ _
   | exact ih2 _ _ _ _ _ _
   | exact ih3 _ _ _ _ _ _ _ _ _ _
   | exact ih4 _ _ _ _ _ _ _ _ _ _ _ _
   | exact ih5 _ _ _ _ _ _ _ _ _ _ _ _
   | exact ih6 _ _ _ _ _ _
   | exact ih7 _ _ _ _ _ _ _ _ _ _ _ _
   | exact LeO.none _
   | refine LeO.ite ?_ ?_
   | refine LeO.bind ?_ (fun _ => ?_)
  ·intro y0 y1 y2 y3 y4 y5
   unfold impl_RouterFault.l4
   repeat' first
   | (with_reducible exact ih0 _ _ _ _)
   | (with_reducible exact ih1 _ _ _ _ _ _)
   | (with_reducible exact ih2 _ _ _ _ _ _)
   | (with_reducible exact ih3 _ _ _ _ _ _ _ _ _ _)
   | (with_reducible exact ih4 _ _ _ _ _ _ _ _ _ _ _ _)
   | (with_reducible exact ih5 _ _ _ _ _ _ _ _ _ _ _ _)
   | (with_reducible exact ih6 _ _ _ _ _ _)
   | (with_reducible exact ih7 _ _ _ _ _ _ _ _ _ _ _ _)
   | (with_reducible exact LeO.refl _)
   | (with_reducible exact LeO.none _)
   | (with_reducible refine LeO.ite ?_ ?_)
   | (with_reducible refine LeO.bind ?_ (fun _ => ?_))
   | exact ih0 _ _ _ _
   | exact ih1 _ _ _ _ _ _
   | exact ih2 _ _ _ _ _ _
   | exact ih3 _ _ _ _ _ _ _ _ _ _
   | exact ih4 _ _ _ _ _ _ _ _ _ _ _ _
   | exact ih5 _ _ _ _ _ _ _ _ _ _ _ _
   | exact ih6 _ _ _ _ _ _
   | exact ih7 _ _ _ _ _ _ _ _ _ _ _ _
   | exact LeO.none _
   | refine LeO.ite ?_ ?_
   | refine LeO.bind ?_ (fun _ => ?_)
  ·intro y0 y1 y2 y3 y4 y5 y6 y7 y8 y9 y10 y11
   unfold impl_RouterFault.j7
   repeat' first
   | (with_reducible exact ih0 _ _ _ _)
   | (with_reducible exact ih1 _ _ _ _ _ _)
   | (with_reducible exact ih2 _ _ _ _ _ _)
   | (with_reducible exact ih3 _ _ _ _ _ _ _ _ _ _)
   | (with_reducible exact ih4 _ _ _ _ _ _ _ _ _ _ _ _)
   | (with_reducible exact ih5 _ _ _ _ _ _ _ _ _ _ _ _)
   | (with_reducible exact ih6 _ _ _ _ _ _)
   | (with_reducible exact ih7 _ _ _ _ _ _ _ _ _ _ _ _)
   | (with_reducible exact LeO.refl _)
   | (with_reducible exact LeO.none _)
   | (with_reducible refine LeO.ite ?_ ?_)
   | (with_reducible refine LeO.bind ?_ (fun _ => ?_))
   | exact ih0 _ _ _ _
   | exact ih1 _ _ _ _ _ _
   | exact ih2 _ _ _ _ _ _
   | exact ih3 _ _ _ _ _ _ _ _ _ _
   | exact ih4 _ _ _ _ _ _ _ _ _ _ _ _
   | exact ih5 _ _ _ _ _ _ _ _ _ _ _ _
   | exact ih6 _ _ _ _ _ _
   | exact ih7 _ _ _ _ _ _ _ _ _ _ _ _
   | exact LeO.none _
   | refine LeO.ite ?_ ?_
   | refine LeO.bind ?_ (fun _ => ?_)
theorem impl_RouterFault.mono : ∀ a0 a1 a2 k, LeO (impl_RouterFault.f k a0 a1 a2) (impl_RouterFault.f (k + 1) a0 a1 a2) := by
 intro a0 a1 a2 k
 obtain ⟨ih0, ih1, ih2, ih3, ih4, ih5, ih6, ih7⟩ := impl_RouterFault.mono_l k
 unfold impl_RouterFault.f
 repeat' first
   | (with_reducible exact ih0 _ _ _ _)
   | (with_reducible exact ih1 _ _ _ _ _ _)
   | (with_reducible exact ih2 _ _ _ _ _ _)
   | (with_reducible exact ih3 _ _ _ _ _ _ _ _ _ _)
   | (with_reducible exact ih4 _ _ _ _ _ _ _ _ _ _ _ _)
   | (with_reducible exact ih5 _ _ _ _ _ _ _ _ _ _ _ _)
   | (with_reducible exact ih6 _ _ _ _ _ _)
   | (with_reducible exact ih7 _ _ _ _ _ _ _ _ _ _ _ _)
   | (with_reducible exact LeO.refl _)
   | (with_reducible exact LeO.none _)
   | (with_reducible refine LeO.ite ?_ ?_)
   | (with_reducible refine LeO.bind ?_ (fun _ => ?_))
   | exact ih0 _ _ _ _
   | exact ih1 _ _ _ _ _ _
   | exact ih2 _ _ _ _ _ _
   | exact ih3 _ _ _ _ _ _ _ _ _ _
   | exact ih4 _ _ _ _ _ _ _ _ _ _ _ _
   | exact ih5 _ _ _ _ _ _ _ _ _ _ _ _
   | exact ih6 _ _ _ _ _ _
   | exact ih7 _ _ _ _ _ _ _ _ _ _ _ _
   | exact LeO.none _
   | refine LeO.ite ?_ ?_
   | refine LeO.bind ?_ (fun _ => ?_)
set_option maxHeartbeats 8000000 in
set_option maxRecDepth 100000 in
theorem impl_RouterFault.calls (k : Nat) (A0_0 : Option Addr) (c0_0 : Nat) (l0_0 : List (S107)) (A0_1 : Option Addr) (c0_1 : Nat) (l0_1 : List (S111)) (A0_2 : Option Addr) (c0_2 : Nat) (l0_2 : List (S113)) (r : Int) (w : World) (hr0_0 : Kd.C k107 w A0_0 l0_0.length l0_0) (hc0_0 : l0_0.length ≤ c0_0) (hr0_1 : Kd.C k111 w A0_1 l0_1.length l0_1) (hc0_1 : l0_1.length ≤ c0_1) (hr0_2 : Kd.C k113 w A0_2 l0_2.length l0_2) (hc0_2 : l0_2.length ≤ c0_2) (h : impl_RouterFault.f k l0_0 l0_1 l0_2 = some r) :
  Calls Try.prog 16 #[.agg #[.slice A0_0 l0_0.length c0_0, .slice A0_1 l0_1.length c0_1, .slice A0_2 l0_2.length c0_2]] w fun e w' => e = .returned (.int .i64 r) ∧ Below w.heap.size w w' := by
 have eg63 : ∀ args w, (callFunc 63 args).run Try.prog w = .ok (.enter 63 args) w := enters_of Try.func63 (by kernel_rfl) rfl
 have eg64 : ∀ args w, (callFunc 64 args).run Try.prog w = .ok (.enter 64 args) w := enters_of Try.func64 (by kernel_rfl) rfl
 have hu45 := Try.underlying45
 have hu107 := Try.underlying107
 have hu111 := Try.underlying111
 have hu113 := Try.underlying113
 have HR0_0 := Sq.l hr0_0
 have HC0_0 := Sq.l hc0_0
 clear hr0_0 hc0_0
 have HR0_1 := Sq.l hr0_1
 have HC0_1 := Sq.l hc0_1
 clear hr0_1 hc0_1
 have HR0_2 := Sq.l hr0_2
 have HC0_2 := Sq.l hc0_2
 clear hr0_2 hc0_2
 have HB := Sq.l (Below.refl w.heap.size w)
 have H : (if (l0_0.length : Int) > 64 then (impl_RouterFault.j0 k true l0_0 l0_1 l0_2) else ((impl_yin.f (l0_1.length : Int) 1 8).bind fun t197 => (if t197 = true then (impl_RouterFault.j0 k (decide ((l0_2.length : Int) > 1000)) l0_0 l0_1 l0_2) else (impl_RouterFault.j0 k true l0_0 l0_1 l0_2)))) = some r := h
 clear h
 have HC2 := Sq.l H
 clear H
 go_enter Try.func16, Try.ntmps16
 go_upto_region 1 with (first | ((with_reducible refine gate_dst (N := 1) rfl ?_); (try (refine gate_guard (by rfl) ?_; dsimp only)); refine box_event ?hg (N := 1) ?hd (cs := #[.slice A0_0 l0_0.length c0_0, .slice A0_1 l0_1.length c0_1, .slice A0_2 l0_2.length c0_2]) (t := 45) ?hr ?_; (case hd => rfl); (case hg => rfl); (case hr => first | (go_simp; done) | (go_simp; rfl)); intro gb196 hg w3 hbox hb; have n0_ := Sq.l (Sq.a4 (by repeat (first | (with_reducible first | exact HB.out | apply Sq.i | apply Sq.j | apply Sq.k) | exact HB.out)) hb); have n1_ := Sq.l (hbox); have n2_ := Sq.l ((by rw [hg]; exact (Sq.a5 (by repeat (first | (with_reducible first | exact HB.out | apply Sq.i | apply Sq.j | apply Sq.k) | exact HB.out))) : w.heap.size ≤ gb196)); have n3_ := Sq.l ((by rw [hg]; exact (Sq.a5 (by repeat (first | (with_reducible first | exact HB.out | apply Sq.i | apply Sq.j | apply Sq.k) | exact HB.out))) : w.heap.size ≤ gb196)); clear HB; have HB := n0_; have BK196 := n1_; have GW196 := n2_; have GE196 := n3_; clear n0_ n1_ n2_ n3_; clear hb hbox hg))
 (try simp only [Act.put, List.setIfInBounds_toArray, List.set_cons_zero, List.set_cons_succ])
 go_cut [32] (fun v32 wc => ∃ (kq : Nat) (x32_1 : Bool), v32 = .bool x32_1 ∧ Aside0 (impl_RouterFault.j0 kq x32_1 l0_0 l0_1 l0_2 = some r) ∧ Aside0 (kq ≤ k) ∧ Aside0 (wc.heap[gb196]? = some (.cells #[(.slice A0_0 l0_0.length c0_0), (.slice A0_1 l0_1.length c0_1), (.slice A0_2 l0_2.length c0_2)] 45 (0, 0))) ∧ Aside0 (Below w.heap.size w wc))
 case first =>
  have H := HC2.out
  clear HC2
  by_cases c4 : (l0_0.length : Int) > 64
  ·rw [if_pos c4] at H
   have c4b0 : decide (64 < (l0_0.length : Int)) = true := decide_eq_true c4
   have c4b1 : decide (64 < l0_0.length) = true := decide_eq_true (by omega)
   clear c4
   (first | rw [c4b0] | (simp only [i64_w, i32_w]; rw [c4b0]) | skip)
   have H' := Sq.l H
   clear H
   have hcz5_0 : w3.cell? ⟨gb196, 0, none⟩ = some (.slice A0_0 l0_0.length c0_0) := (Sq.o BK196.out 0).trans rfl
   have hcz5_1 : w3.cell? ⟨gb196, 1, none⟩ = some (.slice A0_1 l0_1.length c0_1) := (Sq.o BK196.out 1).trans rfl
   have hcz5_2 : w3.cell? ⟨gb196, 2, none⟩ = some (.slice A0_2 l0_2.length c0_2) := (Sq.o BK196.out 2).trans rfl
   have hfz5_0 := Sq.r BK196.out 0
   have hfz5_1 := Sq.r BK196.out 1
   have hfz5_2 := Sq.r BK196.out 2
   go_wp2
   go_meet
   case rel => exact ⟨_, (true), (by first | rfl | (simp; done) | (simp [*]; done)), H', ⟨by first | omega | exact Nat.le_refl _⟩, ⟨by (with_reducible repeat (first | refine Sq.d ?_ _ | refine Sq.e ?_ | refine Sq.f ?_ _)); exact BK196.out⟩, ⟨by repeat (first | (with_reducible first | exact HB.out | apply Sq.i | apply Sq.j | apply Sq.k | refine Sq.h ?_ GE196.out) | exact HB.out)⟩⟩
  ·rw [if_neg c4] at H
   have c4b0 : decide (64 < (l0_0.length : Int)) = false := decide_eq_false c4
   have c4b1 : decide (64 < l0_0.length) = false := decide_eq_false (by omega)
   clear c4
   (first | rw [c4b0] | (simp only [i64_w, i32_w]; rw [c4b0]) | skip)
   replace H := Option.bind_eq_some_iff.mp H
   obtain ⟨t197, A60, H⟩ := H
   (try dsimp only at H)
   have A6 := Sq.l A60
   clear A60
   by_cases c7 : t197 = true
   ·subst c7
    rw [if_pos rfl] at H
    have H' := Sq.l H
    clear H
    have hcz8_0 : w3.cell? ⟨gb196, 0, none⟩ = some (.slice A0_0 l0_0.length c0_0) := (Sq.o BK196.out 0).trans rfl
    have hcz8_1 : w3.cell? ⟨gb196, 1, none⟩ = some (.slice A0_1 l0_1.length c0_1) := (Sq.o BK196.out 1).trans rfl
    have hcz8_2 : w3.cell? ⟨gb196, 2, none⟩ = some (.slice A0_2 l0_2.length c0_2) := (Sq.o BK196.out 2).trans rfl
    have hfz8_0 := Sq.r BK196.out 0
    have hfz8_1 := Sq.r BK196.out 1
    have hfz8_2 := Sq.r BK196.out 2
    go_wp2_with (first | (go_at_call 49; (with_reducible refine (impl_yin.calls (l0_1.length : Int) 1 8 true _ A6.out).mono ?_); rintro e w' ⟨rfl, ⟨nd, rfl⟩⟩))
    go_meet
    case rel => exact ⟨_, (decide ((l0_2.length : Int) > 1000)), (by first | rfl | (simp; done) | (simp [*]; done)), H', ⟨by first | omega | exact Nat.le_refl _⟩, ⟨by (with_reducible repeat (first | refine Sq.d ?_ _ | refine Sq.e ?_ | refine Sq.f ?_ _)); exact BK196.out⟩, ⟨by repeat (first | (with_reducible first | exact HB.out | apply Sq.i | apply Sq.j | apply Sq.k | refine Sq.h ?_ GE196.out) | exact HB.out)⟩⟩
   ·replace c7 := Bool.eq_false_iff.mpr c7
    subst c7
    rw [if_neg (show ¬ (false = true) by decide)] at H
    have H' := Sq.l H
    clear H
    have hcz9_0 : w3.cell? ⟨gb196, 0, none⟩ = some (.slice A0_0 l0_0.length c0_0) := (Sq.o BK196.out 0).trans rfl
    have hcz9_1 : w3.cell? ⟨gb196, 1, none⟩ = some (.slice A0_1 l0_1.length c0_1) := (Sq.o BK196.out 1).trans rfl
    have hcz9_2 : w3.cell? ⟨gb196, 2, none⟩ = some (.slice A0_2 l0_2.length c0_2) := (Sq.o BK196.out 2).trans rfl
    have hfz9_0 := Sq.r BK196.out 0
    have hfz9_1 := Sq.r BK196.out 1
    have hfz9_2 := Sq.r BK196.out 2
    go_wp2_with (first | (go_at_call 49; (with_reducible refine (impl_yin.calls (l0_1.length : Int) 1 8 false _ A6.out).mono ?_); rintro e w' ⟨rfl, ⟨nd, rfl⟩⟩))
    go_meet
    case rel => exact ⟨_, (true), (by first | rfl | (simp; done) | (simp [*]; done)), H', ⟨by first | omega | exact Nat.le_refl _⟩, ⟨by (with_reducible repeat (first | refine Sq.d ?_ _ | refine Sq.e ?_ | refine Sq.f ?_ _)); exact BK196.out⟩, ⟨by repeat (first | (with_reducible first | exact HB.out | apply Sq.i | apply Sq.j | apply Sq.k | refine Sq.h ?_ GE196.out) | exact HB.out)⟩⟩
 case rest =>
  clear HC2; try clear c1; try clear p2; try clear c4; try clear c4b0; try clear c4b1; try clear c7; try clear hcz5_0; try clear hcz5_1; try clear hcz5_2; try clear hcz8_0; try clear hcz8_1; try clear hcz8_2; try clear hcz9_0; try clear hcz9_1; try clear hcz9_2; try clear hfz5_0; try clear hfz5_1; try clear hfz5_2; try clear hfz8_0; try clear hfz8_1; try clear hfz8_2; try clear hfz9_0; try clear hfz9_1; try clear hfz9_2
  obtain ⟨kq, x32_1, rfl, HA, HJ1, BK196, HB⟩ := hcut
  cases kq with
  | zero => exact absurd HA.out (by simp [impl_RouterFault.j0])
  | succ kj1 =>
   have H := HA.out
   clear HA
   simp only [impl_RouterFault.j0] at H
   have HC10 := Sq.l H
   clear H
   go_upto_if 32 with (fail)
   have H := HC10.out
   clear HC10
   by_cases c11 : x32_1 = true
   ·subst c11
    rw [if_pos rfl] at H
    obtain rfl := Option.some.inj H
    go_wp2
    go_ret
    exact ⟨by first | rfl | (simp [errW_none, errW_some] <;> rfl) | (simp [*, errW_none, errW_some] <;> rfl), by repeat (first | (with_reducible first | exact HB.out | apply Sq.i | apply Sq.j | apply Sq.k | refine Sq.h ?_ GE196.out) | exact HB.out)⟩
   ·replace c11 := Bool.eq_false_iff.mpr c11
    subst c11
    rw [if_neg (show ¬ (false = true) by decide)] at H
    have H' := Sq.l H
    clear H
    have hcz12_0 : wc.cell? ⟨gb196, 0, none⟩ = some (.slice A0_0 l0_0.length c0_0) := (Sq.o BK196.out 0).trans rfl
    have hcz12_1 : wc.cell? ⟨gb196, 1, none⟩ = some (.slice A0_1 l0_1.length c0_1) := (Sq.o BK196.out 1).trans rfl
    have hcz12_2 : wc.cell? ⟨gb196, 2, none⟩ = some (.slice A0_2 l0_2.length c0_2) := (Sq.o BK196.out 2).trans rfl
    have hfz12_0 := Sq.r BK196.out 0
    have hfz12_1 := Sq.r BK196.out 1
    have hfz12_2 := Sq.r BK196.out 2
    go_wp2
    go_loopg [37] kj1 (fun kq v37 w' => ∃ (x37_2 : Int), v37 = .int .i64 x37_2 ∧ Aside0 (impl_RouterFault.l0 kq l0_0 (l0_0.length : Int) x37_2 l0_0 l0_1 l0_2 = some r) ∧ Aside0 (kq ≤ kj1) ∧ Aside0 (w'.heap[gb196]? = some (.cells #[(.slice A0_0 l0_0.length c0_0), (.slice A0_1 l0_1.length c0_1), (.slice A0_2 l0_2.length c0_2)] 45 (0, 0))) ∧ Aside0 (Below w.heap.size w w'))
    case atStart => exact ⟨(0), (by first | rfl | (simp; done) | (simp [*]; done)), H', ⟨Nat.le_refl _⟩, ⟨by (with_reducible repeat (first | refine Sq.d ?_ _ | refine Sq.e ?_ | refine Sq.f ?_ _)); exact BK196.out⟩, ⟨by repeat (first | (with_reducible first | exact HB.out | apply Sq.i | apply Sq.j | apply Sq.k | refine Sq.h ?_ GE196.out) | exact HB.out)⟩⟩
    case round =>
     clear H'
     try clear c1; try clear p2; try clear c4; try clear c4b0; try clear c4b1; try clear c7; try clear c11; try clear hcz12_0; try clear hcz12_1; try clear hcz12_2; try clear hcz5_0; try clear hcz5_1; try clear hcz5_2; try clear hcz8_0; try clear hcz8_1; try clear hcz8_2; try clear hcz9_0; try clear hcz9_1; try clear hcz9_2; try clear hfz12_0; try clear hfz12_1; try clear hfz12_2; try clear hfz5_0; try clear hfz5_1; try clear hfz5_2; try clear hfz8_0; try clear hfz8_1; try clear hfz8_2; try clear hfz9_0; try clear hfz9_1; try clear hfz9_2; try clear p2
     obtain ⟨x37_2, rfl, HA, HK2, BK196, HB⟩ := hrel
     cases gk with
     | zero => exact absurd HA.out (by simp [impl_RouterFault.l0])
     | succ k2 =>
      have H := HA.out
      clear HA
      simp only [impl_RouterFault.l0] at H
      have HC13 := Sq.l H
      clear H
      go_upto_if 38 with (fail)
      have H := HC13.out
      clear HC13
      by_cases c14 : x37_2 < (l0_0.length : Int)
      ·rw [if_pos c14] at H
       have c14b0 : decide (x37_2 < (l0_0.length : Int)) = true := decide_eq_true c14
       clear c14
       (first | rw [c14b0] | (simp only [i64_w, i32_w]; rw [c14b0]) | skip)
       by_cases c15 : 0 ≤ x37_2
       ·rw [if_pos c15] at H
        have c15b0 : decide (0 ≤ x37_2) = true := decide_eq_true c15
        clear c15
        by_cases c16 : x37_2 < (l0_0.length : Int)
        ·rw [if_pos c16] at H
         have c16b0 : decide (x37_2 < (l0_0.length : Int)) = true := decide_eq_true c16
         clear c16
         replace H := Option.bind_eq_some_iff.mp H
         obtain ⟨t200, A170, H⟩ := H
         (try dsimp only at H)
         have A17 := Sq.l A170
         clear A170
         by_cases c18 : t200 = true
         ·subst c18
          rw [if_pos rfl] at H
          replace H := Option.bind_eq_some_iff.mp H
          obtain ⟨t201, A190, H⟩ := H
          (try dsimp only at H)
          have A19 := Sq.l A190
          clear A190
          have HC20 := Sq.l H
          clear H
          have p198 : 0 ≤ (x37_2 : Int) := of_decide_eq_true (by first | (with_reducible assumption) | assumption)
          have q198 : x37_2 < (l0_0.length : Int) := of_decide_eq_true (by first | (with_reducible assumption) | assumption)
          obtain ⟨ad198, e198, hx198_0, hx198_1, hx198_2, hx198_3, hx198_4⟩ := at_T107 HR0_0.out x37_2 p198 q198
          cases e198
          replace hx198_0 := (HB.out.cell (World.block_lt_of_cell? w _ hx198_0)).trans hx198_0
          replace hx198_1 := (HB.out.cell (World.block_lt_of_cell? w _ hx198_1)).trans hx198_1
          replace hx198_2 := (HB.out.cell (World.block_lt_of_cell? w _ hx198_2)).trans hx198_2
          replace hx198_3 := (HB.out.cell (World.block_lt_of_cell? w _ hx198_3)).trans hx198_3
          replace hx198_4 := (HB.out.cell (World.block_lt_of_cell? w _ hx198_4)).trans hx198_4
          replace p198 := eq_true p198; replace q198 := eq_true q198
          go_upto_if 52 with (first | ((with_reducible refine gate_dst (N := 6) rfl ?_); (try (refine gate_guard (by rfl) ?_; dsimp only)); refine box_event ?hg (N := 6) ?hd (cs := #[.int .i64 0, .int .i64 0, .bool false, .bool false, .bool false]) (t := 107) ?hr ?_; (case hd => rfl); (case hg => rfl); (case hr => first | (go_simp; done) | (go_simp; rfl)); intro gb199 hg w21 hbox hb; have n0_ := Sq.l (Sq.m (g := gb196) (o := .cells #[.slice (some ad198) l0_0.length c0_0, .slice A0_1 l0_1.length c0_1, .slice A0_2 l0_2.length c0_2] 45 (0, 0)) (by (with_reducible repeat (first | refine Sq.d ?_ _ | refine Sq.e ?_ | refine Sq.f ?_ _)); exact BK196.out) hb); have n1_ := Sq.l (Sq.a4 (by repeat (first | (with_reducible first | exact HB.out | apply Sq.i | apply Sq.j | apply Sq.k | refine Sq.h ?_ GE196.out) | exact HB.out)) hb); have n2_ := Sq.l (hbox); have n3_ := Sq.l ((by rw [hg]; exact (Sq.a5 (by repeat (first | (with_reducible first | exact HB.out | apply Sq.i | apply Sq.j | apply Sq.k | refine Sq.h ?_ GE196.out) | exact HB.out))) : w.heap.size ≤ gb199)); have n4_ := Sq.l ((by rw [hg]; exact (Sq.a5 (by repeat (first | (with_reducible first | exact HB.out | apply Sq.i | apply Sq.j | apply Sq.k | refine Sq.h ?_ GE196.out) | exact HB.out))) : w.heap.size ≤ gb199)); have n5_ := Sq.l ((by rw [hg]; exact Nat.ne_of_lt (blk_lt (g := gb196) (o := .cells #[.slice (some ad198) l0_0.length c0_0, .slice A0_1 l0_1.length c0_1, .slice A0_2 l0_2.length c0_2] 45 (0, 0)) (by (with_reducible repeat (first | refine Sq.d ?_ _ | refine Sq.e ?_ | refine Sq.f ?_ _)); exact BK196.out)) : gb196 ≠ gb199)); have n6_ := Sq.l ((by rw [hg]; exact Nat.ne_of_gt (blk_lt (g := gb196) (o := .cells #[.slice (some ad198) l0_0.length c0_0, .slice A0_1 l0_1.length c0_1, .slice A0_2 l0_2.length c0_2] 45 (0, 0)) (by (with_reducible repeat (first | refine Sq.d ?_ _ | refine Sq.e ?_ | refine Sq.f ?_ _)); exact BK196.out)) : gb199 ≠ gb196)); clear BK196; clear HB; have BK196 := n0_; have HB := n1_; have BK199 := n2_; have GW199 := n3_; have GE199 := n4_; have NB196_199 := n5_; have NB199_196 := n6_; clear n0_ n1_ n2_ n3_ n4_ n5_ n6_; clear hb hbox hg; have hnb22 := NB199_196.out; have hnc22 := NB196_199.out; have hcz23_0 : w21.cell? ⟨gb199, 0, none⟩ = some (.int .i64 0) := (Sq.o BK199.out 0).trans rfl; have hcz23_1 : w21.cell? ⟨gb199, 1, none⟩ = some (.int .i64 0) := (Sq.o BK199.out 1).trans rfl; have hcz23_2 : w21.cell? ⟨gb199, 2, none⟩ = some (.bool false) := (Sq.o BK199.out 2).trans rfl; have hcz23_3 : w21.cell? ⟨gb199, 3, none⟩ = some (.bool false) := (Sq.o BK199.out 3).trans rfl; have hcz23_4 : w21.cell? ⟨gb199, 4, none⟩ = some (.bool false) := (Sq.o BK199.out 4).trans rfl; have hfz23_0 := Sq.r BK199.out 0; have hfz23_1 := Sq.r BK199.out 1; have hfz23_2 := Sq.r BK199.out 2; have hfz23_3 := Sq.r BK199.out 3; have hfz23_4 := Sq.r BK199.out 4) | (go_at_call 63; (with_reducible refine (impl_RouterFault_1.calls gb196 ((rd_T107 l0_0 x37_2).f0) (some ad198) c0_0 l0_0 A0_1 c0_1 l0_1 A0_2 c0_2 l0_2 true _ ?side1 A17.out).mono ?_); (case side1 => exact (by (with_reducible repeat (first | refine Sq.d ?_ _ | refine Sq.e ?_ | refine Sq.f ?_ _)); refine Sq.B5 ?_ NB196_199.out; (with_reducible repeat (first | refine Sq.d ?_ _ | refine Sq.e ?_ | refine Sq.f ?_ _)); exact BK196.out)); rintro e w24 ⟨rfl, hb⟩; have n0_ := Sq.l (Sq.m (g := gb196) (o := .cells #[.slice (some ad198) l0_0.length c0_0, .slice A0_1 l0_1.length c0_1, .slice A0_2 l0_2.length c0_2] 45 (0, 0)) (by (with_reducible repeat (first | refine Sq.d ?_ _ | refine Sq.e ?_ | refine Sq.f ?_ _)); refine Sq.B5 ?_ NB196_199.out; (with_reducible repeat (first | refine Sq.d ?_ _ | refine Sq.e ?_ | refine Sq.f ?_ _)); exact BK196.out) hb); have n1_ := Sq.l (Sq.m (g := gb199) (o := .cells #[.int .i64 ((rd_T107 l0_0 x37_2).f0), .int .i64 ((rd_T107 l0_0 x37_2).f1), .bool ((rd_T107 l0_0 x37_2).f2), .bool ((rd_T107 l0_0 x37_2).f3), .bool ((rd_T107 l0_0 x37_2).f4)] 107 (0, 0)) (by (with_reducible repeat (first | refine Sq.d ?_ _ | refine Sq.e ?_ | refine Sq.f ?_ _)); refine Sq.v (cs := #[.int .i64 ((rd_T107 l0_0 x37_2).f0), .int .i64 ((rd_T107 l0_0 x37_2).f1), .bool ((rd_T107 l0_0 x37_2).f2), .bool ((rd_T107 l0_0 x37_2).f3), .bool false]) ?_ 4 _ rfl; (with_reducible repeat (first | refine Sq.d ?_ _ | refine Sq.e ?_ | refine Sq.f ?_ _)); refine Sq.v (cs := #[.int .i64 ((rd_T107 l0_0 x37_2).f0), .int .i64 ((rd_T107 l0_0 x37_2).f1), .bool ((rd_T107 l0_0 x37_2).f2), .bool false, .bool false]) ?_ 3 _ rfl; (with_reducible repeat (first | refine Sq.d ?_ _ | refine Sq.e ?_ | refine Sq.f ?_ _)); refine Sq.v (cs := #[.int .i64 ((rd_T107 l0_0 x37_2).f0), .int .i64 ((rd_T107 l0_0 x37_2).f1), .bool false, .bool false, .bool false]) ?_ 2 _ rfl; (with_reducible repeat (first | refine Sq.d ?_ _ | refine Sq.e ?_ | refine Sq.f ?_ _)); refine Sq.v (cs := #[.int .i64 ((rd_T107 l0_0 x37_2).f0), .int .i64 0, .bool false, .bool false, .bool false]) ?_ 1 _ rfl; (with_reducible repeat (first | refine Sq.d ?_ _ | refine Sq.e ?_ | refine Sq.f ?_ _)); refine Sq.v (cs := #[.int .i64 0, .int .i64 0, .bool false, .bool false, .bool false]) ?_ 0 _ rfl; (with_reducible repeat (first | refine Sq.d ?_ _ | refine Sq.e ?_ | refine Sq.f ?_ _)); exact BK199.out) hb); have n2_ := Sq.l (Sq.a4 (by repeat (first | (with_reducible first | exact HB.out | apply Sq.i | apply Sq.j | apply Sq.k | refine Sq.h ?_ GE196.out | refine Sq.h ?_ GE199.out) | exact HB.out)) hb); clear BK196; clear BK199; clear HB; have BK196 := n0_; have BK199 := n1_; have HB := n2_; clear n0_ n1_ n2_; (try clear hb); (try clear hb2); (try clear hk); (try clear hi); have hcz25_0 : w24.cell? ⟨gb199, 0, none⟩ = some (.int .i64 ((rd_T107 l0_0 x37_2).f0)) := (Sq.o BK199.out 0).trans rfl; have hcz25_1 : w24.cell? ⟨gb199, 1, none⟩ = some (.int .i64 ((rd_T107 l0_0 x37_2).f1)) := (Sq.o BK199.out 1).trans rfl; have hcz25_2 : w24.cell? ⟨gb199, 2, none⟩ = some (.bool ((rd_T107 l0_0 x37_2).f2)) := (Sq.o BK199.out 2).trans rfl; have hcz25_3 : w24.cell? ⟨gb199, 3, none⟩ = some (.bool ((rd_T107 l0_0 x37_2).f3)) := (Sq.o BK199.out 3).trans rfl; have hcz25_4 : w24.cell? ⟨gb199, 4, none⟩ = some (.bool ((rd_T107 l0_0 x37_2).f4)) := (Sq.o BK199.out 4).trans rfl; have hfz25_0 := Sq.r BK199.out 0; have hfz25_1 := Sq.r BK199.out 1; have hfz25_2 := Sq.r BK199.out 2; have hfz25_3 := Sq.r BK199.out 3; have hfz25_4 := Sq.r BK199.out 4) | (go_at_call 64; (with_reducible refine (impl_RouterFault_2.calls ((rd_T107 l0_0 x37_2).f1) t201 _ A19.out).mono ?_); rintro e w' ⟨rfl, ⟨nd, rfl⟩⟩))
          (try simp only [Act.put, List.setIfInBounds_toArray, List.set_cons_zero, List.set_cons_succ])
          have H := HC20.out
          clear HC20
          by_cases c26 : t201 = true
          ·subst c26
           rw [if_pos rfl] at H
           have H' := Sq.l H
           clear H
           go_wp2
           go_roundg k2
           case measure => have := HJ1.out; have := HK2.out; omega
           case rel => exact ⟨(wrap64 (x37_2 + 1)), (by first | rfl | (simp; done) | (simp [*]; done)), H', ⟨by have := HJ1.out; have := HK2.out; omega⟩, ⟨by (with_reducible repeat (first | refine Sq.d ?_ _ | refine Sq.e ?_ | refine Sq.f ?_ _)); exact BK196.out⟩, ⟨by repeat (first | (with_reducible first | exact HB.out | apply Sq.i | apply Sq.j | apply Sq.k | refine Sq.h ?_ GE196.out | refine Sq.h ?_ GE199.out) | exact HB.out)⟩⟩
          ·replace c26 := Bool.eq_false_iff.mpr c26
           subst c26
           rw [if_neg (show ¬ (false = true) by decide)] at H
           obtain rfl := Option.some.inj H
           go_wp2
           go_ret
           exact ⟨by first | rfl | (simp [errW_none, errW_some] <;> rfl) | (simp [*, errW_none, errW_some] <;> rfl), by repeat (first | (with_reducible first | exact HB.out | apply Sq.i | apply Sq.j | apply Sq.k | refine Sq.h ?_ GE196.out | refine Sq.h ?_ GE199.out) | exact HB.out)⟩
         ·replace c18 := Bool.eq_false_iff.mpr c18
          subst c18
          rw [if_neg (show ¬ (false = true) by decide)] at H
          obtain rfl := Option.some.inj H
          have p198 : 0 ≤ (x37_2 : Int) := of_decide_eq_true (by first | (with_reducible assumption) | assumption)
          have q198 : x37_2 < (l0_0.length : Int) := of_decide_eq_true (by first | (with_reducible assumption) | assumption)
          obtain ⟨ad198, e198, hx198_0, hx198_1, hx198_2, hx198_3, hx198_4⟩ := at_T107 HR0_0.out x37_2 p198 q198
          cases e198
          replace hx198_0 := (HB.out.cell (World.block_lt_of_cell? w _ hx198_0)).trans hx198_0
          replace hx198_1 := (HB.out.cell (World.block_lt_of_cell? w _ hx198_1)).trans hx198_1
          replace hx198_2 := (HB.out.cell (World.block_lt_of_cell? w _ hx198_2)).trans hx198_2
          replace hx198_3 := (HB.out.cell (World.block_lt_of_cell? w _ hx198_3)).trans hx198_3
          replace hx198_4 := (HB.out.cell (World.block_lt_of_cell? w _ hx198_4)).trans hx198_4
          replace p198 := eq_true p198; replace q198 := eq_true q198
          go_wp2_with (first | ((with_reducible refine gate_dst (N := 6) rfl ?_); (try (refine gate_guard (by rfl) ?_; dsimp only)); refine box_event ?hg (N := 6) ?hd (cs := #[.int .i64 0, .int .i64 0, .bool false, .bool false, .bool false]) (t := 107) ?hr ?_; (case hd => rfl); (case hg => rfl); (case hr => first | (go_simp; done) | (go_simp; rfl)); intro gb199 hg w27 hbox hb; have n0_ := Sq.l (Sq.m (g := gb196) (o := .cells #[.slice (some ad198) l0_0.length c0_0, .slice A0_1 l0_1.length c0_1, .slice A0_2 l0_2.length c0_2] 45 (0, 0)) (by (with_reducible repeat (first | refine Sq.d ?_ _ | refine Sq.e ?_ | refine Sq.f ?_ _)); exact BK196.out) hb); have n1_ := Sq.l (Sq.a4 (by repeat (first | (with_reducible first | exact HB.out | apply Sq.i | apply Sq.j | apply Sq.k | refine Sq.h ?_ GE196.out) | exact HB.out)) hb); have n2_ := Sq.l (hbox); have n3_ := Sq.l ((by rw [hg]; exact (Sq.a5 (by repeat (first | (with_reducible first | exact HB.out | apply Sq.i | apply Sq.j | apply Sq.k | refine Sq.h ?_ GE196.out) | exact HB.out))) : w.heap.size ≤ gb199)); have n4_ := Sq.l ((by rw [hg]; exact (Sq.a5 (by repeat (first | (with_reducible first | exact HB.out | apply Sq.i | apply Sq.j | apply Sq.k | refine Sq.h ?_ GE196.out) | exact HB.out))) : w.heap.size ≤ gb199)); have n5_ := Sq.l ((by rw [hg]; exact Nat.ne_of_lt (blk_lt (g := gb196) (o := .cells #[.slice (some ad198) l0_0.length c0_0, .slice A0_1 l0_1.length c0_1, .slice A0_2 l0_2.length c0_2] 45 (0, 0)) (by (with_reducible repeat (first | refine Sq.d ?_ _ | refine Sq.e ?_ | refine Sq.f ?_ _)); exact BK196.out)) : gb196 ≠ gb199)); have n6_ := Sq.l ((by rw [hg]; exact Nat.ne_of_gt (blk_lt (g := gb196) (o := .cells #[.slice (some ad198) l0_0.length c0_0, .slice A0_1 l0_1.length c0_1, .slice A0_2 l0_2.length c0_2] 45 (0, 0)) (by (with_reducible repeat (first | refine Sq.d ?_ _ | refine Sq.e ?_ | refine Sq.f ?_ _)); exact BK196.out)) : gb199 ≠ gb196)); clear BK196; clear HB; have BK196 := n0_; have HB := n1_; have BK199 := n2_; have GW199 := n3_; have GE199 := n4_; have NB196_199 := n5_; have NB199_196 := n6_; clear n0_ n1_ n2_ n3_ n4_ n5_ n6_; clear hb hbox hg; have hnb28 := NB199_196.out; have hnc28 := NB196_199.out; have hcz29_0 : w27.cell? ⟨gb199, 0, none⟩ = some (.int .i64 0) := (Sq.o BK199.out 0).trans rfl; have hcz29_1 : w27.cell? ⟨gb199, 1, none⟩ = some (.int .i64 0) := (Sq.o BK199.out 1).trans rfl; have hcz29_2 : w27.cell? ⟨gb199, 2, none⟩ = some (.bool false) := (Sq.o BK199.out 2).trans rfl; have hcz29_3 : w27.cell? ⟨gb199, 3, none⟩ = some (.bool false) := (Sq.o BK199.out 3).trans rfl; have hcz29_4 : w27.cell? ⟨gb199, 4, none⟩ = some (.bool false) := (Sq.o BK199.out 4).trans rfl; have hfz29_0 := Sq.r BK199.out 0; have hfz29_1 := Sq.r BK199.out 1; have hfz29_2 := Sq.r BK199.out 2; have hfz29_3 := Sq.r BK199.out 3; have hfz29_4 := Sq.r BK199.out 4) | (go_at_call 63; (with_reducible refine (impl_RouterFault_1.calls gb196 ((rd_T107 l0_0 x37_2).f0) (some ad198) c0_0 l0_0 A0_1 c0_1 l0_1 A0_2 c0_2 l0_2 false _ ?side1 A17.out).mono ?_); (case side1 => exact (by (with_reducible repeat (first | refine Sq.d ?_ _ | refine Sq.e ?_ | refine Sq.f ?_ _)); refine Sq.B5 ?_ NB196_199.out; (with_reducible repeat (first | refine Sq.d ?_ _ | refine Sq.e ?_ | refine Sq.f ?_ _)); exact BK196.out)); rintro e w30 ⟨rfl, hb⟩; have n0_ := Sq.l (Sq.m (g := gb196) (o := .cells #[.slice (some ad198) l0_0.length c0_0, .slice A0_1 l0_1.length c0_1, .slice A0_2 l0_2.length c0_2] 45 (0, 0)) (by (with_reducible repeat (first | refine Sq.d ?_ _ | refine Sq.e ?_ | refine Sq.f ?_ _)); refine Sq.B5 ?_ NB196_199.out; (with_reducible repeat (first | refine Sq.d ?_ _ | refine Sq.e ?_ | refine Sq.f ?_ _)); exact BK196.out) hb); have n1_ := Sq.l (Sq.m (g := gb199) (o := .cells #[.int .i64 ((rd_T107 l0_0 x37_2).f0), .int .i64 ((rd_T107 l0_0 x37_2).f1), .bool ((rd_T107 l0_0 x37_2).f2), .bool ((rd_T107 l0_0 x37_2).f3), .bool ((rd_T107 l0_0 x37_2).f4)] 107 (0, 0)) (by (with_reducible repeat (first | refine Sq.d ?_ _ | refine Sq.e ?_ | refine Sq.f ?_ _)); refine Sq.v (cs := #[.int .i64 ((rd_T107 l0_0 x37_2).f0), .int .i64 ((rd_T107 l0_0 x37_2).f1), .bool ((rd_T107 l0_0 x37_2).f2), .bool ((rd_T107 l0_0 x37_2).f3), .bool false]) ?_ 4 _ rfl; (with_reducible repeat (first | refine Sq.d ?_ _ | refine Sq.e ?_ | refine Sq.f ?_ _)); refine Sq.v (cs := #[.int .i64 ((rd_T107 l0_0 x37_2).f0), .int .i64 ((rd_T107 l0_0 x37_2).f1), .bool ((rd_T107 l0_0 x37_2).f2), .bool false, .bool false]) ?_ 3 _ rfl; (with_reducible repeat (first | refine Sq.d ?_ _ | refine Sq.e ?_ | refine Sq.f ?_ _)); refine Sq.v (cs := #[.int .i64 ((rd_T107 l0_0 x37_2).f0), .int .i64 ((rd_T107 l0_0 x37_2).f1), .bool false, .bool false, .bool false]) ?_ 2 _ rfl; (with_reducible repeat (first | refine Sq.d ?_ _ | refine Sq.e ?_ | refine Sq.f ?_ _)); refine Sq.v (cs := #[.int .i64 ((rd_T107 l0_0 x37_2).f0), .int .i64 0, .bool false, .bool false, .bool false]) ?_ 1 _ rfl; (with_reducible repeat (first | refine Sq.d ?_ _ | refine Sq.e ?_ | refine Sq.f ?_ _)); refine Sq.v (cs := #[.int .i64 0, .int .i64 0, .bool false, .bool false, .bool false]) ?_ 0 _ rfl; (with_reducible repeat (first | refine Sq.d ?_ _ | refine Sq.e ?_ | refine Sq.f ?_ _)); exact BK199.out) hb); have n2_ := Sq.l (Sq.a4 (by repeat (first | (with_reducible first | exact HB.out | apply Sq.i | apply Sq.j | apply Sq.k | refine Sq.h ?_ GE196.out | refine Sq.h ?_ GE199.out) | exact HB.out)) hb); clear BK196; clear BK199; clear HB; have BK196 := n0_; have BK199 := n1_; have HB := n2_; clear n0_ n1_ n2_; (try clear hb); (try clear hb2); (try clear hk); (try clear hi)))
          go_ret
          exact ⟨by first | rfl | (simp [errW_none, errW_some] <;> rfl) | (simp [*, errW_none, errW_some] <;> rfl), by repeat (first | (with_reducible first | exact HB.out | apply Sq.i | apply Sq.j | apply Sq.k | refine Sq.h ?_ GE196.out | refine Sq.h ?_ GE199.out) | exact HB.out)⟩
        ·rw [if_neg c16] at H
         exact absurd H (by simp)
       ·rw [if_neg c15] at H
        exact absurd H (by simp)
      ·rw [if_neg c14] at H
       have c14b0 : decide (x37_2 < (l0_0.length : Int)) = false := decide_eq_false c14
       clear c14
       (first | rw [c14b0] | (simp only [i64_w, i32_w]; rw [c14b0]) | skip)
       have H' := Sq.l H
       clear H
       have hcz31_0 : wr.cell? ⟨gb196, 0, none⟩ = some (.slice A0_0 l0_0.length c0_0) := (Sq.o BK196.out 0).trans rfl
       have hcz31_1 : wr.cell? ⟨gb196, 1, none⟩ = some (.slice A0_1 l0_1.length c0_1) := (Sq.o BK196.out 1).trans rfl
       have hcz31_2 : wr.cell? ⟨gb196, 2, none⟩ = some (.slice A0_2 l0_2.length c0_2) := (Sq.o BK196.out 2).trans rfl
       have hfz31_0 := Sq.r BK196.out 0
       have hfz31_1 := Sq.r BK196.out 1
       have hfz31_2 := Sq.r BK196.out 2
       go_wp2
       go_loopg [57] k2 (fun kq v57 w' => ∃ (x57_3 : Int), v57 = .int .i64 x57_3 ∧ Aside0 (impl_RouterFault.l1 kq l0_1 (l0_1.length : Int) x57_3 l0_0 l0_1 l0_2 = some r) ∧ Aside0 (kq ≤ k2) ∧ Aside0 (w'.heap[gb196]? = some (.cells #[(.slice A0_0 l0_0.length c0_0), (.slice A0_1 l0_1.length c0_1), (.slice A0_2 l0_2.length c0_2)] 45 (0, 0))) ∧ Aside0 (Below w.heap.size w w'))
       case atStart => exact ⟨(0), (by first | rfl | (simp; done) | (simp [*]; done)), H', ⟨Nat.le_refl _⟩, ⟨by (with_reducible repeat (first | refine Sq.d ?_ _ | refine Sq.e ?_ | refine Sq.f ?_ _)); exact BK196.out⟩, ⟨by repeat (first | (with_reducible first | exact HB.out | apply Sq.i | apply Sq.j | apply Sq.k | refine Sq.h ?_ GE196.out) | exact HB.out)⟩⟩
       case round =>
        clear H'
        try clear c1; try clear p1; try clear q1; try clear hx1; try clear c2; try clear p2; try clear c4; try clear c4b0; try clear c4b1; try clear p6; try clear c7; try clear c11; try clear c14; try clear c14b0; try clear c15; try clear c15b0; try clear c16; try clear c16b0; try clear c18; try clear p19; try clear q19; try clear hx19; try clear c22; try clear c26; try clear c28; try clear hcz12_0; try clear hcz12_1; try clear hcz12_2; try clear hcz23_0; try clear hcz23_1; try clear hcz23_2; try clear hcz23_3; try clear hcz23_4; try clear hcz25_0; try clear hcz25_1; try clear hcz25_2; try clear hcz25_3; try clear hcz25_4; try clear hcz29_0; try clear hcz29_1; try clear hcz29_2; try clear hcz29_3; try clear hcz29_4; try clear hcz31_0; try clear hcz31_1; try clear hcz31_2; try clear hcz5_0; try clear hcz5_1; try clear hcz5_2; try clear hcz8_0; try clear hcz8_1; try clear hcz8_2; try clear hcz9_0; try clear hcz9_1; try clear hcz9_2; try clear hfz12_0; try clear hfz12_1; try clear hfz12_2; try clear hfz23_0; try clear hfz23_1; try clear hfz23_2; try clear hfz23_3; try clear hfz23_4; try clear hfz25_0; try clear hfz25_1; try clear hfz25_2; try clear hfz25_3; try clear hfz25_4; try clear hfz29_0; try clear hfz29_1; try clear hfz29_2; try clear hfz29_3; try clear hfz29_4; try clear hfz31_0; try clear hfz31_1; try clear hfz31_2; try clear hfz5_0; try clear hfz5_1; try clear hfz5_2; try clear hfz8_0; try clear hfz8_1; try clear hfz8_2; try clear hfz9_0; try clear hfz9_1; try clear hfz9_2; try clear hx198_0; try clear hx198_1; try clear hx198_2; try clear hx198_3; try clear hx198_4; try clear p198; try clear p2; try clear q198
        obtain ⟨x57_3, rfl, HA, HK3, BK196, HB⟩ := hrel
        cases gk with
        | zero => exact absurd HA.out (by simp [impl_RouterFault.l1])
        | succ k3 =>
         have H := HA.out
         clear HA
         simp only [impl_RouterFault.l1] at H
         have HC32 := Sq.l H
         clear H
         go_upto_if 58 with (fail)
         have H := HC32.out
         clear HC32
         by_cases c33 : x57_3 < (l0_1.length : Int)
         ·rw [if_pos c33] at H
          have c33b0 : decide (x57_3 < (l0_1.length : Int)) = true := decide_eq_true c33
          clear c33
          (first | rw [c33b0] | (simp only [i64_w, i32_w]; rw [c33b0]) | skip)
          by_cases c34 : 0 ≤ x57_3
          ·rw [if_pos c34] at H
           have c34b0 : decide (0 ≤ x57_3) = true := decide_eq_true c34
           clear c34
           by_cases c35 : x57_3 < (l0_1.length : Int)
           ·rw [if_pos c35] at H
            have c35b0 : decide (x57_3 < (l0_1.length : Int)) = true := decide_eq_true c35
            clear c35
            have HC36 := Sq.l H
            clear H
            have p202 : 0 ≤ (x57_3 : Int) := of_decide_eq_true (by first | (with_reducible assumption) | assumption)
            have q202 : x57_3 < (l0_1.length : Int) := of_decide_eq_true (by first | (with_reducible assumption) | assumption)
            obtain ⟨ad202, A202_1, c202_1, A202_2, c202_2, e202, hx202_0, hx202_1, hx202_2, hl202_1, hi202_1, hl202_2, hi202_2⟩ := at_T111 HR0_1.out x57_3 p202 q202
            cases e202
            replace hx202_0 := (HB.out.cell (World.block_lt_of_cell? w _ hx202_0)).trans hx202_0
            replace hx202_1 := (HB.out.cell (World.block_lt_of_cell? w _ hx202_1)).trans hx202_1
            replace hx202_2 := (HB.out.cell (World.block_lt_of_cell? w _ hx202_2)).trans hx202_2
            have HR202_1 := Sq.l hi202_1
            have HC202_1 := Sq.l hl202_1
            clear hi202_1 hl202_1
            have HR202_2 := Sq.l hi202_2
            have HC202_2 := Sq.l hl202_2
            clear hi202_2 hl202_2; replace p202 := eq_true p202; replace q202 := eq_true q202
            go_upto_region 14 with (first | ((with_reducible refine gate_dst (N := 8) rfl ?_); (try (refine gate_guard (by rfl) ?_; dsimp only)); refine box_event ?hg (N := 8) ?hd (cs := #[.int .i64 0, .slice none 0 0, .slice none 0 0]) (t := 111) ?hr ?_; (case hd => rfl); (case hg => rfl); (case hr => first | (go_simp; done) | (go_simp; rfl)); intro gb203 hg w37 hbox hb; have n0_ := Sq.l (Sq.m (g := gb196) (o := .cells #[.slice A0_0 l0_0.length c0_0, .slice (some ad202) l0_1.length c0_1, .slice A0_2 l0_2.length c0_2] 45 (0, 0)) (by (with_reducible repeat (first | refine Sq.d ?_ _ | refine Sq.e ?_ | refine Sq.f ?_ _)); exact BK196.out) hb); have n1_ := Sq.l (Sq.a4 (by repeat (first | (with_reducible first | exact HB.out | apply Sq.i | apply Sq.j | apply Sq.k | refine Sq.h ?_ GE196.out) | exact HB.out)) hb); have n2_ := Sq.l (hbox); have n3_ := Sq.l ((by rw [hg]; exact (Sq.a5 (by repeat (first | (with_reducible first | exact HB.out | apply Sq.i | apply Sq.j | apply Sq.k | refine Sq.h ?_ GE196.out) | exact HB.out))) : w.heap.size ≤ gb203)); have n4_ := Sq.l ((by rw [hg]; exact (Sq.a5 (by repeat (first | (with_reducible first | exact HB.out | apply Sq.i | apply Sq.j | apply Sq.k | refine Sq.h ?_ GE196.out) | exact HB.out))) : w.heap.size ≤ gb203)); have n5_ := Sq.l ((by rw [hg]; exact Nat.ne_of_lt (blk_lt (g := gb196) (o := .cells #[.slice A0_0 l0_0.length c0_0, .slice (some ad202) l0_1.length c0_1, .slice A0_2 l0_2.length c0_2] 45 (0, 0)) (by (with_reducible repeat (first | refine Sq.d ?_ _ | refine Sq.e ?_ | refine Sq.f ?_ _)); exact BK196.out)) : gb196 ≠ gb203)); have n6_ := Sq.l ((by rw [hg]; exact Nat.ne_of_gt (blk_lt (g := gb196) (o := .cells #[.slice A0_0 l0_0.length c0_0, .slice (some ad202) l0_1.length c0_1, .slice A0_2 l0_2.length c0_2] 45 (0, 0)) (by (with_reducible repeat (first | refine Sq.d ?_ _ | refine Sq.e ?_ | refine Sq.f ?_ _)); exact BK196.out)) : gb203 ≠ gb196)); clear BK196; clear HB; have BK196 := n0_; have HB := n1_; have BK203 := n2_; have GW203 := n3_; have GE203 := n4_; have NB196_203 := n5_; have NB203_196 := n6_; clear n0_ n1_ n2_ n3_ n4_ n5_ n6_; clear hb hbox hg; have hnb38 := NB203_196.out; have hnc38 := NB196_203.out; have hcz39_0 : w37.cell? ⟨gb203, 0, none⟩ = some (.int .i64 0) := (Sq.o BK203.out 0).trans rfl; have hcz39_1 : w37.cell? ⟨gb203, 1, none⟩ = some (.slice none 0 0) := (Sq.o BK203.out 1).trans rfl; have hcz39_2 : w37.cell? ⟨gb203, 2, none⟩ = some (.slice none 0 0) := (Sq.o BK203.out 2).trans rfl; have hfz39_0 := Sq.r BK203.out 0; have hfz39_1 := Sq.r BK203.out 1; have hfz39_2 := Sq.r BK203.out 2))
            (try simp only [Act.put, List.setIfInBounds_toArray, List.set_cons_zero, List.set_cons_succ])
            go_cut [70] (fun v70 wc => ∃ (kq : Nat) (x70_35 : Bool), v70 = .bool x70_35 ∧ Aside0 (impl_RouterFault.j3 kq l0_1 (l0_1.length : Int) x57_3 x70_35 l0_0 l0_1 l0_2 ((rd_T111 l0_1 x57_3).f0) ((rd_T111 l0_1 x57_3).f1) ((rd_T111 l0_1 x57_3).f2) = some r) ∧ Aside0 (kq ≤ k3) ∧ Aside0 (wc.heap[gb196]? = some (.cells #[(.slice A0_0 l0_0.length c0_0), (.slice (some ad202) l0_1.length c0_1), (.slice A0_2 l0_2.length c0_2)] 45 (0, 0))) ∧ Aside0 (wc.heap[gb203]? = some (.cells #[.int .i64 ((rd_T111 l0_1 x57_3).f0), (.slice A202_1 ((rd_T111 l0_1 x57_3).f1).length c202_1), (.slice A202_2 ((rd_T111 l0_1 x57_3).f2).length c202_2)] 111 (0, 0))) ∧ Aside0 (Below w.heap.size w wc))
            case first =>
             have H := HC36.out
             clear HC36
             replace H := Option.bind_eq_some_iff.mp H
             obtain ⟨t204, A400, H⟩ := H
             (try dsimp only at H)
             have A40 := Sq.l A400
             clear A400
             by_cases c41 : t204 = true
             ·subst c41
              rw [if_pos rfl] at H
              have H' := Sq.l H
              clear H; have hnb42 := NB203_196.out; have hnc42 := NB196_203.out
              have hcz43_0 : w37.cell? ⟨gb203, 0, none⟩ = some (.int .i64 0) := (Sq.o BK203.out 0).trans rfl
              have hcz43_1 : w37.cell? ⟨gb203, 1, none⟩ = some (.slice none 0 0) := (Sq.o BK203.out 1).trans rfl
              have hcz43_2 : w37.cell? ⟨gb203, 2, none⟩ = some (.slice none 0 0) := (Sq.o BK203.out 2).trans rfl
              have hfz43_0 := Sq.r BK203.out 0
              have hfz43_1 := Sq.r BK203.out 1
              have hfz43_2 := Sq.r BK203.out 2
              go_wp2_with (first | ((with_reducible refine gate_callee (f := 49) rfl ?_); refine goesL_ (some 63) rfl rfl Try.func49 (by kernel_rfl) rfl #[.int .i64 ((rd_T111 l0_1 x57_3).f0), .int .i64 0, .int .i64 16] rfl (by (try simp only [List.map_toArray, List.map_cons, List.map_nil]); first | done | rfl | (simp only [List.length_drop, List.length_take]; rfl)) ?_; (with_reducible refine (impl_yin.calls ((rd_T111 l0_1 x57_3).f0) 0 16 true _ A40.out).mono ?_); rintro e w' ⟨rfl, ⟨nd, rfl⟩⟩; refine ⟨_, rfl, ?_⟩))
              go_meet
              case rel => exact ⟨_, (decide ((((rd_T111 l0_1 x57_3).f2).length : Int) > 16)), (by first | rfl | (simp; done) | (simp [*]; done)), H', ⟨by have := HJ1.out; have := HK2.out; have := HK3.out; first | omega | exact Nat.le_refl _⟩, ⟨by (with_reducible repeat (first | refine Sq.d ?_ _ | refine Sq.e ?_ | refine Sq.f ?_ _)); refine Sq.B3 ?_ NB196_203.out; (with_reducible repeat (first | refine Sq.d ?_ _ | refine Sq.e ?_ | refine Sq.f ?_ _)); exact BK196.out⟩, ⟨by (with_reducible repeat (first | refine Sq.d ?_ _ | refine Sq.e ?_ | refine Sq.f ?_ _)); refine Sq.v (cs := #[.int .i64 ((rd_T111 l0_1 x57_3).f0), .slice A202_1 ((rd_T111 l0_1 x57_3).f1).length c202_1, .slice none 0 0]) ?_ 2 _ rfl; (with_reducible repeat (first | refine Sq.d ?_ _ | refine Sq.e ?_ | refine Sq.f ?_ _)); refine Sq.v (cs := #[.int .i64 ((rd_T111 l0_1 x57_3).f0), .slice none 0 0, .slice none 0 0]) ?_ 1 _ rfl; (with_reducible repeat (first | refine Sq.d ?_ _ | refine Sq.e ?_ | refine Sq.f ?_ _)); refine Sq.v (cs := #[.int .i64 0, .slice none 0 0, .slice none 0 0]) ?_ 0 _ rfl; (with_reducible repeat (first | refine Sq.d ?_ _ | refine Sq.e ?_ | refine Sq.f ?_ _)); exact BK203.out⟩, ⟨by repeat (first | (with_reducible first | exact HB.out | apply Sq.i | apply Sq.j | apply Sq.k | refine Sq.h ?_ GE196.out | refine Sq.h ?_ GE203.out) | exact HB.out)⟩⟩
             ·replace c41 := Bool.eq_false_iff.mpr c41
              subst c41
              rw [if_neg (show ¬ (false = true) by decide)] at H
              have H' := Sq.l H
              clear H; have hnb44 := NB203_196.out; have hnc44 := NB196_203.out
              have hcz45_0 : w37.cell? ⟨gb203, 0, none⟩ = some (.int .i64 0) := (Sq.o BK203.out 0).trans rfl
              have hcz45_1 : w37.cell? ⟨gb203, 1, none⟩ = some (.slice none 0 0) := (Sq.o BK203.out 1).trans rfl
              have hcz45_2 : w37.cell? ⟨gb203, 2, none⟩ = some (.slice none 0 0) := (Sq.o BK203.out 2).trans rfl
              have hfz45_0 := Sq.r BK203.out 0
              have hfz45_1 := Sq.r BK203.out 1
              have hfz45_2 := Sq.r BK203.out 2
              go_wp2_with (first | ((with_reducible refine gate_callee (f := 49) rfl ?_); refine goesL_ (some 63) rfl rfl Try.func49 (by kernel_rfl) rfl #[.int .i64 ((rd_T111 l0_1 x57_3).f0), .int .i64 0, .int .i64 16] rfl (by (try simp only [List.map_toArray, List.map_cons, List.map_nil]); first | done | rfl | (simp only [List.length_drop, List.length_take]; rfl)) ?_; (with_reducible refine (impl_yin.calls ((rd_T111 l0_1 x57_3).f0) 0 16 false _ A40.out).mono ?_); rintro e w' ⟨rfl, ⟨nd, rfl⟩⟩; refine ⟨_, rfl, ?_⟩))
              go_meet
              case rel => exact ⟨_, (true), (by first | rfl | (simp; done) | (simp [*]; done)), H', ⟨by have := HJ1.out; have := HK2.out; have := HK3.out; first | omega | exact Nat.le_refl _⟩, ⟨by (with_reducible repeat (first | refine Sq.d ?_ _ | refine Sq.e ?_ | refine Sq.f ?_ _)); refine Sq.B3 ?_ NB196_203.out; (with_reducible repeat (first | refine Sq.d ?_ _ | refine Sq.e ?_ | refine Sq.f ?_ _)); exact BK196.out⟩, ⟨by (with_reducible repeat (first | refine Sq.d ?_ _ | refine Sq.e ?_ | refine Sq.f ?_ _)); refine Sq.v (cs := #[.int .i64 ((rd_T111 l0_1 x57_3).f0), .slice A202_1 ((rd_T111 l0_1 x57_3).f1).length c202_1, .slice none 0 0]) ?_ 2 _ rfl; (with_reducible repeat (first | refine Sq.d ?_ _ | refine Sq.e ?_ | refine Sq.f ?_ _)); refine Sq.v (cs := #[.int .i64 ((rd_T111 l0_1 x57_3).f0), .slice none 0 0, .slice none 0 0]) ?_ 1 _ rfl; (with_reducible repeat (first | refine Sq.d ?_ _ | refine Sq.e ?_ | refine Sq.f ?_ _)); refine Sq.v (cs := #[.int .i64 0, .slice none 0 0, .slice none 0 0]) ?_ 0 _ rfl; (with_reducible repeat (first | refine Sq.d ?_ _ | refine Sq.e ?_ | refine Sq.f ?_ _)); exact BK203.out⟩, ⟨by repeat (first | (with_reducible first | exact HB.out | apply Sq.i | apply Sq.j | apply Sq.k | refine Sq.h ?_ GE196.out | refine Sq.h ?_ GE203.out) | exact HB.out)⟩⟩
            case rest =>
             clear HC36; try clear c1; try clear p1; try clear q1; try clear hx1; try clear c2; try clear p2; try clear q2; try clear hx2; try clear c3; try clear c4; try clear c4b0; try clear c4b1; try clear p6; try clear c7; try clear c11; try clear c14; try clear c14b0; try clear c15; try clear c15b0; try clear c16; try clear c16b0; try clear c18; try clear p19; try clear q19; try clear hx19; try clear c20; try clear p20; try clear q20; try clear hx20; try clear c22; try clear c26; try clear c28; try clear c33; try clear c33b0; try clear c34; try clear c34b0; try clear c35; try clear c35b0; try clear c38; try clear c41; try clear c42; try clear c44; try clear hcz12_0; try clear hcz12_1; try clear hcz12_2; try clear hcz23_0; try clear hcz23_1; try clear hcz23_2; try clear hcz23_3; try clear hcz23_4; try clear hcz25_0; try clear hcz25_1; try clear hcz25_2; try clear hcz25_3; try clear hcz25_4; try clear hcz29_0; try clear hcz29_1; try clear hcz29_2; try clear hcz29_3; try clear hcz29_4; try clear hcz31_0; try clear hcz31_1; try clear hcz31_2; try clear hcz39_0; try clear hcz39_1; try clear hcz39_2; try clear hcz43_0; try clear hcz43_1; try clear hcz43_2; try clear hcz45_0; try clear hcz45_1; try clear hcz45_2; try clear hcz5_0; try clear hcz5_1; try clear hcz5_2; try clear hcz8_0; try clear hcz8_1; try clear hcz8_2; try clear hcz9_0; try clear hcz9_1; try clear hcz9_2; try clear hfz12_0; try clear hfz12_1; try clear hfz12_2; try clear hfz23_0; try clear hfz23_1; try clear hfz23_2; try clear hfz23_3; try clear hfz23_4; try clear hfz25_0; try clear hfz25_1; try clear hfz25_2; try clear hfz25_3; try clear hfz25_4; try clear hfz29_0; try clear hfz29_1; try clear hfz29_2; try clear hfz29_3; try clear hfz29_4; try clear hfz31_0; try clear hfz31_1; try clear hfz31_2; try clear hfz39_0; try clear hfz39_1; try clear hfz39_2; try clear hfz43_0; try clear hfz43_1; try clear hfz43_2; try clear hfz45_0; try clear hfz45_1; try clear hfz45_2; try clear hfz5_0; try clear hfz5_1; try clear hfz5_2; try clear hfz8_0; try clear hfz8_1; try clear hfz8_2; try clear hfz9_0; try clear hfz9_1; try clear hfz9_2; try clear hx198_0; try clear hx198_1; try clear hx198_2; try clear hx198_3; try clear hx198_4; try clear hx202_0; try clear hx202_1; try clear hx202_2; try clear p1; try clear p19; try clear p198; try clear p2; try clear p202; try clear p6; try clear q1; try clear q19; try clear q198; try clear q202
             obtain ⟨kq, x70_35, rfl, HA, HJ35, BK196, BK203, HB⟩ := hcut
             cases kq with
             | zero => exact absurd HA.out (by simp [impl_RouterFault.j3])
             | succ kj35 =>
              have H := HA.out
              clear HA
              simp only [impl_RouterFault.j3] at H
              have HC46 := Sq.l H
              clear H
              go_upto_if 70 with (fail)
              have H := HC46.out
              clear HC46
              by_cases c47 : x70_35 = true
              ·subst c47
               rw [if_pos rfl] at H
               obtain rfl := Option.some.inj H
               go_wp2
               go_ret
               exact ⟨by first | rfl | (simp [errW_none, errW_some] <;> rfl) | (simp [*, errW_none, errW_some] <;> rfl), by repeat (first | (with_reducible first | exact HB.out | apply Sq.i | apply Sq.j | apply Sq.k | refine Sq.h ?_ GE196.out | refine Sq.h ?_ GE203.out) | exact HB.out)⟩
              ·replace c47 := Bool.eq_false_iff.mpr c47
               subst c47
               rw [if_neg (show ¬ (false = true) by decide)] at H
               have H' := Sq.l H
               clear H; have hnb48 := NB203_196.out; have hnc48 := NB196_203.out
               have hcz49_0 : wc.cell? ⟨gb203, 0, none⟩ = some (.int .i64 ((rd_T111 l0_1 x57_3).f0)) := (Sq.o BK203.out 0).trans rfl
               have hcz49_1 : wc.cell? ⟨gb203, 1, none⟩ = some (.slice A202_1 ((rd_T111 l0_1 x57_3).f1).length c202_1) := (Sq.o BK203.out 1).trans rfl
               have hcz49_2 : wc.cell? ⟨gb203, 2, none⟩ = some (.slice A202_2 ((rd_T111 l0_1 x57_3).f2).length c202_2) := (Sq.o BK203.out 2).trans rfl
               have hfz49_0 := Sq.r BK203.out 0
               have hfz49_1 := Sq.r BK203.out 1
               have hfz49_2 := Sq.r BK203.out 2
               go_wp2
               go_loopg [74] kj35 (fun kq v74 w' => ∃ (x74_5 : Int), v74 = .int .i64 x74_5 ∧ Aside0 (impl_RouterFault.l2 kq l0_1 (l0_1.length : Int) x57_3 ((rd_T111 l0_1 x57_3).f1) (((rd_T111 l0_1 x57_3).f1).length : Int) x74_5 l0_0 l0_1 l0_2 ((rd_T111 l0_1 x57_3).f0) ((rd_T111 l0_1 x57_3).f1) ((rd_T111 l0_1 x57_3).f2) = some r) ∧ Aside0 (kq ≤ kj35) ∧ Aside0 (w'.heap[gb196]? = some (.cells #[(.slice A0_0 l0_0.length c0_0), (.slice (some ad202) l0_1.length c0_1), (.slice A0_2 l0_2.length c0_2)] 45 (0, 0))) ∧ Aside0 (w'.heap[gb203]? = some (.cells #[.int .i64 ((rd_T111 l0_1 x57_3).f0), (.slice A202_1 ((rd_T111 l0_1 x57_3).f1).length c202_1), (.slice A202_2 ((rd_T111 l0_1 x57_3).f2).length c202_2)] 111 (0, 0))) ∧ Aside0 (Below w.heap.size w w'))
               case atStart => exact ⟨(0), (by first | rfl | (simp; done) | (simp [*]; done)), H', ⟨Nat.le_refl _⟩, ⟨by (with_reducible repeat (first | refine Sq.d ?_ _ | refine Sq.e ?_ | refine Sq.f ?_ _)); exact BK196.out⟩, ⟨by (with_reducible repeat (first | refine Sq.d ?_ _ | refine Sq.e ?_ | refine Sq.f ?_ _)); exact BK203.out⟩, ⟨by repeat (first | (with_reducible first | exact HB.out | apply Sq.i | apply Sq.j | apply Sq.k | refine Sq.h ?_ GE196.out | refine Sq.h ?_ GE203.out) | exact HB.out)⟩⟩
               case round =>
                clear H'
                try clear c1; try clear p1; try clear q1; try clear hx1; try clear c2; try clear p2; try clear q2; try clear hx2; try clear c3; try clear c4; try clear c4b0; try clear c4b1; try clear p6; try clear c7; try clear c11; try clear c14; try clear c14b0; try clear c15; try clear c15b0; try clear c16; try clear c16b0; try clear c18; try clear p19; try clear q19; try clear hx19; try clear c20; try clear p20; try clear q20; try clear hx20; try clear c22; try clear c26; try clear c28; try clear c33; try clear c33b0; try clear c34; try clear c34b0; try clear c35; try clear c35b0; try clear c38; try clear c41; try clear c42; try clear c44; try clear c47; try clear c48; try clear c49; try clear hcz12_0; try clear hcz12_1; try clear hcz12_2; try clear hcz23_0; try clear hcz23_1; try clear hcz23_2; try clear hcz23_3; try clear hcz23_4; try clear hcz25_0; try clear hcz25_1; try clear hcz25_2; try clear hcz25_3; try clear hcz25_4; try clear hcz29_0; try clear hcz29_1; try clear hcz29_2; try clear hcz29_3; try clear hcz29_4; try clear hcz31_0; try clear hcz31_1; try clear hcz31_2; try clear hcz39_0; try clear hcz39_1; try clear hcz39_2; try clear hcz43_0; try clear hcz43_1; try clear hcz43_2; try clear hcz45_0; try clear hcz45_1; try clear hcz45_2; try clear hcz49_0; try clear hcz49_1; try clear hcz49_2; try clear hcz5_0; try clear hcz5_1; try clear hcz5_2; try clear hcz8_0; try clear hcz8_1; try clear hcz8_2; try clear hcz9_0; try clear hcz9_1; try clear hcz9_2; try clear hfz12_0; try clear hfz12_1; try clear hfz12_2; try clear hfz23_0; try clear hfz23_1; try clear hfz23_2; try clear hfz23_3; try clear hfz23_4; try clear hfz25_0; try clear hfz25_1; try clear hfz25_2; try clear hfz25_3; try clear hfz25_4; try clear hfz29_0; try clear hfz29_1; try clear hfz29_2; try clear hfz29_3; try clear hfz29_4; try clear hfz31_0; try clear hfz31_1; try clear hfz31_2; try clear hfz39_0; try clear hfz39_1; try clear hfz39_2; try clear hfz43_0; try clear hfz43_1; try clear hfz43_2; try clear hfz45_0; try clear hfz45_1; try clear hfz45_2; try clear hfz49_0; try clear hfz49_1; try clear hfz49_2; try clear hfz5_0; try clear hfz5_1; try clear hfz5_2; try clear hfz8_0; try clear hfz8_1; try clear hfz8_2; try clear hfz9_0; try clear hfz9_1; try clear hfz9_2; try clear hx198_0; try clear hx198_1; try clear hx198_2; try clear hx198_3; try clear hx198_4; try clear hx202_0; try clear hx202_1; try clear hx202_2; try clear p1; try clear p19; try clear p198; try clear p2; try clear p20; try clear p202; try clear p6; try clear q1; try clear q19; try clear q198; try clear q2; try clear q20; try clear q202
                obtain ⟨x74_5, rfl, HA, HK5, BK196, BK203, HB⟩ := hrel
                cases gk with
                | zero => exact absurd HA.out (by simp [impl_RouterFault.l2])
                | succ k5 =>
                 have H := HA.out
                 clear HA
                 simp only [impl_RouterFault.l2] at H
                 have HC50 := Sq.l H
                 clear H
                 go_upto_if 75 with (fail)
                 have H := HC50.out
                 clear HC50
                 by_cases c51 : x74_5 < (((rd_T111 l0_1 x57_3).f1).length : Int)
                 ·rw [if_pos c51] at H
                  have c51b0 : decide (x74_5 < (((rd_T111 l0_1 x57_3).f1).length : Int)) = true := decide_eq_true c51
                  clear c51
                  (first | rw [c51b0] | (simp only [i64_w, i32_w]; rw [c51b0]) | skip)
                  by_cases c52 : 0 ≤ x74_5
                  ·rw [if_pos c52] at H
                   have c52b0 : decide (0 ≤ x74_5) = true := decide_eq_true c52
                   clear c52
                   by_cases c53 : x74_5 < (((rd_T111 l0_1 x57_3).f1).length : Int)
                   ·rw [if_pos c53] at H
                    have c53b0 : decide (x74_5 < (((rd_T111 l0_1 x57_3).f1).length : Int)) = true := decide_eq_true c53
                    clear c53
                    replace H := Option.bind_eq_some_iff.mp H
                    obtain ⟨t206, A540, H⟩ := H
                    (try dsimp only at H)
                    have A54 := Sq.l A540
                    clear A540
                    by_cases c55 : t206 = true
                    ·subst c55
                     rw [if_pos rfl] at H
                     by_cases c56 : x74_5 > 0
                     ·rw [if_pos c56] at H
                      have c56b0 : decide (0 < x74_5) = true := decide_eq_true c56
                      clear c56
                      obtain ⟨ji57, hji57⟩ : ∃ j_ : Int, (wrap64 (x74_5 - 1)) = j_ := ⟨_, rfl⟩
                      replace H : (if 0 ≤ (ji57) then (if (ji57) < (((rd_T111 l0_1 x57_3).f1).length : Int) then (if (rd ((rd_T111 l0_1 x57_3).f1) (ji57)) ≥ (rd ((rd_T111 l0_1 x57_3).f1) x74_5) then (some 1) else (impl_RouterFault.l2 k5 l0_1 (l0_1.length : Int) x57_3 ((rd_T111 l0_1 x57_3).f1) (((rd_T111 l0_1 x57_3).f1).length : Int) (wrap64 (x74_5 + 1)) l0_0 l0_1 l0_2 ((rd_T111 l0_1 x57_3).f0) ((rd_T111 l0_1 x57_3).f1) ((rd_T111 l0_1 x57_3).f2))) else (none)) else (none)) = some r := by first | (rw [hji57] at H; exact H) | (simp only [hji57] at H ⊢; exact H)
                      (try rw [hji57] at A54)
                      have hji57w : (IntKind.i64.wrap (x74_5 - 1)) = ji57 := (i64_w _).trans hji57
                      by_cases c58 : 0 ≤ (ji57)
                      ·rw [if_pos c58] at H
                       have c58b0 : decide (0 ≤ (ji57)) = true := decide_eq_true c58
                       clear c58
                       by_cases c59 : (ji57) < (((rd_T111 l0_1 x57_3).f1).length : Int)
                       ·rw [if_pos c59] at H
                        have c59b0 : decide ((ji57) < (((rd_T111 l0_1 x57_3).f1).length : Int)) = true := decide_eq_true c59
                        clear c59
                        have HC60 := Sq.l H
                        clear H
                        have p205 : 0 ≤ (x74_5 : Int) := of_decide_eq_true (by first | (with_reducible assumption) | assumption)
                        have q205 : x74_5 < (((rd_T111 l0_1 x57_3).f1).length : Int) := of_decide_eq_true (by first | (with_reducible assumption) | assumption)
                        obtain ⟨ad205, e205, hx205_0⟩ := Kd.at_int HR202_1.out x74_5 p205 q205
                        cases e205
                        replace hx205_0 := (HB.out.cell (World.block_lt_of_cell? w _ hx205_0)).trans hx205_0
                        replace p205 := eq_true p205; replace q205 := eq_true q205
                        go_upto_if 96 with (first | (go_at_call 64; (with_reducible refine (impl_RouterFault_2.calls (rd ((rd_T111 l0_1 x57_3).f1) x74_5) true _ A54.out).mono ?_); rintro e w' ⟨rfl, ⟨nd, rfl⟩⟩; have hnb61 := NB203_196.out; have hnc61 := NB196_203.out; have hcz62_0 : wr.cell? ⟨gb203, 0, none⟩ = some (.int .i64 ((rd_T111 l0_1 x57_3).f0)) := (Sq.o BK203.out 0).trans rfl; have hcz62_1 : wr.cell? ⟨gb203, 1, none⟩ = some (.slice (some ad205) ((rd_T111 l0_1 x57_3).f1).length c202_1) := (Sq.o BK203.out 1).trans rfl; have hcz62_2 : wr.cell? ⟨gb203, 2, none⟩ = some (.slice A202_2 ((rd_T111 l0_1 x57_3).f2).length c202_2) := (Sq.o BK203.out 2).trans rfl; have hfz62_0 := Sq.r BK203.out 0; have hfz62_1 := Sq.r BK203.out 1; have hfz62_2 := Sq.r BK203.out 2; have p207 : 0 ≤ ((ji57) : Int) := of_decide_eq_true (by first | (with_reducible assumption) | assumption); have q207 : (ji57) < (((rd_T111 l0_1 x57_3).f1).length : Int) := of_decide_eq_true (by first | (with_reducible assumption) | assumption); obtain ⟨ad207, e207, hx207_0⟩ := Kd.at_int HR202_1.out (ji57) p207 q207; obtain rfl : ad205 = ad207 := (by injection e207); replace hx207_0 := (HB.out.cell (World.block_lt_of_cell? w _ hx207_0)).trans hx207_0; replace p207 := eq_true p207; replace q207 := eq_true q207))
                        (try simp only [Act.put, List.setIfInBounds_toArray, List.set_cons_zero, List.set_cons_succ])
                        have H := HC60.out
                        clear HC60
                        by_cases c63 : (rd ((rd_T111 l0_1 x57_3).f1) (ji57)) ≥ (rd ((rd_T111 l0_1 x57_3).f1) x74_5)
                        ·rw [if_pos c63] at H
                         have c63b0 : decide ((rd ((rd_T111 l0_1 x57_3).f1) x74_5) ≤ (rd ((rd_T111 l0_1 x57_3).f1) (ji57))) = true := decide_eq_true c63
                         clear c63
                         (first | rw [c63b0] | (simp only [i64_w, i32_w]; rw [c63b0]) | skip)
                         obtain rfl := Option.some.inj H
                         go_wp2
                         go_ret
                         exact ⟨by first | rfl | (simp [errW_none, errW_some] <;> rfl) | (simp only [← hji57]; first | rfl | (simp [errW_none, errW_some] <;> rfl)) | (simp [*, errW_none, errW_some] <;> rfl), by repeat (first | (with_reducible first | exact HB.out | apply Sq.i | apply Sq.j | apply Sq.k | refine Sq.h ?_ GE196.out | refine Sq.h ?_ GE203.out) | exact HB.out)⟩
                        ·rw [if_neg c63] at H
                         have c63b0 : decide ((rd ((rd_T111 l0_1 x57_3).f1) x74_5) ≤ (rd ((rd_T111 l0_1 x57_3).f1) (ji57))) = false := decide_eq_false c63
                         clear c63
                         (first | rw [c63b0] | (simp only [i64_w, i32_w]; rw [c63b0]) | skip)
                         have H' := Sq.l H
                         clear H
                         go_wp2
                         go_roundg k5
                         case measure => have := HJ1.out; have := HK2.out; have := HK3.out; have := HJ35.out; have := HK5.out; omega
                         case rel => exact ⟨(wrap64 (x74_5 + 1)), (by first | rfl | (simp; done) | (simp [*]; done)), H', ⟨by have := HJ1.out; have := HK2.out; have := HK3.out; have := HJ35.out; have := HK5.out; omega⟩, ⟨by (with_reducible repeat (first | refine Sq.d ?_ _ | refine Sq.e ?_ | refine Sq.f ?_ _)); exact BK196.out⟩, ⟨by (with_reducible repeat (first | refine Sq.d ?_ _ | refine Sq.e ?_ | refine Sq.f ?_ _)); exact BK203.out⟩, ⟨by repeat (first | (with_reducible first | exact HB.out | apply Sq.i | apply Sq.j | apply Sq.k | refine Sq.h ?_ GE196.out | refine Sq.h ?_ GE203.out) | exact HB.out)⟩⟩
                       ·rw [if_neg c59] at H
                        exact absurd H (by simp)
                      ·rw [if_neg c58] at H
                       exact absurd H (by simp)
                     ·rw [if_neg c56] at H
                      have c56b0 : decide (0 < x74_5) = false := decide_eq_false c56
                      clear c56
                      have H' := Sq.l H
                      clear H
                      have p205 : 0 ≤ (x74_5 : Int) := of_decide_eq_true (by first | (with_reducible assumption) | assumption)
                      have q205 : x74_5 < (((rd_T111 l0_1 x57_3).f1).length : Int) := of_decide_eq_true (by first | (with_reducible assumption) | assumption)
                      obtain ⟨ad205, e205, hx205_0⟩ := Kd.at_int HR202_1.out x74_5 p205 q205
                      cases e205
                      replace hx205_0 := (HB.out.cell (World.block_lt_of_cell? w _ hx205_0)).trans hx205_0
                      replace p205 := eq_true p205; replace q205 := eq_true q205
                      go_wp2_with (first | (go_at_call 64; (with_reducible refine (impl_RouterFault_2.calls (rd ((rd_T111 l0_1 x57_3).f1) x74_5) true _ A54.out).mono ?_); rintro e w' ⟨rfl, ⟨nd, rfl⟩⟩))
                      go_roundg k5
                      case measure => have := HJ1.out; have := HK2.out; have := HK3.out; have := HJ35.out; have := HK5.out; omega
                      case rel => exact ⟨(wrap64 (x74_5 + 1)), (by first | rfl | (simp; done) | (simp [*]; done)), H', ⟨by have := HJ1.out; have := HK2.out; have := HK3.out; have := HJ35.out; have := HK5.out; omega⟩, ⟨by (with_reducible repeat (first | refine Sq.d ?_ _ | refine Sq.e ?_ | refine Sq.f ?_ _)); exact BK196.out⟩, ⟨by (with_reducible repeat (first | refine Sq.d ?_ _ | refine Sq.e ?_ | refine Sq.f ?_ _)); exact BK203.out⟩, ⟨by repeat (first | (with_reducible first | exact HB.out | apply Sq.i | apply Sq.j | apply Sq.k | refine Sq.h ?_ GE196.out | refine Sq.h ?_ GE203.out) | exact HB.out)⟩⟩
                    ·replace c55 := Bool.eq_false_iff.mpr c55
                     subst c55
                     rw [if_neg (show ¬ (false = true) by decide)] at H
                     obtain rfl := Option.some.inj H
                     have p205 : 0 ≤ (x74_5 : Int) := of_decide_eq_true (by first | (with_reducible assumption) | assumption)
                     have q205 : x74_5 < (((rd_T111 l0_1 x57_3).f1).length : Int) := of_decide_eq_true (by first | (with_reducible assumption) | assumption)
                     obtain ⟨ad205, e205, hx205_0⟩ := Kd.at_int HR202_1.out x74_5 p205 q205
                     cases e205
                     replace hx205_0 := (HB.out.cell (World.block_lt_of_cell? w _ hx205_0)).trans hx205_0
                     replace p205 := eq_true p205; replace q205 := eq_true q205
                     go_wp2_with (first | (go_at_call 64; (with_reducible refine (impl_RouterFault_2.calls (rd ((rd_T111 l0_1 x57_3).f1) x74_5) false _ A54.out).mono ?_); rintro e w' ⟨rfl, ⟨nd, rfl⟩⟩))
                     go_ret
                     exact ⟨by first | rfl | (simp [errW_none, errW_some] <;> rfl) | (simp [*, errW_none, errW_some] <;> rfl), by repeat (first | (with_reducible first | exact HB.out | apply Sq.i | apply Sq.j | apply Sq.k | refine Sq.h ?_ GE196.out | refine Sq.h ?_ GE203.out) | exact HB.out)⟩
                   ·rw [if_neg c53] at H
                    exact absurd H (by simp)
                  ·rw [if_neg c52] at H
                   exact absurd H (by simp)
                 ·rw [if_neg c51] at H
                  have c51b0 : decide (x74_5 < (((rd_T111 l0_1 x57_3).f1).length : Int)) = false := decide_eq_false c51
                  clear c51
                  (first | rw [c51b0] | (simp only [i64_w, i32_w]; rw [c51b0]) | skip)
                  have H' := Sq.l H
                  clear H; have hnb64 := NB203_196.out; have hnc64 := NB196_203.out
                  have hcz65_0 : wr.cell? ⟨gb203, 0, none⟩ = some (.int .i64 ((rd_T111 l0_1 x57_3).f0)) := (Sq.o BK203.out 0).trans rfl
                  have hcz65_1 : wr.cell? ⟨gb203, 1, none⟩ = some (.slice A202_1 ((rd_T111 l0_1 x57_3).f1).length c202_1) := (Sq.o BK203.out 1).trans rfl
                  have hcz65_2 : wr.cell? ⟨gb203, 2, none⟩ = some (.slice A202_2 ((rd_T111 l0_1 x57_3).f2).length c202_2) := (Sq.o BK203.out 2).trans rfl
                  have hfz65_0 := Sq.r BK203.out 0
                  have hfz65_1 := Sq.r BK203.out 1
                  have hfz65_2 := Sq.r BK203.out 2
                  go_wp2
                  go_loopg [101] k5 (fun kq v101 w' => ∃ (x101_6 : Int), v101 = .int .i64 x101_6 ∧ Aside0 (impl_RouterFault.l3 kq l0_1 (l0_1.length : Int) x57_3 ((rd_T111 l0_1 x57_3).f2) (((rd_T111 l0_1 x57_3).f2).length : Int) x101_6 l0_0 l0_1 l0_2 ((rd_T111 l0_1 x57_3).f0) ((rd_T111 l0_1 x57_3).f1) ((rd_T111 l0_1 x57_3).f2) = some r) ∧ Aside0 (kq ≤ k5) ∧ Aside0 (w'.heap[gb196]? = some (.cells #[(.slice A0_0 l0_0.length c0_0), (.slice (some ad202) l0_1.length c0_1), (.slice A0_2 l0_2.length c0_2)] 45 (0, 0))) ∧ Aside0 (w'.heap[gb203]? = some (.cells #[.int .i64 ((rd_T111 l0_1 x57_3).f0), (.slice A202_1 ((rd_T111 l0_1 x57_3).f1).length c202_1), (.slice A202_2 ((rd_T111 l0_1 x57_3).f2).length c202_2)] 111 (0, 0))) ∧ Aside0 (Below w.heap.size w w'))
                  case atStart => exact ⟨(0), (by first | rfl | (simp; done) | (simp [*]; done)), H', ⟨Nat.le_refl _⟩, ⟨by (with_reducible repeat (first | refine Sq.d ?_ _ | refine Sq.e ?_ | refine Sq.f ?_ _)); exact BK196.out⟩, ⟨by (with_reducible repeat (first | refine Sq.d ?_ _ | refine Sq.e ?_ | refine Sq.f ?_ _)); exact BK203.out⟩, ⟨by repeat (first | (with_reducible first | exact HB.out | apply Sq.i | apply Sq.j | apply Sq.k | refine Sq.h ?_ GE196.out | refine Sq.h ?_ GE203.out) | exact HB.out)⟩⟩
                  case round =>
                   clear H'
                   try clear c1; try clear p1; try clear q1; try clear hx1; try clear c2; try clear p2; try clear q2; try clear hx2; try clear c3; try clear c4; try clear c4b0; try clear c4b1; try clear c5; try clear c6; try clear p6; try clear c7; try clear c11; try clear c14; try clear c14b0; try clear c15; try clear c15b0; try clear c16; try clear c16b0; try clear c18; try clear p19; try clear q19; try clear hx19; try clear c20; try clear p20; try clear q20; try clear hx20; try clear c22; try clear c26; try clear c28; try clear c33; try clear c33b0; try clear c34; try clear c34b0; try clear c35; try clear c35b0; try clear c38; try clear c41; try clear c42; try clear c44; try clear c47; try clear c48; try clear c49; try clear c51; try clear c51b0; try clear c52; try clear c52b0; try clear c53; try clear c53b0; try clear c55; try clear c56; try clear c56b0; try clear c58; try clear c58b0; try clear c59; try clear c59b0; try clear c61; try clear c63; try clear c63b0; try clear c64; try clear p64; try clear hcz12_0; try clear hcz12_1; try clear hcz12_2; try clear hcz23_0; try clear hcz23_1; try clear hcz23_2; try clear hcz23_3; try clear hcz23_4; try clear hcz25_0; try clear hcz25_1; try clear hcz25_2; try clear hcz25_3; try clear hcz25_4; try clear hcz29_0; try clear hcz29_1; try clear hcz29_2; try clear hcz29_3; try clear hcz29_4; try clear hcz31_0; try clear hcz31_1; try clear hcz31_2; try clear hcz39_0; try clear hcz39_1; try clear hcz39_2; try clear hcz43_0; try clear hcz43_1; try clear hcz43_2; try clear hcz45_0; try clear hcz45_1; try clear hcz45_2; try clear hcz49_0; try clear hcz49_1; try clear hcz49_2; try clear hcz5_0; try clear hcz5_1; try clear hcz5_2; try clear hcz62_0; try clear hcz62_1; try clear hcz62_2; try clear hcz65_0; try clear hcz65_1; try clear hcz65_2; try clear hcz8_0; try clear hcz8_1; try clear hcz8_2; try clear hcz9_0; try clear hcz9_1; try clear hcz9_2; try clear hfz12_0; try clear hfz12_1; try clear hfz12_2; try clear hfz23_0; try clear hfz23_1; try clear hfz23_2; try clear hfz23_3; try clear hfz23_4; try clear hfz25_0; try clear hfz25_1; try clear hfz25_2; try clear hfz25_3; try clear hfz25_4; try clear hfz29_0; try clear hfz29_1; try clear hfz29_2; try clear hfz29_3; try clear hfz29_4; try clear hfz31_0; try clear hfz31_1; try clear hfz31_2; try clear hfz39_0; try clear hfz39_1; try clear hfz39_2; try clear hfz43_0; try clear hfz43_1; try clear hfz43_2; try clear hfz45_0; try clear hfz45_1; try clear hfz45_2; try clear hfz49_0; try clear hfz49_1; try clear hfz49_2; try clear hfz5_0; try clear hfz5_1; try clear hfz5_2; try clear hfz62_0; try clear hfz62_1; try clear hfz62_2; try clear hfz65_0; try clear hfz65_1; try clear hfz65_2; try clear hfz8_0; try clear hfz8_1; try clear hfz8_2; try clear hfz9_0; try clear hfz9_1; try clear hfz9_2; try clear hx198_0; try clear hx198_1; try clear hx198_2; try clear hx198_3; try clear hx198_4; try clear hx202_0; try clear hx202_1; try clear hx202_2; try clear hx205_0; try clear hx207_0; try clear p1; try clear p19; try clear p198; try clear p2; try clear p20; try clear p202; try clear p205; try clear p207; try clear p6; try clear q1; try clear q19; try clear q198; try clear q2; try clear q20; try clear q202; try clear q205; try clear q207
                   obtain ⟨x101_6, rfl, HA, HK6, BK196, BK203, HB⟩ := hrel
                   cases gk with
                   | zero => exact absurd HA.out (by simp [impl_RouterFault.l3])
                   | succ k6 =>
                    have H := HA.out
                    clear HA
                    simp only [impl_RouterFault.l3] at H
                    have HC66 := Sq.l H
                    clear H
                    go_upto_if 102 with (fail)
                    have H := HC66.out
                    clear HC66
                    by_cases c67 : x101_6 < (((rd_T111 l0_1 x57_3).f2).length : Int)
                    ·rw [if_pos c67] at H
                     have c67b0 : decide (x101_6 < (((rd_T111 l0_1 x57_3).f2).length : Int)) = true := decide_eq_true c67
                     clear c67
                     (first | rw [c67b0] | (simp only [i64_w, i32_w]; rw [c67b0]) | skip)
                     by_cases c68 : 0 ≤ x101_6
                     ·rw [if_pos c68] at H
                      have c68b0 : decide (0 ≤ x101_6) = true := decide_eq_true c68
                      clear c68
                      by_cases c69 : x101_6 < (((rd_T111 l0_1 x57_3).f2).length : Int)
                      ·rw [if_pos c69] at H
                       have c69b0 : decide (x101_6 < (((rd_T111 l0_1 x57_3).f2).length : Int)) = true := decide_eq_true c69
                       clear c69
                       replace H := Option.bind_eq_some_iff.mp H
                       obtain ⟨t209, A700, H⟩ := H
                       (try dsimp only at H)
                       have A70 := Sq.l A700
                       clear A700
                       by_cases c71 : t209 = true
                       ·subst c71
                        rw [if_pos rfl] at H
                        by_cases c72 : x101_6 > 0
                        ·rw [if_pos c72] at H
                         have c72b0 : decide (0 < x101_6) = true := decide_eq_true c72
                         clear c72
                         obtain ⟨ji73, hji73⟩ : ∃ j_ : Int, (wrap64 (x101_6 - 1)) = j_ := ⟨_, rfl⟩
                         replace H : (if 0 ≤ (ji73) then (if (ji73) < (((rd_T111 l0_1 x57_3).f2).length : Int) then (if (wrap64 (Int.tdiv (rd ((rd_T111 l0_1 x57_3).f2) (ji73)) 4)) ≥ (wrap64 (Int.tdiv (rd ((rd_T111 l0_1 x57_3).f2) x101_6) 4)) then (some 1) else (impl_RouterFault.l3 k6 l0_1 (l0_1.length : Int) x57_3 ((rd_T111 l0_1 x57_3).f2) (((rd_T111 l0_1 x57_3).f2).length : Int) (wrap64 (x101_6 + 1)) l0_0 l0_1 l0_2 ((rd_T111 l0_1 x57_3).f0) ((rd_T111 l0_1 x57_3).f1) ((rd_T111 l0_1 x57_3).f2))) else (none)) else (none)) = some r := by first | (rw [hji73] at H; exact H) | (simp only [hji73] at H ⊢; exact H)
                         (try rw [hji73] at A70)
                         have hji73w : (IntKind.i64.wrap (x101_6 - 1)) = ji73 := (i64_w _).trans hji73
                         by_cases c74 : 0 ≤ (ji73)
                         ·rw [if_pos c74] at H
                          have c74b0 : decide (0 ≤ (ji73)) = true := decide_eq_true c74
                          clear c74
                          by_cases c75 : (ji73) < (((rd_T111 l0_1 x57_3).f2).length : Int)
                          ·rw [if_pos c75] at H
                           have c75b0 : decide ((ji73) < (((rd_T111 l0_1 x57_3).f2).length : Int)) = true := decide_eq_true c75
                           clear c75
                           have HC76 := Sq.l H
                           clear H
                           have p208 : 0 ≤ (x101_6 : Int) := of_decide_eq_true (by first | (with_reducible assumption) | assumption)
                           have q208 : x101_6 < (((rd_T111 l0_1 x57_3).f2).length : Int) := of_decide_eq_true (by first | (with_reducible assumption) | assumption)
                           obtain ⟨ad208, e208, hx208_0⟩ := Kd.at_int HR202_2.out x101_6 p208 q208
                           cases e208
                           replace hx208_0 := (HB.out.cell (World.block_lt_of_cell? w _ hx208_0)).trans hx208_0
                           replace p208 := eq_true p208; replace q208 := eq_true q208
                           go_upto_if 125 with (first | (go_at_call 64; (with_reducible refine (impl_RouterFault_2.calls (rd ((rd_T111 l0_1 x57_3).f2) x101_6) true _ A70.out).mono ?_); rintro e w' ⟨rfl, ⟨nd, rfl⟩⟩; have hnb77 := NB203_196.out; have hnc77 := NB196_203.out; have hcz78_0 : wr.cell? ⟨gb203, 0, none⟩ = some (.int .i64 ((rd_T111 l0_1 x57_3).f0)) := (Sq.o BK203.out 0).trans rfl; have hcz78_1 : wr.cell? ⟨gb203, 1, none⟩ = some (.slice A202_1 ((rd_T111 l0_1 x57_3).f1).length c202_1) := (Sq.o BK203.out 1).trans rfl; have hcz78_2 : wr.cell? ⟨gb203, 2, none⟩ = some (.slice (some ad208) ((rd_T111 l0_1 x57_3).f2).length c202_2) := (Sq.o BK203.out 2).trans rfl; have hfz78_0 := Sq.r BK203.out 0; have hfz78_1 := Sq.r BK203.out 1; have hfz78_2 := Sq.r BK203.out 2; have p210 : 0 ≤ ((ji73) : Int) := of_decide_eq_true (by first | (with_reducible assumption) | assumption); have q210 : (ji73) < (((rd_T111 l0_1 x57_3).f2).length : Int) := of_decide_eq_true (by first | (with_reducible assumption) | assumption); obtain ⟨ad210, e210, hx210_0⟩ := Kd.at_int HR202_2.out (ji73) p210 q210; obtain rfl : ad208 = ad210 := (by injection e210); replace hx210_0 := (HB.out.cell (World.block_lt_of_cell? w _ hx210_0)).trans hx210_0; replace p210 := eq_true p210; replace q210 := eq_true q210))
                           (try simp only [Act.put, List.setIfInBounds_toArray, List.set_cons_zero, List.set_cons_succ])
                           have H := HC76.out
                           clear HC76
                           by_cases c79 : (wrap64 (Int.tdiv (rd ((rd_T111 l0_1 x57_3).f2) (ji73)) 4)) ≥ (wrap64 (Int.tdiv (rd ((rd_T111 l0_1 x57_3).f2) x101_6) 4))
                           ·rw [if_pos c79] at H
                            have c79b0 : decide ((wrap64 (Int.tdiv (rd ((rd_T111 l0_1 x57_3).f2) x101_6) 4)) ≤ (wrap64 (Int.tdiv (rd ((rd_T111 l0_1 x57_3).f2) (ji73)) 4))) = true := decide_eq_true c79
                            clear c79
                            (first | rw [c79b0] | (simp only [i64_w, i32_w]; rw [c79b0]) | skip)
                            obtain rfl := Option.some.inj H
                            go_wp2
                            go_ret
                            exact ⟨by first | rfl | (simp [errW_none, errW_some] <;> rfl) | (simp only [← hji73]; first | rfl | (simp [errW_none, errW_some] <;> rfl)) | (simp [*, errW_none, errW_some] <;> rfl), by repeat (first | (with_reducible first | exact HB.out | apply Sq.i | apply Sq.j | apply Sq.k | refine Sq.h ?_ GE196.out | refine Sq.h ?_ GE203.out) | exact HB.out)⟩
                           ·rw [if_neg c79] at H
                            have c79b0 : decide ((wrap64 (Int.tdiv (rd ((rd_T111 l0_1 x57_3).f2) x101_6) 4)) ≤ (wrap64 (Int.tdiv (rd ((rd_T111 l0_1 x57_3).f2) (ji73)) 4))) = false := decide_eq_false c79
                            clear c79
                            (first | rw [c79b0] | (simp only [i64_w, i32_w]; rw [c79b0]) | skip)
                            have H' := Sq.l H
                            clear H
                            go_wp2
                            go_roundg k6
                            case measure => have := HJ1.out; have := HK2.out; have := HK3.out; have := HJ35.out; have := HK5.out; have := HK6.out; omega
                            case rel => exact ⟨(wrap64 (x101_6 + 1)), (by first | rfl | (simp; done) | (simp [*]; done)), H', ⟨by have := HJ1.out; have := HK2.out; have := HK3.out; have := HJ35.out; have := HK5.out; have := HK6.out; omega⟩, ⟨by (with_reducible repeat (first | refine Sq.d ?_ _ | refine Sq.e ?_ | refine Sq.f ?_ _)); exact BK196.out⟩, ⟨by (with_reducible repeat (first | refine Sq.d ?_ _ | refine Sq.e ?_ | refine Sq.f ?_ _)); exact BK203.out⟩, ⟨by repeat (first | (with_reducible first | exact HB.out | apply Sq.i | apply Sq.j | apply Sq.k | refine Sq.h ?_ GE196.out | refine Sq.h ?_ GE203.out) | exact HB.out)⟩⟩
                          ·rw [if_neg c75] at H
                           exact absurd H (by simp)
                         ·rw [if_neg c74] at H
                          exact absurd H (by simp)
                        ·rw [if_neg c72] at H
                         have c72b0 : decide (0 < x101_6) = false := decide_eq_false c72
                         clear c72
                         have H' := Sq.l H
                         clear H
                         have p208 : 0 ≤ (x101_6 : Int) := of_decide_eq_true (by first | (with_reducible assumption) | assumption)
                         have q208 : x101_6 < (((rd_T111 l0_1 x57_3).f2).length : Int) := of_decide_eq_true (by first | (with_reducible assumption) | assumption)
                         obtain ⟨ad208, e208, hx208_0⟩ := Kd.at_int HR202_2.out x101_6 p208 q208
                         cases e208
                         replace hx208_0 := (HB.out.cell (World.block_lt_of_cell? w _ hx208_0)).trans hx208_0
                         replace p208 := eq_true p208; replace q208 := eq_true q208
                         go_wp2_with (first | (go_at_call 64; (with_reducible refine (impl_RouterFault_2.calls (rd ((rd_T111 l0_1 x57_3).f2) x101_6) true _ A70.out).mono ?_); rintro e w' ⟨rfl, ⟨nd, rfl⟩⟩))
                         go_roundg k6
                         case measure => have := HJ1.out; have := HK2.out; have := HK3.out; have := HJ35.out; have := HK5.out; have := HK6.out; omega
                         case rel => exact ⟨(wrap64 (x101_6 + 1)), (by first | rfl | (simp; done) | (simp [*]; done)), H', ⟨by have := HJ1.out; have := HK2.out; have := HK3.out; have := HJ35.out; have := HK5.out; have := HK6.out; omega⟩, ⟨by (with_reducible repeat (first | refine Sq.d ?_ _ | refine Sq.e ?_ | refine Sq.f ?_ _)); exact BK196.out⟩, ⟨by (with_reducible repeat (first | refine Sq.d ?_ _ | refine Sq.e ?_ | refine Sq.f ?_ _)); exact BK203.out⟩, ⟨by repeat (first | (with_reducible first | exact HB.out | apply Sq.i | apply Sq.j | apply Sq.k | refine Sq.h ?_ GE196.out | refine Sq.h ?_ GE203.out) | exact HB.out)⟩⟩
                       ·replace c71 := Bool.eq_false_iff.mpr c71
                        subst c71
                        rw [if_neg (show ¬ (false = true) by decide)] at H
                        obtain rfl := Option.some.inj H
                        have p208 : 0 ≤ (x101_6 : Int) := of_decide_eq_true (by first | (with_reducible assumption) | assumption)
                        have q208 : x101_6 < (((rd_T111 l0_1 x57_3).f2).length : Int) := of_decide_eq_true (by first | (with_reducible assumption) | assumption)
                        obtain ⟨ad208, e208, hx208_0⟩ := Kd.at_int HR202_2.out x101_6 p208 q208
                        cases e208
                        replace hx208_0 := (HB.out.cell (World.block_lt_of_cell? w _ hx208_0)).trans hx208_0
                        replace p208 := eq_true p208; replace q208 := eq_true q208
                        go_wp2_with (first | (go_at_call 64; (with_reducible refine (impl_RouterFault_2.calls (rd ((rd_T111 l0_1 x57_3).f2) x101_6) false _ A70.out).mono ?_); rintro e w' ⟨rfl, ⟨nd, rfl⟩⟩))
                        go_ret
                        exact ⟨by first | rfl | (simp [errW_none, errW_some] <;> rfl) | (simp [*, errW_none, errW_some] <;> rfl), by repeat (first | (with_reducible first | exact HB.out | apply Sq.i | apply Sq.j | apply Sq.k | refine Sq.h ?_ GE196.out | refine Sq.h ?_ GE203.out) | exact HB.out)⟩
                      ·rw [if_neg c69] at H
                       exact absurd H (by simp)
                     ·rw [if_neg c68] at H
                      exact absurd H (by simp)
                    ·rw [if_neg c67] at H
                     have c67b0 : decide (x101_6 < (((rd_T111 l0_1 x57_3).f2).length : Int)) = false := decide_eq_false c67
                     clear c67
                     (first | rw [c67b0] | (simp only [i64_w, i32_w]; rw [c67b0]) | skip)
                     have H' := Sq.l H
                     clear H
                     go_wp2
                     go_roundg k6
                     case measure => have := HJ1.out; have := HK2.out; have := HK3.out; have := HJ35.out; have := HK5.out; have := HK6.out; omega
                     case rel => exact ⟨(wrap64 (x57_3 + 1)), (by first | rfl | (simp; done) | (simp [*]; done)), H', ⟨by have := HJ1.out; have := HK2.out; have := HK3.out; have := HJ35.out; have := HK5.out; have := HK6.out; omega⟩, ⟨by (with_reducible repeat (first | refine Sq.d ?_ _ | refine Sq.e ?_ | refine Sq.f ?_ _)); exact BK196.out⟩, ⟨by repeat (first | (with_reducible first | exact HB.out | apply Sq.i | apply Sq.j | apply Sq.k | refine Sq.h ?_ GE196.out | refine Sq.h ?_ GE203.out) | exact HB.out)⟩⟩
           ·rw [if_neg c35] at H
            exact absurd H (by simp)
          ·rw [if_neg c34] at H
           exact absurd H (by simp)
         ·rw [if_neg c33] at H
          have c33b0 : decide (x57_3 < (l0_1.length : Int)) = false := decide_eq_false c33
          clear c33
          (first | rw [c33b0] | (simp only [i64_w, i32_w]; rw [c33b0]) | skip)
          have H' := Sq.l H
          clear H
          have hcz80_0 : wr.cell? ⟨gb196, 0, none⟩ = some (.slice A0_0 l0_0.length c0_0) := (Sq.o BK196.out 0).trans rfl
          have hcz80_1 : wr.cell? ⟨gb196, 1, none⟩ = some (.slice A0_1 l0_1.length c0_1) := (Sq.o BK196.out 1).trans rfl
          have hcz80_2 : wr.cell? ⟨gb196, 2, none⟩ = some (.slice A0_2 l0_2.length c0_2) := (Sq.o BK196.out 2).trans rfl
          have hfz80_0 := Sq.r BK196.out 0
          have hfz80_1 := Sq.r BK196.out 1
          have hfz80_2 := Sq.r BK196.out 2
          go_wp2
          go_loopg [131] k3 (fun kq v131 w' => ∃ (x131_4 : Int), v131 = .int .i64 x131_4 ∧ Aside0 (impl_RouterFault.l4 kq l0_2 (l0_2.length : Int) x131_4 l0_0 l0_1 l0_2 = some r) ∧ Aside0 (kq ≤ k3) ∧ Aside0 (w'.heap[gb196]? = some (.cells #[(.slice A0_0 l0_0.length c0_0), (.slice A0_1 l0_1.length c0_1), (.slice A0_2 l0_2.length c0_2)] 45 (0, 0))) ∧ Aside0 (Below w.heap.size w w'))
          case atStart => exact ⟨(0), (by first | rfl | (simp; done) | (simp [*]; done)), H', ⟨Nat.le_refl _⟩, ⟨by (with_reducible repeat (first | refine Sq.d ?_ _ | refine Sq.e ?_ | refine Sq.f ?_ _)); exact BK196.out⟩, ⟨by repeat (first | (with_reducible first | exact HB.out | apply Sq.i | apply Sq.j | apply Sq.k | refine Sq.h ?_ GE196.out) | exact HB.out)⟩⟩
          case round =>
           clear H'
           try clear c1; try clear p1; try clear q1; try clear hx1; try clear c2; try clear p2; try clear q2; try clear hx2; try clear c3; try clear c4; try clear c4b0; try clear c4b1; try clear c5; try clear c6; try clear p6; try clear c7; try clear c11; try clear c14; try clear c14b0; try clear c15; try clear c15b0; try clear c16; try clear c16b0; try clear c18; try clear p19; try clear q19; try clear hx19; try clear c20; try clear p20; try clear q20; try clear hx20; try clear p21; try clear q21; try clear hx21; try clear c22; try clear c26; try clear c28; try clear c33; try clear c33b0; try clear c34; try clear c34b0; try clear c35; try clear c35b0; try clear c38; try clear c41; try clear c42; try clear c44; try clear c47; try clear c48; try clear c49; try clear c51; try clear c51b0; try clear c52; try clear c52b0; try clear c53; try clear c53b0; try clear c55; try clear c56; try clear c56b0; try clear c58; try clear c58b0; try clear c59; try clear c59b0; try clear c61; try clear c63; try clear c63b0; try clear c64; try clear p64; try clear c67; try clear c67b0; try clear c68; try clear c68b0; try clear c69; try clear c69b0; try clear c71; try clear c72; try clear c72b0; try clear c74; try clear c74b0; try clear c75; try clear c75b0; try clear c77; try clear c79; try clear c79b0; try clear hcz12_0; try clear hcz12_1; try clear hcz12_2; try clear hcz23_0; try clear hcz23_1; try clear hcz23_2; try clear hcz23_3; try clear hcz23_4; try clear hcz25_0; try clear hcz25_1; try clear hcz25_2; try clear hcz25_3; try clear hcz25_4; try clear hcz29_0; try clear hcz29_1; try clear hcz29_2; try clear hcz29_3; try clear hcz29_4; try clear hcz31_0; try clear hcz31_1; try clear hcz31_2; try clear hcz39_0; try clear hcz39_1; try clear hcz39_2; try clear hcz43_0; try clear hcz43_1; try clear hcz43_2; try clear hcz45_0; try clear hcz45_1; try clear hcz45_2; try clear hcz49_0; try clear hcz49_1; try clear hcz49_2; try clear hcz5_0; try clear hcz5_1; try clear hcz5_2; try clear hcz62_0; try clear hcz62_1; try clear hcz62_2; try clear hcz65_0; try clear hcz65_1; try clear hcz65_2; try clear hcz78_0; try clear hcz78_1; try clear hcz78_2; try clear hcz80_0; try clear hcz80_1; try clear hcz80_2; try clear hcz8_0; try clear hcz8_1; try clear hcz8_2; try clear hcz9_0; try clear hcz9_1; try clear hcz9_2; try clear hfz12_0; try clear hfz12_1; try clear hfz12_2; try clear hfz23_0; try clear hfz23_1; try clear hfz23_2; try clear hfz23_3; try clear hfz23_4; try clear hfz25_0; try clear hfz25_1; try clear hfz25_2; try clear hfz25_3; try clear hfz25_4; try clear hfz29_0; try clear hfz29_1; try clear hfz29_2; try clear hfz29_3; try clear hfz29_4; try clear hfz31_0; try clear hfz31_1; try clear hfz31_2; try clear hfz39_0; try clear hfz39_1; try clear hfz39_2; try clear hfz43_0; try clear hfz43_1; try clear hfz43_2; try clear hfz45_0; try clear hfz45_1; try clear hfz45_2; try clear hfz49_0; try clear hfz49_1; try clear hfz49_2; try clear hfz5_0; try clear hfz5_1; try clear hfz5_2; try clear hfz62_0; try clear hfz62_1; try clear hfz62_2; try clear hfz65_0; try clear hfz65_1; try clear hfz65_2; try clear hfz78_0; try clear hfz78_1; try clear hfz78_2; try clear hfz80_0; try clear hfz80_1; try clear hfz80_2; try clear hfz8_0; try clear hfz8_1; try clear hfz8_2; try clear hfz9_0; try clear hfz9_1; try clear hfz9_2; try clear hx198_0; try clear hx198_1; try clear hx198_2; try clear hx198_3; try clear hx198_4; try clear hx202_0; try clear hx202_1; try clear hx202_2; try clear hx205_0; try clear hx207_0; try clear hx208_0; try clear hx210_0; try clear p1; try clear p19; try clear p198; try clear p2; try clear p20; try clear p202; try clear p205; try clear p207; try clear p208; try clear p210; try clear p6; try clear p64; try clear q1; try clear q19; try clear q198; try clear q2; try clear q20; try clear q202; try clear q205; try clear q207; try clear q208; try clear q210
           obtain ⟨x131_4, rfl, HA, HK4, BK196, HB⟩ := hrel
           cases gk with
           | zero => exact absurd HA.out (by simp [impl_RouterFault.l4])
           | succ k4 =>
            have H := HA.out
            clear HA
            simp only [impl_RouterFault.l4] at H
            have HC81 := Sq.l H
            clear H
            go_upto_if 132 with (fail)
            have H := HC81.out
            clear HC81
            by_cases c82 : x131_4 < (l0_2.length : Int)
            ·rw [if_pos c82] at H
             have c82b0 : decide (x131_4 < (l0_2.length : Int)) = true := decide_eq_true c82
             clear c82
             (first | rw [c82b0] | (simp only [i64_w, i32_w]; rw [c82b0]) | skip)
             by_cases c83 : 0 ≤ x131_4
             ·rw [if_pos c83] at H
              have c83b0 : decide (0 ≤ x131_4) = true := decide_eq_true c83
              clear c83
              by_cases c84 : x131_4 < (l0_2.length : Int)
              ·rw [if_pos c84] at H
               have c84b0 : decide (x131_4 < (l0_2.length : Int)) = true := decide_eq_true c84
               clear c84
               have HC85 := Sq.l H
               clear H
               have p211 : 0 ≤ (x131_4 : Int) := of_decide_eq_true (by first | (with_reducible assumption) | assumption)
               have q211 : x131_4 < (l0_2.length : Int) := of_decide_eq_true (by first | (with_reducible assumption) | assumption)
               obtain ⟨ad211, e211, hx211_0, hx211_1, hx211_2, hx211_3⟩ := at_T113 HR0_2.out x131_4 p211 q211
               cases e211
               replace hx211_0 := (HB.out.cell (World.block_lt_of_cell? w _ hx211_0)).trans hx211_0
               replace hx211_1 := (HB.out.cell (World.block_lt_of_cell? w _ hx211_1)).trans hx211_1
               replace hx211_2 := (HB.out.cell (World.block_lt_of_cell? w _ hx211_2)).trans hx211_2
               replace hx211_3 := (HB.out.cell (World.block_lt_of_cell? w _ hx211_3)).trans hx211_3
               replace p211 := eq_true p211; replace q211 := eq_true q211
               go_upto_region 32 with (first | ((with_reducible refine gate_dst (N := 14) rfl ?_); (try (refine gate_guard (by rfl) ?_; dsimp only)); refine box_event ?hg (N := 14) ?hd (cs := #[.int .i64 0, .int .i64 0, .int .i64 0, .int .i64 0]) (t := 113) ?hr ?_; (case hd => rfl); (case hg => rfl); (case hr => first | (go_simp; done) | (go_simp; rfl)); intro gb212 hg w86 hbox hb; have n0_ := Sq.l (Sq.m (g := gb196) (o := .cells #[.slice A0_0 l0_0.length c0_0, .slice A0_1 l0_1.length c0_1, .slice (some ad211) l0_2.length c0_2] 45 (0, 0)) (by (with_reducible repeat (first | refine Sq.d ?_ _ | refine Sq.e ?_ | refine Sq.f ?_ _)); exact BK196.out) hb); have n1_ := Sq.l (Sq.a4 (by repeat (first | (with_reducible first | exact HB.out | apply Sq.i | apply Sq.j | apply Sq.k | refine Sq.h ?_ GE196.out) | exact HB.out)) hb); have n2_ := Sq.l (hbox); have n3_ := Sq.l ((by rw [hg]; exact (Sq.a5 (by repeat (first | (with_reducible first | exact HB.out | apply Sq.i | apply Sq.j | apply Sq.k | refine Sq.h ?_ GE196.out) | exact HB.out))) : w.heap.size ≤ gb212)); have n4_ := Sq.l ((by rw [hg]; exact (Sq.a5 (by repeat (first | (with_reducible first | exact HB.out | apply Sq.i | apply Sq.j | apply Sq.k | refine Sq.h ?_ GE196.out) | exact HB.out))) : w.heap.size ≤ gb212)); have n5_ := Sq.l ((by rw [hg]; exact Nat.ne_of_lt (blk_lt (g := gb196) (o := .cells #[.slice A0_0 l0_0.length c0_0, .slice A0_1 l0_1.length c0_1, .slice (some ad211) l0_2.length c0_2] 45 (0, 0)) (by (with_reducible repeat (first | refine Sq.d ?_ _ | refine Sq.e ?_ | refine Sq.f ?_ _)); exact BK196.out)) : gb196 ≠ gb212)); have n6_ := Sq.l ((by rw [hg]; exact Nat.ne_of_gt (blk_lt (g := gb196) (o := .cells #[.slice A0_0 l0_0.length c0_0, .slice A0_1 l0_1.length c0_1, .slice (some ad211) l0_2.length c0_2] 45 (0, 0)) (by (with_reducible repeat (first | refine Sq.d ?_ _ | refine Sq.e ?_ | refine Sq.f ?_ _)); exact BK196.out)) : gb212 ≠ gb196)); clear BK196; clear HB; have BK196 := n0_; have HB := n1_; have BK212 := n2_; have GW212 := n3_; have GE212 := n4_; have NB196_212 := n5_; have NB212_196 := n6_; clear n0_ n1_ n2_ n3_ n4_ n5_ n6_; clear hb hbox hg; have hnb87 := NB212_196.out; have hnc87 := NB196_212.out; have hcz88_0 : w86.cell? ⟨gb212, 0, none⟩ = some (.int .i64 0) := (Sq.o BK212.out 0).trans rfl; have hcz88_1 : w86.cell? ⟨gb212, 1, none⟩ = some (.int .i64 0) := (Sq.o BK212.out 1).trans rfl; have hcz88_2 : w86.cell? ⟨gb212, 2, none⟩ = some (.int .i64 0) := (Sq.o BK212.out 2).trans rfl; have hcz88_3 : w86.cell? ⟨gb212, 3, none⟩ = some (.int .i64 0) := (Sq.o BK212.out 3).trans rfl; have hfz88_0 := Sq.r BK212.out 0; have hfz88_1 := Sq.r BK212.out 1; have hfz88_2 := Sq.r BK212.out 2; have hfz88_3 := Sq.r BK212.out 3))
               (try simp only [Act.put, List.setIfInBounds_toArray, List.set_cons_zero, List.set_cons_succ])
               go_cut [159] (fun v159 wc => ∃ (kq : Nat) (x159_84 : Bool), v159 = .bool x159_84 ∧ Aside0 (impl_RouterFault.j7 kq x131_4 l0_2 (l0_2.length : Int) x131_4 x159_84 l0_0 l0_1 l0_2 ((rd_T113 l0_2 x131_4).f0) ((rd_T113 l0_2 x131_4).f1) ((rd_T113 l0_2 x131_4).f2) ((rd_T113 l0_2 x131_4).f3) = some r) ∧ Aside0 (kq ≤ k4) ∧ Aside0 (wc.heap[gb196]? = some (.cells #[(.slice A0_0 l0_0.length c0_0), (.slice A0_1 l0_1.length c0_1), (.slice (some ad211) l0_2.length c0_2)] 45 (0, 0))) ∧ Aside0 (wc.heap[gb212]? = some (.cells #[.int .i64 ((rd_T113 l0_2 x131_4).f0), .int .i64 ((rd_T113 l0_2 x131_4).f1), .int .i64 ((rd_T113 l0_2 x131_4).f2), .int .i64 ((rd_T113 l0_2 x131_4).f3)] 113 (0, 0))) ∧ Aside0 (Below w.heap.size w wc))
               case first =>
                have H := HC85.out
                clear HC85
                replace H := Option.bind_eq_some_iff.mp H
                obtain ⟨t213, A890, H⟩ := H
                (try dsimp only at H)
                have A89 := Sq.l A890
                clear A890
                by_cases c90 : t213 = true
                ·subst c90
                 rw [if_pos rfl] at H
                 replace H := Option.bind_eq_some_iff.mp H
                 obtain ⟨t214, A910, H⟩ := H
                 (try dsimp only at H)
                 have A91 := Sq.l A910
                 clear A910
                 by_cases c92 : t214 = true
                 ·subst c92
                  rw [if_pos rfl] at H
                  replace H := Option.bind_eq_some_iff.mp H
                  obtain ⟨t215, A930, H⟩ := H
                  (try dsimp only at H)
                  have A93 := Sq.l A930
                  clear A930
                  by_cases c94 : t215 = true
                  ·subst c94
                   rw [if_pos rfl] at H
                   replace H := Option.bind_eq_some_iff.mp H
                   obtain ⟨t216, A950, H⟩ := H
                   (try dsimp only at H)
                   have A95 := Sq.l A950
                   clear A950
                   have H' := Sq.l H
                   clear H; have hnb96 := NB212_196.out; have hnc96 := NB196_212.out
                   have hcz97_0 : w86.cell? ⟨gb212, 0, none⟩ = some (.int .i64 0) := (Sq.o BK212.out 0).trans rfl
                   have hcz97_1 : w86.cell? ⟨gb212, 1, none⟩ = some (.int .i64 0) := (Sq.o BK212.out 1).trans rfl
                   have hcz97_2 : w86.cell? ⟨gb212, 2, none⟩ = some (.int .i64 0) := (Sq.o BK212.out 2).trans rfl
                   have hcz97_3 : w86.cell? ⟨gb212, 3, none⟩ = some (.int .i64 0) := (Sq.o BK212.out 3).trans rfl
                   have hfz97_0 := Sq.r BK212.out 0
                   have hfz97_1 := Sq.r BK212.out 1
                   have hfz97_2 := Sq.r BK212.out 2
                   have hfz97_3 := Sq.r BK212.out 3
                   go_wp2_with (first | ((with_reducible refine gate_callee (f := 49) rfl ?_); refine goesL_ (some 138) rfl rfl Try.func49 (by kernel_rfl) rfl #[.int .i64 ((rd_T113 l0_2 x131_4).f0), .int .i64 0, .int .i64 255] rfl (by (try simp only [List.map_toArray, List.map_cons, List.map_nil]); first | done | rfl | (simp only [List.length_drop, List.length_take]; rfl)) ?_; (with_reducible refine (impl_yin.calls ((rd_T113 l0_2 x131_4).f0) 0 255 true _ A89.out).mono ?_); rintro e w' ⟨rfl, ⟨nd, rfl⟩⟩; refine ⟨_, rfl, ?_⟩) | (go_at_call 49; (with_reducible refine (impl_yin.calls ((rd_T113 l0_2 x131_4).f1) 0 255 true _ A91.out).mono ?_); rintro e w' ⟨rfl, ⟨nd, rfl⟩⟩) | (go_at_call 63; (with_reducible refine (impl_RouterFault_1.calls gb196 ((rd_T113 l0_2 x131_4).f2) A0_0 c0_0 l0_0 A0_1 c0_1 l0_1 (some ad211) c0_2 l0_2 true _ ?side1 A93.out).mono ?_); (case side1 => exact (by (with_reducible repeat (first | refine Sq.d ?_ _ | refine Sq.e ?_ | refine Sq.f ?_ _)); refine Sq.B4 ?_ NB196_212.out; (with_reducible repeat (first | refine Sq.d ?_ _ | refine Sq.e ?_ | refine Sq.f ?_ _)); exact BK196.out)); rintro e w98 ⟨rfl, hb⟩; have n0_ := Sq.l (Sq.m (g := gb196) (o := .cells #[.slice A0_0 l0_0.length c0_0, .slice A0_1 l0_1.length c0_1, .slice (some ad211) l0_2.length c0_2] 45 (0, 0)) (by (with_reducible repeat (first | refine Sq.d ?_ _ | refine Sq.e ?_ | refine Sq.f ?_ _)); refine Sq.B4 ?_ NB196_212.out; (with_reducible repeat (first | refine Sq.d ?_ _ | refine Sq.e ?_ | refine Sq.f ?_ _)); exact BK196.out) hb); have n1_ := Sq.l (Sq.m (g := gb212) (o := .cells #[.int .i64 ((rd_T113 l0_2 x131_4).f0), .int .i64 ((rd_T113 l0_2 x131_4).f1), .int .i64 ((rd_T113 l0_2 x131_4).f2), .int .i64 ((rd_T113 l0_2 x131_4).f3)] 113 (0, 0)) (by (with_reducible repeat (first | refine Sq.d ?_ _ | refine Sq.e ?_ | refine Sq.f ?_ _)); refine Sq.v (cs := #[.int .i64 ((rd_T113 l0_2 x131_4).f0), .int .i64 ((rd_T113 l0_2 x131_4).f1), .int .i64 ((rd_T113 l0_2 x131_4).f2), .int .i64 0]) ?_ 3 _ rfl; (with_reducible repeat (first | refine Sq.d ?_ _ | refine Sq.e ?_ | refine Sq.f ?_ _)); refine Sq.v (cs := #[.int .i64 ((rd_T113 l0_2 x131_4).f0), .int .i64 ((rd_T113 l0_2 x131_4).f1), .int .i64 0, .int .i64 0]) ?_ 2 _ rfl; (with_reducible repeat (first | refine Sq.d ?_ _ | refine Sq.e ?_ | refine Sq.f ?_ _)); refine Sq.v (cs := #[.int .i64 ((rd_T113 l0_2 x131_4).f0), .int .i64 0, .int .i64 0, .int .i64 0]) ?_ 1 _ rfl; (with_reducible repeat (first | refine Sq.d ?_ _ | refine Sq.e ?_ | refine Sq.f ?_ _)); refine Sq.v (cs := #[.int .i64 0, .int .i64 0, .int .i64 0, .int .i64 0]) ?_ 0 _ rfl; (with_reducible repeat (first | refine Sq.d ?_ _ | refine Sq.e ?_ | refine Sq.f ?_ _)); exact BK212.out) hb); have n2_ := Sq.l (Sq.a4 (by repeat (first | (with_reducible first | exact HB.out | apply Sq.i | apply Sq.j | apply Sq.k | refine Sq.h ?_ GE196.out | refine Sq.h ?_ GE212.out) | exact HB.out)) hb); clear BK196; clear BK212; clear HB; have BK196 := n0_; have BK212 := n1_; have HB := n2_; clear n0_ n1_ n2_; (try clear hb); (try clear hb2); (try clear hk); (try clear hi); have hcz99_0 : w98.cell? ⟨gb212, 0, none⟩ = some (.int .i64 ((rd_T113 l0_2 x131_4).f0)) := (Sq.o BK212.out 0).trans rfl; have hcz99_1 : w98.cell? ⟨gb212, 1, none⟩ = some (.int .i64 ((rd_T113 l0_2 x131_4).f1)) := (Sq.o BK212.out 1).trans rfl; have hcz99_2 : w98.cell? ⟨gb212, 2, none⟩ = some (.int .i64 ((rd_T113 l0_2 x131_4).f2)) := (Sq.o BK212.out 2).trans rfl; have hcz99_3 : w98.cell? ⟨gb212, 3, none⟩ = some (.int .i64 ((rd_T113 l0_2 x131_4).f3)) := (Sq.o BK212.out 3).trans rfl; have hfz99_0 := Sq.r BK212.out 0; have hfz99_1 := Sq.r BK212.out 1; have hfz99_2 := Sq.r BK212.out 2; have hfz99_3 := Sq.r BK212.out 3) | (go_at_call 64; (with_reducible refine (impl_RouterFault_2.calls ((rd_T113 l0_2 x131_4).f3) t216 _ A95.out).mono ?_); rintro e w' ⟨rfl, ⟨nd, rfl⟩⟩))
                   go_meet
                   case rel => exact ⟨_, (!t216), (by first | rfl | (simp; done) | (simp [*]; done)), H', ⟨by have := HJ1.out; have := HK2.out; have := HK3.out; have := HK4.out; first | omega | exact Nat.le_refl _⟩, ⟨by (with_reducible repeat (first | refine Sq.d ?_ _ | refine Sq.e ?_ | refine Sq.f ?_ _)); exact BK196.out⟩, ⟨by (with_reducible repeat (first | refine Sq.d ?_ _ | refine Sq.e ?_ | refine Sq.f ?_ _)); exact BK212.out⟩, ⟨by repeat (first | (with_reducible first | exact HB.out | apply Sq.i | apply Sq.j | apply Sq.k | refine Sq.h ?_ GE196.out | refine Sq.h ?_ GE212.out) | exact HB.out)⟩⟩
                  ·replace c94 := Bool.eq_false_iff.mpr c94
                   subst c94
                   rw [if_neg (show ¬ (false = true) by decide)] at H
                   have H' := Sq.l H
                   clear H; have hnb100 := NB212_196.out; have hnc100 := NB196_212.out
                   have hcz101_0 : w86.cell? ⟨gb212, 0, none⟩ = some (.int .i64 0) := (Sq.o BK212.out 0).trans rfl
                   have hcz101_1 : w86.cell? ⟨gb212, 1, none⟩ = some (.int .i64 0) := (Sq.o BK212.out 1).trans rfl
                   have hcz101_2 : w86.cell? ⟨gb212, 2, none⟩ = some (.int .i64 0) := (Sq.o BK212.out 2).trans rfl
                   have hcz101_3 : w86.cell? ⟨gb212, 3, none⟩ = some (.int .i64 0) := (Sq.o BK212.out 3).trans rfl
                   have hfz101_0 := Sq.r BK212.out 0
                   have hfz101_1 := Sq.r BK212.out 1
                   have hfz101_2 := Sq.r BK212.out 2
                   have hfz101_3 := Sq.r BK212.out 3
                   go_wp2_with (first | ((with_reducible refine gate_callee (f := 49) rfl ?_); refine goesL_ (some 138) rfl rfl Try.func49 (by kernel_rfl) rfl #[.int .i64 ((rd_T113 l0_2 x131_4).f0), .int .i64 0, .int .i64 255] rfl (by (try simp only [List.map_toArray, List.map_cons, List.map_nil]); first | done | rfl | (simp only [List.length_drop, List.length_take]; rfl)) ?_; (with_reducible refine (impl_yin.calls ((rd_T113 l0_2 x131_4).f0) 0 255 true _ A89.out).mono ?_); rintro e w' ⟨rfl, ⟨nd, rfl⟩⟩; refine ⟨_, rfl, ?_⟩) | (go_at_call 49; (with_reducible refine (impl_yin.calls ((rd_T113 l0_2 x131_4).f1) 0 255 true _ A91.out).mono ?_); rintro e w' ⟨rfl, ⟨nd, rfl⟩⟩) | (go_at_call 63; (with_reducible refine (impl_RouterFault_1.calls gb196 ((rd_T113 l0_2 x131_4).f2) A0_0 c0_0 l0_0 A0_1 c0_1 l0_1 (some ad211) c0_2 l0_2 false _ ?side1 A93.out).mono ?_); (case side1 => exact (by (with_reducible repeat (first | refine Sq.d ?_ _ | refine Sq.e ?_ | refine Sq.f ?_ _)); refine Sq.B4 ?_ NB196_212.out; (with_reducible repeat (first | refine Sq.d ?_ _ | refine Sq.e ?_ | refine Sq.f ?_ _)); exact BK196.out)); rintro e w102 ⟨rfl, hb⟩; have n0_ := Sq.l (Sq.m (g := gb196) (o := .cells #[.slice A0_0 l0_0.length c0_0, .slice A0_1 l0_1.length c0_1, .slice (some ad211) l0_2.length c0_2] 45 (0, 0)) (by (with_reducible repeat (first | refine Sq.d ?_ _ | refine Sq.e ?_ | refine Sq.f ?_ _)); refine Sq.B4 ?_ NB196_212.out; (with_reducible repeat (first | refine Sq.d ?_ _ | refine Sq.e ?_ | refine Sq.f ?_ _)); exact BK196.out) hb); have n1_ := Sq.l (Sq.m (g := gb212) (o := .cells #[.int .i64 ((rd_T113 l0_2 x131_4).f0), .int .i64 ((rd_T113 l0_2 x131_4).f1), .int .i64 ((rd_T113 l0_2 x131_4).f2), .int .i64 ((rd_T113 l0_2 x131_4).f3)] 113 (0, 0)) (by (with_reducible repeat (first | refine Sq.d ?_ _ | refine Sq.e ?_ | refine Sq.f ?_ _)); refine Sq.v (cs := #[.int .i64 ((rd_T113 l0_2 x131_4).f0), .int .i64 ((rd_T113 l0_2 x131_4).f1), .int .i64 ((rd_T113 l0_2 x131_4).f2), .int .i64 0]) ?_ 3 _ rfl; (with_reducible repeat (first | refine Sq.d ?_ _ | refine Sq.e ?_ | refine Sq.f ?_ _)); refine Sq.v (cs := #[.int .i64 ((rd_T113 l0_2 x131_4).f0), .int .i64 ((rd_T113 l0_2 x131_4).f1), .int .i64 0, .int .i64 0]) ?_ 2 _ rfl; (with_reducible repeat (first | refine Sq.d ?_ _ | refine Sq.e ?_ | refine Sq.f ?_ _)); refine Sq.v (cs := #[.int .i64 ((rd_T113 l0_2 x131_4).f0), .int .i64 0, .int .i64 0, .int .i64 0]) ?_ 1 _ rfl; (with_reducible repeat (first | refine Sq.d ?_ _ | refine Sq.e ?_ | refine Sq.f ?_ _)); refine Sq.v (cs := #[.int .i64 0, .int .i64 0, .int .i64 0, .int .i64 0]) ?_ 0 _ rfl; (with_reducible repeat (first | refine Sq.d ?_ _ | refine Sq.e ?_ | refine Sq.f ?_ _)); exact BK212.out) hb); have n2_ := Sq.l (Sq.a4 (by repeat (first | (with_reducible first | exact HB.out | apply Sq.i | apply Sq.j | apply Sq.k | refine Sq.h ?_ GE196.out | refine Sq.h ?_ GE212.out) | exact HB.out)) hb); clear BK196; clear BK212; clear HB; have BK196 := n0_; have BK212 := n1_; have HB := n2_; clear n0_ n1_ n2_; (try clear hb); (try clear hb2); (try clear hk); (try clear hi)))
                   go_meet
                   case rel => exact ⟨_, (true), (by first | rfl | (simp; done) | (simp [*]; done)), H', ⟨by have := HJ1.out; have := HK2.out; have := HK3.out; have := HK4.out; first | omega | exact Nat.le_refl _⟩, ⟨by (with_reducible repeat (first | refine Sq.d ?_ _ | refine Sq.e ?_ | refine Sq.f ?_ _)); exact BK196.out⟩, ⟨by (with_reducible repeat (first | refine Sq.d ?_ _ | refine Sq.e ?_ | refine Sq.f ?_ _)); exact BK212.out⟩, ⟨by repeat (first | (with_reducible first | exact HB.out | apply Sq.i | apply Sq.j | apply Sq.k | refine Sq.h ?_ GE196.out | refine Sq.h ?_ GE212.out) | exact HB.out)⟩⟩
                 ·replace c92 := Bool.eq_false_iff.mpr c92
                  subst c92
                  rw [if_neg (show ¬ (false = true) by decide)] at H
                  have H' := Sq.l H
                  clear H; have hnb103 := NB212_196.out; have hnc103 := NB196_212.out
                  have hcz104_0 : w86.cell? ⟨gb212, 0, none⟩ = some (.int .i64 0) := (Sq.o BK212.out 0).trans rfl
                  have hcz104_1 : w86.cell? ⟨gb212, 1, none⟩ = some (.int .i64 0) := (Sq.o BK212.out 1).trans rfl
                  have hcz104_2 : w86.cell? ⟨gb212, 2, none⟩ = some (.int .i64 0) := (Sq.o BK212.out 2).trans rfl
                  have hcz104_3 : w86.cell? ⟨gb212, 3, none⟩ = some (.int .i64 0) := (Sq.o BK212.out 3).trans rfl
                  have hfz104_0 := Sq.r BK212.out 0
                  have hfz104_1 := Sq.r BK212.out 1
                  have hfz104_2 := Sq.r BK212.out 2
                  have hfz104_3 := Sq.r BK212.out 3
                  go_wp2_with (first | ((with_reducible refine gate_callee (f := 49) rfl ?_); refine goesL_ (some 138) rfl rfl Try.func49 (by kernel_rfl) rfl #[.int .i64 ((rd_T113 l0_2 x131_4).f0), .int .i64 0, .int .i64 255] rfl (by (try simp only [List.map_toArray, List.map_cons, List.map_nil]); first | done | rfl | (simp only [List.length_drop, List.length_take]; rfl)) ?_; (with_reducible refine (impl_yin.calls ((rd_T113 l0_2 x131_4).f0) 0 255 true _ A89.out).mono ?_); rintro e w' ⟨rfl, ⟨nd, rfl⟩⟩; refine ⟨_, rfl, ?_⟩) | (go_at_call 49; (with_reducible refine (impl_yin.calls ((rd_T113 l0_2 x131_4).f1) 0 255 false _ A91.out).mono ?_); rintro e w' ⟨rfl, ⟨nd, rfl⟩⟩))
                  go_meet
                  case rel => exact ⟨_, (true), (by first | rfl | (simp; done) | (simp [*]; done)), H', ⟨by have := HJ1.out; have := HK2.out; have := HK3.out; have := HK4.out; first | omega | exact Nat.le_refl _⟩, ⟨by (with_reducible repeat (first | refine Sq.d ?_ _ | refine Sq.e ?_ | refine Sq.f ?_ _)); refine Sq.B4 ?_ NB196_212.out; (with_reducible repeat (first | refine Sq.d ?_ _ | refine Sq.e ?_ | refine Sq.f ?_ _)); exact BK196.out⟩, ⟨by (with_reducible repeat (first | refine Sq.d ?_ _ | refine Sq.e ?_ | refine Sq.f ?_ _)); refine Sq.v (cs := #[.int .i64 ((rd_T113 l0_2 x131_4).f0), .int .i64 ((rd_T113 l0_2 x131_4).f1), .int .i64 ((rd_T113 l0_2 x131_4).f2), .int .i64 0]) ?_ 3 _ rfl; (with_reducible repeat (first | refine Sq.d ?_ _ | refine Sq.e ?_ | refine Sq.f ?_ _)); refine Sq.v (cs := #[.int .i64 ((rd_T113 l0_2 x131_4).f0), .int .i64 ((rd_T113 l0_2 x131_4).f1), .int .i64 0, .int .i64 0]) ?_ 2 _ rfl; (with_reducible repeat (first | refine Sq.d ?_ _ | refine Sq.e ?_ | refine Sq.f ?_ _)); refine Sq.v (cs := #[.int .i64 ((rd_T113 l0_2 x131_4).f0), .int .i64 0, .int .i64 0, .int .i64 0]) ?_ 1 _ rfl; (with_reducible repeat (first | refine Sq.d ?_ _ | refine Sq.e ?_ | refine Sq.f ?_ _)); refine Sq.v (cs := #[.int .i64 0, .int .i64 0, .int .i64 0, .int .i64 0]) ?_ 0 _ rfl; (with_reducible repeat (first | refine Sq.d ?_ _ | refine Sq.e ?_ | refine Sq.f ?_ _)); exact BK212.out⟩, ⟨by repeat (first | (with_reducible first | exact HB.out | apply Sq.i | apply Sq.j | apply Sq.k | refine Sq.h ?_ GE196.out | refine Sq.h ?_ GE212.out) | exact HB.out)⟩⟩
                ·replace c90 := Bool.eq_false_iff.mpr c90
                 subst c90
                 rw [if_neg (show ¬ (false = true) by decide)] at H
                 have H' := Sq.l H
                 clear H; have hnb105 := NB212_196.out; have hnc105 := NB196_212.out
                 have hcz106_0 : w86.cell? ⟨gb212, 0, none⟩ = some (.int .i64 0) := (Sq.o BK212.out 0).trans rfl
                 have hcz106_1 : w86.cell? ⟨gb212, 1, none⟩ = some (.int .i64 0) := (Sq.o BK212.out 1).trans rfl
                 have hcz106_2 : w86.cell? ⟨gb212, 2, none⟩ = some (.int .i64 0) := (Sq.o BK212.out 2).trans rfl
                 have hcz106_3 : w86.cell? ⟨gb212, 3, none⟩ = some (.int .i64 0) := (Sq.o BK212.out 3).trans rfl
                 have hfz106_0 := Sq.r BK212.out 0
                 have hfz106_1 := Sq.r BK212.out 1
                 have hfz106_2 := Sq.r BK212.out 2
                 have hfz106_3 := Sq.r BK212.out 3
                 go_wp2_with (first | ((with_reducible refine gate_callee (f := 49) rfl ?_); refine goesL_ (some 138) rfl rfl Try.func49 (by kernel_rfl) rfl #[.int .i64 ((rd_T113 l0_2 x131_4).f0), .int .i64 0, .int .i64 255] rfl (by (try simp only [List.map_toArray, List.map_cons, List.map_nil]); first | done | rfl | (simp only [List.length_drop, List.length_take]; rfl)) ?_; (with_reducible refine (impl_yin.calls ((rd_T113 l0_2 x131_4).f0) 0 255 false _ A89.out).mono ?_); rintro e w' ⟨rfl, ⟨nd, rfl⟩⟩; refine ⟨_, rfl, ?_⟩))
                 go_meet
                 case rel => exact ⟨_, (true), (by first | rfl | (simp; done) | (simp [*]; done)), H', ⟨by have := HJ1.out; have := HK2.out; have := HK3.out; have := HK4.out; first | omega | exact Nat.le_refl _⟩, ⟨by (with_reducible repeat (first | refine Sq.d ?_ _ | refine Sq.e ?_ | refine Sq.f ?_ _)); refine Sq.B4 ?_ NB196_212.out; (with_reducible repeat (first | refine Sq.d ?_ _ | refine Sq.e ?_ | refine Sq.f ?_ _)); exact BK196.out⟩, ⟨by (with_reducible repeat (first | refine Sq.d ?_ _ | refine Sq.e ?_ | refine Sq.f ?_ _)); refine Sq.v (cs := #[.int .i64 ((rd_T113 l0_2 x131_4).f0), .int .i64 ((rd_T113 l0_2 x131_4).f1), .int .i64 ((rd_T113 l0_2 x131_4).f2), .int .i64 0]) ?_ 3 _ rfl; (with_reducible repeat (first | refine Sq.d ?_ _ | refine Sq.e ?_ | refine Sq.f ?_ _)); refine Sq.v (cs := #[.int .i64 ((rd_T113 l0_2 x131_4).f0), .int .i64 ((rd_T113 l0_2 x131_4).f1), .int .i64 0, .int .i64 0]) ?_ 2 _ rfl; (with_reducible repeat (first | refine Sq.d ?_ _ | refine Sq.e ?_ | refine Sq.f ?_ _)); refine Sq.v (cs := #[.int .i64 ((rd_T113 l0_2 x131_4).f0), .int .i64 0, .int .i64 0, .int .i64 0]) ?_ 1 _ rfl; (with_reducible repeat (first | refine Sq.d ?_ _ | refine Sq.e ?_ | refine Sq.f ?_ _)); refine Sq.v (cs := #[.int .i64 0, .int .i64 0, .int .i64 0, .int .i64 0]) ?_ 0 _ rfl; (with_reducible repeat (first | refine Sq.d ?_ _ | refine Sq.e ?_ | refine Sq.f ?_ _)); exact BK212.out⟩, ⟨by repeat (first | (with_reducible first | exact HB.out | apply Sq.i | apply Sq.j | apply Sq.k | refine Sq.h ?_ GE196.out | refine Sq.h ?_ GE212.out) | exact HB.out)⟩⟩
               case rest =>
                clear HC85; try clear c1; try clear p1; try clear q1; try clear hx1; try clear c2; try clear p2; try clear q2; try clear hx2; try clear c3; try clear c4; try clear c4b0; try clear c4b1; try clear c5; try clear c6; try clear p6; try clear c7; try clear c8; try clear c9; try clear c10; try clear c11; try clear c14; try clear c14b0; try clear c15; try clear c15b0; try clear c16; try clear c16b0; try clear c18; try clear p19; try clear q19; try clear hx19; try clear c20; try clear p20; try clear q20; try clear hx20; try clear p21; try clear q21; try clear hx21; try clear c22; try clear c26; try clear c28; try clear c33; try clear c33b0; try clear c34; try clear c34b0; try clear c35; try clear c35b0; try clear c38; try clear c41; try clear c42; try clear c44; try clear c47; try clear c48; try clear c49; try clear c51; try clear c51b0; try clear c52; try clear c52b0; try clear c53; try clear c53b0; try clear c55; try clear c56; try clear c56b0; try clear c58; try clear c58b0; try clear c59; try clear c59b0; try clear c61; try clear c63; try clear c63b0; try clear c64; try clear p64; try clear c67; try clear c67b0; try clear c68; try clear c68b0; try clear c69; try clear c69b0; try clear c71; try clear c72; try clear c72b0; try clear c74; try clear c74b0; try clear c75; try clear c75b0; try clear c77; try clear c79; try clear c79b0; try clear c82; try clear c82b0; try clear c83; try clear c83b0; try clear c84; try clear c84b0; try clear c87; try clear c90; try clear c92; try clear c94; try clear c96; try clear c100; try clear c103; try clear c105; try clear hcz101_0; try clear hcz101_1; try clear hcz101_2; try clear hcz101_3; try clear hcz104_0; try clear hcz104_1; try clear hcz104_2; try clear hcz104_3; try clear hcz106_0; try clear hcz106_1; try clear hcz106_2; try clear hcz106_3; try clear hcz12_0; try clear hcz12_1; try clear hcz12_2; try clear hcz23_0; try clear hcz23_1; try clear hcz23_2; try clear hcz23_3; try clear hcz23_4; try clear hcz25_0; try clear hcz25_1; try clear hcz25_2; try clear hcz25_3; try clear hcz25_4; try clear hcz29_0; try clear hcz29_1; try clear hcz29_2; try clear hcz29_3; try clear hcz29_4; try clear hcz31_0; try clear hcz31_1; try clear hcz31_2; try clear hcz39_0; try clear hcz39_1; try clear hcz39_2; try clear hcz43_0; try clear hcz43_1; try clear hcz43_2; try clear hcz45_0; try clear hcz45_1; try clear hcz45_2; try clear hcz49_0; try clear hcz49_1; try clear hcz49_2; try clear hcz5_0; try clear hcz5_1; try clear hcz5_2; try clear hcz62_0; try clear hcz62_1; try clear hcz62_2; try clear hcz65_0; try clear hcz65_1; try clear hcz65_2; try clear hcz78_0; try clear hcz78_1; try clear hcz78_2; try clear hcz80_0; try clear hcz80_1; try clear hcz80_2; try clear hcz88_0; try clear hcz88_1; try clear hcz88_2; try clear hcz88_3; try clear hcz8_0; try clear hcz8_1; try clear hcz8_2; try clear hcz97_0; try clear hcz97_1; try clear hcz97_2; try clear hcz97_3; try clear hcz99_0; try clear hcz99_1; try clear hcz99_2; try clear hcz99_3; try clear hcz9_0; try clear hcz9_1; try clear hcz9_2; try clear hfz101_0; try clear hfz101_1; try clear hfz101_2; try clear hfz101_3; try clear hfz104_0; try clear hfz104_1; try clear hfz104_2; try clear hfz104_3; try clear hfz106_0; try clear hfz106_1; try clear hfz106_2; try clear hfz106_3; try clear hfz12_0; try clear hfz12_1; try clear hfz12_2; try clear hfz23_0; try clear hfz23_1; try clear hfz23_2; try clear hfz23_3; try clear hfz23_4; try clear hfz25_0; try clear hfz25_1; try clear hfz25_2; try clear hfz25_3; try clear hfz25_4; try clear hfz29_0; try clear hfz29_1; try clear hfz29_2; try clear hfz29_3; try clear hfz29_4; try clear hfz31_0; try clear hfz31_1; try clear hfz31_2; try clear hfz39_0; try clear hfz39_1; try clear hfz39_2; try clear hfz43_0; try clear hfz43_1; try clear hfz43_2; try clear hfz45_0; try clear hfz45_1; try clear hfz45_2; try clear hfz49_0; try clear hfz49_1; try clear hfz49_2; try clear hfz5_0; try clear hfz5_1; try clear hfz5_2; try clear hfz62_0; try clear hfz62_1; try clear hfz62_2; try clear hfz65_0; try clear hfz65_1; try clear hfz65_2; try clear hfz78_0; try clear hfz78_1; try clear hfz78_2; try clear hfz80_0; try clear hfz80_1; try clear hfz80_2; try clear hfz88_0; try clear hfz88_1; try clear hfz88_2; try clear hfz88_3; try clear hfz8_0; try clear hfz8_1; try clear hfz8_2; try clear hfz97_0; try clear hfz97_1; try clear hfz97_2; try clear hfz97_3; try clear hfz99_0; try clear hfz99_1; try clear hfz99_2; try clear hfz99_3; try clear hfz9_0; try clear hfz9_1; try clear hfz9_2; try clear hx198_0; try clear hx198_1; try clear hx198_2; try clear hx198_3; try clear hx198_4; try clear hx202_0; try clear hx202_1; try clear hx202_2; try clear hx205_0; try clear hx207_0; try clear hx208_0; try clear hx210_0; try clear hx211_0; try clear hx211_1; try clear hx211_2; try clear hx211_3; try clear p1; try clear p19; try clear p198; try clear p2; try clear p20; try clear p202; try clear p205; try clear p207; try clear p208; try clear p21; try clear p210; try clear p211; try clear p6; try clear p64; try clear q1; try clear q19; try clear q198; try clear q2; try clear q20; try clear q202; try clear q205; try clear q207; try clear q208; try clear q21; try clear q210; try clear q211
                obtain ⟨kq, x159_84, rfl, HA, HJ84, BK196, BK212, HB⟩ := hcut
                cases kq with
                | zero => exact absurd HA.out (by simp [impl_RouterFault.j7])
                | succ kj84 =>
                 have H := HA.out
                 clear HA
                 simp only [impl_RouterFault.j7] at H
                 have HC107 := Sq.l H
                 clear H
                 go_upto_if 159 with (fail)
                 have H := HC107.out
                 clear HC107
                 by_cases c108 : x159_84 = true
                 ·subst c108
                  rw [if_pos rfl] at H
                  obtain rfl := Option.some.inj H
                  go_wp2
                  go_ret
                  exact ⟨by first | rfl | (simp [errW_none, errW_some] <;> rfl) | (simp [*, errW_none, errW_some] <;> rfl), by repeat (first | (with_reducible first | exact HB.out | apply Sq.i | apply Sq.j | apply Sq.k | refine Sq.h ?_ GE196.out | refine Sq.h ?_ GE212.out) | exact HB.out)⟩
                 ·replace c108 := Bool.eq_false_iff.mpr c108
                  subst c108
                  rw [if_neg (show ¬ (false = true) by decide)] at H
                  have HC109 := Sq.l H
                  clear H
                  go_upto_if 161 with (fail)
                  have H := HC109.out
                  clear HC109
                  by_cases c110 : x131_4 > 0
                  ·rw [if_pos c110] at H
                   have c110b0 : decide (0 < x131_4) = true := decide_eq_true c110
                   clear c110
                   (first | rw [c110b0] | (simp only [i64_w, i32_w]; rw [c110b0]) | skip)
                   obtain ⟨ji111, hji111⟩ : ∃ j_ : Int, (wrap64 (x131_4 - 1)) = j_ := ⟨_, rfl⟩
                   replace H : (if 0 ≤ (ji111) then (if (ji111) < (l0_2.length : Int) then (if ((rd_T113 l0_2 (ji111)).f0) > ((rd_T113 l0_2 x131_4).f0) then (some 1) else (if ((rd_T113 l0_2 (ji111)).f0) = ((rd_T113 l0_2 x131_4).f0) then (if ((rd_T113 l0_2 (ji111)).f1) ≥ ((rd_T113 l0_2 x131_4).f1) then (some 1) else (impl_RouterFault.l4 kj84 l0_2 (l0_2.length : Int) (wrap64 (x131_4 + 1)) l0_0 l0_1 l0_2)) else (impl_RouterFault.l4 kj84 l0_2 (l0_2.length : Int) (wrap64 (x131_4 + 1)) l0_0 l0_1 l0_2))) else (none)) else (none)) = some r := by first | (rw [hji111] at H; exact H) | (simp only [hji111] at H ⊢; exact H)
                   have hji111w : (IntKind.i64.wrap (x131_4 - 1)) = ji111 := (i64_w _).trans hji111
                   by_cases c112 : 0 ≤ (ji111)
                   ·rw [if_pos c112] at H
                    have c112b0 : decide (0 ≤ (ji111)) = true := decide_eq_true c112
                    clear c112
                    by_cases c113 : (ji111) < (l0_2.length : Int)
                    ·rw [if_pos c113] at H
                     have c113b0 : decide ((ji111) < (l0_2.length : Int)) = true := decide_eq_true c113
                     clear c113
                     by_cases c114 : ((rd_T113 l0_2 (ji111)).f0) > ((rd_T113 l0_2 x131_4).f0)
                     ·rw [if_pos c114] at H
                      have c114b0 : decide (((rd_T113 l0_2 x131_4).f0) < ((rd_T113 l0_2 (ji111)).f0)) = true := decide_eq_true c114
                      clear c114
                      obtain rfl := Option.some.inj H
                      have hnb115 := NB196_212.out; have hnc115 := NB212_196.out
                      have hcz116_0 : wc.cell? ⟨gb196, 0, none⟩ = some (.slice A0_0 l0_0.length c0_0) := (Sq.o BK196.out 0).trans rfl
                      have hcz116_1 : wc.cell? ⟨gb196, 1, none⟩ = some (.slice A0_1 l0_1.length c0_1) := (Sq.o BK196.out 1).trans rfl
                      have hcz116_2 : wc.cell? ⟨gb196, 2, none⟩ = some (.slice (some ad211) l0_2.length c0_2) := (Sq.o BK196.out 2).trans rfl
                      have hfz116_0 := Sq.r BK196.out 0
                      have hfz116_1 := Sq.r BK196.out 1
                      have hfz116_2 := Sq.r BK196.out 2
                      have p217 : 0 ≤ ((ji111) : Int) := of_decide_eq_true (by first | (with_reducible assumption) | assumption)
                      have q217 : (ji111) < (l0_2.length : Int) := of_decide_eq_true (by first | (with_reducible assumption) | assumption)
                      obtain ⟨ad217, e217, hx217_0, hx217_1, hx217_2, hx217_3⟩ := at_T113 HR0_2.out (ji111) p217 q217
                      obtain rfl : ad211 = ad217 := (by injection e217)
                      replace hx217_0 := (HB.out.cell (World.block_lt_of_cell? w _ hx217_0)).trans hx217_0
                      replace hx217_1 := (HB.out.cell (World.block_lt_of_cell? w _ hx217_1)).trans hx217_1
                      replace hx217_2 := (HB.out.cell (World.block_lt_of_cell? w _ hx217_2)).trans hx217_2
                      replace hx217_3 := (HB.out.cell (World.block_lt_of_cell? w _ hx217_3)).trans hx217_3
                      replace p217 := eq_true p217; replace q217 := eq_true q217
                      go_wp2_with (first | ((with_reducible refine gate_dst (N := 15) rfl ?_); (try (refine gate_guard (by rfl) ?_; dsimp only)); refine box_event ?hg (N := 15) ?hd (cs := #[.int .i64 0, .int .i64 0, .int .i64 0, .int .i64 0]) (t := 113) ?hr ?_; (case hd => rfl); (case hg => rfl); (case hr => first | (go_simp; done) | (go_simp; rfl)); intro gb218 hg w117 hbox hb; have n0_ := Sq.l (Sq.m (g := gb196) (o := .cells #[.slice A0_0 l0_0.length c0_0, .slice A0_1 l0_1.length c0_1, .slice (some ad211) l0_2.length c0_2] 45 (0, 0)) (by (with_reducible repeat (first | refine Sq.d ?_ _ | refine Sq.e ?_ | refine Sq.f ?_ _)); exact BK196.out) hb); have n1_ := Sq.l (Sq.m (g := gb212) (o := .cells #[.int .i64 ((rd_T113 l0_2 x131_4).f0), .int .i64 ((rd_T113 l0_2 x131_4).f1), .int .i64 ((rd_T113 l0_2 x131_4).f2), .int .i64 ((rd_T113 l0_2 x131_4).f3)] 113 (0, 0)) (by (with_reducible repeat (first | refine Sq.d ?_ _ | refine Sq.e ?_ | refine Sq.f ?_ _)); exact BK212.out) hb); have n2_ := Sq.l (Sq.a4 (by repeat (first | (with_reducible first | exact HB.out | apply Sq.i | apply Sq.j | apply Sq.k | refine Sq.h ?_ GE196.out | refine Sq.h ?_ GE212.out) | exact HB.out)) hb); have n3_ := Sq.l (hbox); have n4_ := Sq.l ((by rw [hg]; exact (Sq.a5 (by repeat (first | (with_reducible first | exact HB.out | apply Sq.i | apply Sq.j | apply Sq.k | refine Sq.h ?_ GE196.out | refine Sq.h ?_ GE212.out) | exact HB.out))) : w.heap.size ≤ gb218)); have n5_ := Sq.l ((by rw [hg]; exact (Sq.a5 (by repeat (first | (with_reducible first | exact HB.out | apply Sq.i | apply Sq.j | apply Sq.k | refine Sq.h ?_ GE196.out | refine Sq.h ?_ GE212.out) | exact HB.out))) : w.heap.size ≤ gb218)); have n6_ := Sq.l ((by rw [hg]; exact Nat.ne_of_lt (blk_lt (g := gb196) (o := .cells #[.slice A0_0 l0_0.length c0_0, .slice A0_1 l0_1.length c0_1, .slice (some ad211) l0_2.length c0_2] 45 (0, 0)) (by (with_reducible repeat (first | refine Sq.d ?_ _ | refine Sq.e ?_ | refine Sq.f ?_ _)); exact BK196.out)) : gb196 ≠ gb218)); have n7_ := Sq.l ((by rw [hg]; exact Nat.ne_of_gt (blk_lt (g := gb196) (o := .cells #[.slice A0_0 l0_0.length c0_0, .slice A0_1 l0_1.length c0_1, .slice (some ad211) l0_2.length c0_2] 45 (0, 0)) (by (with_reducible repeat (first | refine Sq.d ?_ _ | refine Sq.e ?_ | refine Sq.f ?_ _)); exact BK196.out)) : gb218 ≠ gb196)); have n8_ := Sq.l ((by rw [hg]; exact Nat.ne_of_lt (blk_lt (g := gb212) (o := .cells #[.int .i64 ((rd_T113 l0_2 x131_4).f0), .int .i64 ((rd_T113 l0_2 x131_4).f1), .int .i64 ((rd_T113 l0_2 x131_4).f2), .int .i64 ((rd_T113 l0_2 x131_4).f3)] 113 (0, 0)) (by (with_reducible repeat (first | refine Sq.d ?_ _ | refine Sq.e ?_ | refine Sq.f ?_ _)); exact BK212.out)) : gb212 ≠ gb218)); have n9_ := Sq.l ((by rw [hg]; exact Nat.ne_of_gt (blk_lt (g := gb212) (o := .cells #[.int .i64 ((rd_T113 l0_2 x131_4).f0), .int .i64 ((rd_T113 l0_2 x131_4).f1), .int .i64 ((rd_T113 l0_2 x131_4).f2), .int .i64 ((rd_T113 l0_2 x131_4).f3)] 113 (0, 0)) (by (with_reducible repeat (first | refine Sq.d ?_ _ | refine Sq.e ?_ | refine Sq.f ?_ _)); exact BK212.out)) : gb218 ≠ gb212)); clear BK196; clear BK212; clear HB; have BK196 := n0_; have BK212 := n1_; have HB := n2_; have BK218 := n3_; have GW218 := n4_; have GE218 := n5_; have NB196_218 := n6_; have NB218_196 := n7_; have NB212_218 := n8_; have NB218_212 := n9_; clear n0_ n1_ n2_ n3_ n4_ n5_ n6_ n7_ n8_ n9_; clear hb hbox hg; have hnb118 := NB218_196.out; have hnc118 := NB196_218.out; have hnb119 := NB218_212.out; have hnc119 := NB212_218.out; have hcz120_0 : w117.cell? ⟨gb218, 0, none⟩ = some (.int .i64 0) := (Sq.o BK218.out 0).trans rfl; have hcz120_1 : w117.cell? ⟨gb218, 1, none⟩ = some (.int .i64 0) := (Sq.o BK218.out 1).trans rfl; have hcz120_2 : w117.cell? ⟨gb218, 2, none⟩ = some (.int .i64 0) := (Sq.o BK218.out 2).trans rfl; have hcz120_3 : w117.cell? ⟨gb218, 3, none⟩ = some (.int .i64 0) := (Sq.o BK218.out 3).trans rfl; have hfz120_0 := Sq.r BK218.out 0; have hfz120_1 := Sq.r BK218.out 1; have hfz120_2 := Sq.r BK218.out 2; have hfz120_3 := Sq.r BK218.out 3; have hcz121_0 : w117.cell? ⟨gb212, 0, none⟩ = some (.int .i64 ((rd_T113 l0_2 x131_4).f0)) := (Sq.o BK212.out 0).trans rfl; have hcz121_1 : w117.cell? ⟨gb212, 1, none⟩ = some (.int .i64 ((rd_T113 l0_2 x131_4).f1)) := (Sq.o BK212.out 1).trans rfl; have hcz121_2 : w117.cell? ⟨gb212, 2, none⟩ = some (.int .i64 ((rd_T113 l0_2 x131_4).f2)) := (Sq.o BK212.out 2).trans rfl; have hcz121_3 : w117.cell? ⟨gb212, 3, none⟩ = some (.int .i64 ((rd_T113 l0_2 x131_4).f3)) := (Sq.o BK212.out 3).trans rfl; have hfz121_0 := Sq.r BK212.out 0; have hfz121_1 := Sq.r BK212.out 1; have hfz121_2 := Sq.r BK212.out 2; have hfz121_3 := Sq.r BK212.out 3))
                      go_ret
                      exact ⟨by first | rfl | (simp [errW_none, errW_some] <;> rfl) | (simp only [← hji111]; first | rfl | (simp [errW_none, errW_some] <;> rfl)) | (simp [*, errW_none, errW_some] <;> rfl), by repeat (first | (with_reducible first | exact HB.out | apply Sq.i | apply Sq.j | apply Sq.k | refine Sq.h ?_ GE196.out | refine Sq.h ?_ GE212.out | refine Sq.h ?_ GE218.out) | exact HB.out)⟩
                     ·rw [if_neg c114] at H
                      have c114b0 : decide (((rd_T113 l0_2 x131_4).f0) < ((rd_T113 l0_2 (ji111)).f0)) = false := decide_eq_false c114
                      clear c114
                      by_cases c122 : ((rd_T113 l0_2 (ji111)).f0) = ((rd_T113 l0_2 x131_4).f0)
                      ·rw [if_pos c122] at H
                       have c122b0 : (((rd_T113 l0_2 (ji111)).f0) == ((rd_T113 l0_2 x131_4).f0)) = true := beq_iff_eq.mpr c122
                       have c122b1 : (((rd_T113 l0_2 (ji111)).f0) != ((rd_T113 l0_2 x131_4).f0)) = false := bne_eq_false_iff_eq.mpr c122
                       clear c122
                       have HC123 := Sq.l H
                       clear H; have hnb124 := NB196_212.out; have hnc124 := NB212_196.out
                       have hcz125_0 : wc.cell? ⟨gb196, 0, none⟩ = some (.slice A0_0 l0_0.length c0_0) := (Sq.o BK196.out 0).trans rfl
                       have hcz125_1 : wc.cell? ⟨gb196, 1, none⟩ = some (.slice A0_1 l0_1.length c0_1) := (Sq.o BK196.out 1).trans rfl
                       have hcz125_2 : wc.cell? ⟨gb196, 2, none⟩ = some (.slice (some ad211) l0_2.length c0_2) := (Sq.o BK196.out 2).trans rfl
                       have hfz125_0 := Sq.r BK196.out 0
                       have hfz125_1 := Sq.r BK196.out 1
                       have hfz125_2 := Sq.r BK196.out 2
                       have p217 : 0 ≤ ((ji111) : Int) := of_decide_eq_true (by first | (with_reducible assumption) | assumption)
                       have q217 : (ji111) < (l0_2.length : Int) := of_decide_eq_true (by first | (with_reducible assumption) | assumption)
                       obtain ⟨ad217, e217, hx217_0, hx217_1, hx217_2, hx217_3⟩ := at_T113 HR0_2.out (ji111) p217 q217
                       obtain rfl : ad211 = ad217 := (by injection e217)
                       replace hx217_0 := (HB.out.cell (World.block_lt_of_cell? w _ hx217_0)).trans hx217_0
                       replace hx217_1 := (HB.out.cell (World.block_lt_of_cell? w _ hx217_1)).trans hx217_1
                       replace hx217_2 := (HB.out.cell (World.block_lt_of_cell? w _ hx217_2)).trans hx217_2
                       replace hx217_3 := (HB.out.cell (World.block_lt_of_cell? w _ hx217_3)).trans hx217_3
                       replace p217 := eq_true p217; replace q217 := eq_true q217
                       go_upto_if 186 with (first | ((with_reducible refine gate_dst (N := 15) rfl ?_); (try (refine gate_guard (by rfl) ?_; dsimp only)); refine box_event ?hg (N := 15) ?hd (cs := #[.int .i64 0, .int .i64 0, .int .i64 0, .int .i64 0]) (t := 113) ?hr ?_; (case hd => rfl); (case hg => rfl); (case hr => first | (go_simp; done) | (go_simp; rfl)); intro gb218 hg w126 hbox hb; have n0_ := Sq.l (Sq.m (g := gb196) (o := .cells #[.slice A0_0 l0_0.length c0_0, .slice A0_1 l0_1.length c0_1, .slice (some ad211) l0_2.length c0_2] 45 (0, 0)) (by (with_reducible repeat (first | refine Sq.d ?_ _ | refine Sq.e ?_ | refine Sq.f ?_ _)); exact BK196.out) hb); have n1_ := Sq.l (Sq.m (g := gb212) (o := .cells #[.int .i64 ((rd_T113 l0_2 x131_4).f0), .int .i64 ((rd_T113 l0_2 x131_4).f1), .int .i64 ((rd_T113 l0_2 x131_4).f2), .int .i64 ((rd_T113 l0_2 x131_4).f3)] 113 (0, 0)) (by (with_reducible repeat (first | refine Sq.d ?_ _ | refine Sq.e ?_ | refine Sq.f ?_ _)); exact BK212.out) hb); have n2_ := Sq.l (Sq.a4 (by repeat (first | (with_reducible first | exact HB.out | apply Sq.i | apply Sq.j | apply Sq.k | refine Sq.h ?_ GE196.out | refine Sq.h ?_ GE212.out) | exact HB.out)) hb); have n3_ := Sq.l (hbox); have n4_ := Sq.l ((by rw [hg]; exact (Sq.a5 (by repeat (first | (with_reducible first | exact HB.out | apply Sq.i | apply Sq.j | apply Sq.k | refine Sq.h ?_ GE196.out | refine Sq.h ?_ GE212.out) | exact HB.out))) : w.heap.size ≤ gb218)); have n5_ := Sq.l ((by rw [hg]; exact (Sq.a5 (by repeat (first | (with_reducible first | exact HB.out | apply Sq.i | apply Sq.j | apply Sq.k | refine Sq.h ?_ GE196.out | refine Sq.h ?_ GE212.out) | exact HB.out))) : w.heap.size ≤ gb218)); have n6_ := Sq.l ((by rw [hg]; exact Nat.ne_of_lt (blk_lt (g := gb196) (o := .cells #[.slice A0_0 l0_0.length c0_0, .slice A0_1 l0_1.length c0_1, .slice (some ad211) l0_2.length c0_2] 45 (0, 0)) (by (with_reducible repeat (first | refine Sq.d ?_ _ | refine Sq.e ?_ | refine Sq.f ?_ _)); exact BK196.out)) : gb196 ≠ gb218)); have n7_ := Sq.l ((by rw [hg]; exact Nat.ne_of_gt (blk_lt (g := gb196) (o := .cells #[.slice A0_0 l0_0.length c0_0, .slice A0_1 l0_1.length c0_1, .slice (some ad211) l0_2.length c0_2] 45 (0, 0)) (by (with_reducible repeat (first | refine Sq.d ?_ _ | refine Sq.e ?_ | refine Sq.f ?_ _)); exact BK196.out)) : gb218 ≠ gb196)); have n8_ := Sq.l ((by rw [hg]; exact Nat.ne_of_lt (blk_lt (g := gb212) (o := .cells #[.int .i64 ((rd_T113 l0_2 x131_4).f0), .int .i64 ((rd_T113 l0_2 x131_4).f1), .int .i64 ((rd_T113 l0_2 x131_4).f2), .int .i64 ((rd_T113 l0_2 x131_4).f3)] 113 (0, 0)) (by (with_reducible repeat (first | refine Sq.d ?_ _ | refine Sq.e ?_ | refine Sq.f ?_ _)); exact BK212.out)) : gb212 ≠ gb218)); have n9_ := Sq.l ((by rw [hg]; exact Nat.ne_of_gt (blk_lt (g := gb212) (o := .cells #[.int .i64 ((rd_T113 l0_2 x131_4).f0), .int .i64 ((rd_T113 l0_2 x131_4).f1), .int .i64 ((rd_T113 l0_2 x131_4).f2), .int .i64 ((rd_T113 l0_2 x131_4).f3)] 113 (0, 0)) (by (with_reducible repeat (first | refine Sq.d ?_ _ | refine Sq.e ?_ | refine Sq.f ?_ _)); exact BK212.out)) : gb218 ≠ gb212)); clear BK196; clear BK212; clear HB; have BK196 := n0_; have BK212 := n1_; have HB := n2_; have BK218 := n3_; have GW218 := n4_; have GE218 := n5_; have NB196_218 := n6_; have NB218_196 := n7_; have NB212_218 := n8_; have NB218_212 := n9_; clear n0_ n1_ n2_ n3_ n4_ n5_ n6_ n7_ n8_ n9_; clear hb hbox hg; have hnb127 := NB218_196.out; have hnc127 := NB196_218.out; have hnb128 := NB218_212.out; have hnc128 := NB212_218.out; have hcz129_0 : w126.cell? ⟨gb218, 0, none⟩ = some (.int .i64 0) := (Sq.o BK218.out 0).trans rfl; have hcz129_1 : w126.cell? ⟨gb218, 1, none⟩ = some (.int .i64 0) := (Sq.o BK218.out 1).trans rfl; have hcz129_2 : w126.cell? ⟨gb218, 2, none⟩ = some (.int .i64 0) := (Sq.o BK218.out 2).trans rfl; have hcz129_3 : w126.cell? ⟨gb218, 3, none⟩ = some (.int .i64 0) := (Sq.o BK218.out 3).trans rfl; have hfz129_0 := Sq.r BK218.out 0; have hfz129_1 := Sq.r BK218.out 1; have hfz129_2 := Sq.r BK218.out 2; have hfz129_3 := Sq.r BK218.out 3; have hcz130_0 : w126.cell? ⟨gb212, 0, none⟩ = some (.int .i64 ((rd_T113 l0_2 x131_4).f0)) := (Sq.o BK212.out 0).trans rfl; have hcz130_1 : w126.cell? ⟨gb212, 1, none⟩ = some (.int .i64 ((rd_T113 l0_2 x131_4).f1)) := (Sq.o BK212.out 1).trans rfl; have hcz130_2 : w126.cell? ⟨gb212, 2, none⟩ = some (.int .i64 ((rd_T113 l0_2 x131_4).f2)) := (Sq.o BK212.out 2).trans rfl; have hcz130_3 : w126.cell? ⟨gb212, 3, none⟩ = some (.int .i64 ((rd_T113 l0_2 x131_4).f3)) := (Sq.o BK212.out 3).trans rfl; have hfz130_0 := Sq.r BK212.out 0; have hfz130_1 := Sq.r BK212.out 1; have hfz130_2 := Sq.r BK212.out 2; have hfz130_3 := Sq.r BK212.out 3))
                       (try simp only [Act.put, List.setIfInBounds_toArray, List.set_cons_zero, List.set_cons_succ])
                       have H := HC123.out
                       clear HC123
                       by_cases c131 : ((rd_T113 l0_2 (ji111)).f1) ≥ ((rd_T113 l0_2 x131_4).f1)
                       ·rw [if_pos c131] at H
                        have c131b0 : decide (((rd_T113 l0_2 x131_4).f1) ≤ ((rd_T113 l0_2 (ji111)).f1)) = true := decide_eq_true c131
                        clear c131
                        (first | rw [c131b0] | (simp only [i64_w, i32_w]; rw [c131b0]) | skip)
                        obtain rfl := Option.some.inj H
                        go_wp2
                        go_ret
                        exact ⟨by first | rfl | (simp [errW_none, errW_some] <;> rfl) | (simp only [← hji111]; first | rfl | (simp [errW_none, errW_some] <;> rfl)) | (simp [*, errW_none, errW_some] <;> rfl), by repeat (first | (with_reducible first | exact HB.out | apply Sq.i | apply Sq.j | apply Sq.k | refine Sq.h ?_ GE196.out | refine Sq.h ?_ GE212.out | refine Sq.h ?_ GE218.out) | exact HB.out)⟩
                       ·rw [if_neg c131] at H
                        have c131b0 : decide (((rd_T113 l0_2 x131_4).f1) ≤ ((rd_T113 l0_2 (ji111)).f1)) = false := decide_eq_false c131
                        clear c131
                        (first | rw [c131b0] | (simp only [i64_w, i32_w]; rw [c131b0]) | skip)
                        have H' := Sq.l H
                        clear H
                        go_wp2
                        go_roundg kj84
                        case measure => have := HJ1.out; have := HK2.out; have := HK3.out; have := HK4.out; have := HJ84.out; omega
                        case rel => exact ⟨(wrap64 (x131_4 + 1)), (by first | rfl | (simp; done) | (simp [*]; done)), H', ⟨by have := HJ1.out; have := HK2.out; have := HK3.out; have := HK4.out; have := HJ84.out; omega⟩, ⟨by (with_reducible repeat (first | refine Sq.d ?_ _ | refine Sq.e ?_ | refine Sq.f ?_ _)); refine Sq.B4 ?_ NB196_218.out; (with_reducible repeat (first | refine Sq.d ?_ _ | refine Sq.e ?_ | refine Sq.f ?_ _)); exact BK196.out⟩, ⟨by repeat (first | (with_reducible first | exact HB.out | apply Sq.i | apply Sq.j | apply Sq.k | refine Sq.h ?_ GE196.out | refine Sq.h ?_ GE212.out | refine Sq.h ?_ GE218.out) | exact HB.out)⟩⟩
                      ·rw [if_neg c122] at H
                       have c122b0 : (((rd_T113 l0_2 (ji111)).f0) == ((rd_T113 l0_2 x131_4).f0)) = false := beq_eq_false_iff_ne.mpr c122
                       have c122b1 : (((rd_T113 l0_2 (ji111)).f0) != ((rd_T113 l0_2 x131_4).f0)) = true := bne_iff_ne.mpr c122
                       have H' := Sq.l H
                       clear H; have hnb132 := NB196_212.out; have hnc132 := NB212_196.out
                       have hcz133_0 : wc.cell? ⟨gb196, 0, none⟩ = some (.slice A0_0 l0_0.length c0_0) := (Sq.o BK196.out 0).trans rfl
                       have hcz133_1 : wc.cell? ⟨gb196, 1, none⟩ = some (.slice A0_1 l0_1.length c0_1) := (Sq.o BK196.out 1).trans rfl
                       have hcz133_2 : wc.cell? ⟨gb196, 2, none⟩ = some (.slice (some ad211) l0_2.length c0_2) := (Sq.o BK196.out 2).trans rfl
                       have hfz133_0 := Sq.r BK196.out 0
                       have hfz133_1 := Sq.r BK196.out 1
                       have hfz133_2 := Sq.r BK196.out 2
                       have p217 : 0 ≤ ((ji111) : Int) := of_decide_eq_true (by first | (with_reducible assumption) | assumption)
                       have q217 : (ji111) < (l0_2.length : Int) := of_decide_eq_true (by first | (with_reducible assumption) | assumption)
                       obtain ⟨ad217, e217, hx217_0, hx217_1, hx217_2, hx217_3⟩ := at_T113 HR0_2.out (ji111) p217 q217
                       obtain rfl : ad211 = ad217 := (by injection e217)
                       replace hx217_0 := (HB.out.cell (World.block_lt_of_cell? w _ hx217_0)).trans hx217_0
                       replace hx217_1 := (HB.out.cell (World.block_lt_of_cell? w _ hx217_1)).trans hx217_1
                       replace hx217_2 := (HB.out.cell (World.block_lt_of_cell? w _ hx217_2)).trans hx217_2
                       replace hx217_3 := (HB.out.cell (World.block_lt_of_cell? w _ hx217_3)).trans hx217_3
                       replace p217 := eq_true p217; replace q217 := eq_true q217
                       go_wp2_with (first | ((with_reducible refine gate_dst (N := 15) rfl ?_); (try (refine gate_guard (by rfl) ?_; dsimp only)); refine box_event ?hg (N := 15) ?hd (cs := #[.int .i64 0, .int .i64 0, .int .i64 0, .int .i64 0]) (t := 113) ?hr ?_; (case hd => rfl); (case hg => rfl); (case hr => first | (go_simp; done) | (go_simp; rfl)); intro gb218 hg w134 hbox hb; have n0_ := Sq.l (Sq.m (g := gb196) (o := .cells #[.slice A0_0 l0_0.length c0_0, .slice A0_1 l0_1.length c0_1, .slice (some ad211) l0_2.length c0_2] 45 (0, 0)) (by (with_reducible repeat (first | refine Sq.d ?_ _ | refine Sq.e ?_ | refine Sq.f ?_ _)); exact BK196.out) hb); have n1_ := Sq.l (Sq.m (g := gb212) (o := .cells #[.int .i64 ((rd_T113 l0_2 x131_4).f0), .int .i64 ((rd_T113 l0_2 x131_4).f1), .int .i64 ((rd_T113 l0_2 x131_4).f2), .int .i64 ((rd_T113 l0_2 x131_4).f3)] 113 (0, 0)) (by (with_reducible repeat (first | refine Sq.d ?_ _ | refine Sq.e ?_ | refine Sq.f ?_ _)); exact BK212.out) hb); have n2_ := Sq.l (Sq.a4 (by repeat (first | (with_reducible first | exact HB.out | apply Sq.i | apply Sq.j | apply Sq.k | refine Sq.h ?_ GE196.out | refine Sq.h ?_ GE212.out) | exact HB.out)) hb); have n3_ := Sq.l (hbox); have n4_ := Sq.l ((by rw [hg]; exact (Sq.a5 (by repeat (first | (with_reducible first | exact HB.out | apply Sq.i | apply Sq.j | apply Sq.k | refine Sq.h ?_ GE196.out | refine Sq.h ?_ GE212.out) | exact HB.out))) : w.heap.size ≤ gb218)); have n5_ := Sq.l ((by rw [hg]; exact (Sq.a5 (by repeat (first | (with_reducible first | exact HB.out | apply Sq.i | apply Sq.j | apply Sq.k | refine Sq.h ?_ GE196.out | refine Sq.h ?_ GE212.out) | exact HB.out))) : w.heap.size ≤ gb218)); have n6_ := Sq.l ((by rw [hg]; exact Nat.ne_of_lt (blk_lt (g := gb196) (o := .cells #[.slice A0_0 l0_0.length c0_0, .slice A0_1 l0_1.length c0_1, .slice (some ad211) l0_2.length c0_2] 45 (0, 0)) (by (with_reducible repeat (first | refine Sq.d ?_ _ | refine Sq.e ?_ | refine Sq.f ?_ _)); exact BK196.out)) : gb196 ≠ gb218)); have n7_ := Sq.l ((by rw [hg]; exact Nat.ne_of_gt (blk_lt (g := gb196) (o := .cells #[.slice A0_0 l0_0.length c0_0, .slice A0_1 l0_1.length c0_1, .slice (some ad211) l0_2.length c0_2] 45 (0, 0)) (by (with_reducible repeat (first | refine Sq.d ?_ _ | refine Sq.e ?_ | refine Sq.f ?_ _)); exact BK196.out)) : gb218 ≠ gb196)); have n8_ := Sq.l ((by rw [hg]; exact Nat.ne_of_lt (blk_lt (g := gb212) (o := .cells #[.int .i64 ((rd_T113 l0_2 x131_4).f0), .int .i64 ((rd_T113 l0_2 x131_4).f1), .int .i64 ((rd_T113 l0_2 x131_4).f2), .int .i64 ((rd_T113 l0_2 x131_4).f3)] 113 (0, 0)) (by (with_reducible repeat (first | refine Sq.d ?_ _ | refine Sq.e ?_ | refine Sq.f ?_ _)); exact BK212.out)) : gb212 ≠ gb218)); have n9_ := Sq.l ((by rw [hg]; exact Nat.ne_of_gt (blk_lt (g := gb212) (o := .cells #[.int .i64 ((rd_T113 l0_2 x131_4).f0), .int .i64 ((rd_T113 l0_2 x131_4).f1), .int .i64 ((rd_T113 l0_2 x131_4).f2), .int .i64 ((rd_T113 l0_2 x131_4).f3)] 113 (0, 0)) (by (with_reducible repeat (first | refine Sq.d ?_ _ | refine Sq.e ?_ | refine Sq.f ?_ _)); exact BK212.out)) : gb218 ≠ gb212)); clear BK196; clear BK212; clear HB; have BK196 := n0_; have BK212 := n1_; have HB := n2_; have BK218 := n3_; have GW218 := n4_; have GE218 := n5_; have NB196_218 := n6_; have NB218_196 := n7_; have NB212_218 := n8_; have NB218_212 := n9_; clear n0_ n1_ n2_ n3_ n4_ n5_ n6_ n7_ n8_ n9_; clear hb hbox hg; have hnb135 := NB218_196.out; have hnc135 := NB196_218.out; have hnb136 := NB218_212.out; have hnc136 := NB212_218.out; have hcz137_0 : w134.cell? ⟨gb218, 0, none⟩ = some (.int .i64 0) := (Sq.o BK218.out 0).trans rfl; have hcz137_1 : w134.cell? ⟨gb218, 1, none⟩ = some (.int .i64 0) := (Sq.o BK218.out 1).trans rfl; have hcz137_2 : w134.cell? ⟨gb218, 2, none⟩ = some (.int .i64 0) := (Sq.o BK218.out 2).trans rfl; have hcz137_3 : w134.cell? ⟨gb218, 3, none⟩ = some (.int .i64 0) := (Sq.o BK218.out 3).trans rfl; have hfz137_0 := Sq.r BK218.out 0; have hfz137_1 := Sq.r BK218.out 1; have hfz137_2 := Sq.r BK218.out 2; have hfz137_3 := Sq.r BK218.out 3; have hcz138_0 : w134.cell? ⟨gb212, 0, none⟩ = some (.int .i64 ((rd_T113 l0_2 x131_4).f0)) := (Sq.o BK212.out 0).trans rfl; have hcz138_1 : w134.cell? ⟨gb212, 1, none⟩ = some (.int .i64 ((rd_T113 l0_2 x131_4).f1)) := (Sq.o BK212.out 1).trans rfl; have hcz138_2 : w134.cell? ⟨gb212, 2, none⟩ = some (.int .i64 ((rd_T113 l0_2 x131_4).f2)) := (Sq.o BK212.out 2).trans rfl; have hcz138_3 : w134.cell? ⟨gb212, 3, none⟩ = some (.int .i64 ((rd_T113 l0_2 x131_4).f3)) := (Sq.o BK212.out 3).trans rfl; have hfz138_0 := Sq.r BK212.out 0; have hfz138_1 := Sq.r BK212.out 1; have hfz138_2 := Sq.r BK212.out 2; have hfz138_3 := Sq.r BK212.out 3))
                       go_roundg kj84
                       case measure => have := HJ1.out; have := HK2.out; have := HK3.out; have := HK4.out; have := HJ84.out; omega
                       case rel => exact ⟨(wrap64 (x131_4 + 1)), (by first | rfl | (simp; done) | (simp [*]; done)), H', ⟨by have := HJ1.out; have := HK2.out; have := HK3.out; have := HK4.out; have := HJ84.out; omega⟩, ⟨by (with_reducible repeat (first | refine Sq.d ?_ _ | refine Sq.e ?_ | refine Sq.f ?_ _)); refine Sq.B4 ?_ NB196_218.out; (with_reducible repeat (first | refine Sq.d ?_ _ | refine Sq.e ?_ | refine Sq.f ?_ _)); exact BK196.out⟩, ⟨by repeat (first | (with_reducible first | exact HB.out | apply Sq.i | apply Sq.j | apply Sq.k | refine Sq.h ?_ GE196.out | refine Sq.h ?_ GE212.out | refine Sq.h ?_ GE218.out) | exact HB.out)⟩⟩
                    ·rw [if_neg c113] at H
                     exact absurd H (by simp)
                   ·rw [if_neg c112] at H
                    exact absurd H (by simp)
                  ·rw [if_neg c110] at H
                   have c110b0 : decide (0 < x131_4) = false := decide_eq_false c110
                   clear c110
                   (first | rw [c110b0] | (simp only [i64_w, i32_w]; rw [c110b0]) | skip)
                   have H' := Sq.l H
                   clear H
                   go_wp2
                   go_roundg kj84
                   case measure => have := HJ1.out; have := HK2.out; have := HK3.out; have := HK4.out; have := HJ84.out; omega
                   case rel => exact ⟨(wrap64 (x131_4 + 1)), (by first | rfl | (simp; done) | (simp [*]; done)), H', ⟨by have := HJ1.out; have := HK2.out; have := HK3.out; have := HK4.out; have := HJ84.out; omega⟩, ⟨by (with_reducible repeat (first | refine Sq.d ?_ _ | refine Sq.e ?_ | refine Sq.f ?_ _)); exact BK196.out⟩, ⟨by repeat (first | (with_reducible first | exact HB.out | apply Sq.i | apply Sq.j | apply Sq.k | refine Sq.h ?_ GE196.out | refine Sq.h ?_ GE212.out) | exact HB.out)⟩⟩
              ·rw [if_neg c84] at H
               exact absurd H (by simp)
             ·rw [if_neg c83] at H
              exact absurd H (by simp)
            ·rw [if_neg c82] at H
             have c82b0 : decide (x131_4 < (l0_2.length : Int)) = false := decide_eq_false c82
             clear c82
             (first | rw [c82b0] | (simp only [i64_w, i32_w]; rw [c82b0]) | skip)
             obtain rfl := Option.some.inj H
             go_wp2
             go_ret
             exact ⟨by first | rfl | (simp [errW_none, errW_some] <;> rfl) | (simp [*, errW_none, errW_some] <;> rfl), by repeat (first | (with_reducible first | exact HB.out | apply Sq.i | apply Sq.j | apply Sq.k | refine Sq.h ?_ GE196.out) | exact HB.out)⟩

end Go.Proofs.Ytmajbehafgajmaa.QFnExactRouterFault
