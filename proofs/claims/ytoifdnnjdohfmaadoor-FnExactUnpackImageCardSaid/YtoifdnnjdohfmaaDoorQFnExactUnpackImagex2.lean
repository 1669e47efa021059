-- Written for this claim by this session's own driver (wip/xprint.py).
import Derived.Test.YtoifdnnjdohfmaaDoorQFnExactUnpackImagex0
import Derived.Test.YtoifdnnjdohfmaaDoorQFnExactUnpackImagex1
namespace Go.Proofs.YtoifdnnjdohfmaaDoor.QFnExactUnpackImage
open Go.RowKit Go.Proofs.YtoifdnnjdohfmaaDoorW.PrintWords Go.Proofs.YtoifdnnjdohfmaaDoorW.PrintLast Go.Proofs.YtoifdnnjdohfmaaDoorW.PrintMore
attribute [local go_sem] max2_int min2_int max_two min_two max_three min_three max_four min_four   -- for this text's walks alone
set_option linter.unusedVariables false
set_option linter.unusedSimpArgs false

/-! ### spec_ImageFault: function 13 -/
mutual
def spec_ImageFault.j0 : Nat → Int → Bool → ByteArray → ByteArray → List Int → List ByteArray → List (S47) → Option (Int)
 | 0, _, _, _, _, _, _, _ => none
 | k + 1, x3, x54, x111000, x111001, x111002, x111003, x111004 => if x54 = true then (some 1) else (spec_ImageFault.l0 k x3 0 x111000 x111001 x111002 x111003 x111004)
def spec_ImageFault.l0 : Nat → Int → Int → ByteArray → ByteArray → List Int → List ByteArray → List (S47) → Option (Int)
 | 0, _, _, _, _, _, _, _ => none
 | k + 1, x3, x4, x111000, x111001, x111002, x111003, x111004 => if x4 < (x111004.length : Int) then (if 0 ≤ x4 then ((spec_l13Name.f k ((rd_T47 x111004 x4).f0)).bind fun t116 => (if t116 = true then ((spec_l13Table.f k ((rd_T47 x111004 x4).f1) x3 (x111003.length : Int)).bind fun t118 => (spec_ImageFault.j2 k x3 x4 (!t118) x111000 x111001 x111002 x111003 x111004)) else (spec_ImageFault.j2 k x3 x4 true x111000 x111001 x111002 x111003 x111004))) else (none)) else (spec_ImageFault.l2 k 0 x111000 x111001 x111002 x111003 x111004)
def spec_ImageFault.j2 : Nat → Int → Int → Bool → ByteArray → ByteArray → List Int → List ByteArray → List (S47) → Option (Int)
 | 0, _, _, _, _, _, _, _, _ => none
 | k + 1, x3, x4, x83, x111000, x111001, x111002, x111003, x111004 => if x83 = true then (some 1) else (spec_ImageFault.l1 k x3 x4 0 x111000 x111001 x111002 x111003 x111004)
def spec_ImageFault.l1 : Nat → Int → Int → Int → ByteArray → ByteArray → List Int → List ByteArray → List (S47) → Option (Int)
 | 0, _, _, _, _, _, _, _, _ => none
 | k + 1, x3, x4, x5, x111000, x111001, x111002, x111003, x111004 => if x5 < x4 then (if 0 ≤ x5 then (if x5 < (x111004.length : Int) then (if 0 ≤ x4 then (if x4 < (x111004.length : Int) then (if ((rd_T47 x111004 x5).f0).toList = ((rd_T47 x111004 x4).f0).toList then (some 1) else (spec_ImageFault.l1 k x3 x4 (wrap64 (x5 + 1)) x111000 x111001 x111002 x111003 x111004)) else (none)) else (none)) else (none)) else (none)) else (spec_ImageFault.l0 k x3 (wrap64 (x4 + 1)) x111000 x111001 x111002 x111003 x111004)
def spec_ImageFault.l2 : Nat → Int → ByteArray → ByteArray → List Int → List ByteArray → List (S47) → Option (Int)
 | 0, _, _, _, _, _, _ => none
 | k + 1, x6, x111000, x111001, x111002, x111003, x111004 => if x6 < (x111003.length : Int) then (if 0 ≤ x6 then (if ((rdOf ByteArray.empty x111003 x6).size : Int) = 16 then ((spec_l13Uses.f k x111000 x111001 x111002 x111003 x111004 x6).bind fun t122 => (if t122 = 0 then (some 1) else (spec_ImageFault.l2 k (wrap64 (x6 + 1)) x111000 x111001 x111002 x111003 x111004))) else (some 1)) else (none)) else (some 0)
end
def spec_ImageFault.f (k : Nat) (a0_0 : ByteArray) (a0_1 : ByteArray) (l0_2 : List Int) (l0_3 : List ByteArray) (l0_4 : List (S47)) : Option (Int) := (spec_l13Name.f k a0_0).bind fun t111 => (if t111 = true then (if a0_1.toList = ([] : List UInt8) then (if (l0_2.length : Int) < 1 then (spec_ImageFault.j0 k (l0_2.length : Int) true a0_0 a0_1 l0_2 l0_3 l0_4) else (if (l0_2.length : Int) > 64 then (spec_ImageFault.j0 k (l0_2.length : Int) true a0_0 a0_1 l0_2 l0_3 l0_4) else (if (l0_3.length : Int) > 128 then (spec_ImageFault.j0 k (l0_2.length : Int) true a0_0 a0_1 l0_2 l0_3 l0_4) else (if (l0_4.length : Int) > 8 then (spec_ImageFault.j0 k (l0_2.length : Int) true a0_0 a0_1 l0_2 l0_3 l0_4) else ((spec_l13Table.f k l0_2 (l0_2.length : Int) (l0_3.length : Int)).bind fun t112 => (spec_ImageFault.j0 k (l0_2.length : Int) (!t112) a0_0 a0_1 l0_2 l0_3 l0_4)))))) else ((spec_l13Name.f k a0_1).bind fun t113 => (if t113 = true then (if (l0_2.length : Int) < 1 then (spec_ImageFault.j0 k (l0_2.length : Int) true a0_0 a0_1 l0_2 l0_3 l0_4) else (if (l0_2.length : Int) > 64 then (spec_ImageFault.j0 k (l0_2.length : Int) true a0_0 a0_1 l0_2 l0_3 l0_4) else (if (l0_3.length : Int) > 128 then (spec_ImageFault.j0 k (l0_2.length : Int) true a0_0 a0_1 l0_2 l0_3 l0_4) else (if (l0_4.length : Int) > 8 then (spec_ImageFault.j0 k (l0_2.length : Int) true a0_0 a0_1 l0_2 l0_3 l0_4) else ((spec_l13Table.f k l0_2 (l0_2.length : Int) (l0_3.length : Int)).bind fun t114 => (spec_ImageFault.j0 k (l0_2.length : Int) (!t114) a0_0 a0_1 l0_2 l0_3 l0_4)))))) else (spec_ImageFault.j0 k (l0_2.length : Int) true a0_0 a0_1 l0_2 l0_3 l0_4)))) else (spec_ImageFault.j0 k (l0_2.length : Int) true a0_0 a0_1 l0_2 l0_3 l0_4))
theorem spec_ImageFault.mono_l : ∀ k, (∀ y0 y1 y2 y3 y4 y5 y6, LeO (spec_ImageFault.j0 k y0 y1 y2 y3 y4 y5 y6) (spec_ImageFault.j0 (k + 1) y0 y1 y2 y3 y4 y5 y6)) ∧ (∀ y0 y1 y2 y3 y4 y5 y6, LeO (spec_ImageFault.l0 k y0 y1 y2 y3 y4 y5 y6) (spec_ImageFault.l0 (k + 1) y0 y1 y2 y3 y4 y5 y6)) ∧ (∀ y0 y1 y2 y3 y4 y5 y6 y7, LeO (spec_ImageFault.j2 k y0 y1 y2 y3 y4 y5 y6 y7) (spec_ImageFault.j2 (k + 1) y0 y1 y2 y3 y4 y5 y6 y7)) ∧ (∀ y0 y1 y2 y3 y4 y5 y6 y7, LeO (spec_ImageFault.l1 k y0 y1 y2 y3 y4 y5 y6 y7) (spec_ImageFault.l1 (k + 1) y0 y1 y2 y3 y4 y5 y6 y7)) ∧ (∀ y0 y1 y2 y3 y4 y5, LeO (spec_ImageFault.l2 k y0 y1 y2 y3 y4 y5) (spec_ImageFault.l2 (k + 1) y0 y1 y2 y3 y4 y5))
 | 0 => ⟨fun _ _ _ _ _ _ _ r h => by simp [spec_ImageFault.j0] at h, fun _ _ _ _ _ _ _ r h => by simp [spec_ImageFault.l0] at h, fun _ _ _ _ _ _ _ _ r h => by simp [spec_ImageFault.j2] at h, fun _ _ _ _ _ _ _ _ r h => by simp [spec_ImageFault.l1] at h, fun _ _ _ _ _ _ r h => by simp [spec_ImageFault.l2] at h⟩
 | k + 1 => by
  obtain ⟨ih0, ih1, ih2, ih3, ih4⟩ := spec_ImageFault.mono_l k
  refine ⟨?_, ?_, ?_, ?_, ?_⟩
  ·intro y0 y1 y2 y3 y4 y5 y6
   unfold spec_ImageFault.j0
   repeat' first
   | (with_reducible exact ih0 _ _ _ _ _ _ _)
   | (with_reducible exact ih1 _ _ _ _ _ _ _)
   | (with_reducible exact ih2 _ _ _ _ _ _ _ _)
   | (with_reducible exact ih3 _ _ _ _ _ _ _ _)
   | (with_reducible exact ih4 _ _ _ _ _ _)
   | (with_reducible exact spec_l13Name.mono _ _)
   | (with_reducible exact spec_l13Table.mono _ _ _ _)
   | (with_reducible exact spec_l13Uses.mono _ _ _ _ _ _ _)
   | (with_reducible exact LeO.refl _)
   | (with_reducible exact LeO.none _)
   | (with_reducible refine LeO.ite ?_ ?_)
   | (with_reducible refine LeO.bind ?_ (fun _ => ?_))
   | exact ih0 _ _ _ _ _ _ _
   | exact ih1 _ _ _ _ _ _ _
   | exact ih2 _ _ _ _ _ _ _ _
   | exact ih3 _ _ _ _ _ _ _ _
   | exact ih4 _ _ _ _ _ _
   | exact spec_l13Name.mono _ _
   | exact spec_l13Table.mono _ _ _ _
   | exact spec_l13Uses.mono _ _ _ _ _ _ _
   | exact LeO.none _
   | refine LeO.ite ?_ ?_
   | refine LeO.bind ?_ (fun _ => ?_)
  ·intro y0 y1 y2 y3 y4 y5 y6
   unfold spec_ImageFault.l0
   repeat' first
   | (with_reducible exact ih0 _ _ _ _ _ _ _)
   | (with_reducible exact ih1 _ _ _ _ _ _ _)
   | (with_reducible exact ih2 _ _ _ _ _ _ _ _)
   | (with_reducible exact ih3 _ _ _ _ _ _ _ _)
   | (with_reducible exact ih4 _ _ _ _ _ _)
   | (with_reducible exact spec_l13Name.mono _ _)
   | (with_reducible exact spec_l13Table.mono _ _ _ _)
   | (with_reducible exact spec_l13Uses.mono _ _ _ _ _ _ _)
   | (with_reducible exact LeO.refl _)
   | (with_reducible exact LeO.none _)
   | (with_reducible refine LeO.ite ?_ ?_)
   | (with_reducible refine LeO.bind ?_ (fun _ => ?_))
   | exact ih0 _ _ _ _ _ _ _
   | exact ih1 _ _ _ _ _ _ _
   | exact ih2 _ _ _ _ _ _ _ _
   | exact ih3 _ _ _ _ _ _ _ _
   | exact ih4 _ _ _ _ _ _
   | exact spec_l13Name.mono _ _
   | exact spec_l13Table.mono _ _ _ _
   | exact spec_l13Uses.mono _ _ _ _ _ _ _
   | exact LeO.none _
   | refine LeO.ite ?_ ?_
   | refine LeO.bind ?_ (fun _ => ?_)
  ·intro y0 y1 y2 y3 y4 y5 y6 y7
   unfold spec_ImageFault.j2
   repeat' first
   | (with_reducible exact ih0 _ _ _ _ _ _ _)
   | (with_reducible exact ih1 _ _ _ _ _ _ _)
   | (with_reducible exact ih2 _ _ _ _ _ _ _ _)
   | (with_reducible exact ih3 _ _ _ _ _ _ _ _)
   | (with_reducible exact ih4 _ _ _ _ _ _)
   | (with_reducible exact spec_l13Name.mono _ _)
   | (with_reducible exact spec_l13Table.mono _ _ _ _)
   | (with_reducible exact spec_l13Uses.mono _ _ _ _ _ _ _)
   | (with_reducible exact LeO.refl _)
   | (with_reducible exact LeO.none _)
   | (with_reducible refine LeO.ite ?_ ?_)
   | (with_reducible refine LeO.bind ?_ (fun _ => ?_))
   | exact ih0 _ _ _ _ _ _ _
   | exact ih1 _ _ _ _ _ _ _
   | exact ih2 _ _ _ _ _ _ _ _
   | exact ih3 _ _ _ _ _ _ _ _
   | exact ih4 _ _ _ _ _ _
   | exact spec_l13Name.mono _ _
   | exact spec_l13Table.mono _ _ _ _
   | exact spec_l13Uses.mono _ _ _ _ _ _ _
   | exact LeO.none _
   | refine LeO.ite ?_ ?_
   | refine LeO.bind ?_ (fun _ => ?_)
  ·intro y0 y1 y2 y3 y4 y5 y6 y7
   unfold spec_ImageFault.l1
   repeat' first
   | (with_reducible exact ih0 _ _ _ _ _ _ _)
   | (with_reducible exact ih1 _ _ _ _ _ _ _)
   | (with_reducible exact ih2 _ _ _ _ _ _ _ _)
   | (with_reducible exact ih3 _ _ _ _ _ _ _ _)
   | (with_reducible exact ih4 _ _ _ _ _ _)
   | (with_reducible exact spec_l13Name.mono _ _)
   | (with_reducible exact spec_l13Table.mono _ _ _ _)
   | (with_reducible exact spec_l13Uses.mono _ _ _ _ _ _ _)
   | (with_reducible exact LeO.refl _)
   | (with_reducible exact LeO.none _)
   | (with_reducible refine LeO.ite ?_ ?_)
   | (with_reducible refine LeO.bind ?_ (fun _ => ?_))
   | exact ih0 _ _ _ _ _ _ _
   | exact ih1 _ _ _ _ _ _ _
   | exact ih2 _ _ _ _ _ _ _ _
   | exact ih3 _ _ _ _ _ _ _ _
   | exact ih4 _ _ _ _ _ _
   | exact spec_l13Name.mono _ _
   | exact spec_l13Table.mono _ _ _ _
   | exact spec_l13Uses.mono _ _ _ _ _ _ _
   | exact LeO.none _
   | refine LeO.ite ?_ ?_
   | refine LeO.bind ?_ (fun _ => ?_)
  ·intro y0 y1 y2 y3 y4 y5
   unfold spec_ImageFault.l2
   repeat' first
   | (with_reducible exact ih0 _ _ _ _ _ _ _)
   | (with_reducible exact ih1 _ _ _ _ _ _ _)
   | (with_reducible exact ih2 _ _ _ _ _ _ _ _)
   | (with_reducible exact ih3 _ _ _ _ _ _ _ _)
   | (with_reducible exact ih4 _ _ _ _ _ _)
   | (with_reducible exact spec_l13Name.mono _ _)
   | (with_reducible exact spec_l13Table.mono _ _ _ _)
   | (with_reducible exact spec_l13Uses.mono _ _ _ _ _ _ _)
   | (with_reducible exact LeO.refl _)
   | (with_reducible exact LeO.none _)
   | (with_reducible refine LeO.ite ?_ ?_)
   | (with_reducible refine LeO.bind ?_ (fun _ => ?_))
   | exact ih0 _ _ _ _ _ _ _
   | exact ih1 _ _ _ _ _ _ _
   | exact ih2 _ _ _ _ _ _ _ _
   | exact ih3 _ _ _ _ _ _ _ _
   | exact ih4 _ _ _ _ _ _
   | exact spec_l13Name.mono _ _
   | exact spec_l13Table.mono _ _ _ _
   | exact spec_l13Uses.mono _ _ _ _ _ _ _
   | exact LeO.none _
   | refine LeO.ite ?_ ?_
   | refine LeO.bind ?_ (fun _ => ?_)
theorem spec_ImageFault.mono : ∀ a0 a1 a2 a3 a4 k, LeO (spec_ImageFault.f k a0 a1 a2 a3 a4) (spec_ImageFault.f (k + 1) a0 a1 a2 a3 a4) := by
 intro a0 a1 a2 a3 a4 k
 obtain ⟨ih0, ih1, ih2, ih3, ih4⟩ := spec_ImageFault.mono_l k
 unfold spec_ImageFault.f
 repeat' first
   | (with_reducible exact ih0 _ _ _ _ _ _ _)
   | (with_reducible exact ih1 _ _ _ _ _ _ _)
   | (with_reducible exact ih2 _ _ _ _ _ _ _ _)
   | (with_reducible exact ih3 _ _ _ _ _ _ _ _)
   | (with_reducible exact ih4 _ _ _ _ _ _)
   | (with_reducible exact spec_l13Name.mono _ _)
   | (with_reducible exact spec_l13Table.mono _ _ _ _)
   | (with_reducible exact spec_l13Uses.mono _ _ _ _ _ _ _)
   | (with_reducible exact LeO.refl _)
   | (with_reducible exact LeO.none _)
   | (with_reducible refine LeO.ite ?_ ?_)
   | (with_reducible refine LeO.bind ?_ (fun _ => ?_))
   | exact ih0 _ _ _ _ _ _ _
   | exact ih1 _ _ _ _ _ _ _
   | exact ih2 _ _ _ _ _ _ _ _
   | exact ih3 _ _ _ _ _ _ _ _
   | exact ih4 _ _ _ _ _ _
   | exact spec_l13Name.mono _ _
   | exact spec_l13Table.mono _ _ _ _
   | exact spec_l13Uses.mono _ _ _ _ _ _ _
   | exact LeO.none _
   | refine LeO.ite ?_ ?_
   | refine LeO.bind ?_ (fun _ => ?_)
set_option maxHeartbeats 8000000 in
set_option maxRecDepth 100000 in
theorem spec_ImageFault.calls (k : Nat) (a0_0 : ByteArray) (a0_1 : ByteArray) (A0_2 : Option Addr) (c0_2 : Nat) (l0_2 : List Int) (A0_3 : Option Addr) (c0_3 : Nat) (l0_3 : List ByteArray) (A0_4 : Option Addr) (c0_4 : Nat) (l0_4 : List (S47)) (r : Int) (w : World) (hr0_2 : Kd.C (Kd.int .i64) w A0_2 l0_2.length l0_2) (hc0_2 : l0_2.length ≤ c0_2) (hr0_3 : Kd.C Kd.string w A0_3 l0_3.length l0_3) (hc0_3 : l0_3.length ≤ c0_3) (hr0_4 : Kd.C k47 w A0_4 l0_4.length l0_4) (hc0_4 : l0_4.length ≤ c0_4) (h : spec_ImageFault.f k a0_0 a0_1 l0_2 l0_3 l0_4 = some r) :
  Calls Tryd.prog 13 #[.agg #[.string a0_0, .string a0_1, .slice A0_2 l0_2.length c0_2, .slice A0_3 l0_3.length c0_3, .slice A0_4 l0_4.length c0_4]] w fun e w' => e = .returned (.int .i64 r) ∧ Below w.heap.size w w' := by
 have hu26 := Tryd.underlying26
 have HR0_2 := Sq.l hr0_2
 have HC0_2 := Sq.l hc0_2
 clear hr0_2 hc0_2
 have HR0_3 := Sq.l hr0_3
 have HC0_3 := Sq.l hc0_3
 clear hr0_3 hc0_3
 have HR0_4 := Sq.l hr0_4
 have HC0_4 := Sq.l hc0_4
 clear hr0_4 hc0_4
 have HB := Sq.l (Below.refl w.heap.size w)
 have H : ((spec_l13Name.f k a0_0).bind fun t111 => (if t111 = true then (if a0_1.toList = ([] : List UInt8) then (if (l0_2.length : Int) < 1 then (spec_ImageFault.j0 k (l0_2.length : Int) true a0_0 a0_1 l0_2 l0_3 l0_4) else (if (l0_2.length : Int) > 64 then (spec_ImageFault.j0 k (l0_2.length : Int) true a0_0 a0_1 l0_2 l0_3 l0_4) else (if (l0_3.length : Int) > 128 then (spec_ImageFault.j0 k (l0_2.length : Int) true a0_0 a0_1 l0_2 l0_3 l0_4) else (if (l0_4.length : Int) > 8 then (spec_ImageFault.j0 k (l0_2.length : Int) true a0_0 a0_1 l0_2 l0_3 l0_4) else ((spec_l13Table.f k l0_2 (l0_2.length : Int) (l0_3.length : Int)).bind fun t112 => (spec_ImageFault.j0 k (l0_2.length : Int) (!t112) a0_0 a0_1 l0_2 l0_3 l0_4)))))) else ((spec_l13Name.f k a0_1).bind fun t113 => (if t113 = true then (if (l0_2.length : Int) < 1 then (spec_ImageFault.j0 k (l0_2.length : Int) true a0_0 a0_1 l0_2 l0_3 l0_4) else (if (l0_2.length : Int) > 64 then (spec_ImageFault.j0 k (l0_2.length : Int) true a0_0 a0_1 l0_2 l0_3 l0_4) else (if (l0_3.length : Int) > 128 then (spec_ImageFault.j0 k (l0_2.length : Int) true a0_0 a0_1 l0_2 l0_3 l0_4) else (if (l0_4.length : Int) > 8 then (spec_ImageFault.j0 k (l0_2.length : Int) true a0_0 a0_1 l0_2 l0_3 l0_4) else ((spec_l13Table.f k l0_2 (l0_2.length : Int) (l0_3.length : Int)).bind fun t114 => (spec_ImageFault.j0 k (l0_2.length : Int) (!t114) a0_0 a0_1 l0_2 l0_3 l0_4)))))) else (spec_ImageFault.j0 k (l0_2.length : Int) true a0_0 a0_1 l0_2 l0_3 l0_4)))) else (spec_ImageFault.j0 k (l0_2.length : Int) true a0_0 a0_1 l0_2 l0_3 l0_4))) = some r := h
 clear h
 have HC2 := Sq.l H
 clear H
 go_enter Tryd.func13, Tryd.ntmps13
 go_upto_region 2 with (first | ((with_reducible refine gate_dst (N := 1) rfl ?_); (try (refine gate_guard (by rfl) ?_; dsimp only)); refine box_event ?hg (N := 1) ?hd (cs := #[.string a0_0, .string a0_1, .slice A0_2 l0_2.length c0_2, .slice A0_3 l0_3.length c0_3, .slice A0_4 l0_4.length c0_4]) (t := 26) ?hr ?_; (case hd => rfl); (case hg => rfl); (case hr => first | (go_simp; done) | (go_simp; rfl)); intro gb110 hg w3 hbox hb; have n0_ := Sq.l (Sq.a4 (by repeat (first | (with_reducible first | exact HB.out | apply Sq.i | apply Sq.j | apply Sq.k) | exact HB.out)) hb); have n1_ := Sq.l (hbox); have n2_ := Sq.l ((by rw [hg]; exact (Sq.a5 (by repeat (first | (with_reducible first | exact HB.out | apply Sq.i | apply Sq.j | apply Sq.k) | exact HB.out))) : w.heap.size ≤ gb110)); have n3_ := Sq.l ((by rw [hg]; exact (Sq.a5 (by repeat (first | (with_reducible first | exact HB.out | apply Sq.i | apply Sq.j | apply Sq.k) | exact HB.out))) : w.heap.size ≤ gb110)); clear HB; have HB := n0_; have BK110 := n1_; have GW110 := n2_; have GE110 := n3_; clear n0_ n1_ n2_ n3_; clear hb hbox hg; obtain ⟨hcz4_0, hcz4_1, hcz4_2, hcz4_3, hcz4_4⟩ := Sq.C5 BK110.out; obtain ⟨hfz4_0, hfz4_1, hfz4_2, hfz4_3, hfz4_4⟩ := Sq.F5 BK110.out))
 repeat (go_quiet (first | ((with_reducible refine gate_dst (N := 1) rfl ?_); (try (refine gate_guard (by rfl) ?_; dsimp only)); refine box_event ?hg (N := 1) ?hd (cs := #[.string a0_0, .string a0_1, .slice A0_2 l0_2.length c0_2, .slice A0_3 l0_3.length c0_3, .slice A0_4 l0_4.length c0_4]) (t := 26) ?hr ?_; (case hd => rfl); (case hg => rfl); (case hr => first | (go_simp; done) | (go_simp; rfl)); intro gb110 hg w3 hbox hb; have n0_ := Sq.l (Sq.a4 (by repeat (first | (with_reducible first | exact HB.out | apply Sq.i | apply Sq.j | apply Sq.k) | exact HB.out)) hb); have n1_ := Sq.l (hbox); have n2_ := Sq.l ((by rw [hg]; exact (Sq.a5 (by repeat (first | (with_reducible first | exact HB.out | apply Sq.i | apply Sq.j | apply Sq.k) | exact HB.out))) : w.heap.size ≤ gb110)); have n3_ := Sq.l ((by rw [hg]; exact (Sq.a5 (by repeat (first | (with_reducible first | exact HB.out | apply Sq.i | apply Sq.j | apply Sq.k) | exact HB.out))) : w.heap.size ≤ gb110)); clear HB; have HB := n0_; have BK110 := n1_; have GW110 := n2_; have GE110 := n3_; clear n0_ n1_ n2_ n3_; clear hb hbox hg; obtain ⟨hcz4_0, hcz4_1, hcz4_2, hcz4_3, hcz4_4⟩ := Sq.C5 BK110.out; obtain ⟨hfz4_0, hfz4_1, hfz4_2, hfz4_3, hfz4_4⟩ := Sq.F5 BK110.out)); go_upto_region 2 with (first | ((with_reducible refine gate_dst (N := 1) rfl ?_); (try (refine gate_guard (by rfl) ?_; dsimp only)); refine box_event ?hg (N := 1) ?hd (cs := #[.string a0_0, .string a0_1, .slice A0_2 l0_2.length c0_2, .slice A0_3 l0_3.length c0_3, .slice A0_4 l0_4.length c0_4]) (t := 26) ?hr ?_; (case hd => rfl); (case hg => rfl); (case hr => first | (go_simp; done) | (go_simp; rfl)); intro gb110 hg w3 hbox hb; have n0_ := Sq.l (Sq.a4 (by repeat (first | (with_reducible first | exact HB.out | apply Sq.i | apply Sq.j | apply Sq.k) | exact HB.out)) hb); have n1_ := Sq.l (hbox); have n2_ := Sq.l ((by rw [hg]; exact (Sq.a5 (by repeat (first | (with_reducible first | exact HB.out | apply Sq.i | apply Sq.j | apply Sq.k) | exact HB.out))) : w.heap.size ≤ gb110)); have n3_ := Sq.l ((by rw [hg]; exact (Sq.a5 (by repeat (first | (with_reducible first | exact HB.out | apply Sq.i | apply Sq.j | apply Sq.k) | exact HB.out))) : w.heap.size ≤ gb110)); clear HB; have HB := n0_; have BK110 := n1_; have GW110 := n2_; have GE110 := n3_; clear n0_ n1_ n2_ n3_; clear hb hbox hg; obtain ⟨hcz4_0, hcz4_1, hcz4_2, hcz4_3, hcz4_4⟩ := Sq.C5 BK110.out; obtain ⟨hfz4_0, hfz4_1, hfz4_2, hfz4_3, hfz4_4⟩ := Sq.F5 BK110.out)))
 (try simp only [Act.put, List.setIfInBounds_toArray, List.set_cons_zero, List.set_cons_succ])
 go_cut [54] (fun v54 wc => ∃ (kq : Nat) (x54_1 : Bool), v54 = .bool x54_1 ∧ Aside0 (spec_ImageFault.j0 kq (l0_2.length : Int) x54_1 a0_0 a0_1 l0_2 l0_3 l0_4 = some r) ∧ Aside0 (kq ≤ k) ∧ Aside0 (wc.heap[gb110]? = some (.cells #[.string a0_0, .string a0_1, (.slice A0_2 l0_2.length c0_2), (.slice A0_3 l0_3.length c0_3), (.slice A0_4 l0_4.length c0_4)] 26 (0, 0))) ∧ Aside0 (Below w.heap.size w wc))
 case first =>
  have H := HC2.out
  clear HC2
  replace H := Option.bind_eq_some_iff.mp H
  obtain ⟨t111, A50, H⟩ := H
  (try dsimp only at H)
  have A5 := Sq.l A50
  clear A50
  by_cases c6 : t111 = true
  ·subst c6
   rw [if_pos rfl] at H
   by_cases c7 : a0_1.toList = ([] : List UInt8)
   ·rw [if_pos c7] at H
    have c7b0 : (a0_1.toList == ([] : List UInt8)) = true := beq_iff_eq.mpr c7
    have c7b1 : (a0_1.toList != ([] : List UInt8)) = false := bne_eq_false_iff_eq.mpr c7
    (try (have c7b2 : (a0_1.toList.isEmpty) = true := Sq.it c7))
    clear c7
    (first | rw [c7b0] | (simp only [i64_w, i32_w]; rw [c7b0]) | skip)
    by_cases c8 : (l0_2.length : Int) < 1
    ·rw [if_pos c8] at H
     have c8b0 : decide ((l0_2.length : Int) < 1) = true := decide_eq_true c8
     have c8b1 : decide (l0_2.length < 1) = true := decide_eq_true (by omega)
     clear c8
     have H' := Sq.l H
     clear H
     have hcz9_0 : w3.cell? ⟨gb110, 0, none⟩ = some (.string a0_0) := (Sq.o BK110.out 0).trans rfl
     have hcz9_1 : w3.cell? ⟨gb110, 1, none⟩ = some (.string a0_1) := (Sq.o BK110.out 1).trans rfl
     have hcz9_2 : w3.cell? ⟨gb110, 2, none⟩ = some (.slice A0_2 l0_2.length c0_2) := (Sq.o BK110.out 2).trans rfl
     have hcz9_3 : w3.cell? ⟨gb110, 3, none⟩ = some (.slice A0_3 l0_3.length c0_3) := (Sq.o BK110.out 3).trans rfl
     have hcz9_4 : w3.cell? ⟨gb110, 4, none⟩ = some (.slice A0_4 l0_4.length c0_4) := (Sq.o BK110.out 4).trans rfl
     have hfz9_0 := Sq.r BK110.out 0
     have hfz9_1 := Sq.r BK110.out 1
     have hfz9_2 := Sq.r BK110.out 2
     have hfz9_3 := Sq.r BK110.out 3
     have hfz9_4 := Sq.r BK110.out 4
     go_wp2_with (first | (go_at_call 45; (with_reducible refine (spec_l13Name.calls k a0_0 true _ A5.out).mono ?_); rintro e w' ⟨rfl, ⟨nd, rfl⟩⟩; (try first | exact ⟨rfl, _, World.drewN_drewN _ _ _⟩ | exact ⟨rfl, _, Eq.trans (World.drewN_drewN _ _ _) (congrArg (World.drewN _) (Nat.add_assoc _ _ _))⟩)))
     repeat (go_quiet (first | (go_at_call 45; (with_reducible refine (spec_l13Name.calls k a0_0 true _ A5.out).mono ?_); rintro e w' ⟨rfl, ⟨nd, rfl⟩⟩; (try first | exact ⟨rfl, _, World.drewN_drewN _ _ _⟩ | exact ⟨rfl, _, Eq.trans (World.drewN_drewN _ _ _) (congrArg (World.drewN _) (Nat.add_assoc _ _ _))⟩))); try go_wp2_with (first | (go_at_call 45; (with_reducible refine (spec_l13Name.calls k a0_0 true _ A5.out).mono ?_); rintro e w' ⟨rfl, ⟨nd, rfl⟩⟩; (try first | exact ⟨rfl, _, World.drewN_drewN _ _ _⟩ | exact ⟨rfl, _, Eq.trans (World.drewN_drewN _ _ _) (congrArg (World.drewN _) (Nat.add_assoc _ _ _))⟩))))
     go_meet
     case rel => exact ⟨_, (true), (by first | rfl | (simp; done) | (simp [*]; done)), H', ⟨by first | omega | exact Nat.le_refl _⟩, ⟨by (with_reducible repeat (first | refine Sq.d ?_ _ | refine Sq.e ?_ | refine Sq.f ?_ _)); exact BK110.out⟩, ⟨by repeat (first | (with_reducible first | exact HB.out | apply Sq.i | apply Sq.j | apply Sq.k | refine Sq.h ?_ GE110.out) | exact HB.out)⟩⟩
    ·rw [if_neg c8] at H
     have c8b0 : decide ((l0_2.length : Int) < 1) = false := decide_eq_false c8
     have c8b1 : decide (l0_2.length < 1) = false := decide_eq_false (by omega)
     clear c8
     by_cases c10 : (l0_2.length : Int) > 64
     ·rw [if_pos c10] at H
      have c10b0 : decide (64 < (l0_2.length : Int)) = true := decide_eq_true c10
      have c10b1 : decide (64 < l0_2.length) = true := decide_eq_true (by omega)
      clear c10
      have H' := Sq.l H
      clear H
      have hcz11_0 : w3.cell? ⟨gb110, 0, none⟩ = some (.string a0_0) := (Sq.o BK110.out 0).trans rfl
      have hcz11_1 : w3.cell? ⟨gb110, 1, none⟩ = some (.string a0_1) := (Sq.o BK110.out 1).trans rfl
      have hcz11_2 : w3.cell? ⟨gb110, 2, none⟩ = some (.slice A0_2 l0_2.length c0_2) := (Sq.o BK110.out 2).trans rfl
      have hcz11_3 : w3.cell? ⟨gb110, 3, none⟩ = some (.slice A0_3 l0_3.length c0_3) := (Sq.o BK110.out 3).trans rfl
      have hcz11_4 : w3.cell? ⟨gb110, 4, none⟩ = some (.slice A0_4 l0_4.length c0_4) := (Sq.o BK110.out 4).trans rfl
      have hfz11_0 := Sq.r BK110.out 0
      have hfz11_1 := Sq.r BK110.out 1
      have hfz11_2 := Sq.r BK110.out 2
      have hfz11_3 := Sq.r BK110.out 3
      have hfz11_4 := Sq.r BK110.out 4
      go_wp2_with (first | (go_at_call 45; (with_reducible refine (spec_l13Name.calls k a0_0 true _ A5.out).mono ?_); rintro e w' ⟨rfl, ⟨nd, rfl⟩⟩; (try first | exact ⟨rfl, _, World.drewN_drewN _ _ _⟩ | exact ⟨rfl, _, Eq.trans (World.drewN_drewN _ _ _) (congrArg (World.drewN _) (Nat.add_assoc _ _ _))⟩)))
      repeat (go_quiet (first | (go_at_call 45; (with_reducible refine (spec_l13Name.calls k a0_0 true _ A5.out).mono ?_); rintro e w' ⟨rfl, ⟨nd, rfl⟩⟩; (try first | exact ⟨rfl, _, World.drewN_drewN _ _ _⟩ | exact ⟨rfl, _, Eq.trans (World.drewN_drewN _ _ _) (congrArg (World.drewN _) (Nat.add_assoc _ _ _))⟩))); try go_wp2_with (first | (go_at_call 45; (with_reducible refine (spec_l13Name.calls k a0_0 true _ A5.out).mono ?_); rintro e w' ⟨rfl, ⟨nd, rfl⟩⟩; (try first | exact ⟨rfl, _, World.drewN_drewN _ _ _⟩ | exact ⟨rfl, _, Eq.trans (World.drewN_drewN _ _ _) (congrArg (World.drewN _) (Nat.add_assoc _ _ _))⟩))))
      go_meet
      case rel => exact ⟨_, (true), (by first | rfl | (simp; done) | (simp [*]; done)), H', ⟨by first | omega | exact Nat.le_refl _⟩, ⟨by (with_reducible repeat (first | refine Sq.d ?_ _ | refine Sq.e ?_ | refine Sq.f ?_ _)); exact BK110.out⟩, ⟨by repeat (first | (with_reducible first | exact HB.out | apply Sq.i | apply Sq.j | apply Sq.k | refine Sq.h ?_ GE110.out) | exact HB.out)⟩⟩
     ·rw [if_neg c10] at H
      have c10b0 : decide (64 < (l0_2.length : Int)) = false := decide_eq_false c10
      have c10b1 : decide (64 < l0_2.length) = false := decide_eq_false (by omega)
      clear c10
      by_cases c12 : (l0_3.length : Int) > 128
      ·rw [if_pos c12] at H
       have c12b0 : decide (128 < (l0_3.length : Int)) = true := decide_eq_true c12
       have c12b1 : decide (128 < l0_3.length) = true := decide_eq_true (by omega)
       clear c12
       have H' := Sq.l H
       clear H
       have hcz13_0 : w3.cell? ⟨gb110, 0, none⟩ = some (.string a0_0) := (Sq.o BK110.out 0).trans rfl
       have hcz13_1 : w3.cell? ⟨gb110, 1, none⟩ = some (.string a0_1) := (Sq.o BK110.out 1).trans rfl
       have hcz13_2 : w3.cell? ⟨gb110, 2, none⟩ = some (.slice A0_2 l0_2.length c0_2) := (Sq.o BK110.out 2).trans rfl
       have hcz13_3 : w3.cell? ⟨gb110, 3, none⟩ = some (.slice A0_3 l0_3.length c0_3) := (Sq.o BK110.out 3).trans rfl
       have hcz13_4 : w3.cell? ⟨gb110, 4, none⟩ = some (.slice A0_4 l0_4.length c0_4) := (Sq.o BK110.out 4).trans rfl
       have hfz13_0 := Sq.r BK110.out 0
       have hfz13_1 := Sq.r BK110.out 1
       have hfz13_2 := Sq.r BK110.out 2
       have hfz13_3 := Sq.r BK110.out 3
       have hfz13_4 := Sq.r BK110.out 4
       go_wp2_with (first | (go_at_call 45; (with_reducible refine (spec_l13Name.calls k a0_0 true _ A5.out).mono ?_); rintro e w' ⟨rfl, ⟨nd, rfl⟩⟩; (try first | exact ⟨rfl, _, World.drewN_drewN _ _ _⟩ | exact ⟨rfl, _, Eq.trans (World.drewN_drewN _ _ _) (congrArg (World.drewN _) (Nat.add_assoc _ _ _))⟩)))
       repeat (go_quiet (first | (go_at_call 45; (with_reducible refine (spec_l13Name.calls k a0_0 true _ A5.out).mono ?_); rintro e w' ⟨rfl, ⟨nd, rfl⟩⟩; (try first | exact ⟨rfl, _, World.drewN_drewN _ _ _⟩ | exact ⟨rfl, _, Eq.trans (World.drewN_drewN _ _ _) (congrArg (World.drewN _) (Nat.add_assoc _ _ _))⟩))); try go_wp2_with (first | (go_at_call 45; (with_reducible refine (spec_l13Name.calls k a0_0 true _ A5.out).mono ?_); rintro e w' ⟨rfl, ⟨nd, rfl⟩⟩; (try first | exact ⟨rfl, _, World.drewN_drewN _ _ _⟩ | exact ⟨rfl, _, Eq.trans (World.drewN_drewN _ _ _) (congrArg (World.drewN _) (Nat.add_assoc _ _ _))⟩))))
       go_meet
       case rel => exact ⟨_, (true), (by first | rfl | (simp; done) | (simp [*]; done)), H', ⟨by first | omega | exact Nat.le_refl _⟩, ⟨by (with_reducible repeat (first | refine Sq.d ?_ _ | refine Sq.e ?_ | refine Sq.f ?_ _)); exact BK110.out⟩, ⟨by repeat (first | (with_reducible first | exact HB.out | apply Sq.i | apply Sq.j | apply Sq.k | refine Sq.h ?_ GE110.out) | exact HB.out)⟩⟩
      ·rw [if_neg c12] at H
       have c12b0 : decide (128 < (l0_3.length : Int)) = false := decide_eq_false c12
       have c12b1 : decide (128 < l0_3.length) = false := decide_eq_false (by omega)
       clear c12
       by_cases c14 : (l0_4.length : Int) > 8
       ·rw [if_pos c14] at H
        have c14b0 : decide (8 < (l0_4.length : Int)) = true := decide_eq_true c14
        have c14b1 : decide (8 < l0_4.length) = true := decide_eq_true (by omega)
        clear c14
        have H' := Sq.l H
        clear H
        have hcz15_0 : w3.cell? ⟨gb110, 0, none⟩ = some (.string a0_0) := (Sq.o BK110.out 0).trans rfl
        have hcz15_1 : w3.cell? ⟨gb110, 1, none⟩ = some (.string a0_1) := (Sq.o BK110.out 1).trans rfl
        have hcz15_2 : w3.cell? ⟨gb110, 2, none⟩ = some (.slice A0_2 l0_2.length c0_2) := (Sq.o BK110.out 2).trans rfl
        have hcz15_3 : w3.cell? ⟨gb110, 3, none⟩ = some (.slice A0_3 l0_3.length c0_3) := (Sq.o BK110.out 3).trans rfl
        have hcz15_4 : w3.cell? ⟨gb110, 4, none⟩ = some (.slice A0_4 l0_4.length c0_4) := (Sq.o BK110.out 4).trans rfl
        have hfz15_0 := Sq.r BK110.out 0
        have hfz15_1 := Sq.r BK110.out 1
        have hfz15_2 := Sq.r BK110.out 2
        have hfz15_3 := Sq.r BK110.out 3
        have hfz15_4 := Sq.r BK110.out 4
        go_wp2_with (first | (go_at_call 45; (with_reducible refine (spec_l13Name.calls k a0_0 true _ A5.out).mono ?_); rintro e w' ⟨rfl, ⟨nd, rfl⟩⟩; (try first | exact ⟨rfl, _, World.drewN_drewN _ _ _⟩ | exact ⟨rfl, _, Eq.trans (World.drewN_drewN _ _ _) (congrArg (World.drewN _) (Nat.add_assoc _ _ _))⟩)))
        repeat (go_quiet (first | (go_at_call 45; (with_reducible refine (spec_l13Name.calls k a0_0 true _ A5.out).mono ?_); rintro e w' ⟨rfl, ⟨nd, rfl⟩⟩; (try first | exact ⟨rfl, _, World.drewN_drewN _ _ _⟩ | exact ⟨rfl, _, Eq.trans (World.drewN_drewN _ _ _) (congrArg (World.drewN _) (Nat.add_assoc _ _ _))⟩))); try go_wp2_with (first | (go_at_call 45; (with_reducible refine (spec_l13Name.calls k a0_0 true _ A5.out).mono ?_); rintro e w' ⟨rfl, ⟨nd, rfl⟩⟩; (try first | exact ⟨rfl, _, World.drewN_drewN _ _ _⟩ | exact ⟨rfl, _, Eq.trans (World.drewN_drewN _ _ _) (congrArg (World.drewN _) (Nat.add_assoc _ _ _))⟩))))
        go_meet
        case rel => exact ⟨_, (true), (by first | rfl | (simp; done) | (simp [*]; done)), H', ⟨by first | omega | exact Nat.le_refl _⟩, ⟨by (with_reducible repeat (first | refine Sq.d ?_ _ | refine Sq.e ?_ | refine Sq.f ?_ _)); exact BK110.out⟩, ⟨by repeat (first | (with_reducible first | exact HB.out | apply Sq.i | apply Sq.j | apply Sq.k | refine Sq.h ?_ GE110.out) | exact HB.out)⟩⟩
       ·rw [if_neg c14] at H
        have c14b0 : decide (8 < (l0_4.length : Int)) = false := decide_eq_false c14
        have c14b1 : decide (8 < l0_4.length) = false := decide_eq_false (by omega)
        clear c14
        replace H := Option.bind_eq_some_iff.mp H
        obtain ⟨t112, A160, H⟩ := H
        (try dsimp only at H)
        have A16 := Sq.l A160
        clear A160
        have H' := Sq.l H
        clear H
        have hcz17_0 : w3.cell? ⟨gb110, 0, none⟩ = some (.string a0_0) := (Sq.o BK110.out 0).trans rfl
        have hcz17_1 : w3.cell? ⟨gb110, 1, none⟩ = some (.string a0_1) := (Sq.o BK110.out 1).trans rfl
        have hcz17_2 : w3.cell? ⟨gb110, 2, none⟩ = some (.slice A0_2 l0_2.length c0_2) := (Sq.o BK110.out 2).trans rfl
        have hcz17_3 : w3.cell? ⟨gb110, 3, none⟩ = some (.slice A0_3 l0_3.length c0_3) := (Sq.o BK110.out 3).trans rfl
        have hcz17_4 : w3.cell? ⟨gb110, 4, none⟩ = some (.slice A0_4 l0_4.length c0_4) := (Sq.o BK110.out 4).trans rfl
        have hfz17_0 := Sq.r BK110.out 0
        have hfz17_1 := Sq.r BK110.out 1
        have hfz17_2 := Sq.r BK110.out 2
        have hfz17_3 := Sq.r BK110.out 3
        have hfz17_4 := Sq.r BK110.out 4
        go_wp2_with (first | (go_at_call 45; (with_reducible refine (spec_l13Name.calls k a0_0 true _ A5.out).mono ?_); rintro e w' ⟨rfl, ⟨nd, rfl⟩⟩; (try first | exact ⟨rfl, _, World.drewN_drewN _ _ _⟩ | exact ⟨rfl, _, Eq.trans (World.drewN_drewN _ _ _) (congrArg (World.drewN _) (Nat.add_assoc _ _ _))⟩)) | (go_at_call 46; (with_reducible refine (spec_l13Table.calls k _ _ l0_2 (l0_2.length : Int) (l0_3.length : Int) t112 _ ?side1 ?side2 A16.out).mono ?_); (case side1 => repeat (first | exact (Sq.a1 HR0_2.out (by repeat (first | (with_reducible first | exact HB.out | apply Sq.i | apply Sq.j | apply Sq.k | refine Sq.h ?_ GE110.out) | exact HB.out))) | (with_reducible refine Sq.s ?_ _) | (with_reducible refine Sq.t ?_ _) | (with_reducible refine Sq.u ?_))); (case side2 => exact HC0_2.out); rintro e w' ⟨rfl, ⟨nd, rfl⟩⟩; (try first | exact ⟨rfl, _, World.drewN_drewN _ _ _⟩ | exact ⟨rfl, _, Eq.trans (World.drewN_drewN _ _ _) (congrArg (World.drewN _) (Nat.add_assoc _ _ _))⟩)))
        repeat (go_quiet (first | (go_at_call 45; (with_reducible refine (spec_l13Name.calls k a0_0 true _ A5.out).mono ?_); rintro e w' ⟨rfl, ⟨nd, rfl⟩⟩; (try first | exact ⟨rfl, _, World.drewN_drewN _ _ _⟩ | exact ⟨rfl, _, Eq.trans (World.drewN_drewN _ _ _) (congrArg (World.drewN _) (Nat.add_assoc _ _ _))⟩)) | (go_at_call 46; (with_reducible refine (spec_l13Table.calls k _ _ l0_2 (l0_2.length : Int) (l0_3.length : Int) t112 _ ?side1 ?side2 A16.out).mono ?_); (case side1 => repeat (first | exact (Sq.a1 HR0_2.out (by repeat (first | (with_reducible first | exact HB.out | apply Sq.i | apply Sq.j | apply Sq.k | refine Sq.h ?_ GE110.out) | exact HB.out))) | (with_reducible refine Sq.s ?_ _) | (with_reducible refine Sq.t ?_ _) | (with_reducible refine Sq.u ?_))); (case side2 => exact HC0_2.out); rintro e w' ⟨rfl, ⟨nd, rfl⟩⟩; (try first | exact ⟨rfl, _, World.drewN_drewN _ _ _⟩ | exact ⟨rfl, _, Eq.trans (World.drewN_drewN _ _ _) (congrArg (World.drewN _) (Nat.add_assoc _ _ _))⟩))); try go_wp2_with (first | (go_at_call 45; (with_reducible refine (spec_l13Name.calls k a0_0 true _ A5.out).mono ?_); rintro e w' ⟨rfl, ⟨nd, rfl⟩⟩; (try first | exact ⟨rfl, _, World.drewN_drewN _ _ _⟩ | exact ⟨rfl, _, Eq.trans (World.drewN_drewN _ _ _) (congrArg (World.drewN _) (Nat.add_assoc _ _ _))⟩)) | (go_at_call 46; (with_reducible refine (spec_l13Table.calls k _ _ l0_2 (l0_2.length : Int) (l0_3.length : Int) t112 _ ?side1 ?side2 A16.out).mono ?_); (case side1 => repeat (first | exact (Sq.a1 HR0_2.out (by repeat (first | (with_reducible first | exact HB.out | apply Sq.i | apply Sq.j | apply Sq.k | refine Sq.h ?_ GE110.out) | exact HB.out))) | (with_reducible refine Sq.s ?_ _) | (with_reducible refine Sq.t ?_ _) | (with_reducible refine Sq.u ?_))); (case side2 => exact HC0_2.out); rintro e w' ⟨rfl, ⟨nd, rfl⟩⟩; (try first | exact ⟨rfl, _, World.drewN_drewN _ _ _⟩ | exact ⟨rfl, _, Eq.trans (World.drewN_drewN _ _ _) (congrArg (World.drewN _) (Nat.add_assoc _ _ _))⟩))))
        go_meet
        case rel => exact ⟨_, (!t112), (by first | rfl | (simp; done) | (simp [*]; done)), H', ⟨by first | omega | exact Nat.le_refl _⟩, ⟨by (with_reducible repeat (first | refine Sq.d ?_ _ | refine Sq.e ?_ | refine Sq.f ?_ _)); exact BK110.out⟩, ⟨by repeat (first | (with_reducible first | exact HB.out | apply Sq.i | apply Sq.j | apply Sq.k | refine Sq.h ?_ GE110.out) | exact HB.out)⟩⟩
   ·rw [if_neg c7] at H
    have c7b0 : (a0_1.toList == ([] : List UInt8)) = false := beq_eq_false_iff_ne.mpr c7
    have c7b1 : (a0_1.toList != ([] : List UInt8)) = true := bne_iff_ne.mpr c7
    (try (have c7b2 : (a0_1.toList.isEmpty) = false := Sq.ie c7))
    (first | rw [c7b0] | (simp only [i64_w, i32_w]; rw [c7b0]) | skip)
    replace H := Option.bind_eq_some_iff.mp H
    obtain ⟨t113, A180, H⟩ := H
    (try dsimp only at H)
    have A18 := Sq.l A180
    clear A180
    by_cases c19 : t113 = true
    ·subst c19
     rw [if_pos rfl] at H
     by_cases c20 : (l0_2.length : Int) < 1
     ·rw [if_pos c20] at H
      have c20b0 : decide ((l0_2.length : Int) < 1) = true := decide_eq_true c20
      have c20b1 : decide (l0_2.length < 1) = true := decide_eq_true (by omega)
      clear c20
      have H' := Sq.l H
      clear H
      have hcz21_0 : w3.cell? ⟨gb110, 0, none⟩ = some (.string a0_0) := (Sq.o BK110.out 0).trans rfl
      have hcz21_1 : w3.cell? ⟨gb110, 1, none⟩ = some (.string a0_1) := (Sq.o BK110.out 1).trans rfl
      have hcz21_2 : w3.cell? ⟨gb110, 2, none⟩ = some (.slice A0_2 l0_2.length c0_2) := (Sq.o BK110.out 2).trans rfl
      have hcz21_3 : w3.cell? ⟨gb110, 3, none⟩ = some (.slice A0_3 l0_3.length c0_3) := (Sq.o BK110.out 3).trans rfl
      have hcz21_4 : w3.cell? ⟨gb110, 4, none⟩ = some (.slice A0_4 l0_4.length c0_4) := (Sq.o BK110.out 4).trans rfl
      have hfz21_0 := Sq.r BK110.out 0
      have hfz21_1 := Sq.r BK110.out 1
      have hfz21_2 := Sq.r BK110.out 2
      have hfz21_3 := Sq.r BK110.out 3
      have hfz21_4 := Sq.r BK110.out 4
      go_wp2_with (first | (go_at_call 45; (with_reducible refine (spec_l13Name.calls k a0_0 true _ A5.out).mono ?_); rintro e w' ⟨rfl, ⟨nd, rfl⟩⟩; (try first | exact ⟨rfl, _, World.drewN_drewN _ _ _⟩ | exact ⟨rfl, _, Eq.trans (World.drewN_drewN _ _ _) (congrArg (World.drewN _) (Nat.add_assoc _ _ _))⟩)) | (go_at_call 45; (with_reducible refine (spec_l13Name.calls k a0_1 true _ A18.out).mono ?_); rintro e w' ⟨rfl, ⟨nd, rfl⟩⟩; (try first | exact ⟨rfl, _, World.drewN_drewN _ _ _⟩ | exact ⟨rfl, _, Eq.trans (World.drewN_drewN _ _ _) (congrArg (World.drewN _) (Nat.add_assoc _ _ _))⟩)))
      repeat (go_quiet (first | (go_at_call 45; (with_reducible refine (spec_l13Name.calls k a0_0 true _ A5.out).mono ?_); rintro e w' ⟨rfl, ⟨nd, rfl⟩⟩; (try first | exact ⟨rfl, _, World.drewN_drewN _ _ _⟩ | exact ⟨rfl, _, Eq.trans (World.drewN_drewN _ _ _) (congrArg (World.drewN _) (Nat.add_assoc _ _ _))⟩)) | (go_at_call 45; (with_reducible refine (spec_l13Name.calls k a0_1 true _ A18.out).mono ?_); rintro e w' ⟨rfl, ⟨nd, rfl⟩⟩; (try first | exact ⟨rfl, _, World.drewN_drewN _ _ _⟩ | exact ⟨rfl, _, Eq.trans (World.drewN_drewN _ _ _) (congrArg (World.drewN _) (Nat.add_assoc _ _ _))⟩))); try go_wp2_with (first | (go_at_call 45; (with_reducible refine (spec_l13Name.calls k a0_0 true _ A5.out).mono ?_); rintro e w' ⟨rfl, ⟨nd, rfl⟩⟩; (try first | exact ⟨rfl, _, World.drewN_drewN _ _ _⟩ | exact ⟨rfl, _, Eq.trans (World.drewN_drewN _ _ _) (congrArg (World.drewN _) (Nat.add_assoc _ _ _))⟩)) | (go_at_call 45; (with_reducible refine (spec_l13Name.calls k a0_1 true _ A18.out).mono ?_); rintro e w' ⟨rfl, ⟨nd, rfl⟩⟩; (try first | exact ⟨rfl, _, World.drewN_drewN _ _ _⟩ | exact ⟨rfl, _, Eq.trans (World.drewN_drewN _ _ _) (congrArg (World.drewN _) (Nat.add_assoc _ _ _))⟩))))
      go_meet
      case rel => exact ⟨_, (true), (by first | rfl | (simp; done) | (simp [*]; done)), H', ⟨by first | omega | exact Nat.le_refl _⟩, ⟨by (with_reducible repeat (first | refine Sq.d ?_ _ | refine Sq.e ?_ | refine Sq.f ?_ _)); exact BK110.out⟩, ⟨by repeat (first | (with_reducible first | exact HB.out | apply Sq.i | apply Sq.j | apply Sq.k | refine Sq.h ?_ GE110.out) | exact HB.out)⟩⟩
     ·rw [if_neg c20] at H
      have c20b0 : decide ((l0_2.length : Int) < 1) = false := decide_eq_false c20
      have c20b1 : decide (l0_2.length < 1) = false := decide_eq_false (by omega)
      clear c20
      by_cases c22 : (l0_2.length : Int) > 64
      ·rw [if_pos c22] at H
       have c22b0 : decide (64 < (l0_2.length : Int)) = true := decide_eq_true c22
       have c22b1 : decide (64 < l0_2.length) = true := decide_eq_true (by omega)
       clear c22
       have H' := Sq.l H
       clear H
       have hcz23_0 : w3.cell? ⟨gb110, 0, none⟩ = some (.string a0_0) := (Sq.o BK110.out 0).trans rfl
       have hcz23_1 : w3.cell? ⟨gb110, 1, none⟩ = some (.string a0_1) := (Sq.o BK110.out 1).trans rfl
       have hcz23_2 : w3.cell? ⟨gb110, 2, none⟩ = some (.slice A0_2 l0_2.length c0_2) := (Sq.o BK110.out 2).trans rfl
       have hcz23_3 : w3.cell? ⟨gb110, 3, none⟩ = some (.slice A0_3 l0_3.length c0_3) := (Sq.o BK110.out 3).trans rfl
       have hcz23_4 : w3.cell? ⟨gb110, 4, none⟩ = some (.slice A0_4 l0_4.length c0_4) := (Sq.o BK110.out 4).trans rfl
       have hfz23_0 := Sq.r BK110.out 0
       have hfz23_1 := Sq.r BK110.out 1
       have hfz23_2 := Sq.r BK110.out 2
       have hfz23_3 := Sq.r BK110.out 3
       have hfz23_4 := Sq.r BK110.out 4
       go_wp2_with (first | (go_at_call 45; (with_reducible refine (spec_l13Name.calls k a0_0 true _ A5.out).mono ?_); rintro e w' ⟨rfl, ⟨nd, rfl⟩⟩; (try first | exact ⟨rfl, _, World.drewN_drewN _ _ _⟩ | exact ⟨rfl, _, Eq.trans (World.drewN_drewN _ _ _) (congrArg (World.drewN _) (Nat.add_assoc _ _ _))⟩)) | (go_at_call 45; (with_reducible refine (spec_l13Name.calls k a0_1 true _ A18.out).mono ?_); rintro e w' ⟨rfl, ⟨nd, rfl⟩⟩; (try first | exact ⟨rfl, _, World.drewN_drewN _ _ _⟩ | exact ⟨rfl, _, Eq.trans (World.drewN_drewN _ _ _) (congrArg (World.drewN _) (Nat.add_assoc _ _ _))⟩)))
       repeat (go_quiet (first | (go_at_call 45; (with_reducible refine (spec_l13Name.calls k a0_0 true _ A5.out).mono ?_); rintro e w' ⟨rfl, ⟨nd, rfl⟩⟩; (try first | exact ⟨rfl, _, World.drewN_drewN _ _ _⟩ | exact ⟨rfl, _, Eq.trans (World.drewN_drewN _ _ _) (congrArg (World.drewN _) (Nat.add_assoc _ _ _))⟩)) | (go_at_call 45; (with_reducible refine (spec_l13Name.calls k a0_1 true _ A18.out).mono ?_); rintro e w' ⟨rfl, ⟨nd, rfl⟩⟩; (try first | exact ⟨rfl, _, World.drewN_drewN _ _ _⟩ | exact ⟨rfl, _, Eq.trans (World.drewN_drewN _ _ _) (congrArg (World.drewN _) (Nat.add_assoc _ _ _))⟩))); try go_wp2_with (first | (go_at_call 45; (with_reducible refine (spec_l13Name.calls k a0_0 true _ A5.out).mono ?_); rintro e w' ⟨rfl, ⟨nd, rfl⟩⟩; (try first | exact ⟨rfl, _, World.drewN_drewN _ _ _⟩ | exact ⟨rfl, _, Eq.trans (World.drewN_drewN _ _ _) (congrArg (World.drewN _) (Nat.add_assoc _ _ _))⟩)) | (go_at_call 45; (with_reducible refine (spec_l13Name.calls k a0_1 true _ A18.out).mono ?_); rintro e w' ⟨rfl, ⟨nd, rfl⟩⟩; (try first | exact ⟨rfl, _, World.drewN_drewN _ _ _⟩ | exact ⟨rfl, _, Eq.trans (World.drewN_drewN _ _ _) (congrArg (World.drewN _) (Nat.add_assoc _ _ _))⟩))))
       go_meet
       case rel => exact ⟨_, (true), (by first | rfl | (simp; done) | (simp [*]; done)), H', ⟨by first | omega | exact Nat.le_refl _⟩, ⟨by (with_reducible repeat (first | refine Sq.d ?_ _ | refine Sq.e ?_ | refine Sq.f ?_ _)); exact BK110.out⟩, ⟨by repeat (first | (with_reducible first | exact HB.out | apply Sq.i | apply Sq.j | apply Sq.k | refine Sq.h ?_ GE110.out) | exact HB.out)⟩⟩
      ·rw [if_neg c22] at H
       have c22b0 : decide (64 < (l0_2.length : Int)) = false := decide_eq_false c22
       have c22b1 : decide (64 < l0_2.length) = false := decide_eq_false (by omega)
       clear c22
       by_cases c24 : (l0_3.length : Int) > 128
       ·rw [if_pos c24] at H
        have c24b0 : decide (128 < (l0_3.length : Int)) = true := decide_eq_true c24
        have c24b1 : decide (128 < l0_3.length) = true := decide_eq_true (by omega)
        clear c24
        have H' := Sq.l H
        clear H
        have hcz25_0 : w3.cell? ⟨gb110, 0, none⟩ = some (.string a0_0) := (Sq.o BK110.out 0).trans rfl
        have hcz25_1 : w3.cell? ⟨gb110, 1, none⟩ = some (.string a0_1) := (Sq.o BK110.out 1).trans rfl
        have hcz25_2 : w3.cell? ⟨gb110, 2, none⟩ = some (.slice A0_2 l0_2.length c0_2) := (Sq.o BK110.out 2).trans rfl
        have hcz25_3 : w3.cell? ⟨gb110, 3, none⟩ = some (.slice A0_3 l0_3.length c0_3) := (Sq.o BK110.out 3).trans rfl
        have hcz25_4 : w3.cell? ⟨gb110, 4, none⟩ = some (.slice A0_4 l0_4.length c0_4) := (Sq.o BK110.out 4).trans rfl
        have hfz25_0 := Sq.r BK110.out 0
        have hfz25_1 := Sq.r BK110.out 1
        have hfz25_2 := Sq.r BK110.out 2
        have hfz25_3 := Sq.r BK110.out 3
        have hfz25_4 := Sq.r BK110.out 4
        go_wp2_with (first | (go_at_call 45; (with_reducible refine (spec_l13Name.calls k a0_0 true _ A5.out).mono ?_); rintro e w' ⟨rfl, ⟨nd, rfl⟩⟩; (try first | exact ⟨rfl, _, World.drewN_drewN _ _ _⟩ | exact ⟨rfl, _, Eq.trans (World.drewN_drewN _ _ _) (congrArg (World.drewN _) (Nat.add_assoc _ _ _))⟩)) | (go_at_call 45; (with_reducible refine (spec_l13Name.calls k a0_1 true _ A18.out).mono ?_); rintro e w' ⟨rfl, ⟨nd, rfl⟩⟩; (try first | exact ⟨rfl, _, World.drewN_drewN _ _ _⟩ | exact ⟨rfl, _, Eq.trans (World.drewN_drewN _ _ _) (congrArg (World.drewN _) (Nat.add_assoc _ _ _))⟩)))
        repeat (go_quiet (first | (go_at_call 45; (with_reducible refine (spec_l13Name.calls k a0_0 true _ A5.out).mono ?_); rintro e w' ⟨rfl, ⟨nd, rfl⟩⟩; (try first | exact ⟨rfl, _, World.drewN_drewN _ _ _⟩ | exact ⟨rfl, _, Eq.trans (World.drewN_drewN _ _ _) (congrArg (World.drewN _) (Nat.add_assoc _ _ _))⟩)) | (go_at_call 45; (with_reducible refine (spec_l13Name.calls k a0_1 true _ A18.out).mono ?_); rintro e w' ⟨rfl, ⟨nd, rfl⟩⟩; (try first | exact ⟨rfl, _, World.drewN_drewN _ _ _⟩ | exact ⟨rfl, _, Eq.trans (World.drewN_drewN _ _ _) (congrArg (World.drewN _) (Nat.add_assoc _ _ _))⟩))); try go_wp2_with (first | (go_at_call 45; (with_reducible refine (spec_l13Name.calls k a0_0 true _ A5.out).mono ?_); rintro e w' ⟨rfl, ⟨nd, rfl⟩⟩; (try first | exact ⟨rfl, _, World.drewN_drewN _ _ _⟩ | exact ⟨rfl, _, Eq.trans (World.drewN_drewN _ _ _) (congrArg (World.drewN _) (Nat.add_assoc _ _ _))⟩)) | (go_at_call 45; (with_reducible refine (spec_l13Name.calls k a0_1 true _ A18.out).mono ?_); rintro e w' ⟨rfl, ⟨nd, rfl⟩⟩; (try first | exact ⟨rfl, _, World.drewN_drewN _ _ _⟩ | exact ⟨rfl, _, Eq.trans (World.drewN_drewN _ _ _) (congrArg (World.drewN _) (Nat.add_assoc _ _ _))⟩))))
        go_meet
        case rel => exact ⟨_, (true), (by first | rfl | (simp; done) | (simp [*]; done)), H', ⟨by first | omega | exact Nat.le_refl _⟩, ⟨by (with_reducible repeat (first | refine Sq.d ?_ _ | refine Sq.e ?_ | refine Sq.f ?_ _)); exact BK110.out⟩, ⟨by repeat (first | (with_reducible first | exact HB.out | apply Sq.i | apply Sq.j | apply Sq.k | refine Sq.h ?_ GE110.out) | exact HB.out)⟩⟩
       ·rw [if_neg c24] at H
        have c24b0 : decide (128 < (l0_3.length : Int)) = false := decide_eq_false c24
        have c24b1 : decide (128 < l0_3.length) = false := decide_eq_false (by omega)
        clear c24
        by_cases c26 : (l0_4.length : Int) > 8
        ·rw [if_pos c26] at H
         have c26b0 : decide (8 < (l0_4.length : Int)) = true := decide_eq_true c26
         have c26b1 : decide (8 < l0_4.length) = true := decide_eq_true (by omega)
         clear c26
         have H' := Sq.l H
         clear H
         have hcz27_0 : w3.cell? ⟨gb110, 0, none⟩ = some (.string a0_0) := (Sq.o BK110.out 0).trans rfl
         have hcz27_1 : w3.cell? ⟨gb110, 1, none⟩ = some (.string a0_1) := (Sq.o BK110.out 1).trans rfl
         have hcz27_2 : w3.cell? ⟨gb110, 2, none⟩ = some (.slice A0_2 l0_2.length c0_2) := (Sq.o BK110.out 2).trans rfl
         have hcz27_3 : w3.cell? ⟨gb110, 3, none⟩ = some (.slice A0_3 l0_3.length c0_3) := (Sq.o BK110.out 3).trans rfl
         have hcz27_4 : w3.cell? ⟨gb110, 4, none⟩ = some (.slice A0_4 l0_4.length c0_4) := (Sq.o BK110.out 4).trans rfl
         have hfz27_0 := Sq.r BK110.out 0
         have hfz27_1 := Sq.r BK110.out 1
         have hfz27_2 := Sq.r BK110.out 2
         have hfz27_3 := Sq.r BK110.out 3
         have hfz27_4 := Sq.r BK110.out 4
         go_wp2_with (first | (go_at_call 45; (with_reducible refine (spec_l13Name.calls k a0_0 true _ A5.out).mono ?_); rintro e w' ⟨rfl, ⟨nd, rfl⟩⟩; (try first | exact ⟨rfl, _, World.drewN_drewN _ _ _⟩ | exact ⟨rfl, _, Eq.trans (World.drewN_drewN _ _ _) (congrArg (World.drewN _) (Nat.add_assoc _ _ _))⟩)) | (go_at_call 45; (with_reducible refine (spec_l13Name.calls k a0_1 true _ A18.out).mono ?_); rintro e w' ⟨rfl, ⟨nd, rfl⟩⟩; (try first | exact ⟨rfl, _, World.drewN_drewN _ _ _⟩ | exact ⟨rfl, _, Eq.trans (World.drewN_drewN _ _ _) (congrArg (World.drewN _) (Nat.add_assoc _ _ _))⟩)))
         repeat (go_quiet (first | (go_at_call 45; (with_reducible refine (spec_l13Name.calls k a0_0 true _ A5.out).mono ?_); rintro e w' ⟨rfl, ⟨nd, rfl⟩⟩; (try first | exact ⟨rfl, _, World.drewN_drewN _ _ _⟩ | exact ⟨rfl, _, Eq.trans (World.drewN_drewN _ _ _) (congrArg (World.drewN _) (Nat.add_assoc _ _ _))⟩)) | (go_at_call 45; (with_reducible refine (spec_l13Name.calls k a0_1 true _ A18.out).mono ?_); rintro e w' ⟨rfl, ⟨nd, rfl⟩⟩; (try first | exact ⟨rfl, _, World.drewN_drewN _ _ _⟩ | exact ⟨rfl, _, Eq.trans (World.drewN_drewN _ _ _) (congrArg (World.drewN _) (Nat.add_assoc _ _ _))⟩))); try go_wp2_with (first | (go_at_call 45; (with_reducible refine (spec_l13Name.calls k a0_0 true _ A5.out).mono ?_); rintro e w' ⟨rfl, ⟨nd, rfl⟩⟩; (try first | exact ⟨rfl, _, World.drewN_drewN _ _ _⟩ | exact ⟨rfl, _, Eq.trans (World.drewN_drewN _ _ _) (congrArg (World.drewN _) (Nat.add_assoc _ _ _))⟩)) | (go_at_call 45; (with_reducible refine (spec_l13Name.calls k a0_1 true _ A18.out).mono ?_); rintro e w' ⟨rfl, ⟨nd, rfl⟩⟩; (try first | exact ⟨rfl, _, World.drewN_drewN _ _ _⟩ | exact ⟨rfl, _, Eq.trans (World.drewN_drewN _ _ _) (congrArg (World.drewN _) (Nat.add_assoc _ _ _))⟩))))
         go_meet
         case rel => exact ⟨_, (true), (by first | rfl | (simp; done) | (simp [*]; done)), H', ⟨by first | omega | exact Nat.le_refl _⟩, ⟨by (with_reducible repeat (first | refine Sq.d ?_ _ | refine Sq.e ?_ | refine Sq.f ?_ _)); exact BK110.out⟩, ⟨by repeat (first | (with_reducible first | exact HB.out | apply Sq.i | apply Sq.j | apply Sq.k | refine Sq.h ?_ GE110.out) | exact HB.out)⟩⟩
        ·rw [if_neg c26] at H
         have c26b0 : decide (8 < (l0_4.length : Int)) = false := decide_eq_false c26
         have c26b1 : decide (8 < l0_4.length) = false := decide_eq_false (by omega)
         clear c26
         replace H := Option.bind_eq_some_iff.mp H
         obtain ⟨t114, A280, H⟩ := H
         (try dsimp only at H)
         have A28 := Sq.l A280
         clear A280
         have H' := Sq.l H
         clear H
         have hcz29_0 : w3.cell? ⟨gb110, 0, none⟩ = some (.string a0_0) := (Sq.o BK110.out 0).trans rfl
         have hcz29_1 : w3.cell? ⟨gb110, 1, none⟩ = some (.string a0_1) := (Sq.o BK110.out 1).trans rfl
         have hcz29_2 : w3.cell? ⟨gb110, 2, none⟩ = some (.slice A0_2 l0_2.length c0_2) := (Sq.o BK110.out 2).trans rfl
         have hcz29_3 : w3.cell? ⟨gb110, 3, none⟩ = some (.slice A0_3 l0_3.length c0_3) := (Sq.o BK110.out 3).trans rfl
         have hcz29_4 : w3.cell? ⟨gb110, 4, none⟩ = some (.slice A0_4 l0_4.length c0_4) := (Sq.o BK110.out 4).trans rfl
         have hfz29_0 := Sq.r BK110.out 0
         have hfz29_1 := Sq.r BK110.out 1
         have hfz29_2 := Sq.r BK110.out 2
         have hfz29_3 := Sq.r BK110.out 3
         have hfz29_4 := Sq.r BK110.out 4
         go_wp2_with (first | (go_at_call 45; (with_reducible refine (spec_l13Name.calls k a0_0 true _ A5.out).mono ?_); rintro e w' ⟨rfl, ⟨nd, rfl⟩⟩; (try first | exact ⟨rfl, _, World.drewN_drewN _ _ _⟩ | exact ⟨rfl, _, Eq.trans (World.drewN_drewN _ _ _) (congrArg (World.drewN _) (Nat.add_assoc _ _ _))⟩)) | (go_at_call 45; (with_reducible refine (spec_l13Name.calls k a0_1 true _ A18.out).mono ?_); rintro e w' ⟨rfl, ⟨nd, rfl⟩⟩; (try first | exact ⟨rfl, _, World.drewN_drewN _ _ _⟩ | exact ⟨rfl, _, Eq.trans (World.drewN_drewN _ _ _) (congrArg (World.drewN _) (Nat.add_assoc _ _ _))⟩)) | (go_at_call 46; (with_reducible refine (spec_l13Table.calls k _ _ l0_2 (l0_2.length : Int) (l0_3.length : Int) t114 _ ?side1 ?side2 A28.out).mono ?_); (case side1 => repeat (first | exact (Sq.a1 HR0_2.out (by repeat (first | (with_reducible first | exact HB.out | apply Sq.i | apply Sq.j | apply Sq.k | refine Sq.h ?_ GE110.out) | exact HB.out))) | (with_reducible refine Sq.s ?_ _) | (with_reducible refine Sq.t ?_ _) | (with_reducible refine Sq.u ?_))); (case side2 => exact HC0_2.out); rintro e w' ⟨rfl, ⟨nd, rfl⟩⟩; (try first | exact ⟨rfl, _, World.drewN_drewN _ _ _⟩ | exact ⟨rfl, _, Eq.trans (World.drewN_drewN _ _ _) (congrArg (World.drewN _) (Nat.add_assoc _ _ _))⟩)))
         repeat (go_quiet (first | (go_at_call 45; (with_reducible refine (spec_l13Name.calls k a0_0 true _ A5.out).mono ?_); rintro e w' ⟨rfl, ⟨nd, rfl⟩⟩; (try first | exact ⟨rfl, _, World.drewN_drewN _ _ _⟩ | exact ⟨rfl, _, Eq.trans (World.drewN_drewN _ _ _) (congrArg (World.drewN _) (Nat.add_assoc _ _ _))⟩)) | (go_at_call 45; (with_reducible refine (spec_l13Name.calls k a0_1 true _ A18.out).mono ?_); rintro e w' ⟨rfl, ⟨nd, rfl⟩⟩; (try first | exact ⟨rfl, _, World.drewN_drewN _ _ _⟩ | exact ⟨rfl, _, Eq.trans (World.drewN_drewN _ _ _) (congrArg (World.drewN _) (Nat.add_assoc _ _ _))⟩)) | (go_at_call 46; (with_reducible refine (spec_l13Table.calls k _ _ l0_2 (l0_2.length : Int) (l0_3.length : Int) t114 _ ?side1 ?side2 A28.out).mono ?_); (case side1 => repeat (first | exact (Sq.a1 HR0_2.out (by repeat (first | (with_reducible first | exact HB.out | apply Sq.i | apply Sq.j | apply Sq.k | refine Sq.h ?_ GE110.out) | exact HB.out))) | (with_reducible refine Sq.s ?_ _) | (with_reducible refine Sq.t ?_ _) | (with_reducible refine Sq.u ?_))); (case side2 => exact HC0_2.out); rintro e w' ⟨rfl, ⟨nd, rfl⟩⟩; (try first | exact ⟨rfl, _, World.drewN_drewN _ _ _⟩ | exact ⟨rfl, _, Eq.trans (World.drewN_drewN _ _ _) (congrArg (World.drewN _) (Nat.add_assoc _ _ _))⟩))); try go_wp2_with (first | (go_at_call 45; (with_reducible refine (spec_l13Name.calls k a0_0 true _ A5.out).mono ?_); rintro e w' ⟨rfl, ⟨nd, rfl⟩⟩; (try first | exact ⟨rfl, _, World.drewN_drewN _ _ _⟩ | exact ⟨rfl, _, Eq.trans (World.drewN_drewN _ _ _) (congrArg (World.drewN _) (Nat.add_assoc _ _ _))⟩)) | (go_at_call 45; (with_reducible refine (spec_l13Name.calls k a0_1 true _ A18.out).mono ?_); rintro e w' ⟨rfl, ⟨nd, rfl⟩⟩; (try first | exact ⟨rfl, _, World.drewN_drewN _ _ _⟩ | exact ⟨rfl, _, Eq.trans (World.drewN_drewN _ _ _) (congrArg (World.drewN _) (Nat.add_assoc _ _ _))⟩)) | (go_at_call 46; (with_reducible refine (spec_l13Table.calls k _ _ l0_2 (l0_2.length : Int) (l0_3.length : Int) t114 _ ?side1 ?side2 A28.out).mono ?_); (case side1 => repeat (first | exact (Sq.a1 HR0_2.out (by repeat (first | (with_reducible first | exact HB.out | apply Sq.i | apply Sq.j | apply Sq.k | refine Sq.h ?_ GE110.out) | exact HB.out))) | (with_reducible refine Sq.s ?_ _) | (with_reducible refine Sq.t ?_ _) | (with_reducible refine Sq.u ?_))); (case side2 => exact HC0_2.out); rintro e w' ⟨rfl, ⟨nd, rfl⟩⟩; (try first | exact ⟨rfl, _, World.drewN_drewN _ _ _⟩ | exact ⟨rfl, _, Eq.trans (World.drewN_drewN _ _ _) (congrArg (World.drewN _) (Nat.add_assoc _ _ _))⟩))))
         go_meet
         case rel => exact ⟨_, (!t114), (by first | rfl | (simp; done) | (simp [*]; done)), H', ⟨by first | omega | exact Nat.le_refl _⟩, ⟨by (with_reducible repeat (first | refine Sq.d ?_ _ | refine Sq.e ?_ | refine Sq.f ?_ _)); exact BK110.out⟩, ⟨by repeat (first | (with_reducible first | exact HB.out | apply Sq.i | apply Sq.j | apply Sq.k | refine Sq.h ?_ GE110.out) | exact HB.out)⟩⟩
    ·replace c19 := Bool.eq_false_iff.mpr c19
     subst c19
     rw [if_neg (show ¬ (false = true) by decide)] at H
     have H' := Sq.l H
     clear H
     have hcz30_0 : w3.cell? ⟨gb110, 0, none⟩ = some (.string a0_0) := (Sq.o BK110.out 0).trans rfl
     have hcz30_1 : w3.cell? ⟨gb110, 1, none⟩ = some (.string a0_1) := (Sq.o BK110.out 1).trans rfl
     have hcz30_2 : w3.cell? ⟨gb110, 2, none⟩ = some (.slice A0_2 l0_2.length c0_2) := (Sq.o BK110.out 2).trans rfl
     have hcz30_3 : w3.cell? ⟨gb110, 3, none⟩ = some (.slice A0_3 l0_3.length c0_3) := (Sq.o BK110.out 3).trans rfl
     have hcz30_4 : w3.cell? ⟨gb110, 4, none⟩ = some (.slice A0_4 l0_4.length c0_4) := (Sq.o BK110.out 4).trans rfl
     have hfz30_0 := Sq.r BK110.out 0
     have hfz30_1 := Sq.r BK110.out 1
     have hfz30_2 := Sq.r BK110.out 2
     have hfz30_3 := Sq.r BK110.out 3
     have hfz30_4 := Sq.r BK110.out 4
     go_wp2_with (first | (go_at_call 45; (with_reducible refine (spec_l13Name.calls k a0_0 true _ A5.out).mono ?_); rintro e w' ⟨rfl, ⟨nd, rfl⟩⟩; (try first | exact ⟨rfl, _, World.drewN_drewN _ _ _⟩ | exact ⟨rfl, _, Eq.trans (World.drewN_drewN _ _ _) (congrArg (World.drewN _) (Nat.add_assoc _ _ _))⟩)) | (go_at_call 45; (with_reducible refine (spec_l13Name.calls k a0_1 false _ A18.out).mono ?_); rintro e w' ⟨rfl, ⟨nd, rfl⟩⟩; (try first | exact ⟨rfl, _, World.drewN_drewN _ _ _⟩ | exact ⟨rfl, _, Eq.trans (World.drewN_drewN _ _ _) (congrArg (World.drewN _) (Nat.add_assoc _ _ _))⟩)))
     repeat (go_quiet (first | (go_at_call 45; (with_reducible refine (spec_l13Name.calls k a0_0 true _ A5.out).mono ?_); rintro e w' ⟨rfl, ⟨nd, rfl⟩⟩; (try first | exact ⟨rfl, _, World.drewN_drewN _ _ _⟩ | exact ⟨rfl, _, Eq.trans (World.drewN_drewN _ _ _) (congrArg (World.drewN _) (Nat.add_assoc _ _ _))⟩)) | (go_at_call 45; (with_reducible refine (spec_l13Name.calls k a0_1 false _ A18.out).mono ?_); rintro e w' ⟨rfl, ⟨nd, rfl⟩⟩; (try first | exact ⟨rfl, _, World.drewN_drewN _ _ _⟩ | exact ⟨rfl, _, Eq.trans (World.drewN_drewN _ _ _) (congrArg (World.drewN _) (Nat.add_assoc _ _ _))⟩))); try go_wp2_with (first | (go_at_call 45; (with_reducible refine (spec_l13Name.calls k a0_0 true _ A5.out).mono ?_); rintro e w' ⟨rfl, ⟨nd, rfl⟩⟩; (try first | exact ⟨rfl, _, World.drewN_drewN _ _ _⟩ | exact ⟨rfl, _, Eq.trans (World.drewN_drewN _ _ _) (congrArg (World.drewN _) (Nat.add_assoc _ _ _))⟩)) | (go_at_call 45; (with_reducible refine (spec_l13Name.calls k a0_1 false _ A18.out).mono ?_); rintro e w' ⟨rfl, ⟨nd, rfl⟩⟩; (try first | exact ⟨rfl, _, World.drewN_drewN _ _ _⟩ | exact ⟨rfl, _, Eq.trans (World.drewN_drewN _ _ _) (congrArg (World.drewN _) (Nat.add_assoc _ _ _))⟩))))
     go_meet
     case rel => exact ⟨_, (true), (by first | rfl | (simp; done) | (simp [*]; done)), H', ⟨by first | omega | exact Nat.le_refl _⟩, ⟨by (with_reducible repeat (first | refine Sq.d ?_ _ | refine Sq.e ?_ | refine Sq.f ?_ _)); exact BK110.out⟩, ⟨by repeat (first | (with_reducible first | exact HB.out | apply Sq.i | apply Sq.j | apply Sq.k | refine Sq.h ?_ GE110.out) | exact HB.out)⟩⟩
  ·replace c6 := Bool.eq_false_iff.mpr c6
   subst c6
   rw [if_neg (show ¬ (false = true) by decide)] at H
   have H' := Sq.l H
   clear H
   have hcz31_0 : w3.cell? ⟨gb110, 0, none⟩ = some (.string a0_0) := (Sq.o BK110.out 0).trans rfl
   have hcz31_1 : w3.cell? ⟨gb110, 1, none⟩ = some (.string a0_1) := (Sq.o BK110.out 1).trans rfl
   have hcz31_2 : w3.cell? ⟨gb110, 2, none⟩ = some (.slice A0_2 l0_2.length c0_2) := (Sq.o BK110.out 2).trans rfl
   have hcz31_3 : w3.cell? ⟨gb110, 3, none⟩ = some (.slice A0_3 l0_3.length c0_3) := (Sq.o BK110.out 3).trans rfl
   have hcz31_4 : w3.cell? ⟨gb110, 4, none⟩ = some (.slice A0_4 l0_4.length c0_4) := (Sq.o BK110.out 4).trans rfl
   have hfz31_0 := Sq.r BK110.out 0
   have hfz31_1 := Sq.r BK110.out 1
   have hfz31_2 := Sq.r BK110.out 2
   have hfz31_3 := Sq.r BK110.out 3
   have hfz31_4 := Sq.r BK110.out 4
   go_wp2_with (first | (go_at_call 45; (with_reducible refine (spec_l13Name.calls k a0_0 false _ A5.out).mono ?_); rintro e w' ⟨rfl, ⟨nd, rfl⟩⟩; (try first | exact ⟨rfl, _, World.drewN_drewN _ _ _⟩ | exact ⟨rfl, _, Eq.trans (World.drewN_drewN _ _ _) (congrArg (World.drewN _) (Nat.add_assoc _ _ _))⟩)))
   repeat (go_quiet (first | (go_at_call 45; (with_reducible refine (spec_l13Name.calls k a0_0 false _ A5.out).mono ?_); rintro e w' ⟨rfl, ⟨nd, rfl⟩⟩; (try first | exact ⟨rfl, _, World.drewN_drewN _ _ _⟩ | exact ⟨rfl, _, Eq.trans (World.drewN_drewN _ _ _) (congrArg (World.drewN _) (Nat.add_assoc _ _ _))⟩))); try go_wp2_with (first | (go_at_call 45; (with_reducible refine (spec_l13Name.calls k a0_0 false _ A5.out).mono ?_); rintro e w' ⟨rfl, ⟨nd, rfl⟩⟩; (try first | exact ⟨rfl, _, World.drewN_drewN _ _ _⟩ | exact ⟨rfl, _, Eq.trans (World.drewN_drewN _ _ _) (congrArg (World.drewN _) (Nat.add_assoc _ _ _))⟩))))
   go_meet
   case rel => exact ⟨_, (true), (by first | rfl | (simp; done) | (simp [*]; done)), H', ⟨by first | omega | exact Nat.le_refl _⟩, ⟨by (with_reducible repeat (first | refine Sq.d ?_ _ | refine Sq.e ?_ | refine Sq.f ?_ _)); exact BK110.out⟩, ⟨by repeat (first | (with_reducible first | exact HB.out | apply Sq.i | apply Sq.j | apply Sq.k | refine Sq.h ?_ GE110.out) | exact HB.out)⟩⟩
 case rest =>
  clear HC2; try clear c1; try clear c2; try clear p2; try clear c6; try clear c7; try clear c7b0; try clear c7b1; try clear c7b2; try clear c8; try clear c8b0; try clear c8b1; try clear c10; try clear c10b0; try clear c10b1; try clear c12; try clear c12b0; try clear c12b1; try clear c13; try clear c14; try clear c14b0; try clear c14b1; try clear c19; try clear c20; try clear c20b0; try clear c20b1; try clear c22; try clear c22b0; try clear c22b1; try clear c24; try clear c24b0; try clear c24b1; try clear c26; try clear c26b0; try clear c26b1; try clear hcz11_0; try clear hcz11_1; try clear hcz11_2; try clear hcz11_3; try clear hcz11_4; try clear hcz13_0; try clear hcz13_1; try clear hcz13_2; try clear hcz13_3; try clear hcz13_4; try clear hcz15_0; try clear hcz15_1; try clear hcz15_2; try clear hcz15_3; try clear hcz15_4; try clear hcz17_0; try clear hcz17_1; try clear hcz17_2; try clear hcz17_3; try clear hcz17_4; try clear hcz21_0; try clear hcz21_1; try clear hcz21_2; try clear hcz21_3; try clear hcz21_4; try clear hcz23_0; try clear hcz23_1; try clear hcz23_2; try clear hcz23_3; try clear hcz23_4; try clear hcz25_0; try clear hcz25_1; try clear hcz25_2; try clear hcz25_3; try clear hcz25_4; try clear hcz27_0; try clear hcz27_1; try clear hcz27_2; try clear hcz27_3; try clear hcz27_4; try clear hcz29_0; try clear hcz29_1; try clear hcz29_2; try clear hcz29_3; try clear hcz29_4; try clear hcz30_0; try clear hcz30_1; try clear hcz30_2; try clear hcz30_3; try clear hcz30_4; try clear hcz31_0; try clear hcz31_1; try clear hcz31_2; try clear hcz31_3; try clear hcz31_4; try clear hcz4_0; try clear hcz4_1; try clear hcz4_2; try clear hcz4_3; try clear hcz4_4; try clear hcz9_0; try clear hcz9_1; try clear hcz9_2; try clear hcz9_3; try clear hcz9_4; try clear hfz11_0; try clear hfz11_1; try clear hfz11_2; try clear hfz11_3; try clear hfz11_4; try clear hfz13_0; try clear hfz13_1; try clear hfz13_2; try clear hfz13_3; try clear hfz13_4; try clear hfz15_0; try clear hfz15_1; try clear hfz15_2; try clear hfz15_3; try clear hfz15_4; try clear hfz17_0; try clear hfz17_1; try clear hfz17_2; try clear hfz17_3; try clear hfz17_4; try clear hfz21_0; try clear hfz21_1; try clear hfz21_2; try clear hfz21_3; try clear hfz21_4; try clear hfz23_0; try clear hfz23_1; try clear hfz23_2; try clear hfz23_3; try clear hfz23_4; try clear hfz25_0; try clear hfz25_1; try clear hfz25_2; try clear hfz25_3; try clear hfz25_4; try clear hfz27_0; try clear hfz27_1; try clear hfz27_2; try clear hfz27_3; try clear hfz27_4; try clear hfz29_0; try clear hfz29_1; try clear hfz29_2; try clear hfz29_3; try clear hfz29_4; try clear hfz30_0; try clear hfz30_1; try clear hfz30_2; try clear hfz30_3; try clear hfz30_4; try clear hfz31_0; try clear hfz31_1; try clear hfz31_2; try clear hfz31_3; try clear hfz31_4; try clear hfz4_0; try clear hfz4_1; try clear hfz4_2; try clear hfz4_3; try clear hfz4_4; try clear hfz9_0; try clear hfz9_1; try clear hfz9_2; try clear hfz9_3; try clear hfz9_4
  obtain ⟨kq, x54_1, rfl, HA, HJ1, BK110, HB⟩ := hcut
  cases kq with
  | zero => exact absurd HA.out (by simp [spec_ImageFault.j0])
  | succ kj1 =>
   have H := HA.out
   clear HA
   simp only [spec_ImageFault.j0] at H
   by_cases c32 : x54_1 = true
   ·subst c32
    rw [if_pos rfl] at H
    obtain rfl := Option.some.inj H
    go_wp2
    repeat (go_quiet (fail); try go_wp2)
    go_ret
    exact ⟨by first | rfl | (simp [errW_none, errW_some] <;> rfl) | (simp [*, errW_none, errW_some] <;> rfl), by repeat (first | (with_reducible first | exact HB.out | apply Sq.i | apply Sq.j | apply Sq.k | refine Sq.h ?_ GE110.out) | exact HB.out)⟩
   ·replace c32 := Bool.eq_false_iff.mpr c32
    subst c32
    rw [if_neg (show ¬ (false = true) by decide)] at H
    have H' := Sq.l H
    clear H
    go_wp2
    repeat (go_quiet (fail); try go_wp2)
    go_loopg [4] kj1 (fun kq v4 w' => ∃ (x4_2 : Int), v4 = .int .i64 x4_2 ∧ Aside0 (spec_ImageFault.l0 kq (l0_2.length : Int) x4_2 a0_0 a0_1 l0_2 l0_3 l0_4 = some r) ∧ Aside0 (kq ≤ kj1) ∧ Aside0 (w'.heap[gb110]? = some (.cells #[.string a0_0, .string a0_1, (.slice A0_2 l0_2.length c0_2), (.slice A0_3 l0_3.length c0_3), (.slice A0_4 l0_4.length c0_4)] 26 (0, 0))) ∧ Aside0 (Below w.heap.size w w'))
    case atStart => exact ⟨(0), (by first | rfl | (simp; done) | (simp [*]; done)), H', ⟨Nat.le_refl _⟩, ⟨by (with_reducible repeat (first | refine Sq.d ?_ _ | refine Sq.e ?_ | refine Sq.f ?_ _)); exact BK110.out⟩, ⟨by repeat (first | (with_reducible first | exact HB.out | apply Sq.i | apply Sq.j | apply Sq.k | refine Sq.h ?_ GE110.out) | exact HB.out)⟩⟩
    case round =>
     clear H'
     try clear c1; try clear c2; try clear p2; try clear c3; try clear c6; try clear c7; try clear c7b0; try clear c7b1; try clear c7b2; try clear c8; try clear c8b0; try clear c8b1; try clear c10; try clear c10b0; try clear c10b1; try clear c12; try clear c12b0; try clear c12b1; try clear c13; try clear c14; try clear c14b0; try clear c14b1; try clear c19; try clear c20; try clear c20b0; try clear c20b1; try clear c22; try clear c22b0; try clear c22b1; try clear c24; try clear c24b0; try clear c24b1; try clear c26; try clear c26b0; try clear c26b1; try clear c32; try clear hcz11_0; try clear hcz11_1; try clear hcz11_2; try clear hcz11_3; try clear hcz11_4; try clear hcz13_0; try clear hcz13_1; try clear hcz13_2; try clear hcz13_3; try clear hcz13_4; try clear hcz15_0; try clear hcz15_1; try clear hcz15_2; try clear hcz15_3; try clear hcz15_4; try clear hcz17_0; try clear hcz17_1; try clear hcz17_2; try clear hcz17_3; try clear hcz17_4; try clear hcz21_0; try clear hcz21_1; try clear hcz21_2; try clear hcz21_3; try clear hcz21_4; try clear hcz23_0; try clear hcz23_1; try clear hcz23_2; try clear hcz23_3; try clear hcz23_4; try clear hcz25_0; try clear hcz25_1; try clear hcz25_2; try clear hcz25_3; try clear hcz25_4; try clear hcz27_0; try clear hcz27_1; try clear hcz27_2; try clear hcz27_3; try clear hcz27_4; try clear hcz29_0; try clear hcz29_1; try clear hcz29_2; try clear hcz29_3; try clear hcz29_4; try clear hcz30_0; try clear hcz30_1; try clear hcz30_2; try clear hcz30_3; try clear hcz30_4; try clear hcz31_0; try clear hcz31_1; try clear hcz31_2; try clear hcz31_3; try clear hcz31_4; try clear hcz4_0; try clear hcz4_1; try clear hcz4_2; try clear hcz4_3; try clear hcz4_4; try clear hcz9_0; try clear hcz9_1; try clear hcz9_2; try clear hcz9_3; try clear hcz9_4; try clear hfz11_0; try clear hfz11_1; try clear hfz11_2; try clear hfz11_3; try clear hfz11_4; try clear hfz13_0; try clear hfz13_1; try clear hfz13_2; try clear hfz13_3; try clear hfz13_4; try clear hfz15_0; try clear hfz15_1; try clear hfz15_2; try clear hfz15_3; try clear hfz15_4; try clear hfz17_0; try clear hfz17_1; try clear hfz17_2; try clear hfz17_3; try clear hfz17_4; try clear hfz21_0; try clear hfz21_1; try clear hfz21_2; try clear hfz21_3; try clear hfz21_4; try clear hfz23_0; try clear hfz23_1; try clear hfz23_2; try clear hfz23_3; try clear hfz23_4; try clear hfz25_0; try clear hfz25_1; try clear hfz25_2; try clear hfz25_3; try clear hfz25_4; try clear hfz27_0; try clear hfz27_1; try clear hfz27_2; try clear hfz27_3; try clear hfz27_4; try clear hfz29_0; try clear hfz29_1; try clear hfz29_2; try clear hfz29_3; try clear hfz29_4; try clear hfz30_0; try clear hfz30_1; try clear hfz30_2; try clear hfz30_3; try clear hfz30_4; try clear hfz31_0; try clear hfz31_1; try clear hfz31_2; try clear hfz31_3; try clear hfz31_4; try clear hfz4_0; try clear hfz4_1; try clear hfz4_2; try clear hfz4_3; try clear hfz4_4; try clear hfz9_0; try clear hfz9_1; try clear hfz9_2; try clear hfz9_3; try clear hfz9_4; try clear p2
     obtain ⟨x4_2, rfl, HA, HK2, BK110, HB⟩ := hrel
     cases gk with
     | zero => exact absurd HA.out (by simp [spec_ImageFault.l0])
     | succ k2 =>
      have H := HA.out
      clear HA
      simp only [spec_ImageFault.l0] at H
      by_cases c33 : x4_2 < (l0_4.length : Int)
      ·rw [if_pos c33] at H
       have c33b0 : decide (x4_2 < (l0_4.length : Int)) = true := decide_eq_true c33
       clear c33
       have HC34 := Sq.l H
       clear H
       have hcz35_0 : wr.cell? ⟨gb110, 0, none⟩ = some (.string a0_0) := (Sq.o BK110.out 0).trans rfl
       have hcz35_1 : wr.cell? ⟨gb110, 1, none⟩ = some (.string a0_1) := (Sq.o BK110.out 1).trans rfl
       have hcz35_2 : wr.cell? ⟨gb110, 2, none⟩ = some (.slice A0_2 l0_2.length c0_2) := (Sq.o BK110.out 2).trans rfl
       have hcz35_3 : wr.cell? ⟨gb110, 3, none⟩ = some (.slice A0_3 l0_3.length c0_3) := (Sq.o BK110.out 3).trans rfl
       have hcz35_4 : wr.cell? ⟨gb110, 4, none⟩ = some (.slice A0_4 l0_4.length c0_4) := (Sq.o BK110.out 4).trans rfl
       have hfz35_0 := Sq.r BK110.out 0
       have hfz35_1 := Sq.r BK110.out 1
       have hfz35_2 := Sq.r BK110.out 2
       have hfz35_3 := Sq.r BK110.out 3
       have hfz35_4 := Sq.r BK110.out 4
       go_upto_region 7 with (fail)
       repeat (go_quiet (fail); go_upto_region 7 with (fail))
       go_cut [83] (fun v83 wc => ∃ (kq : Nat) (x83_33 : Bool), v83 = .bool x83_33 ∧ Aside0 (spec_ImageFault.j2 kq (l0_2.length : Int) x4_2 x83_33 a0_0 a0_1 l0_2 l0_3 l0_4 = some r) ∧ Aside0 (kq ≤ k2) ∧ Aside0 (wc.heap[gb110]? = some (.cells #[.string a0_0, .string a0_1, (.slice A0_2 l0_2.length c0_2), (.slice A0_3 l0_3.length c0_3), (.slice A0_4 l0_4.length c0_4)] 26 (0, 0))) ∧ Aside0 (Below w.heap.size w wc))
       case first =>
        have H := HC34.out
        clear HC34
        by_cases c36 : 0 ≤ x4_2
        ·rw [if_pos c36] at H
         have c36b0 : decide (0 ≤ x4_2) = true := decide_eq_true c36
         clear c36
         (first | rw [c36b0] | (simp only [i64_w, i32_w]; rw [c36b0]) | skip)
         replace H := Option.bind_eq_some_iff.mp H
         obtain ⟨t116, A370, H⟩ := H
         (try dsimp only at H)
         have A37 := Sq.l A370
         clear A370
         by_cases c38 : t116 = true
         ·subst c38
          rw [if_pos rfl] at H
          replace H := Option.bind_eq_some_iff.mp H
          obtain ⟨t118, A390, H⟩ := H
          (try dsimp only at H)
          have A39 := Sq.l A390
          clear A390
          have H' := Sq.l H
          clear H
          have hcz40_0 : wr.cell? ⟨gb110, 0, none⟩ = some (.string a0_0) := (Sq.o BK110.out 0).trans rfl
          have hcz40_1 : wr.cell? ⟨gb110, 1, none⟩ = some (.string a0_1) := (Sq.o BK110.out 1).trans rfl
          have hcz40_2 : wr.cell? ⟨gb110, 2, none⟩ = some (.slice A0_2 l0_2.length c0_2) := (Sq.o BK110.out 2).trans rfl
          have hcz40_3 : wr.cell? ⟨gb110, 3, none⟩ = some (.slice A0_3 l0_3.length c0_3) := (Sq.o BK110.out 3).trans rfl
          have hcz40_4 : wr.cell? ⟨gb110, 4, none⟩ = some (.slice A0_4 l0_4.length c0_4) := (Sq.o BK110.out 4).trans rfl
          have hfz40_0 := Sq.r BK110.out 0
          have hfz40_1 := Sq.r BK110.out 1
          have hfz40_2 := Sq.r BK110.out 2
          have hfz40_3 := Sq.r BK110.out 3
          have hfz40_4 := Sq.r BK110.out 4
          have p115 : 0 ≤ (x4_2 : Int) := of_decide_eq_true (by first | (with_reducible assumption) | assumption)
          have q115 : x4_2 < (l0_4.length : Int) := of_decide_eq_true (by first | (with_reducible assumption) | assumption)
          obtain ⟨ad115, A115_1, c115_1, e115, hx115_0, hx115_1, hl115_1, hi115_1⟩ := at_T47 HR0_4.out x4_2 p115 q115
          cases e115
          replace hx115_0 := (HB.out.cell (World.block_lt_of_cell? w _ hx115_0)).trans hx115_0
          replace hx115_1 := (HB.out.cell (World.block_lt_of_cell? w _ hx115_1)).trans hx115_1
          have HR115_1 := Sq.l hi115_1
          have HC115_1 := Sq.l hl115_1
          clear hi115_1 hl115_1; replace p115 := eq_true p115; replace q115 := eq_true q115
          go_wp2_with (first | (go_at_call 45; (with_reducible refine (spec_l13Name.calls k2 ((rd_T47 l0_4 x4_2).f0) true _ A37.out).mono ?_); rintro e w' ⟨rfl, ⟨nd, rfl⟩⟩; (try first | exact ⟨rfl, _, World.drewN_drewN _ _ _⟩ | exact ⟨rfl, _, Eq.trans (World.drewN_drewN _ _ _) (congrArg (World.drewN _) (Nat.add_assoc _ _ _))⟩); have p117 : 0 ≤ (x4_2 : Int) := of_decide_eq_true (by first | (with_reducible assumption) | assumption); have q117 : x4_2 < (l0_4.length : Int) := of_decide_eq_true (by first | (with_reducible assumption) | assumption); obtain ⟨ad117, A117_1, c117_1, e117, hx117_0, hx117_1, hl117_1, hi117_1⟩ := at_T47 HR0_4.out x4_2 p117 q117; obtain rfl : ad115 = ad117 := (by injection e117); replace hx117_0 := (HB.out.cell (World.block_lt_of_cell? w _ hx117_0)).trans hx117_0; replace hx117_1 := (HB.out.cell (World.block_lt_of_cell? w _ hx117_1)).trans hx117_1; have HR117_1 := Sq.l hi117_1; have HC117_1 := Sq.l hl117_1; clear hi117_1 hl117_1; replace p117 := eq_true p117; replace q117 := eq_true q117; have ea_ := Option.some.inj (hx115_1.symm.trans hx117_1); injection ea_ with ea_ en_ ec_; subst ea_; subst ec_; clear en_) | (go_at_call 46; (with_reducible refine (spec_l13Table.calls k2 _ _ ((rd_T47 l0_4 x4_2).f1) (l0_2.length : Int) (l0_3.length : Int) t118 _ ?side1 ?side2 A39.out).mono ?_); (case side1 => repeat (first | exact (Sq.a1 HR117_1.out (by repeat (first | (with_reducible first | exact HB.out | apply Sq.i | apply Sq.j | apply Sq.k | refine Sq.h ?_ GE110.out) | exact HB.out))) | (with_reducible refine Sq.s ?_ _) | (with_reducible refine Sq.t ?_ _) | (with_reducible refine Sq.u ?_))); (case side2 => exact HC117_1.out); rintro e w' ⟨rfl, ⟨nd, rfl⟩⟩; (try first | exact ⟨rfl, _, World.drewN_drewN _ _ _⟩ | exact ⟨rfl, _, Eq.trans (World.drewN_drewN _ _ _) (congrArg (World.drewN _) (Nat.add_assoc _ _ _))⟩)))
          repeat (go_quiet (first | (go_at_call 45; (with_reducible refine (spec_l13Name.calls k2 ((rd_T47 l0_4 x4_2).f0) true _ A37.out).mono ?_); rintro e w' ⟨rfl, ⟨nd, rfl⟩⟩; (try first | exact ⟨rfl, _, World.drewN_drewN _ _ _⟩ | exact ⟨rfl, _, Eq.trans (World.drewN_drewN _ _ _) (congrArg (World.drewN _) (Nat.add_assoc _ _ _))⟩); have p117 : 0 ≤ (x4_2 : Int) := of_decide_eq_true (by first | (with_reducible assumption) | assumption); have q117 : x4_2 < (l0_4.length : Int) := of_decide_eq_true (by first | (with_reducible assumption) | assumption); obtain ⟨ad117, A117_1, c117_1, e117, hx117_0, hx117_1, hl117_1, hi117_1⟩ := at_T47 HR0_4.out x4_2 p117 q117; obtain rfl : ad115 = ad117 := (by injection e117); replace hx117_0 := (HB.out.cell (World.block_lt_of_cell? w _ hx117_0)).trans hx117_0; replace hx117_1 := (HB.out.cell (World.block_lt_of_cell? w _ hx117_1)).trans hx117_1; have HR117_1 := Sq.l hi117_1; have HC117_1 := Sq.l hl117_1; clear hi117_1 hl117_1; replace p117 := eq_true p117; replace q117 := eq_true q117; have ea_ := Option.some.inj (hx115_1.symm.trans hx117_1); injection ea_ with ea_ en_ ec_; subst ea_; subst ec_; clear en_) | (go_at_call 46; (with_reducible refine (spec_l13Table.calls k2 _ _ ((rd_T47 l0_4 x4_2).f1) (l0_2.length : Int) (l0_3.length : Int) t118 _ ?side1 ?side2 A39.out).mono ?_); (case side1 => repeat (first | exact (Sq.a1 HR117_1.out (by repeat (first | (with_reducible first | exact HB.out | apply Sq.i | apply Sq.j | apply Sq.k | refine Sq.h ?_ GE110.out) | exact HB.out))) | (with_reducible refine Sq.s ?_ _) | (with_reducible refine Sq.t ?_ _) | (with_reducible refine Sq.u ?_))); (case side2 => exact HC117_1.out); rintro e w' ⟨rfl, ⟨nd, rfl⟩⟩; (try first | exact ⟨rfl, _, World.drewN_drewN _ _ _⟩ | exact ⟨rfl, _, Eq.trans (World.drewN_drewN _ _ _) (congrArg (World.drewN _) (Nat.add_assoc _ _ _))⟩))); try go_wp2_with (first | (go_at_call 45; (with_reducible refine (spec_l13Name.calls k2 ((rd_T47 l0_4 x4_2).f0) true _ A37.out).mono ?_); rintro e w' ⟨rfl, ⟨nd, rfl⟩⟩; (try first | exact ⟨rfl, _, World.drewN_drewN _ _ _⟩ | exact ⟨rfl, _, Eq.trans (World.drewN_drewN _ _ _) (congrArg (World.drewN _) (Nat.add_assoc _ _ _))⟩); have p117 : 0 ≤ (x4_2 : Int) := of_decide_eq_true (by first | (with_reducible assumption) | assumption); have q117 : x4_2 < (l0_4.length : Int) := of_decide_eq_true (by first | (with_reducible assumption) | assumption); obtain ⟨ad117, A117_1, c117_1, e117, hx117_0, hx117_1, hl117_1, hi117_1⟩ := at_T47 HR0_4.out x4_2 p117 q117; obtain rfl : ad115 = ad117 := (by injection e117); replace hx117_0 := (HB.out.cell (World.block_lt_of_cell? w _ hx117_0)).trans hx117_0; replace hx117_1 := (HB.out.cell (World.block_lt_of_cell? w _ hx117_1)).trans hx117_1; have HR117_1 := Sq.l hi117_1; have HC117_1 := Sq.l hl117_1; clear hi117_1 hl117_1; replace p117 := eq_true p117; replace q117 := eq_true q117; have ea_ := Option.some.inj (hx115_1.symm.trans hx117_1); injection ea_ with ea_ en_ ec_; subst ea_; subst ec_; clear en_) | (go_at_call 46; (with_reducible refine (spec_l13Table.calls k2 _ _ ((rd_T47 l0_4 x4_2).f1) (l0_2.length : Int) (l0_3.length : Int) t118 _ ?side1 ?side2 A39.out).mono ?_); (case side1 => repeat (first | exact (Sq.a1 HR117_1.out (by repeat (first | (with_reducible first | exact HB.out | apply Sq.i | apply Sq.j | apply Sq.k | refine Sq.h ?_ GE110.out) | exact HB.out))) | (with_reducible refine Sq.s ?_ _) | (with_reducible refine Sq.t ?_ _) | (with_reducible refine Sq.u ?_))); (case side2 => exact HC117_1.out); rintro e w' ⟨rfl, ⟨nd, rfl⟩⟩; (try first | exact ⟨rfl, _, World.drewN_drewN _ _ _⟩ | exact ⟨rfl, _, Eq.trans (World.drewN_drewN _ _ _) (congrArg (World.drewN _) (Nat.add_assoc _ _ _))⟩))))
          go_meet
          case rel => exact ⟨_, (!t118), (by first | rfl | (simp; done) | (simp [*]; done)), H', ⟨by have := HJ1.out; have := HK2.out; first | omega | exact Nat.le_refl _⟩, ⟨by (with_reducible repeat (first | refine Sq.d ?_ _ | refine Sq.e ?_ | refine Sq.f ?_ _)); exact BK110.out⟩, ⟨by repeat (first | (with_reducible first | exact HB.out | apply Sq.i | apply Sq.j | apply Sq.k | refine Sq.h ?_ GE110.out) | exact HB.out)⟩⟩
         ·replace c38 := Bool.eq_false_iff.mpr c38
          subst c38
          rw [if_neg (show ¬ (false = true) by decide)] at H
          have H' := Sq.l H
          clear H
          have hcz41_0 : wr.cell? ⟨gb110, 0, none⟩ = some (.string a0_0) := (Sq.o BK110.out 0).trans rfl
          have hcz41_1 : wr.cell? ⟨gb110, 1, none⟩ = some (.string a0_1) := (Sq.o BK110.out 1).trans rfl
          have hcz41_2 : wr.cell? ⟨gb110, 2, none⟩ = some (.slice A0_2 l0_2.length c0_2) := (Sq.o BK110.out 2).trans rfl
          have hcz41_3 : wr.cell? ⟨gb110, 3, none⟩ = some (.slice A0_3 l0_3.length c0_3) := (Sq.o BK110.out 3).trans rfl
          have hcz41_4 : wr.cell? ⟨gb110, 4, none⟩ = some (.slice A0_4 l0_4.length c0_4) := (Sq.o BK110.out 4).trans rfl
          have hfz41_0 := Sq.r BK110.out 0
          have hfz41_1 := Sq.r BK110.out 1
          have hfz41_2 := Sq.r BK110.out 2
          have hfz41_3 := Sq.r BK110.out 3
          have hfz41_4 := Sq.r BK110.out 4
          have p115 : 0 ≤ (x4_2 : Int) := of_decide_eq_true (by first | (with_reducible assumption) | assumption)
          have q115 : x4_2 < (l0_4.length : Int) := of_decide_eq_true (by first | (with_reducible assumption) | assumption)
          obtain ⟨ad115, A115_1, c115_1, e115, hx115_0, hx115_1, hl115_1, hi115_1⟩ := at_T47 HR0_4.out x4_2 p115 q115
          cases e115
          replace hx115_0 := (HB.out.cell (World.block_lt_of_cell? w _ hx115_0)).trans hx115_0
          replace hx115_1 := (HB.out.cell (World.block_lt_of_cell? w _ hx115_1)).trans hx115_1
          have HR115_1 := Sq.l hi115_1
          have HC115_1 := Sq.l hl115_1
          clear hi115_1 hl115_1; replace p115 := eq_true p115; replace q115 := eq_true q115
          go_wp2_with (first | (go_at_call 45; (with_reducible refine (spec_l13Name.calls k2 ((rd_T47 l0_4 x4_2).f0) false _ A37.out).mono ?_); rintro e w' ⟨rfl, ⟨nd, rfl⟩⟩; (try first | exact ⟨rfl, _, World.drewN_drewN _ _ _⟩ | exact ⟨rfl, _, Eq.trans (World.drewN_drewN _ _ _) (congrArg (World.drewN _) (Nat.add_assoc _ _ _))⟩)))
          repeat (go_quiet (first | (go_at_call 45; (with_reducible refine (spec_l13Name.calls k2 ((rd_T47 l0_4 x4_2).f0) false _ A37.out).mono ?_); rintro e w' ⟨rfl, ⟨nd, rfl⟩⟩; (try first | exact ⟨rfl, _, World.drewN_drewN _ _ _⟩ | exact ⟨rfl, _, Eq.trans (World.drewN_drewN _ _ _) (congrArg (World.drewN _) (Nat.add_assoc _ _ _))⟩))); try go_wp2_with (first | (go_at_call 45; (with_reducible refine (spec_l13Name.calls k2 ((rd_T47 l0_4 x4_2).f0) false _ A37.out).mono ?_); rintro e w' ⟨rfl, ⟨nd, rfl⟩⟩; (try first | exact ⟨rfl, _, World.drewN_drewN _ _ _⟩ | exact ⟨rfl, _, Eq.trans (World.drewN_drewN _ _ _) (congrArg (World.drewN _) (Nat.add_assoc _ _ _))⟩))))
          go_meet
          case rel => exact ⟨_, (true), (by first | rfl | (simp; done) | (simp [*]; done)), H', ⟨by have := HJ1.out; have := HK2.out; first | omega | exact Nat.le_refl _⟩, ⟨by (with_reducible repeat (first | refine Sq.d ?_ _ | refine Sq.e ?_ | refine Sq.f ?_ _)); exact BK110.out⟩, ⟨by repeat (first | (with_reducible first | exact HB.out | apply Sq.i | apply Sq.j | apply Sq.k | refine Sq.h ?_ GE110.out) | exact HB.out)⟩⟩
        ·rw [if_neg c36] at H
         exact absurd H (by simp)
       case rest =>
        clear HC34; try clear c1; try clear p1; try clear q1; try clear hx1; try clear c2; try clear p2; try clear c3; try clear c6; try clear c7; try clear c7b0; try clear c7b1; try clear c7b2; try clear c8; try clear c8b0; try clear c8b1; try clear c10; try clear c10b0; try clear c10b1; try clear c11; try clear p11; try clear q11; try clear hx11; try clear c12; try clear c12b0; try clear c12b1; try clear c13; try clear c14; try clear c14b0; try clear c14b1; try clear c19; try clear c20; try clear c20b0; try clear c20b1; try clear c22; try clear c22b0; try clear c22b1; try clear c24; try clear c24b0; try clear c24b1; try clear c26; try clear c26b0; try clear c26b1; try clear c32; try clear c33; try clear c33b0; try clear c36; try clear c36b0; try clear c38; try clear hcz11_0; try clear hcz11_1; try clear hcz11_2; try clear hcz11_3; try clear hcz11_4; try clear hcz13_0; try clear hcz13_1; try clear hcz13_2; try clear hcz13_3; try clear hcz13_4; try clear hcz15_0; try clear hcz15_1; try clear hcz15_2; try clear hcz15_3; try clear hcz15_4; try clear hcz17_0; try clear hcz17_1; try clear hcz17_2; try clear hcz17_3; try clear hcz17_4; try clear hcz21_0; try clear hcz21_1; try clear hcz21_2; try clear hcz21_3; try clear hcz21_4; try clear hcz23_0; try clear hcz23_1; try clear hcz23_2; try clear hcz23_3; try clear hcz23_4; try clear hcz25_0; try clear hcz25_1; try clear hcz25_2; try clear hcz25_3; try clear hcz25_4; try clear hcz27_0; try clear hcz27_1; try clear hcz27_2; try clear hcz27_3; try clear hcz27_4; try clear hcz29_0; try clear hcz29_1; try clear hcz29_2; try clear hcz29_3; try clear hcz29_4; try clear hcz30_0; try clear hcz30_1; try clear hcz30_2; try clear hcz30_3; try clear hcz30_4; try clear hcz31_0; try clear hcz31_1; try clear hcz31_2; try clear hcz31_3; try clear hcz31_4; try clear hcz35_0; try clear hcz35_1; try clear hcz35_2; try clear hcz35_3; try clear hcz35_4; try clear hcz40_0; try clear hcz40_1; try clear hcz40_2; try clear hcz40_3; try clear hcz40_4; try clear hcz41_0; try clear hcz41_1; try clear hcz41_2; try clear hcz41_3; try clear hcz41_4; try clear hcz4_0; try clear hcz4_1; try clear hcz4_2; try clear hcz4_3; try clear hcz4_4; try clear hcz9_0; try clear hcz9_1; try clear hcz9_2; try clear hcz9_3; try clear hcz9_4; try clear hfz11_0; try clear hfz11_1; try clear hfz11_2; try clear hfz11_3; try clear hfz11_4; try clear hfz13_0; try clear hfz13_1; try clear hfz13_2; try clear hfz13_3; try clear hfz13_4; try clear hfz15_0; try clear hfz15_1; try clear hfz15_2; try clear hfz15_3; try clear hfz15_4; try clear hfz17_0; try clear hfz17_1; try clear hfz17_2; try clear hfz17_3; try clear hfz17_4; try clear hfz21_0; try clear hfz21_1; try clear hfz21_2; try clear hfz21_3; try clear hfz21_4; try clear hfz23_0; try clear hfz23_1; try clear hfz23_2; try clear hfz23_3; try clear hfz23_4; try clear hfz25_0; try clear hfz25_1; try clear hfz25_2; try clear hfz25_3; try clear hfz25_4; try clear hfz27_0; try clear hfz27_1; try clear hfz27_2; try clear hfz27_3; try clear hfz27_4; try clear hfz29_0; try clear hfz29_1; try clear hfz29_2; try clear hfz29_3; try clear hfz29_4; try clear hfz30_0; try clear hfz30_1; try clear hfz30_2; try clear hfz30_3; try clear hfz30_4; try clear hfz31_0; try clear hfz31_1; try clear hfz31_2; try clear hfz31_3; try clear hfz31_4; try clear hfz35_0; try clear hfz35_1; try clear hfz35_2; try clear hfz35_3; try clear hfz35_4; try clear hfz40_0; try clear hfz40_1; try clear hfz40_2; try clear hfz40_3; try clear hfz40_4; try clear hfz41_0; try clear hfz41_1; try clear hfz41_2; try clear hfz41_3; try clear hfz41_4; try clear hfz4_0; try clear hfz4_1; try clear hfz4_2; try clear hfz4_3; try clear hfz4_4; try clear hfz9_0; try clear hfz9_1; try clear hfz9_2; try clear hfz9_3; try clear hfz9_4; try clear hx115_0; try clear hx115_1; try clear hx117_0; try clear hx117_1; try clear p115; try clear p117; try clear p2; try clear q115; try clear q117
        obtain ⟨kq, x83_33, rfl, HA, HJ33, BK110, HB⟩ := hcut
        cases kq with
        | zero => exact absurd HA.out (by simp [spec_ImageFault.j2])
        | succ kj33 =>
         have H := HA.out
         clear HA
         simp only [spec_ImageFault.j2] at H
         by_cases c42 : x83_33 = true
         ·subst c42
          rw [if_pos rfl] at H
          obtain rfl := Option.some.inj H
          go_wp2
          repeat (go_quiet (fail); try go_wp2)
          go_ret
          exact ⟨by first | rfl | (simp [errW_none, errW_some] <;> rfl) | (simp [*, errW_none, errW_some] <;> rfl), by repeat (first | (with_reducible first | exact HB.out | apply Sq.i | apply Sq.j | apply Sq.k | refine Sq.h ?_ GE110.out) | exact HB.out)⟩
         ·replace c42 := Bool.eq_false_iff.mpr c42
          subst c42
          rw [if_neg (show ¬ (false = true) by decide)] at H
          have H' := Sq.l H
          clear H
          go_wp2
          repeat (go_quiet (fail); try go_wp2)
          go_loopg [5] kj33 (fun kq v5 w' => ∃ (x5_4 : Int), v5 = .int .i64 x5_4 ∧ Aside0 (spec_ImageFault.l1 kq (l0_2.length : Int) x4_2 x5_4 a0_0 a0_1 l0_2 l0_3 l0_4 = some r) ∧ Aside0 (kq ≤ kj33) ∧ Aside0 (w'.heap[gb110]? = some (.cells #[.string a0_0, .string a0_1, (.slice A0_2 l0_2.length c0_2), (.slice A0_3 l0_3.length c0_3), (.slice A0_4 l0_4.length c0_4)] 26 (0, 0))) ∧ Aside0 (Below w.heap.size w w'))
          case atStart => exact ⟨(0), (by first | rfl | (simp; done) | (simp [*]; done)), H', ⟨Nat.le_refl _⟩, ⟨by (with_reducible repeat (first | refine Sq.d ?_ _ | refine Sq.e ?_ | refine Sq.f ?_ _)); exact BK110.out⟩, ⟨by repeat (first | (with_reducible first | exact HB.out | apply Sq.i | apply Sq.j | apply Sq.k | refine Sq.h ?_ GE110.out) | exact HB.out)⟩⟩
          case round =>
           clear H'
           try clear c1; try clear p1; try clear q1; try clear hx1; try clear c2; try clear p2; try clear c3; try clear c4; try clear c6; try clear c7; try clear c7b0; try clear c7b1; try clear c7b2; try clear c8; try clear c8b0; try clear c8b1; try clear c10; try clear c10b0; try clear c10b1; try clear c11; try clear p11; try clear q11; try clear hx11; try clear c12; try clear c12b0; try clear c12b1; try clear c13; try clear c14; try clear c14b0; try clear c14b1; try clear c19; try clear c20; try clear c20b0; try clear c20b1; try clear c22; try clear c22b0; try clear c22b1; try clear c24; try clear c24b0; try clear c24b1; try clear c26; try clear c26b0; try clear c26b1; try clear c32; try clear c33; try clear c33b0; try clear c36; try clear c36b0; try clear c38; try clear c42; try clear hcz11_0; try clear hcz11_1; try clear hcz11_2; try clear hcz11_3; try clear hcz11_4; try clear hcz13_0; try clear hcz13_1; try clear hcz13_2; try clear hcz13_3; try clear hcz13_4; try clear hcz15_0; try clear hcz15_1; try clear hcz15_2; try clear hcz15_3; try clear hcz15_4; try clear hcz17_0; try clear hcz17_1; try clear hcz17_2; try clear hcz17_3; try clear hcz17_4; try clear hcz21_0; try clear hcz21_1; try clear hcz21_2; try clear hcz21_3; try clear hcz21_4; try clear hcz23_0; try clear hcz23_1; try clear hcz23_2; try clear hcz23_3; try clear hcz23_4; try clear hcz25_0; try clear hcz25_1; try clear hcz25_2; try clear hcz25_3; try clear hcz25_4; try clear hcz27_0; try clear hcz27_1; try clear hcz27_2; try clear hcz27_3; try clear hcz27_4; try clear hcz29_0; try clear hcz29_1; try clear hcz29_2; try clear hcz29_3; try clear hcz29_4; try clear hcz30_0; try clear hcz30_1; try clear hcz30_2; try clear hcz30_3; try clear hcz30_4; try clear hcz31_0; try clear hcz31_1; try clear hcz31_2; try clear hcz31_3; try clear hcz31_4; try clear hcz35_0; try clear hcz35_1; try clear hcz35_2; try clear hcz35_3; try clear hcz35_4; try clear hcz40_0; try clear hcz40_1; try clear hcz40_2; try clear hcz40_3; try clear hcz40_4; try clear hcz41_0; try clear hcz41_1; try clear hcz41_2; try clear hcz41_3; try clear hcz41_4; try clear hcz4_0; try clear hcz4_1; try clear hcz4_2; try clear hcz4_3; try clear hcz4_4; try clear hcz9_0; try clear hcz9_1; try clear hcz9_2; try clear hcz9_3; try clear hcz9_4; try clear hfz11_0; try clear hfz11_1; try clear hfz11_2; try clear hfz11_3; try clear hfz11_4; try clear hfz13_0; try clear hfz13_1; try clear hfz13_2; try clear hfz13_3; try clear hfz13_4; try clear hfz15_0; try clear hfz15_1; try clear hfz15_2; try clear hfz15_3; try clear hfz15_4; try clear hfz17_0; try clear hfz17_1; try clear hfz17_2; try clear hfz17_3; try clear hfz17_4; try clear hfz21_0; try clear hfz21_1; try clear hfz21_2; try clear hfz21_3; try clear hfz21_4; try clear hfz23_0; try clear hfz23_1; try clear hfz23_2; try clear hfz23_3; try clear hfz23_4; try clear hfz25_0; try clear hfz25_1; try clear hfz25_2; try clear hfz25_3; try clear hfz25_4; try clear hfz27_0; try clear hfz27_1; try clear hfz27_2; try clear hfz27_3; try clear hfz27_4; try clear hfz29_0; try clear hfz29_1; try clear hfz29_2; try clear hfz29_3; try clear hfz29_4; try clear hfz30_0; try clear hfz30_1; try clear hfz30_2; try clear hfz30_3; try clear hfz30_4; try clear hfz31_0; try clear hfz31_1; try clear hfz31_2; try clear hfz31_3; try clear hfz31_4; try clear hfz35_0; try clear hfz35_1; try clear hfz35_2; try clear hfz35_3; try clear hfz35_4; try clear hfz40_0; try clear hfz40_1; try clear hfz40_2; try clear hfz40_3; try clear hfz40_4; try clear hfz41_0; try clear hfz41_1; try clear hfz41_2; try clear hfz41_3; try clear hfz41_4; try clear hfz4_0; try clear hfz4_1; try clear hfz4_2; try clear hfz4_3; try clear hfz4_4; try clear hfz9_0; try clear hfz9_1; try clear hfz9_2; try clear hfz9_3; try clear hfz9_4; try clear hx115_0; try clear hx115_1; try clear hx117_0; try clear hx117_1; try clear p1; try clear p11; try clear p115; try clear p117; try clear p2; try clear q1; try clear q11; try clear q115; try clear q117
           obtain ⟨x5_4, rfl, HA, HK4, BK110, HB⟩ := hrel
           cases gk with
           | zero => exact absurd HA.out (by simp [spec_ImageFault.l1])
           | succ k4 =>
            have H := HA.out
            clear HA
            simp only [spec_ImageFault.l1] at H
            by_cases c43 : x5_4 < x4_2
            ·rw [if_pos c43] at H
             have c43b0 : decide (x5_4 < x4_2) = true := decide_eq_true c43
             clear c43
             by_cases c44 : 0 ≤ x5_4
             ·rw [if_pos c44] at H
              have c44b0 : decide (0 ≤ x5_4) = true := decide_eq_true c44
              clear c44
              by_cases c45 : x5_4 < (l0_4.length : Int)
              ·rw [if_pos c45] at H
               have c45b0 : decide (x5_4 < (l0_4.length : Int)) = true := decide_eq_true c45
               clear c45
               by_cases c46 : 0 ≤ x4_2
               ·rw [if_pos c46] at H
                have c46b0 : decide (0 ≤ x4_2) = true := decide_eq_true c46
                clear c46
                by_cases c47 : x4_2 < (l0_4.length : Int)
                ·rw [if_pos c47] at H
                 have c47b0 : decide (x4_2 < (l0_4.length : Int)) = true := decide_eq_true c47
                 clear c47
                 by_cases c48 : ((rd_T47 l0_4 x5_4).f0).toList = ((rd_T47 l0_4 x4_2).f0).toList
                 ·rw [if_pos c48] at H
                  have c48b0 : (((rd_T47 l0_4 x5_4).f0).toList == ((rd_T47 l0_4 x4_2).f0).toList) = true := beq_iff_eq.mpr c48
                  have c48b1 : (((rd_T47 l0_4 x5_4).f0).toList != ((rd_T47 l0_4 x4_2).f0).toList) = false := bne_eq_false_iff_eq.mpr c48
                  clear c48
                  obtain rfl := Option.some.inj H
                  have hcz49_0 : wr.cell? ⟨gb110, 0, none⟩ = some (.string a0_0) := (Sq.o BK110.out 0).trans rfl
                  have hcz49_1 : wr.cell? ⟨gb110, 1, none⟩ = some (.string a0_1) := (Sq.o BK110.out 1).trans rfl
                  have hcz49_2 : wr.cell? ⟨gb110, 2, none⟩ = some (.slice A0_2 l0_2.length c0_2) := (Sq.o BK110.out 2).trans rfl
                  have hcz49_3 : wr.cell? ⟨gb110, 3, none⟩ = some (.slice A0_3 l0_3.length c0_3) := (Sq.o BK110.out 3).trans rfl
                  have hcz49_4 : wr.cell? ⟨gb110, 4, none⟩ = some (.slice A0_4 l0_4.length c0_4) := (Sq.o BK110.out 4).trans rfl
                  have hfz49_0 := Sq.r BK110.out 0
                  have hfz49_1 := Sq.r BK110.out 1
                  have hfz49_2 := Sq.r BK110.out 2
                  have hfz49_3 := Sq.r BK110.out 3
                  have hfz49_4 := Sq.r BK110.out 4
                  have p119 : 0 ≤ (x5_4 : Int) := of_decide_eq_true (by first | (with_reducible assumption) | assumption)
                  have q119 : x5_4 < (l0_4.length : Int) := of_decide_eq_true (by first | (with_reducible assumption) | assumption)
                  obtain ⟨ad119, A119_1, c119_1, e119, hx119_0, hx119_1, hl119_1, hi119_1⟩ := at_T47 HR0_4.out x5_4 p119 q119
                  cases e119
                  replace hx119_0 := (HB.out.cell (World.block_lt_of_cell? w _ hx119_0)).trans hx119_0
                  replace hx119_1 := (HB.out.cell (World.block_lt_of_cell? w _ hx119_1)).trans hx119_1
                  have HR119_1 := Sq.l hi119_1
                  have HC119_1 := Sq.l hl119_1
                  clear hi119_1 hl119_1; replace p119 := eq_true p119; replace q119 := eq_true q119
                  have p120 : 0 ≤ (x4_2 : Int) := of_decide_eq_true (by first | (with_reducible assumption) | assumption)
                  have q120 : x4_2 < (l0_4.length : Int) := of_decide_eq_true (by first | (with_reducible assumption) | assumption)
                  obtain ⟨ad120, A120_1, c120_1, e120, hx120_0, hx120_1, hl120_1, hi120_1⟩ := at_T47 HR0_4.out x4_2 p120 q120
                  obtain rfl : ad119 = ad120 := (by injection e120)
                  replace hx120_0 := (HB.out.cell (World.block_lt_of_cell? w _ hx120_0)).trans hx120_0
                  replace hx120_1 := (HB.out.cell (World.block_lt_of_cell? w _ hx120_1)).trans hx120_1
                  have HR120_1 := Sq.l hi120_1
                  have HC120_1 := Sq.l hl120_1
                  clear hi120_1 hl120_1; replace p120 := eq_true p120; replace q120 := eq_true q120
                  go_wp2
                  repeat (go_quiet (fail); try go_wp2)
                  go_ret
                  exact ⟨by first | rfl | (simp [errW_none, errW_some] <;> rfl) | (simp [*, errW_none, errW_some] <;> rfl), by repeat (first | (with_reducible first | exact HB.out | apply Sq.i | apply Sq.j | apply Sq.k | refine Sq.h ?_ GE110.out) | exact HB.out)⟩
                 ·rw [if_neg c48] at H
                  have c48b0 : (((rd_T47 l0_4 x5_4).f0).toList == ((rd_T47 l0_4 x4_2).f0).toList) = false := beq_eq_false_iff_ne.mpr c48
                  have c48b1 : (((rd_T47 l0_4 x5_4).f0).toList != ((rd_T47 l0_4 x4_2).f0).toList) = true := bne_iff_ne.mpr c48
                  have H' := Sq.l H
                  clear H
                  have hcz50_0 : wr.cell? ⟨gb110, 0, none⟩ = some (.string a0_0) := (Sq.o BK110.out 0).trans rfl
                  have hcz50_1 : wr.cell? ⟨gb110, 1, none⟩ = some (.string a0_1) := (Sq.o BK110.out 1).trans rfl
                  have hcz50_2 : wr.cell? ⟨gb110, 2, none⟩ = some (.slice A0_2 l0_2.length c0_2) := (Sq.o BK110.out 2).trans rfl
                  have hcz50_3 : wr.cell? ⟨gb110, 3, none⟩ = some (.slice A0_3 l0_3.length c0_3) := (Sq.o BK110.out 3).trans rfl
                  have hcz50_4 : wr.cell? ⟨gb110, 4, none⟩ = some (.slice A0_4 l0_4.length c0_4) := (Sq.o BK110.out 4).trans rfl
                  have hfz50_0 := Sq.r BK110.out 0
                  have hfz50_1 := Sq.r BK110.out 1
                  have hfz50_2 := Sq.r BK110.out 2
                  have hfz50_3 := Sq.r BK110.out 3
                  have hfz50_4 := Sq.r BK110.out 4
                  have p119 : 0 ≤ (x5_4 : Int) := of_decide_eq_true (by first | (with_reducible assumption) | assumption)
                  have q119 : x5_4 < (l0_4.length : Int) := of_decide_eq_true (by first | (with_reducible assumption) | assumption)
                  obtain ⟨ad119, A119_1, c119_1, e119, hx119_0, hx119_1, hl119_1, hi119_1⟩ := at_T47 HR0_4.out x5_4 p119 q119
                  cases e119
                  replace hx119_0 := (HB.out.cell (World.block_lt_of_cell? w _ hx119_0)).trans hx119_0
                  replace hx119_1 := (HB.out.cell (World.block_lt_of_cell? w _ hx119_1)).trans hx119_1
                  have HR119_1 := Sq.l hi119_1
                  have HC119_1 := Sq.l hl119_1
                  clear hi119_1 hl119_1; replace p119 := eq_true p119; replace q119 := eq_true q119
                  have p120 : 0 ≤ (x4_2 : Int) := of_decide_eq_true (by first | (with_reducible assumption) | assumption)
                  have q120 : x4_2 < (l0_4.length : Int) := of_decide_eq_true (by first | (with_reducible assumption) | assumption)
                  obtain ⟨ad120, A120_1, c120_1, e120, hx120_0, hx120_1, hl120_1, hi120_1⟩ := at_T47 HR0_4.out x4_2 p120 q120
                  obtain rfl : ad119 = ad120 := (by injection e120)
                  replace hx120_0 := (HB.out.cell (World.block_lt_of_cell? w _ hx120_0)).trans hx120_0
                  replace hx120_1 := (HB.out.cell (World.block_lt_of_cell? w _ hx120_1)).trans hx120_1
                  have HR120_1 := Sq.l hi120_1
                  have HC120_1 := Sq.l hl120_1
                  clear hi120_1 hl120_1; replace p120 := eq_true p120; replace q120 := eq_true q120
                  go_wp2
                  repeat (go_quiet (fail); try go_wp2)
                  go_roundg k4
                  case measure => have := HJ1.out; have := HK2.out; have := HJ33.out; have := HK4.out; omega
                  case rel => exact ⟨(wrap64 (x5_4 + 1)), (by first | rfl | (simp; done) | (simp [*]; done)), H', ⟨by have := HJ1.out; have := HK2.out; have := HJ33.out; have := HK4.out; omega⟩, ⟨by (with_reducible repeat (first | refine Sq.d ?_ _ | refine Sq.e ?_ | refine Sq.f ?_ _)); exact BK110.out⟩, ⟨by repeat (first | (with_reducible first | exact HB.out | apply Sq.i | apply Sq.j | apply Sq.k | refine Sq.h ?_ GE110.out) | exact HB.out)⟩⟩
                ·rw [if_neg c47] at H
                 exact absurd H (by simp)
               ·rw [if_neg c46] at H
                exact absurd H (by simp)
              ·rw [if_neg c45] at H
               exact absurd H (by simp)
             ·rw [if_neg c44] at H
              exact absurd H (by simp)
            ·rw [if_neg c43] at H
             have c43b0 : decide (x5_4 < x4_2) = false := decide_eq_false c43
             clear c43
             have H' := Sq.l H
             clear H
             go_wp2
             repeat (go_quiet (fail); try go_wp2)
             go_roundg k4
             case measure => have := HJ1.out; have := HK2.out; have := HJ33.out; have := HK4.out; omega
             case rel => exact ⟨(wrap64 (x4_2 + 1)), (by first | rfl | (simp; done) | (simp [*]; done)), H', ⟨by have := HJ1.out; have := HK2.out; have := HJ33.out; have := HK4.out; omega⟩, ⟨by (with_reducible repeat (first | refine Sq.d ?_ _ | refine Sq.e ?_ | refine Sq.f ?_ _)); exact BK110.out⟩, ⟨by repeat (first | (with_reducible first | exact HB.out | apply Sq.i | apply Sq.j | apply Sq.k | refine Sq.h ?_ GE110.out) | exact HB.out)⟩⟩
      ·rw [if_neg c33] at H
       have c33b0 : decide (x4_2 < (l0_4.length : Int)) = false := decide_eq_false c33
       clear c33
       have H' := Sq.l H
       clear H
       have hcz51_0 : wr.cell? ⟨gb110, 0, none⟩ = some (.string a0_0) := (Sq.o BK110.out 0).trans rfl
       have hcz51_1 : wr.cell? ⟨gb110, 1, none⟩ = some (.string a0_1) := (Sq.o BK110.out 1).trans rfl
       have hcz51_2 : wr.cell? ⟨gb110, 2, none⟩ = some (.slice A0_2 l0_2.length c0_2) := (Sq.o BK110.out 2).trans rfl
       have hcz51_3 : wr.cell? ⟨gb110, 3, none⟩ = some (.slice A0_3 l0_3.length c0_3) := (Sq.o BK110.out 3).trans rfl
       have hcz51_4 : wr.cell? ⟨gb110, 4, none⟩ = some (.slice A0_4 l0_4.length c0_4) := (Sq.o BK110.out 4).trans rfl
       have hfz51_0 := Sq.r BK110.out 0
       have hfz51_1 := Sq.r BK110.out 1
       have hfz51_2 := Sq.r BK110.out 2
       have hfz51_3 := Sq.r BK110.out 3
       have hfz51_4 := Sq.r BK110.out 4
       go_wp2
       repeat (go_quiet (fail); try go_wp2)
       go_loopg [6] k2 (fun kq v6 w' => ∃ (x6_3 : Int), v6 = .int .i64 x6_3 ∧ Aside0 (spec_ImageFault.l2 kq x6_3 a0_0 a0_1 l0_2 l0_3 l0_4 = some r) ∧ Aside0 (kq ≤ k2) ∧ Aside0 (w'.heap[gb110]? = some (.cells #[.string a0_0, .string a0_1, (.slice A0_2 l0_2.length c0_2), (.slice A0_3 l0_3.length c0_3), (.slice A0_4 l0_4.length c0_4)] 26 (0, 0))) ∧ Aside0 (Below w.heap.size w w'))
       case atStart => exact ⟨(0), (by first | rfl | (simp; done) | (simp [*]; done)), H', ⟨Nat.le_refl _⟩, ⟨by (with_reducible repeat (first | refine Sq.d ?_ _ | refine Sq.e ?_ | refine Sq.f ?_ _)); exact BK110.out⟩, ⟨by repeat (first | (with_reducible first | exact HB.out | apply Sq.i | apply Sq.j | apply Sq.k | refine Sq.h ?_ GE110.out) | exact HB.out)⟩⟩
       case round =>
        clear H'
        try clear c1; try clear p1; try clear q1; try clear hx1; try clear c2; try clear p2; try clear c3; try clear c4; try clear c6; try clear p6; try clear c7; try clear c7b0; try clear c7b1; try clear c7b2; try clear c8; try clear c8b0; try clear c8b1; try clear c10; try clear c10b0; try clear c10b1; try clear c11; try clear p11; try clear q11; try clear hx11; try clear c12; try clear c12b0; try clear c12b1; try clear p12; try clear q12; try clear hx12; try clear c13; try clear c14; try clear c14b0; try clear c14b1; try clear c19; try clear c20; try clear c20b0; try clear c20b1; try clear c22; try clear c22b0; try clear c22b1; try clear c24; try clear c24b0; try clear c24b1; try clear c26; try clear c26b0; try clear c26b1; try clear c32; try clear c33; try clear c33b0; try clear c36; try clear c36b0; try clear c38; try clear c42; try clear c43; try clear c43b0; try clear c44; try clear c44b0; try clear c45; try clear c45b0; try clear c46; try clear c46b0; try clear c47; try clear c47b0; try clear c48; try clear c48b0; try clear c48b1; try clear hcz11_0; try clear hcz11_1; try clear hcz11_2; try clear hcz11_3; try clear hcz11_4; try clear hcz13_0; try clear hcz13_1; try clear hcz13_2; try clear hcz13_3; try clear hcz13_4; try clear hcz15_0; try clear hcz15_1; try clear hcz15_2; try clear hcz15_3; try clear hcz15_4; try clear hcz17_0; try clear hcz17_1; try clear hcz17_2; try clear hcz17_3; try clear hcz17_4; try clear hcz21_0; try clear hcz21_1; try clear hcz21_2; try clear hcz21_3; try clear hcz21_4; try clear hcz23_0; try clear hcz23_1; try clear hcz23_2; try clear hcz23_3; try clear hcz23_4; try clear hcz25_0; try clear hcz25_1; try clear hcz25_2; try clear hcz25_3; try clear hcz25_4; try clear hcz27_0; try clear hcz27_1; try clear hcz27_2; try clear hcz27_3; try clear hcz27_4; try clear hcz29_0; try clear hcz29_1; try clear hcz29_2; try clear hcz29_3; try clear hcz29_4; try clear hcz30_0; try clear hcz30_1; try clear hcz30_2; try clear hcz30_3; try clear hcz30_4; try clear hcz31_0; try clear hcz31_1; try clear hcz31_2; try clear hcz31_3; try clear hcz31_4; try clear hcz35_0; try clear hcz35_1; try clear hcz35_2; try clear hcz35_3; try clear hcz35_4; try clear hcz40_0; try clear hcz40_1; try clear hcz40_2; try clear hcz40_3; try clear hcz40_4; try clear hcz41_0; try clear hcz41_1; try clear hcz41_2; try clear hcz41_3; try clear hcz41_4; try clear hcz49_0; try clear hcz49_1; try clear hcz49_2; try clear hcz49_3; try clear hcz49_4; try clear hcz4_0; try clear hcz4_1; try clear hcz4_2; try clear hcz4_3; try clear hcz4_4; try clear hcz50_0; try clear hcz50_1; try clear hcz50_2; try clear hcz50_3; try clear hcz50_4; try clear hcz51_0; try clear hcz51_1; try clear hcz51_2; try clear hcz51_3; try clear hcz51_4; try clear hcz9_0; try clear hcz9_1; try clear hcz9_2; try clear hcz9_3; try clear hcz9_4; try clear hfz11_0; try clear hfz11_1; try clear hfz11_2; try clear hfz11_3; try clear hfz11_4; try clear hfz13_0; try clear hfz13_1; try clear hfz13_2; try clear hfz13_3; try clear hfz13_4; try clear hfz15_0; try clear hfz15_1; try clear hfz15_2; try clear hfz15_3; try clear hfz15_4; try clear hfz17_0; try clear hfz17_1; try clear hfz17_2; try clear hfz17_3; try clear hfz17_4; try clear hfz21_0; try clear hfz21_1; try clear hfz21_2; try clear hfz21_3; try clear hfz21_4; try clear hfz23_0; try clear hfz23_1; try clear hfz23_2; try clear hfz23_3; try clear hfz23_4; try clear hfz25_0; try clear hfz25_1; try clear hfz25_2; try clear hfz25_3; try clear hfz25_4; try clear hfz27_0; try clear hfz27_1; try clear hfz27_2; try clear hfz27_3; try clear hfz27_4; try clear hfz29_0; try clear hfz29_1; try clear hfz29_2; try clear hfz29_3; try clear hfz29_4; try clear hfz30_0; try clear hfz30_1; try clear hfz30_2; try clear hfz30_3; try clear hfz30_4; try clear hfz31_0; try clear hfz31_1; try clear hfz31_2; try clear hfz31_3; try clear hfz31_4; try clear hfz35_0; try clear hfz35_1; try clear hfz35_2; try clear hfz35_3; try clear hfz35_4; try clear hfz40_0; try clear hfz40_1; try clear hfz40_2; try clear hfz40_3; try clear hfz40_4; try clear hfz41_0; try clear hfz41_1; try clear hfz41_2; try clear hfz41_3; try clear hfz41_4; try clear hfz49_0; try clear hfz49_1; try clear hfz49_2; try clear hfz49_3; try clear hfz49_4; try clear hfz4_0; try clear hfz4_1; try clear hfz4_2; try clear hfz4_3; try clear hfz4_4; try clear hfz50_0; try clear hfz50_1; try clear hfz50_2; try clear hfz50_3; try clear hfz50_4; try clear hfz51_0; try clear hfz51_1; try clear hfz51_2; try clear hfz51_3; try clear hfz51_4; try clear hfz9_0; try clear hfz9_1; try clear hfz9_2; try clear hfz9_3; try clear hfz9_4; try clear hx115_0; try clear hx115_1; try clear hx117_0; try clear hx117_1; try clear hx119_0; try clear hx119_1; try clear hx120_0; try clear hx120_1; try clear p1; try clear p11; try clear p115; try clear p117; try clear p119; try clear p120; try clear p2; try clear q1; try clear q11; try clear q115; try clear q117; try clear q119; try clear q120
        obtain ⟨x6_3, rfl, HA, HK3, BK110, HB⟩ := hrel
        cases gk with
        | zero => exact absurd HA.out (by simp [spec_ImageFault.l2])
        | succ k3 =>
         have H := HA.out
         clear HA
         simp only [spec_ImageFault.l2] at H
         by_cases c52 : x6_3 < (l0_3.length : Int)
         ·rw [if_pos c52] at H
          have c52b0 : decide (x6_3 < (l0_3.length : Int)) = true := decide_eq_true c52
          clear c52
          by_cases c53 : 0 ≤ x6_3
          ·rw [if_pos c53] at H
           have c53b0 : decide (0 ≤ x6_3) = true := decide_eq_true c53
           clear c53
           by_cases c54 : ((rdOf ByteArray.empty l0_3 x6_3).size : Int) = 16
           ·rw [if_pos c54] at H
            have c54b0 : (((rdOf ByteArray.empty l0_3 x6_3).size : Int) == 16) = true := beq_iff_eq.mpr c54
            have c54b1 : (((rdOf ByteArray.empty l0_3 x6_3).size : Int) != 16) = false := bne_eq_false_iff_eq.mpr c54
            clear c54
            replace H := Option.bind_eq_some_iff.mp H
            obtain ⟨t122, A550, H⟩ := H
            (try dsimp only at H)
            have A55 := Sq.l A550
            clear A550
            by_cases c56 : t122 = 0
            ·rw [if_pos c56] at H
             have c56b0 : (t122 == 0) = true := beq_iff_eq.mpr c56
             have c56b1 : (t122 != 0) = false := bne_eq_false_iff_eq.mpr c56
             clear c56
             obtain rfl := Option.some.inj H
             have hcz57_0 : wr.cell? ⟨gb110, 0, none⟩ = some (.string a0_0) := (Sq.o BK110.out 0).trans rfl
             have hcz57_1 : wr.cell? ⟨gb110, 1, none⟩ = some (.string a0_1) := (Sq.o BK110.out 1).trans rfl
             have hcz57_2 : wr.cell? ⟨gb110, 2, none⟩ = some (.slice A0_2 l0_2.length c0_2) := (Sq.o BK110.out 2).trans rfl
             have hcz57_3 : wr.cell? ⟨gb110, 3, none⟩ = some (.slice A0_3 l0_3.length c0_3) := (Sq.o BK110.out 3).trans rfl
             have hcz57_4 : wr.cell? ⟨gb110, 4, none⟩ = some (.slice A0_4 l0_4.length c0_4) := (Sq.o BK110.out 4).trans rfl
             have hfz57_0 := Sq.r BK110.out 0
             have hfz57_1 := Sq.r BK110.out 1
             have hfz57_2 := Sq.r BK110.out 2
             have hfz57_3 := Sq.r BK110.out 3
             have hfz57_4 := Sq.r BK110.out 4
             have p121 : 0 ≤ (x6_3 : Int) := of_decide_eq_true (by first | (with_reducible assumption) | assumption)
             have q121 : x6_3 < (l0_3.length : Int) := of_decide_eq_true (by first | (with_reducible assumption) | assumption)
             obtain ⟨ad121, e121, hx121_0⟩ := Kd.at_string HR0_3.out x6_3 p121 q121
             cases e121
             replace hx121_0 := (HB.out.cell (World.block_lt_of_cell? w _ hx121_0)).trans hx121_0
             replace p121 := eq_true p121; replace q121 := eq_true q121
             go_wp2_with (first | (go_at_call 47; (with_reducible refine (spec_l13Uses.calls k3 a0_0 a0_1 _ _ l0_2 _ _ l0_3 _ _ l0_4 x6_3 t122 _ ?side1 ?side2 ?side3 ?side4 ?side5 ?side6 A55.out).mono ?_); (case side1 => repeat (first | exact (Sq.a1 HR0_2.out HB.out) | (with_reducible refine Sq.s ?_ _) | (with_reducible refine Sq.t ?_ _) | (with_reducible refine Sq.u ?_))); (case side2 => exact HC0_2.out); (case side3 => repeat (first | exact (Sq.a1 HR0_3.out HB.out) | (with_reducible refine Sq.s ?_ _) | (with_reducible refine Sq.t ?_ _) | (with_reducible refine Sq.u ?_))); (case side4 => exact HC0_3.out); (case side5 => repeat (first | exact (Sq.a1 HR0_4.out HB.out) | (with_reducible refine Sq.s ?_ _) | (with_reducible refine Sq.t ?_ _) | (with_reducible refine Sq.u ?_))); (case side6 => exact HC0_4.out); rintro e w58 ⟨rfl, hb⟩; have n0_ := Sq.l (Sq.m (Sq.W BK110.out) hb); have n1_ := Sq.l (Sq.a4 (by repeat (first | (with_reducible first | exact HB.out | apply Sq.i | apply Sq.j | apply Sq.k | refine Sq.h ?_ GE110.out) | exact HB.out)) hb); clear BK110 HB; have BK110 := n0_; have HB := n1_; clear n0_ n1_; (try clear hb); (try clear hb2); (try clear hk); (try clear hi)))
             repeat (go_quiet (first | (go_at_call 47; (with_reducible refine (spec_l13Uses.calls k3 a0_0 a0_1 _ _ l0_2 _ _ l0_3 _ _ l0_4 x6_3 t122 _ ?side1 ?side2 ?side3 ?side4 ?side5 ?side6 A55.out).mono ?_); (case side1 => repeat (first | exact (Sq.a1 HR0_2.out HB.out) | (with_reducible refine Sq.s ?_ _) | (with_reducible refine Sq.t ?_ _) | (with_reducible refine Sq.u ?_))); (case side2 => exact HC0_2.out); (case side3 => repeat (first | exact (Sq.a1 HR0_3.out HB.out) | (with_reducible refine Sq.s ?_ _) | (with_reducible refine Sq.t ?_ _) | (with_reducible refine Sq.u ?_))); (case side4 => exact HC0_3.out); (case side5 => repeat (first | exact (Sq.a1 HR0_4.out HB.out) | (with_reducible refine Sq.s ?_ _) | (with_reducible refine Sq.t ?_ _) | (with_reducible refine Sq.u ?_))); (case side6 => exact HC0_4.out); rintro e w58 ⟨rfl, hb⟩; have n0_ := Sq.l (Sq.m (Sq.W BK110.out) hb); have n1_ := Sq.l (Sq.a4 (by repeat (first | (with_reducible first | exact HB.out | apply Sq.i | apply Sq.j | apply Sq.k | refine Sq.h ?_ GE110.out) | exact HB.out)) hb); clear BK110 HB; have BK110 := n0_; have HB := n1_; clear n0_ n1_; (try clear hb); (try clear hb2); (try clear hk); (try clear hi))); try go_wp2_with (first | (go_at_call 47; (with_reducible refine (spec_l13Uses.calls k3 a0_0 a0_1 _ _ l0_2 _ _ l0_3 _ _ l0_4 x6_3 t122 _ ?side1 ?side2 ?side3 ?side4 ?side5 ?side6 A55.out).mono ?_); (case side1 => repeat (first | exact (Sq.a1 HR0_2.out HB.out) | (with_reducible refine Sq.s ?_ _) | (with_reducible refine Sq.t ?_ _) | (with_reducible refine Sq.u ?_))); (case side2 => exact HC0_2.out); (case side3 => repeat (first | exact (Sq.a1 HR0_3.out HB.out) | (with_reducible refine Sq.s ?_ _) | (with_reducible refine Sq.t ?_ _) | (with_reducible refine Sq.u ?_))); (case side4 => exact HC0_3.out); (case side5 => repeat (first | exact (Sq.a1 HR0_4.out HB.out) | (with_reducible refine Sq.s ?_ _) | (with_reducible refine Sq.t ?_ _) | (with_reducible refine Sq.u ?_))); (case side6 => exact HC0_4.out); rintro e w58 ⟨rfl, hb⟩; have n0_ := Sq.l (Sq.m (Sq.W BK110.out) hb); have n1_ := Sq.l (Sq.a4 (by repeat (first | (with_reducible first | exact HB.out | apply Sq.i | apply Sq.j | apply Sq.k | refine Sq.h ?_ GE110.out) | exact HB.out)) hb); clear BK110 HB; have BK110 := n0_; have HB := n1_; clear n0_ n1_; (try clear hb); (try clear hb2); (try clear hk); (try clear hi))))
             go_ret
             exact ⟨by first | rfl | (simp [errW_none, errW_some] <;> rfl) | (simp [*, errW_none, errW_some] <;> rfl), by repeat (first | (with_reducible first | exact HB.out | apply Sq.i | apply Sq.j | apply Sq.k | refine Sq.h ?_ GE110.out) | exact HB.out)⟩
            ·rw [if_neg c56] at H
             have c56b0 : (t122 == 0) = false := beq_eq_false_iff_ne.mpr c56
             have c56b1 : (t122 != 0) = true := bne_iff_ne.mpr c56
             have H' := Sq.l H
             clear H
             have hcz59_0 : wr.cell? ⟨gb110, 0, none⟩ = some (.string a0_0) := (Sq.o BK110.out 0).trans rfl
             have hcz59_1 : wr.cell? ⟨gb110, 1, none⟩ = some (.string a0_1) := (Sq.o BK110.out 1).trans rfl
             have hcz59_2 : wr.cell? ⟨gb110, 2, none⟩ = some (.slice A0_2 l0_2.length c0_2) := (Sq.o BK110.out 2).trans rfl
             have hcz59_3 : wr.cell? ⟨gb110, 3, none⟩ = some (.slice A0_3 l0_3.length c0_3) := (Sq.o BK110.out 3).trans rfl
             have hcz59_4 : wr.cell? ⟨gb110, 4, none⟩ = some (.slice A0_4 l0_4.length c0_4) := (Sq.o BK110.out 4).trans rfl
             have hfz59_0 := Sq.r BK110.out 0
             have hfz59_1 := Sq.r BK110.out 1
             have hfz59_2 := Sq.r BK110.out 2
             have hfz59_3 := Sq.r BK110.out 3
             have hfz59_4 := Sq.r BK110.out 4
             have p121 : 0 ≤ (x6_3 : Int) := of_decide_eq_true (by first | (with_reducible assumption) | assumption)
             have q121 : x6_3 < (l0_3.length : Int) := of_decide_eq_true (by first | (with_reducible assumption) | assumption)
             obtain ⟨ad121, e121, hx121_0⟩ := Kd.at_string HR0_3.out x6_3 p121 q121
             cases e121
             replace hx121_0 := (HB.out.cell (World.block_lt_of_cell? w _ hx121_0)).trans hx121_0
             replace p121 := eq_true p121; replace q121 := eq_true q121
             go_wp2_with (first | (go_at_call 47; (with_reducible refine (spec_l13Uses.calls k3 a0_0 a0_1 _ _ l0_2 _ _ l0_3 _ _ l0_4 x6_3 t122 _ ?side1 ?side2 ?side3 ?side4 ?side5 ?side6 A55.out).mono ?_); (case side1 => repeat (first | exact (Sq.a1 HR0_2.out HB.out) | (with_reducible refine Sq.s ?_ _) | (with_reducible refine Sq.t ?_ _) | (with_reducible refine Sq.u ?_))); (case side2 => exact HC0_2.out); (case side3 => repeat (first | exact (Sq.a1 HR0_3.out HB.out) | (with_reducible refine Sq.s ?_ _) | (with_reducible refine Sq.t ?_ _) | (with_reducible refine Sq.u ?_))); (case side4 => exact HC0_3.out); (case side5 => repeat (first | exact (Sq.a1 HR0_4.out HB.out) | (with_reducible refine Sq.s ?_ _) | (with_reducible refine Sq.t ?_ _) | (with_reducible refine Sq.u ?_))); (case side6 => exact HC0_4.out); rintro e w60 ⟨rfl, hb⟩; have n0_ := Sq.l (Sq.m (Sq.W BK110.out) hb); have n1_ := Sq.l (Sq.a4 (by repeat (first | (with_reducible first | exact HB.out | apply Sq.i | apply Sq.j | apply Sq.k | refine Sq.h ?_ GE110.out) | exact HB.out)) hb); clear BK110 HB; have BK110 := n0_; have HB := n1_; clear n0_ n1_; (try clear hb); (try clear hb2); (try clear hk); (try clear hi)))
             repeat (go_quiet (first | (go_at_call 47; (with_reducible refine (spec_l13Uses.calls k3 a0_0 a0_1 _ _ l0_2 _ _ l0_3 _ _ l0_4 x6_3 t122 _ ?side1 ?side2 ?side3 ?side4 ?side5 ?side6 A55.out).mono ?_); (case side1 => repeat (first | exact (Sq.a1 HR0_2.out HB.out) | (with_reducible refine Sq.s ?_ _) | (with_reducible refine Sq.t ?_ _) | (with_reducible refine Sq.u ?_))); (case side2 => exact HC0_2.out); (case side3 => repeat (first | exact (Sq.a1 HR0_3.out HB.out) | (with_reducible refine Sq.s ?_ _) | (with_reducible refine Sq.t ?_ _) | (with_reducible refine Sq.u ?_))); (case side4 => exact HC0_3.out); (case side5 => repeat (first | exact (Sq.a1 HR0_4.out HB.out) | (with_reducible refine Sq.s ?_ _) | (with_reducible refine Sq.t ?_ _) | (with_reducible refine Sq.u ?_))); (case side6 => exact HC0_4.out); rintro e w60 ⟨rfl, hb⟩; have n0_ := Sq.l (Sq.m (Sq.W BK110.out) hb); have n1_ := Sq.l (Sq.a4 (by repeat (first | (with_reducible first | exact HB.out | apply Sq.i | apply Sq.j | apply Sq.k | refine Sq.h ?_ GE110.out) | exact HB.out)) hb); clear BK110 HB; have BK110 := n0_; have HB := n1_; clear n0_ n1_; (try clear hb); (try clear hb2); (try clear hk); (try clear hi))); try go_wp2_with (first | (go_at_call 47; (with_reducible refine (spec_l13Uses.calls k3 a0_0 a0_1 _ _ l0_2 _ _ l0_3 _ _ l0_4 x6_3 t122 _ ?side1 ?side2 ?side3 ?side4 ?side5 ?side6 A55.out).mono ?_); (case side1 => repeat (first | exact (Sq.a1 HR0_2.out HB.out) | (with_reducible refine Sq.s ?_ _) | (with_reducible refine Sq.t ?_ _) | (with_reducible refine Sq.u ?_))); (case side2 => exact HC0_2.out); (case side3 => repeat (first | exact (Sq.a1 HR0_3.out HB.out) | (with_reducible refine Sq.s ?_ _) | (with_reducible refine Sq.t ?_ _) | (with_reducible refine Sq.u ?_))); (case side4 => exact HC0_3.out); (case side5 => repeat (first | exact (Sq.a1 HR0_4.out HB.out) | (with_reducible refine Sq.s ?_ _) | (with_reducible refine Sq.t ?_ _) | (with_reducible refine Sq.u ?_))); (case side6 => exact HC0_4.out); rintro e w60 ⟨rfl, hb⟩; have n0_ := Sq.l (Sq.m (Sq.W BK110.out) hb); have n1_ := Sq.l (Sq.a4 (by repeat (first | (with_reducible first | exact HB.out | apply Sq.i | apply Sq.j | apply Sq.k | refine Sq.h ?_ GE110.out) | exact HB.out)) hb); clear BK110 HB; have BK110 := n0_; have HB := n1_; clear n0_ n1_; (try clear hb); (try clear hb2); (try clear hk); (try clear hi))))
             go_roundg k3
             case measure => have := HJ1.out; have := HK2.out; have := HK3.out; omega
             case rel => exact ⟨(wrap64 (x6_3 + 1)), (by first | rfl | (simp; done) | (simp [*]; done)), H', ⟨by have := HJ1.out; have := HK2.out; have := HK3.out; omega⟩, ⟨by (with_reducible repeat (first | refine Sq.d ?_ _ | refine Sq.e ?_ | refine Sq.f ?_ _)); exact BK110.out⟩, ⟨by repeat (first | (with_reducible first | exact HB.out | apply Sq.i | apply Sq.j | apply Sq.k | refine Sq.h ?_ GE110.out) | exact HB.out)⟩⟩
           ·rw [if_neg c54] at H
            have c54b0 : (((rdOf ByteArray.empty l0_3 x6_3).size : Int) == 16) = false := beq_eq_false_iff_ne.mpr c54
            have c54b1 : (((rdOf ByteArray.empty l0_3 x6_3).size : Int) != 16) = true := bne_iff_ne.mpr c54
            obtain rfl := Option.some.inj H
            have hcz61_0 : wr.cell? ⟨gb110, 0, none⟩ = some (.string a0_0) := (Sq.o BK110.out 0).trans rfl
            have hcz61_1 : wr.cell? ⟨gb110, 1, none⟩ = some (.string a0_1) := (Sq.o BK110.out 1).trans rfl
            have hcz61_2 : wr.cell? ⟨gb110, 2, none⟩ = some (.slice A0_2 l0_2.length c0_2) := (Sq.o BK110.out 2).trans rfl
            have hcz61_3 : wr.cell? ⟨gb110, 3, none⟩ = some (.slice A0_3 l0_3.length c0_3) := (Sq.o BK110.out 3).trans rfl
            have hcz61_4 : wr.cell? ⟨gb110, 4, none⟩ = some (.slice A0_4 l0_4.length c0_4) := (Sq.o BK110.out 4).trans rfl
            have hfz61_0 := Sq.r BK110.out 0
            have hfz61_1 := Sq.r BK110.out 1
            have hfz61_2 := Sq.r BK110.out 2
            have hfz61_3 := Sq.r BK110.out 3
            have hfz61_4 := Sq.r BK110.out 4
            have p121 : 0 ≤ (x6_3 : Int) := of_decide_eq_true (by first | (with_reducible assumption) | assumption)
            have q121 : x6_3 < (l0_3.length : Int) := of_decide_eq_true (by first | (with_reducible assumption) | assumption)
            obtain ⟨ad121, e121, hx121_0⟩ := Kd.at_string HR0_3.out x6_3 p121 q121
            cases e121
            replace hx121_0 := (HB.out.cell (World.block_lt_of_cell? w _ hx121_0)).trans hx121_0
            replace p121 := eq_true p121; replace q121 := eq_true q121
            go_wp2
            repeat (go_quiet (fail); try go_wp2)
            go_ret
            exact ⟨by first | rfl | (simp [errW_none, errW_some] <;> rfl) | (simp [*, errW_none, errW_some] <;> rfl), by repeat (first | (with_reducible first | exact HB.out | apply Sq.i | apply Sq.j | apply Sq.k | refine Sq.h ?_ GE110.out) | exact HB.out)⟩
          ·rw [if_neg c53] at H
           exact absurd H (by simp)
         ·rw [if_neg c52] at H
          have c52b0 : decide (x6_3 < (l0_3.length : Int)) = false := decide_eq_false c52
          clear c52
          obtain rfl := Option.some.inj H
          have hcz62_0 : wr.cell? ⟨gb110, 0, none⟩ = some (.string a0_0) := (Sq.o BK110.out 0).trans rfl
          have hcz62_1 : wr.cell? ⟨gb110, 1, none⟩ = some (.string a0_1) := (Sq.o BK110.out 1).trans rfl
          have hcz62_2 : wr.cell? ⟨gb110, 2, none⟩ = some (.slice A0_2 l0_2.length c0_2) := (Sq.o BK110.out 2).trans rfl
          have hcz62_3 : wr.cell? ⟨gb110, 3, none⟩ = some (.slice A0_3 l0_3.length c0_3) := (Sq.o BK110.out 3).trans rfl
          have hcz62_4 : wr.cell? ⟨gb110, 4, none⟩ = some (.slice A0_4 l0_4.length c0_4) := (Sq.o BK110.out 4).trans rfl
          have hfz62_0 := Sq.r BK110.out 0
          have hfz62_1 := Sq.r BK110.out 1
          have hfz62_2 := Sq.r BK110.out 2
          have hfz62_3 := Sq.r BK110.out 3
          have hfz62_4 := Sq.r BK110.out 4
          go_wp2
          repeat (go_quiet (fail); try go_wp2)
          go_ret
          exact ⟨by first | rfl | (simp [errW_none, errW_some] <;> rfl) | (simp [*, errW_none, errW_some] <;> rfl), by repeat (first | (with_reducible first | exact HB.out | apply Sq.i | apply Sq.j | apply Sq.k | refine Sq.h ?_ GE110.out) | exact HB.out)⟩

end Go.Proofs.YtoifdnnjdohfmaaDoor.QFnExactUnpackImage
