-- Written for this claim by this session's own driver (wip/xprint.py).
import Derived.Test.YtmajbehafgajmaaQFnExactRaiseLinex0
import Derived.Test.YtmajbehafgajmaaQFnExactRaiseLinex1
namespace Go.Proofs.Ytmajbehafgajmaa.QFnExactRaiseLine
open Go.RowKit Go.Proofs.YtmajbehafgajmaaW.PrintWords Go.Proofs.YtmajbehafgajmaaW.PrintLast Go.Proofs.YtmajbehafgajmaaW.PrintMore
attribute [local go_sem] max2_int min2_int max_two min_two max_three min_three max_four min_four   -- for this text's walks alone
set_option linter.unusedVariables false
set_option linter.unusedSimpArgs false

/-! ### spec_MachineFault: function 83 -/
mutual
def spec_MachineFault.j0 : Nat → Bool → Int → List Int → Int → List Int → List Int → ByteArray → Int → Int → Int → List (S185) → List (S185) → Int → Option (Int)
 | 0, _, _, _, _, _, _, _, _, _, _, _, _, _ => none
 | k + 1, x37, x114000, x114001, x114002, x114003, x114004, x114005, x114006, x114007, x114008, x114009, x114010, x114011 => if x37 = true then (some 1) else (if x114002 < 0 then (spec_MachineFault.j1 k true x114000 x114001 x114002 x114003 x114004 x114005 x114006 x114007 x114008 x114009 x114010 x114011) else (if x114002 > 1 then (spec_MachineFault.j1 k true x114000 x114001 x114002 x114003 x114004 x114005 x114006 x114007 x114008 x114009 x114010 x114011) else (if x114006 < 0 then (spec_MachineFault.j1 k true x114000 x114001 x114002 x114003 x114004 x114005 x114006 x114007 x114008 x114009 x114010 x114011) else (if x114006 > 2 then (spec_MachineFault.j1 k true x114000 x114001 x114002 x114003 x114004 x114005 x114006 x114007 x114008 x114009 x114010 x114011) else (if x114007 < 0 then (spec_MachineFault.j1 k true x114000 x114001 x114002 x114003 x114004 x114005 x114006 x114007 x114008 x114009 x114010 x114011) else (if x114007 > 1099511627776 then (spec_MachineFault.j1 k true x114000 x114001 x114002 x114003 x114004 x114005 x114006 x114007 x114008 x114009 x114010 x114011) else (if x114008 < 0 then (spec_MachineFault.j1 k true x114000 x114001 x114002 x114003 x114004 x114005 x114006 x114007 x114008 x114009 x114010 x114011) else (if x114008 > 127 then (spec_MachineFault.j1 k true x114000 x114001 x114002 x114003 x114004 x114005 x114006 x114007 x114008 x114009 x114010 x114011) else (if x114011 < 0 then (spec_MachineFault.j1 k true x114000 x114001 x114002 x114003 x114004 x114005 x114006 x114007 x114008 x114009 x114010 x114011) else (spec_MachineFault.j1 k (decide (x114011 ≥ 2147483629)) x114000 x114001 x114002 x114003 x114004 x114005 x114006 x114007 x114008 x114009 x114010 x114011))))))))))
def spec_MachineFault.j1 : Nat → Bool → Int → List Int → Int → List Int → List Int → ByteArray → Int → Int → Int → List (S185) → List (S185) → Int → Option (Int)
 | 0, _, _, _, _, _, _, _, _, _, _, _, _, _ => none
 | k + 1, x85, x114000, x114001, x114002, x114003, x114004, x114005, x114006, x114007, x114008, x114009, x114010, x114011 => if x85 = true then (some 1) else (if 0 < (x114003.length : Int) then (if (rd x114003 0) ≥ 32 then (some 1) else (if 8 < (x114003.length : Int) then (if (rd x114003 8) = 0 then (if 9 < (x114003.length : Int) then (if (rd x114003 9) = 0 then (if 11 < (x114003.length : Int) then (if (rd x114003 11) = 0 then ((spec_l04Ports.f k x114009).bind fun t124 => (if t124 = true then ((spec_l04Ports.f k x114010).bind fun t125 => (if t125 = true then (some 0) else (some 1))) else (some 1))) else (some 1)) else (none)) else (some 1)) else (none)) else (some 1)) else (none))) else (none))
end
def spec_MachineFault.f (k : Nat) (a0_0 : Int) (l0_1 : List Int) (a0_2 : Int) (l0_3 : List Int) (l0_4 : List Int) (a0_5 : ByteArray) (a0_6 : Int) (a0_7 : Int) (a0_8 : Int) (l0_9 : List (S185)) (l0_10 : List (S185)) (a0_11 : Int) : Option (Int) := (spec_MemFault.f a0_5).bind fun t114 => (if t114 = 0 then ((spec_l01IsWord.f a0_0).bind fun t115 => (if t115 = true then ((spec_l04Words.f k l0_1 16).bind fun t116 => (if t116 = true then (if 0 < (l0_1.length : Int) then (if (rd l0_1 0) = 0 then ((spec_l04Words.f k l0_3 12).bind fun t118 => (if t118 = true then ((spec_l04Words.f k l0_4 16).bind fun t119 => (spec_MachineFault.j0 k (!t119) a0_0 l0_1 a0_2 l0_3 l0_4 a0_5 a0_6 a0_7 a0_8 l0_9 l0_10 a0_11)) else (spec_MachineFault.j0 k true a0_0 l0_1 a0_2 l0_3 l0_4 a0_5 a0_6 a0_7 a0_8 l0_9 l0_10 a0_11))) else (spec_MachineFault.j0 k true a0_0 l0_1 a0_2 l0_3 l0_4 a0_5 a0_6 a0_7 a0_8 l0_9 l0_10 a0_11)) else (none)) else (spec_MachineFault.j0 k true a0_0 l0_1 a0_2 l0_3 l0_4 a0_5 a0_6 a0_7 a0_8 l0_9 l0_10 a0_11))) else (spec_MachineFault.j0 k true a0_0 l0_1 a0_2 l0_3 l0_4 a0_5 a0_6 a0_7 a0_8 l0_9 l0_10 a0_11))) else (spec_MachineFault.j0 k true a0_0 l0_1 a0_2 l0_3 l0_4 a0_5 a0_6 a0_7 a0_8 l0_9 l0_10 a0_11))
theorem spec_MachineFault.mono_l : ∀ k, (∀ y0 y1 y2 y3 y4 y5 y6 y7 y8 y9 y10 y11 y12, LeO (spec_MachineFault.j0 k y0 y1 y2 y3 y4 y5 y6 y7 y8 y9 y10 y11 y12) (spec_MachineFault.j0 (k + 1) y0 y1 y2 y3 y4 y5 y6 y7 y8 y9 y10 y11 y12)) ∧ (∀ y0 y1 y2 y3 y4 y5 y6 y7 y8 y9 y10 y11 y12, LeO (spec_MachineFault.j1 k y0 y1 y2 y3 y4 y5 y6 y7 y8 y9 y10 y11 y12) (spec_MachineFault.j1 (k + 1) y0 y1 y2 y3 y4 y5 y6 y7 y8 y9 y10 y11 y12))
 | 0 => ⟨fun _ _ _ _ _ _ _ _ _ _ _ _ _ r h => by simp [spec_MachineFault.j0] at h, fun _ _ _ _ _ _ _ _ _ _ _ _ _ r h => by simp [spec_MachineFault.j1] at h⟩
 | k + 1 => by
  obtain ⟨ih0, ih1⟩ := spec_MachineFault.mono_l k
  refine ⟨?_, ?_⟩
  ·intro y0 y1 y2 y3 y4 y5 y6 y7 y8 y9 y10 y11 y12
   unfold spec_MachineFault.j0
   repeat' first
   | (with_reducible exact ih0 _ _ _ _ _ _ _ _ _ _ _ _ _)
   | (with_reducible exact ih1 _ _ _ _ _ _ _ _ _ _ _ _ _)
   | (with_reducible exact spec_l04Ports.mono _ _)
   | (with_reducible exact spec_l04Words.mono _ _ _)
   | (with_reducible exact LeO.refl _)
   | (with_reducible exact LeO.none _)
   | (with_reducible refine LeO.ite ?_ ?_)
   | (with_reducible refine LeO.bind ?_ (fun _ => ?_))
   | exact ih0 _ _ _ _ _ _ _ _ _ _ _ _ _
   | exact ih1 _ _ _ _ _ _ _ _ _ _ _ _ _
   | exact spec_l04Ports.mono _ _
   | exact spec_l04Words.mono _ _ _
   | exact LeO.none _
   | refine LeO.ite ?_ ?_
   | refine LeO.bind ?_ (fun _ => ?_)
  ·intro y0 y1 y2 y3 y4 y5 y6 y7 y8 y9 y10 y11 y12
   unfold spec_MachineFault.j1
   repeat' first
   | (with_reducible exact ih0 _ _ _ _ _ _ _ _ _ _ _ _ _)
   | (with_reducible exact ih1 _ _ _ _ _ _ _ _ _ _ _ _ _)
   | (with_reducible exact spec_l04Ports.mono _ _)
   | (with_reducible exact spec_l04Words.mono _ _ _)
   | (with_reducible exact LeO.refl _)
   | (with_reducible exact LeO.none _)
   | (with_reducible refine LeO.ite ?_ ?_)
   | (with_reducible refine LeO.bind ?_ (fun _ => ?_))
   | exact ih0 _ _ _ _ _ _ _ _ _ _ _ _ _
   | exact ih1 _ _ _ _ _ _ _ _ _ _ _ _ _
   | exact spec_l04Ports.mono _ _
   | exact spec_l04Words.mono _ _ _
   | exact LeO.none _
   | refine LeO.ite ?_ ?_
   | refine LeO.bind ?_ (fun _ => ?_)
theorem spec_MachineFault.mono : ∀ a0 a1 a2 a3 a4 a5 a6 a7 a8 a9 a10 a11 k, LeO (spec_MachineFault.f k a0 a1 a2 a3 a4 a5 a6 a7 a8 a9 a10 a11) (spec_MachineFault.f (k + 1) a0 a1 a2 a3 a4 a5 a6 a7 a8 a9 a10 a11) := by
 intro a0 a1 a2 a3 a4 a5 a6 a7 a8 a9 a10 a11 k
 obtain ⟨ih0, ih1⟩ := spec_MachineFault.mono_l k
 unfold spec_MachineFault.f
 repeat' first
   | (with_reducible exact ih0 _ _ _ _ _ _ _ _ _ _ _ _ _)
   | (with_reducible exact ih1 _ _ _ _ _ _ _ _ _ _ _ _ _)
   | (with_reducible exact spec_l04Ports.mono _ _)
   | (with_reducible exact spec_l04Words.mono _ _ _)
   | (with_reducible exact LeO.refl _)
   | (with_reducible exact LeO.none _)
   | (with_reducible refine LeO.ite ?_ ?_)
   | (with_reducible refine LeO.bind ?_ (fun _ => ?_))
   | exact ih0 _ _ _ _ _ _ _ _ _ _ _ _ _
   | exact ih1 _ _ _ _ _ _ _ _ _ _ _ _ _
   | exact spec_l04Ports.mono _ _
   | exact spec_l04Words.mono _ _ _
   | exact LeO.none _
   | refine LeO.ite ?_ ?_
   | refine LeO.bind ?_ (fun _ => ?_)
set_option maxHeartbeats 8000000 in
set_option maxRecDepth 100000 in
theorem spec_MachineFault.calls (k : Nat) (a0_0 : Int) (A0_1 : Option Addr) (c0_1 : Nat) (l0_1 : List Int) (a0_2 : Int) (A0_3 : Option Addr) (c0_3 : Nat) (l0_3 : List Int) (A0_4 : Option Addr) (c0_4 : Nat) (l0_4 : List Int) (a0_5 : ByteArray) (a0_6 : Int) (a0_7 : Int) (a0_8 : Int) (A0_9 : Option Addr) (c0_9 : Nat) (l0_9 : List (S185)) (A0_10 : Option Addr) (c0_10 : Nat) (l0_10 : List (S185)) (a0_11 : Int) (r : Int) (w : World) (hr0_1 : Kd.C (Kd.int .i64) w A0_1 l0_1.length l0_1) (hc0_1 : l0_1.length ≤ c0_1) (hr0_3 : Kd.C (Kd.int .i64) w A0_3 l0_3.length l0_3) (hc0_3 : l0_3.length ≤ c0_3) (hr0_4 : Kd.C (Kd.int .i64) w A0_4 l0_4.length l0_4) (hc0_4 : l0_4.length ≤ c0_4) (hr0_9 : Kd.C k185 w A0_9 l0_9.length l0_9) (hc0_9 : l0_9.length ≤ c0_9) (hr0_10 : Kd.C k185 w A0_10 l0_10.length l0_10) (hc0_10 : l0_10.length ≤ c0_10) (h : spec_MachineFault.f k a0_0 l0_1 a0_2 l0_3 l0_4 a0_5 a0_6 a0_7 a0_8 l0_9 l0_10 a0_11 = some r) :
  Calls Try.prog 83 #[.agg #[.int .i64 a0_0, .slice A0_1 l0_1.length c0_1, .int .i64 a0_2, .slice A0_3 l0_3.length c0_3, .slice A0_4 l0_4.length c0_4, .string a0_5, .int .i64 a0_6, .int .i64 a0_7, .int .i64 a0_8, .slice A0_9 l0_9.length c0_9, .slice A0_10 l0_10.length c0_10, .int .i64 a0_11]] w fun e w' => e = .returned (.int .i64 r) ∧ Below w.heap.size w w' := by
 have hu71 := Try.underlying71
 have HR0_1 := Sq.l hr0_1
 have HC0_1 := Sq.l hc0_1
 clear hr0_1 hc0_1
 have HR0_3 := Sq.l hr0_3
 have HC0_3 := Sq.l hc0_3
 clear hr0_3 hc0_3
 have HR0_4 := Sq.l hr0_4
 have HC0_4 := Sq.l hc0_4
 clear hr0_4 hc0_4
 have HR0_9 := Sq.l hr0_9
 have HC0_9 := Sq.l hc0_9
 clear hr0_9 hc0_9
 have HR0_10 := Sq.l hr0_10
 have HC0_10 := Sq.l hc0_10
 clear hr0_10 hc0_10
 have HB := Sq.l (Below.refl w.heap.size w)
 have H : ((spec_MemFault.f a0_5).bind fun t114 => (if t114 = 0 then ((spec_l01IsWord.f a0_0).bind fun t115 => (if t115 = true then ((spec_l04Words.f k l0_1 16).bind fun t116 => (if t116 = true then (if 0 < (l0_1.length : Int) then (if (rd l0_1 0) = 0 then ((spec_l04Words.f k l0_3 12).bind fun t118 => (if t118 = true then ((spec_l04Words.f k l0_4 16).bind fun t119 => (spec_MachineFault.j0 k (!t119) a0_0 l0_1 a0_2 l0_3 l0_4 a0_5 a0_6 a0_7 a0_8 l0_9 l0_10 a0_11)) else (spec_MachineFault.j0 k true a0_0 l0_1 a0_2 l0_3 l0_4 a0_5 a0_6 a0_7 a0_8 l0_9 l0_10 a0_11))) else (spec_MachineFault.j0 k true a0_0 l0_1 a0_2 l0_3 l0_4 a0_5 a0_6 a0_7 a0_8 l0_9 l0_10 a0_11)) else (none)) else (spec_MachineFault.j0 k true a0_0 l0_1 a0_2 l0_3 l0_4 a0_5 a0_6 a0_7 a0_8 l0_9 l0_10 a0_11))) else (spec_MachineFault.j0 k true a0_0 l0_1 a0_2 l0_3 l0_4 a0_5 a0_6 a0_7 a0_8 l0_9 l0_10 a0_11))) else (spec_MachineFault.j0 k true a0_0 l0_1 a0_2 l0_3 l0_4 a0_5 a0_6 a0_7 a0_8 l0_9 l0_10 a0_11))) = some r := h
 clear h
 have HC2 := Sq.l H
 clear H
 go_enter Try.func83, Try.ntmps83
 go_upto_region 1 with (first | ((with_reducible refine gate_dst (N := 1) rfl ?_); refine box_event ?hg (N := 1) ?hd (cs := #[.int .i64 a0_0, .slice A0_1 l0_1.length c0_1, .int .i64 a0_2, .slice A0_3 l0_3.length c0_3, .slice A0_4 l0_4.length c0_4, .string a0_5, .int .i64 a0_6, .int .i64 a0_7, .int .i64 a0_8, .slice A0_9 l0_9.length c0_9, .slice A0_10 l0_10.length c0_10, .int .i64 a0_11]) (t := 71) ?hr ?_; (case hd => rfl); (case hg => rfl); (case hr => first | (go_simp; done) | (go_simp; rfl)); intro gb113 hg w3 hbox hb; have n0_ := Sq.l (Sq.a4 (by repeat (first | (with_reducible first | exact HB.out | apply Sq.i | apply Sq.j | apply Sq.k) | exact HB.out)) hb); have n1_ := Sq.l (hbox); have n2_ := Sq.l ((by rw [hg]; exact (Sq.a5 (by repeat (first | (with_reducible first | exact HB.out | apply Sq.i | apply Sq.j | apply Sq.k) | exact HB.out))) : w.heap.size ≤ gb113)); have n3_ := Sq.l ((by rw [hg]; exact (Sq.a5 (by repeat (first | (with_reducible first | exact HB.out | apply Sq.i | apply Sq.j | apply Sq.k) | exact HB.out))) : w.heap.size ≤ gb113)); clear HB; have HB := n0_; have BK113 := n1_; have GW113 := n2_; have GE113 := n3_; clear n0_ n1_ n2_ n3_; clear hb hbox hg))
 (try simp only [Act.put, List.setIfInBounds_toArray, List.set_cons_zero, List.set_cons_succ])
 go_cut [37] (fun v37 wc => ∃ (kq : Nat) (x37_1 : Bool), v37 = .bool x37_1 ∧ Aside0 (spec_MachineFault.j0 kq x37_1 a0_0 l0_1 a0_2 l0_3 l0_4 a0_5 a0_6 a0_7 a0_8 l0_9 l0_10 a0_11 = some r) ∧ Aside0 (kq ≤ k) ∧ Aside0 (wc.heap[gb113]? = some (.cells #[.int .i64 a0_0, (.slice A0_1 l0_1.length c0_1), .int .i64 a0_2, (.slice A0_3 l0_3.length c0_3), (.slice A0_4 l0_4.length c0_4), .string a0_5, .int .i64 a0_6, .int .i64 a0_7, .int .i64 a0_8, (.slice A0_9 l0_9.length c0_9), (.slice A0_10 l0_10.length c0_10), .int .i64 a0_11] 71 (0, 0))) ∧ Aside0 (Below w.heap.size w wc))
 case first =>
  have H := HC2.out
  clear HC2
  replace H := Option.bind_eq_some_iff.mp H
  obtain ⟨t114, A40, H⟩ := H
  (try dsimp only at H)
  have A4 := Sq.l A40
  clear A40
  by_cases c5 : t114 = 0
  ·rw [if_pos c5] at H
   have c5b0 : (t114 == 0) = true := beq_iff_eq.mpr c5
   have c5b1 : (t114 != 0) = false := bne_eq_false_iff_eq.mpr c5
   clear c5
   (first | rw [c5b0] | (simp only [i64_w, i32_w]; rw [c5b0]) | skip)
   replace H := Option.bind_eq_some_iff.mp H
   obtain ⟨t115, A60, H⟩ := H
   (try dsimp only at H)
   have A6 := Sq.l A60
   clear A60
   by_cases c7 : t115 = true
   ·subst c7
    rw [if_pos rfl] at H
    replace H := Option.bind_eq_some_iff.mp H
    obtain ⟨t116, A80, H⟩ := H
    (try dsimp only at H)
    have A8 := Sq.l A80
    clear A80
    by_cases c9 : t116 = true
    ·subst c9
     rw [if_pos rfl] at H
     by_cases c10 : 0 < (l0_1.length : Int)
     ·rw [if_pos c10] at H
      have c10b0 : decide (0 < (l0_1.length : Int)) = true := decide_eq_true c10
      have c10b1 : decide (0 < l0_1.length) = true := decide_eq_true (by omega)
      clear c10
      by_cases c11 : (rd l0_1 0) = 0
      ·rw [if_pos c11] at H
       have c11b0 : ((rd l0_1 0) == 0) = true := beq_iff_eq.mpr c11
       have c11b1 : ((rd l0_1 0) != 0) = false := bne_eq_false_iff_eq.mpr c11
       clear c11
       replace H := Option.bind_eq_some_iff.mp H
       obtain ⟨t118, A120, H⟩ := H
       (try dsimp only at H)
       have A12 := Sq.l A120
       clear A120
       by_cases c13 : t118 = true
       ·subst c13
        rw [if_pos rfl] at H
        replace H := Option.bind_eq_some_iff.mp H
        obtain ⟨t119, A140, H⟩ := H
        (try dsimp only at H)
        have A14 := Sq.l A140
        clear A140
        have H' := Sq.l H
        clear H
        have hcz15_0 : w3.cell? ⟨gb113, 0, none⟩ = some (.int .i64 a0_0) := (Sq.o BK113.out 0).trans rfl
        have hcz15_1 : w3.cell? ⟨gb113, 1, none⟩ = some (.slice A0_1 l0_1.length c0_1) := (Sq.o BK113.out 1).trans rfl
        have hcz15_2 : w3.cell? ⟨gb113, 2, none⟩ = some (.int .i64 a0_2) := (Sq.o BK113.out 2).trans rfl
        have hcz15_3 : w3.cell? ⟨gb113, 3, none⟩ = some (.slice A0_3 l0_3.length c0_3) := (Sq.o BK113.out 3).trans rfl
        have hcz15_4 : w3.cell? ⟨gb113, 4, none⟩ = some (.slice A0_4 l0_4.length c0_4) := (Sq.o BK113.out 4).trans rfl
        have hcz15_5 : w3.cell? ⟨gb113, 5, none⟩ = some (.string a0_5) := (Sq.o BK113.out 5).trans rfl
        have hcz15_6 : w3.cell? ⟨gb113, 6, none⟩ = some (.int .i64 a0_6) := (Sq.o BK113.out 6).trans rfl
        have hcz15_7 : w3.cell? ⟨gb113, 7, none⟩ = some (.int .i64 a0_7) := (Sq.o BK113.out 7).trans rfl
        have hcz15_8 : w3.cell? ⟨gb113, 8, none⟩ = some (.int .i64 a0_8) := (Sq.o BK113.out 8).trans rfl
        have hcz15_9 : w3.cell? ⟨gb113, 9, none⟩ = some (.slice A0_9 l0_9.length c0_9) := (Sq.o BK113.out 9).trans rfl
        have hcz15_10 : w3.cell? ⟨gb113, 10, none⟩ = some (.slice A0_10 l0_10.length c0_10) := (Sq.o BK113.out 10).trans rfl
        have hcz15_11 : w3.cell? ⟨gb113, 11, none⟩ = some (.int .i64 a0_11) := (Sq.o BK113.out 11).trans rfl
        have hfz15_0 := Sq.r BK113.out 0
        have hfz15_1 := Sq.r BK113.out 1
        have hfz15_2 := Sq.r BK113.out 2
        have hfz15_3 := Sq.r BK113.out 3
        have hfz15_4 := Sq.r BK113.out 4
        have hfz15_5 := Sq.r BK113.out 5
        have hfz15_6 := Sq.r BK113.out 6
        have hfz15_7 := Sq.r BK113.out 7
        have hfz15_8 := Sq.r BK113.out 8
        have hfz15_9 := Sq.r BK113.out 9
        have hfz15_10 := Sq.r BK113.out 10
        have hfz15_11 := Sq.r BK113.out 11
        go_wp2_with (first | ((with_reducible refine gate_callee (f := 68) rfl ?_); refine goesL_ (some 5) rfl rfl Try.func68 (by kernel_rfl) rfl #[.string a0_5] rfl (by (try simp only [List.map_toArray, List.map_cons, List.map_nil]); first | done | rfl | (simp only [List.length_drop, List.length_take]; rfl)) ?_; (with_reducible refine (spec_MemFault.calls a0_5 t114 _ A4.out).mono ?_); rintro e w' ⟨rfl, ⟨nd, rfl⟩⟩; refine ⟨_, rfl, ?_⟩) | (go_at_call 120; (with_reducible refine (spec_l01IsWord.calls a0_0 true _ A6.out).mono ?_); rintro e w' ⟨rfl, ⟨nd, rfl⟩⟩) | (go_at_call 121; (with_reducible refine (spec_l04Words.calls k _ _ l0_1 16 true _ ?side1 ?side2 A8.out).mono ?_); (case side1 => repeat (first | exact (Sq.a1 HR0_1.out (by repeat (first | (with_reducible first | exact HB.out | apply Sq.i | apply Sq.j | apply Sq.k | refine Sq.h ?_ GE113.out) | exact HB.out))) | (with_reducible refine Sq.s ?_ _) | (with_reducible refine Sq.t ?_ _) | (with_reducible refine Sq.u ?_))); (case side2 => exact HC0_1.out); rintro e w' ⟨rfl, ⟨nd, rfl⟩⟩; have p117 : 0 ≤ (0 : Int) := (by omega); have q117 : 0 < (l0_1.length : Int) := of_decide_eq_true (by first | (with_reducible assumption) | assumption); obtain ⟨ad117, e117, hx117_0⟩ := Kd.at_int HR0_1.out 0 p117 q117; cases e117; have qi117 : (0 < l0_1.length) = True := eq_true (by omega); (try rw [show ((0 : Int)).toNat = 0 from rfl] at hx117_0); (try rw [Addr.add_zero'] at hx117_0); replace hx117_0 := (HB.out.cell (World.block_lt_of_cell? w _ hx117_0)).trans hx117_0; replace p117 := eq_true p117; replace q117 := eq_true q117) | (go_at_call 121; (with_reducible refine (spec_l04Words.calls k _ _ l0_3 12 true _ ?side1 ?side2 A12.out).mono ?_); (case side1 => repeat (first | exact (Sq.a1 HR0_3.out (by repeat (first | (with_reducible first | exact HB.out | apply Sq.i | apply Sq.j | apply Sq.k | refine Sq.h ?_ GE113.out) | exact HB.out))) | (with_reducible refine Sq.s ?_ _) | (with_reducible refine Sq.t ?_ _) | (with_reducible refine Sq.u ?_))); (case side2 => exact HC0_3.out); rintro e w' ⟨rfl, ⟨nd, rfl⟩⟩) | (go_at_call 121; (with_reducible refine (spec_l04Words.calls k _ _ l0_4 16 t119 _ ?side1 ?side2 A14.out).mono ?_); (case side1 => repeat (first | exact (Sq.a1 HR0_4.out (by repeat (first | (with_reducible first | exact HB.out | apply Sq.i | apply Sq.j | apply Sq.k | refine Sq.h ?_ GE113.out) | exact HB.out))) | (with_reducible refine Sq.s ?_ _) | (with_reducible refine Sq.t ?_ _) | (with_reducible refine Sq.u ?_))); (case side2 => exact HC0_4.out); rintro e w' ⟨rfl, ⟨nd, rfl⟩⟩))
        go_meet
        case rel => exact ⟨_, (!t119), (by first | rfl | (simp; done) | (simp [*]; done)), H', ⟨by first | omega | exact Nat.le_refl _⟩, ⟨by (with_reducible repeat (first | refine Sq.d ?_ _ | refine Sq.e ?_ | refine Sq.f ?_ _)); exact BK113.out⟩, ⟨by repeat (first | (with_reducible first | exact HB.out | apply Sq.i | apply Sq.j | apply Sq.k | refine Sq.h ?_ GE113.out) | exact HB.out)⟩⟩
       ·replace c13 := Bool.eq_false_iff.mpr c13
        subst c13
        rw [if_neg (show ¬ (false = true) by decide)] at H
        have H' := Sq.l H
        clear H
        have hcz16_0 : w3.cell? ⟨gb113, 0, none⟩ = some (.int .i64 a0_0) := (Sq.o BK113.out 0).trans rfl
        have hcz16_1 : w3.cell? ⟨gb113, 1, none⟩ = some (.slice A0_1 l0_1.length c0_1) := (Sq.o BK113.out 1).trans rfl
        have hcz16_2 : w3.cell? ⟨gb113, 2, none⟩ = some (.int .i64 a0_2) := (Sq.o BK113.out 2).trans rfl
        have hcz16_3 : w3.cell? ⟨gb113, 3, none⟩ = some (.slice A0_3 l0_3.length c0_3) := (Sq.o BK113.out 3).trans rfl
        have hcz16_4 : w3.cell? ⟨gb113, 4, none⟩ = some (.slice A0_4 l0_4.length c0_4) := (Sq.o BK113.out 4).trans rfl
        have hcz16_5 : w3.cell? ⟨gb113, 5, none⟩ = some (.string a0_5) := (Sq.o BK113.out 5).trans rfl
        have hcz16_6 : w3.cell? ⟨gb113, 6, none⟩ = some (.int .i64 a0_6) := (Sq.o BK113.out 6).trans rfl
        have hcz16_7 : w3.cell? ⟨gb113, 7, none⟩ = some (.int .i64 a0_7) := (Sq.o BK113.out 7).trans rfl
        have hcz16_8 : w3.cell? ⟨gb113, 8, none⟩ = some (.int .i64 a0_8) := (Sq.o BK113.out 8).trans rfl
        have hcz16_9 : w3.cell? ⟨gb113, 9, none⟩ = some (.slice A0_9 l0_9.length c0_9) := (Sq.o BK113.out 9).trans rfl
        have hcz16_10 : w3.cell? ⟨gb113, 10, none⟩ = some (.slice A0_10 l0_10.length c0_10) := (Sq.o BK113.out 10).trans rfl
        have hcz16_11 : w3.cell? ⟨gb113, 11, none⟩ = some (.int .i64 a0_11) := (Sq.o BK113.out 11).trans rfl
        have hfz16_0 := Sq.r BK113.out 0
        have hfz16_1 := Sq.r BK113.out 1
        have hfz16_2 := Sq.r BK113.out 2
        have hfz16_3 := Sq.r BK113.out 3
        have hfz16_4 := Sq.r BK113.out 4
        have hfz16_5 := Sq.r BK113.out 5
        have hfz16_6 := Sq.r BK113.out 6
        have hfz16_7 := Sq.r BK113.out 7
        have hfz16_8 := Sq.r BK113.out 8
        have hfz16_9 := Sq.r BK113.out 9
        have hfz16_10 := Sq.r BK113.out 10
        have hfz16_11 := Sq.r BK113.out 11
        go_wp2_with (first | ((with_reducible refine gate_callee (f := 68) rfl ?_); refine goesL_ (some 5) rfl rfl Try.func68 (by kernel_rfl) rfl #[.string a0_5] rfl (by (try simp only [List.map_toArray, List.map_cons, List.map_nil]); first | done | rfl | (simp only [List.length_drop, List.length_take]; rfl)) ?_; (with_reducible refine (spec_MemFault.calls a0_5 t114 _ A4.out).mono ?_); rintro e w' ⟨rfl, ⟨nd, rfl⟩⟩; refine ⟨_, rfl, ?_⟩) | (go_at_call 120; (with_reducible refine (spec_l01IsWord.calls a0_0 true _ A6.out).mono ?_); rintro e w' ⟨rfl, ⟨nd, rfl⟩⟩) | (go_at_call 121; (with_reducible refine (spec_l04Words.calls k _ _ l0_1 16 true _ ?side1 ?side2 A8.out).mono ?_); (case side1 => repeat (first | exact (Sq.a1 HR0_1.out (by repeat (first | (with_reducible first | exact HB.out | apply Sq.i | apply Sq.j | apply Sq.k | refine Sq.h ?_ GE113.out) | exact HB.out))) | (with_reducible refine Sq.s ?_ _) | (with_reducible refine Sq.t ?_ _) | (with_reducible refine Sq.u ?_))); (case side2 => exact HC0_1.out); rintro e w' ⟨rfl, ⟨nd, rfl⟩⟩; have p117 : 0 ≤ (0 : Int) := (by omega); have q117 : 0 < (l0_1.length : Int) := of_decide_eq_true (by first | (with_reducible assumption) | assumption); obtain ⟨ad117, e117, hx117_0⟩ := Kd.at_int HR0_1.out 0 p117 q117; cases e117; have qi117 : (0 < l0_1.length) = True := eq_true (by omega); (try rw [show ((0 : Int)).toNat = 0 from rfl] at hx117_0); (try rw [Addr.add_zero'] at hx117_0); replace hx117_0 := (HB.out.cell (World.block_lt_of_cell? w _ hx117_0)).trans hx117_0; replace p117 := eq_true p117; replace q117 := eq_true q117) | (go_at_call 121; (with_reducible refine (spec_l04Words.calls k _ _ l0_3 12 false _ ?side1 ?side2 A12.out).mono ?_); (case side1 => repeat (first | exact (Sq.a1 HR0_3.out (by repeat (first | (with_reducible first | exact HB.out | apply Sq.i | apply Sq.j | apply Sq.k | refine Sq.h ?_ GE113.out) | exact HB.out))) | (with_reducible refine Sq.s ?_ _) | (with_reducible refine Sq.t ?_ _) | (with_reducible refine Sq.u ?_))); (case side2 => exact HC0_3.out); rintro e w' ⟨rfl, ⟨nd, rfl⟩⟩))
        go_meet
        case rel => exact ⟨_, (true), (by first | rfl | (simp; done) | (simp [*]; done)), H', ⟨by first | omega | exact Nat.le_refl _⟩, ⟨by (with_reducible repeat (first | refine Sq.d ?_ _ | refine Sq.e ?_ | refine Sq.f ?_ _)); exact BK113.out⟩, ⟨by repeat (first | (with_reducible first | exact HB.out | apply Sq.i | apply Sq.j | apply Sq.k | refine Sq.h ?_ GE113.out) | exact HB.out)⟩⟩
      ·rw [if_neg c11] at H
       have c11b0 : ((rd l0_1 0) == 0) = false := beq_eq_false_iff_ne.mpr c11
       have c11b1 : ((rd l0_1 0) != 0) = true := bne_iff_ne.mpr c11
       have H' := Sq.l H
       clear H
       have hcz17_0 : w3.cell? ⟨gb113, 0, none⟩ = some (.int .i64 a0_0) := (Sq.o BK113.out 0).trans rfl
       have hcz17_1 : w3.cell? ⟨gb113, 1, none⟩ = some (.slice A0_1 l0_1.length c0_1) := (Sq.o BK113.out 1).trans rfl
       have hcz17_2 : w3.cell? ⟨gb113, 2, none⟩ = some (.int .i64 a0_2) := (Sq.o BK113.out 2).trans rfl
       have hcz17_3 : w3.cell? ⟨gb113, 3, none⟩ = some (.slice A0_3 l0_3.length c0_3) := (Sq.o BK113.out 3).trans rfl
       have hcz17_4 : w3.cell? ⟨gb113, 4, none⟩ = some (.slice A0_4 l0_4.length c0_4) := (Sq.o BK113.out 4).trans rfl
       have hcz17_5 : w3.cell? ⟨gb113, 5, none⟩ = some (.string a0_5) := (Sq.o BK113.out 5).trans rfl
       have hcz17_6 : w3.cell? ⟨gb113, 6, none⟩ = some (.int .i64 a0_6) := (Sq.o BK113.out 6).trans rfl
       have hcz17_7 : w3.cell? ⟨gb113, 7, none⟩ = some (.int .i64 a0_7) := (Sq.o BK113.out 7).trans rfl
       have hcz17_8 : w3.cell? ⟨gb113, 8, none⟩ = some (.int .i64 a0_8) := (Sq.o BK113.out 8).trans rfl
       have hcz17_9 : w3.cell? ⟨gb113, 9, none⟩ = some (.slice A0_9 l0_9.length c0_9) := (Sq.o BK113.out 9).trans rfl
       have hcz17_10 : w3.cell? ⟨gb113, 10, none⟩ = some (.slice A0_10 l0_10.length c0_10) := (Sq.o BK113.out 10).trans rfl
       have hcz17_11 : w3.cell? ⟨gb113, 11, none⟩ = some (.int .i64 a0_11) := (Sq.o BK113.out 11).trans rfl
       have hfz17_0 := Sq.r BK113.out 0
       have hfz17_1 := Sq.r BK113.out 1
       have hfz17_2 := Sq.r BK113.out 2
       have hfz17_3 := Sq.r BK113.out 3
       have hfz17_4 := Sq.r BK113.out 4
       have hfz17_5 := Sq.r BK113.out 5
       have hfz17_6 := Sq.r BK113.out 6
       have hfz17_7 := Sq.r BK113.out 7
       have hfz17_8 := Sq.r BK113.out 8
       have hfz17_9 := Sq.r BK113.out 9
       have hfz17_10 := Sq.r BK113.out 10
       have hfz17_11 := Sq.r BK113.out 11
       go_wp2_with (first | ((with_reducible refine gate_callee (f := 68) rfl ?_); refine goesL_ (some 5) rfl rfl Try.func68 (by kernel_rfl) rfl #[.string a0_5] rfl (by (try simp only [List.map_toArray, List.map_cons, List.map_nil]); first | done | rfl | (simp only [List.length_drop, List.length_take]; rfl)) ?_; (with_reducible refine (spec_MemFault.calls a0_5 t114 _ A4.out).mono ?_); rintro e w' ⟨rfl, ⟨nd, rfl⟩⟩; refine ⟨_, rfl, ?_⟩) | (go_at_call 120; (with_reducible refine (spec_l01IsWord.calls a0_0 true _ A6.out).mono ?_); rintro e w' ⟨rfl, ⟨nd, rfl⟩⟩) | (go_at_call 121; (with_reducible refine (spec_l04Words.calls k _ _ l0_1 16 true _ ?side1 ?side2 A8.out).mono ?_); (case side1 => repeat (first | exact (Sq.a1 HR0_1.out (by repeat (first | (with_reducible first | exact HB.out | apply Sq.i | apply Sq.j | apply Sq.k | refine Sq.h ?_ GE113.out) | exact HB.out))) | (with_reducible refine Sq.s ?_ _) | (with_reducible refine Sq.t ?_ _) | (with_reducible refine Sq.u ?_))); (case side2 => exact HC0_1.out); rintro e w' ⟨rfl, ⟨nd, rfl⟩⟩; have p117 : 0 ≤ (0 : Int) := (by omega); have q117 : 0 < (l0_1.length : Int) := of_decide_eq_true (by first | (with_reducible assumption) | assumption); obtain ⟨ad117, e117, hx117_0⟩ := Kd.at_int HR0_1.out 0 p117 q117; cases e117; have qi117 : (0 < l0_1.length) = True := eq_true (by omega); (try rw [show ((0 : Int)).toNat = 0 from rfl] at hx117_0); (try rw [Addr.add_zero'] at hx117_0); replace hx117_0 := (HB.out.cell (World.block_lt_of_cell? w _ hx117_0)).trans hx117_0; replace p117 := eq_true p117; replace q117 := eq_true q117))
       go_meet
       case rel => exact ⟨_, (true), (by first | rfl | (simp; done) | (simp [*]; done)), H', ⟨by first | omega | exact Nat.le_refl _⟩, ⟨by (with_reducible repeat (first | refine Sq.d ?_ _ | refine Sq.e ?_ | refine Sq.f ?_ _)); exact BK113.out⟩, ⟨by repeat (first | (with_reducible first | exact HB.out | apply Sq.i | apply Sq.j | apply Sq.k | refine Sq.h ?_ GE113.out) | exact HB.out)⟩⟩
     ·rw [if_neg c10] at H
      exact absurd H (by simp)
    ·replace c9 := Bool.eq_false_iff.mpr c9
     subst c9
     rw [if_neg (show ¬ (false = true) by decide)] at H
     have H' := Sq.l H
     clear H
     have hcz18_0 : w3.cell? ⟨gb113, 0, none⟩ = some (.int .i64 a0_0) := (Sq.o BK113.out 0).trans rfl
     have hcz18_1 : w3.cell? ⟨gb113, 1, none⟩ = some (.slice A0_1 l0_1.length c0_1) := (Sq.o BK113.out 1).trans rfl
     have hcz18_2 : w3.cell? ⟨gb113, 2, none⟩ = some (.int .i64 a0_2) := (Sq.o BK113.out 2).trans rfl
     have hcz18_3 : w3.cell? ⟨gb113, 3, none⟩ = some (.slice A0_3 l0_3.length c0_3) := (Sq.o BK113.out 3).trans rfl
     have hcz18_4 : w3.cell? ⟨gb113, 4, none⟩ = some (.slice A0_4 l0_4.length c0_4) := (Sq.o BK113.out 4).trans rfl
     have hcz18_5 : w3.cell? ⟨gb113, 5, none⟩ = some (.string a0_5) := (Sq.o BK113.out 5).trans rfl
     have hcz18_6 : w3.cell? ⟨gb113, 6, none⟩ = some (.int .i64 a0_6) := (Sq.o BK113.out 6).trans rfl
     have hcz18_7 : w3.cell? ⟨gb113, 7, none⟩ = some (.int .i64 a0_7) := (Sq.o BK113.out 7).trans rfl
     have hcz18_8 : w3.cell? ⟨gb113, 8, none⟩ = some (.int .i64 a0_8) := (Sq.o BK113.out 8).trans rfl
     have hcz18_9 : w3.cell? ⟨gb113, 9, none⟩ = some (.slice A0_9 l0_9.length c0_9) := (Sq.o BK113.out 9).trans rfl
     have hcz18_10 : w3.cell? ⟨gb113, 10, none⟩ = some (.slice A0_10 l0_10.length c0_10) := (Sq.o BK113.out 10).trans rfl
     have hcz18_11 : w3.cell? ⟨gb113, 11, none⟩ = some (.int .i64 a0_11) := (Sq.o BK113.out 11).trans rfl
     have hfz18_0 := Sq.r BK113.out 0
     have hfz18_1 := Sq.r BK113.out 1
     have hfz18_2 := Sq.r BK113.out 2
     have hfz18_3 := Sq.r BK113.out 3
     have hfz18_4 := Sq.r BK113.out 4
     have hfz18_5 := Sq.r BK113.out 5
     have hfz18_6 := Sq.r BK113.out 6
     have hfz18_7 := Sq.r BK113.out 7
     have hfz18_8 := Sq.r BK113.out 8
     have hfz18_9 := Sq.r BK113.out 9
     have hfz18_10 := Sq.r BK113.out 10
     have hfz18_11 := Sq.r BK113.out 11
     go_wp2_with (first | ((with_reducible refine gate_callee (f := 68) rfl ?_); refine goesL_ (some 5) rfl rfl Try.func68 (by kernel_rfl) rfl #[.string a0_5] rfl (by (try simp only [List.map_toArray, List.map_cons, List.map_nil]); first | done | rfl | (simp only [List.length_drop, List.length_take]; rfl)) ?_; (with_reducible refine (spec_MemFault.calls a0_5 t114 _ A4.out).mono ?_); rintro e w' ⟨rfl, ⟨nd, rfl⟩⟩; refine ⟨_, rfl, ?_⟩) | (go_at_call 120; (with_reducible refine (spec_l01IsWord.calls a0_0 true _ A6.out).mono ?_); rintro e w' ⟨rfl, ⟨nd, rfl⟩⟩) | (go_at_call 121; (with_reducible refine (spec_l04Words.calls k _ _ l0_1 16 false _ ?side1 ?side2 A8.out).mono ?_); (case side1 => repeat (first | exact (Sq.a1 HR0_1.out (by repeat (first | (with_reducible first | exact HB.out | apply Sq.i | apply Sq.j | apply Sq.k | refine Sq.h ?_ GE113.out) | exact HB.out))) | (with_reducible refine Sq.s ?_ _) | (with_reducible refine Sq.t ?_ _) | (with_reducible refine Sq.u ?_))); (case side2 => exact HC0_1.out); rintro e w' ⟨rfl, ⟨nd, rfl⟩⟩))
     go_meet
     case rel => exact ⟨_, (true), (by first | rfl | (simp; done) | (simp [*]; done)), H', ⟨by first | omega | exact Nat.le_refl _⟩, ⟨by (with_reducible repeat (first | refine Sq.d ?_ _ | refine Sq.e ?_ | refine Sq.f ?_ _)); exact BK113.out⟩, ⟨by repeat (first | (with_reducible first | exact HB.out | apply Sq.i | apply Sq.j | apply Sq.k | refine Sq.h ?_ GE113.out) | exact HB.out)⟩⟩
   ·replace c7 := Bool.eq_false_iff.mpr c7
    subst c7
    rw [if_neg (show ¬ (false = true) by decide)] at H
    have H' := Sq.l H
    clear H
    have hcz19_0 : w3.cell? ⟨gb113, 0, none⟩ = some (.int .i64 a0_0) := (Sq.o BK113.out 0).trans rfl
    have hcz19_1 : w3.cell? ⟨gb113, 1, none⟩ = some (.slice A0_1 l0_1.length c0_1) := (Sq.o BK113.out 1).trans rfl
    have hcz19_2 : w3.cell? ⟨gb113, 2, none⟩ = some (.int .i64 a0_2) := (Sq.o BK113.out 2).trans rfl
    have hcz19_3 : w3.cell? ⟨gb113, 3, none⟩ = some (.slice A0_3 l0_3.length c0_3) := (Sq.o BK113.out 3).trans rfl
    have hcz19_4 : w3.cell? ⟨gb113, 4, none⟩ = some (.slice A0_4 l0_4.length c0_4) := (Sq.o BK113.out 4).trans rfl
    have hcz19_5 : w3.cell? ⟨gb113, 5, none⟩ = some (.string a0_5) := (Sq.o BK113.out 5).trans rfl
    have hcz19_6 : w3.cell? ⟨gb113, 6, none⟩ = some (.int .i64 a0_6) := (Sq.o BK113.out 6).trans rfl
    have hcz19_7 : w3.cell? ⟨gb113, 7, none⟩ = some (.int .i64 a0_7) := (Sq.o BK113.out 7).trans rfl
    have hcz19_8 : w3.cell? ⟨gb113, 8, none⟩ = some (.int .i64 a0_8) := (Sq.o BK113.out 8).trans rfl
    have hcz19_9 : w3.cell? ⟨gb113, 9, none⟩ = some (.slice A0_9 l0_9.length c0_9) := (Sq.o BK113.out 9).trans rfl
    have hcz19_10 : w3.cell? ⟨gb113, 10, none⟩ = some (.slice A0_10 l0_10.length c0_10) := (Sq.o BK113.out 10).trans rfl
    have hcz19_11 : w3.cell? ⟨gb113, 11, none⟩ = some (.int .i64 a0_11) := (Sq.o BK113.out 11).trans rfl
    have hfz19_0 := Sq.r BK113.out 0
    have hfz19_1 := Sq.r BK113.out 1
    have hfz19_2 := Sq.r BK113.out 2
    have hfz19_3 := Sq.r BK113.out 3
    have hfz19_4 := Sq.r BK113.out 4
    have hfz19_5 := Sq.r BK113.out 5
    have hfz19_6 := Sq.r BK113.out 6
    have hfz19_7 := Sq.r BK113.out 7
    have hfz19_8 := Sq.r BK113.out 8
    have hfz19_9 := Sq.r BK113.out 9
    have hfz19_10 := Sq.r BK113.out 10
    have hfz19_11 := Sq.r BK113.out 11
    go_wp2_with (first | ((with_reducible refine gate_callee (f := 68) rfl ?_); refine goesL_ (some 5) rfl rfl Try.func68 (by kernel_rfl) rfl #[.string a0_5] rfl (by (try simp only [List.map_toArray, List.map_cons, List.map_nil]); first | done | rfl | (simp only [List.length_drop, List.length_take]; rfl)) ?_; (with_reducible refine (spec_MemFault.calls a0_5 t114 _ A4.out).mono ?_); rintro e w' ⟨rfl, ⟨nd, rfl⟩⟩; refine ⟨_, rfl, ?_⟩) | (go_at_call 120; (with_reducible refine (spec_l01IsWord.calls a0_0 false _ A6.out).mono ?_); rintro e w' ⟨rfl, ⟨nd, rfl⟩⟩))
    go_meet
    case rel => exact ⟨_, (true), (by first | rfl | (simp; done) | (simp [*]; done)), H', ⟨by first | omega | exact Nat.le_refl _⟩, ⟨by (with_reducible repeat (first | refine Sq.d ?_ _ | refine Sq.e ?_ | refine Sq.f ?_ _)); exact BK113.out⟩, ⟨by repeat (first | (with_reducible first | exact HB.out | apply Sq.i | apply Sq.j | apply Sq.k | refine Sq.h ?_ GE113.out) | exact HB.out)⟩⟩
  ·rw [if_neg c5] at H
   have c5b0 : (t114 == 0) = false := beq_eq_false_iff_ne.mpr c5
   have c5b1 : (t114 != 0) = true := bne_iff_ne.mpr c5
   (first | rw [c5b0] | (simp only [i64_w, i32_w]; rw [c5b0]) | skip)
   have H' := Sq.l H
   clear H
   have hcz20_0 : w3.cell? ⟨gb113, 0, none⟩ = some (.int .i64 a0_0) := (Sq.o BK113.out 0).trans rfl
   have hcz20_1 : w3.cell? ⟨gb113, 1, none⟩ = some (.slice A0_1 l0_1.length c0_1) := (Sq.o BK113.out 1).trans rfl
   have hcz20_2 : w3.cell? ⟨gb113, 2, none⟩ = some (.int .i64 a0_2) := (Sq.o BK113.out 2).trans rfl
   have hcz20_3 : w3.cell? ⟨gb113, 3, none⟩ = some (.slice A0_3 l0_3.length c0_3) := (Sq.o BK113.out 3).trans rfl
   have hcz20_4 : w3.cell? ⟨gb113, 4, none⟩ = some (.slice A0_4 l0_4.length c0_4) := (Sq.o BK113.out 4).trans rfl
   have hcz20_5 : w3.cell? ⟨gb113, 5, none⟩ = some (.string a0_5) := (Sq.o BK113.out 5).trans rfl
   have hcz20_6 : w3.cell? ⟨gb113, 6, none⟩ = some (.int .i64 a0_6) := (Sq.o BK113.out 6).trans rfl
   have hcz20_7 : w3.cell? ⟨gb113, 7, none⟩ = some (.int .i64 a0_7) := (Sq.o BK113.out 7).trans rfl
   have hcz20_8 : w3.cell? ⟨gb113, 8, none⟩ = some (.int .i64 a0_8) := (Sq.o BK113.out 8).trans rfl
   have hcz20_9 : w3.cell? ⟨gb113, 9, none⟩ = some (.slice A0_9 l0_9.length c0_9) := (Sq.o BK113.out 9).trans rfl
   have hcz20_10 : w3.cell? ⟨gb113, 10, none⟩ = some (.slice A0_10 l0_10.length c0_10) := (Sq.o BK113.out 10).trans rfl
   have hcz20_11 : w3.cell? ⟨gb113, 11, none⟩ = some (.int .i64 a0_11) := (Sq.o BK113.out 11).trans rfl
   have hfz20_0 := Sq.r BK113.out 0
   have hfz20_1 := Sq.r BK113.out 1
   have hfz20_2 := Sq.r BK113.out 2
   have hfz20_3 := Sq.r BK113.out 3
   have hfz20_4 := Sq.r BK113.out 4
   have hfz20_5 := Sq.r BK113.out 5
   have hfz20_6 := Sq.r BK113.out 6
   have hfz20_7 := Sq.r BK113.out 7
   have hfz20_8 := Sq.r BK113.out 8
   have hfz20_9 := Sq.r BK113.out 9
   have hfz20_10 := Sq.r BK113.out 10
   have hfz20_11 := Sq.r BK113.out 11
   go_wp2_with (first | ((with_reducible refine gate_callee (f := 68) rfl ?_); refine goesL_ (some 5) rfl rfl Try.func68 (by kernel_rfl) rfl #[.string a0_5] rfl (by (try simp only [List.map_toArray, List.map_cons, List.map_nil]); first | done | rfl | (simp only [List.length_drop, List.length_take]; rfl)) ?_; (with_reducible refine (spec_MemFault.calls a0_5 t114 _ A4.out).mono ?_); rintro e w' ⟨rfl, ⟨nd, rfl⟩⟩; refine ⟨_, rfl, ?_⟩))
   go_meet
   case rel => exact ⟨_, (true), (by first | rfl | (simp; done) | (simp [*]; done)), H', ⟨by first | omega | exact Nat.le_refl _⟩, ⟨by (with_reducible repeat (first | refine Sq.d ?_ _ | refine Sq.e ?_ | refine Sq.f ?_ _)); exact BK113.out⟩, ⟨by repeat (first | (with_reducible first | exact HB.out | apply Sq.i | apply Sq.j | apply Sq.k | refine Sq.h ?_ GE113.out) | exact HB.out)⟩⟩
 case rest =>
  clear HC2; try clear c1; try clear p1; try clear q1; try clear hx1; try clear qi1; try clear p2; try clear c5; try clear c5b0; try clear c5b1; try clear c6; try clear c7; try clear c8; try clear c9; try clear c10; try clear c10b0; try clear c10b1; try clear c11; try clear c11b0; try clear c11b1; try clear p11; try clear q11; try clear hx11; try clear qi11; try clear c13; try clear hcz15_0; try clear hcz15_1; try clear hcz15_10; try clear hcz15_11; try clear hcz15_2; try clear hcz15_3; try clear hcz15_4; try clear hcz15_5; try clear hcz15_6; try clear hcz15_7; try clear hcz15_8; try clear hcz15_9; try clear hcz16_0; try clear hcz16_1; try clear hcz16_10; try clear hcz16_11; try clear hcz16_2; try clear hcz16_3; try clear hcz16_4; try clear hcz16_5; try clear hcz16_6; try clear hcz16_7; try clear hcz16_8; try clear hcz16_9; try clear hcz17_0; try clear hcz17_1; try clear hcz17_10; try clear hcz17_11; try clear hcz17_2; try clear hcz17_3; try clear hcz17_4; try clear hcz17_5; try clear hcz17_6; try clear hcz17_7; try clear hcz17_8; try clear hcz17_9; try clear hcz18_0; try clear hcz18_1; try clear hcz18_10; try clear hcz18_11; try clear hcz18_2; try clear hcz18_3; try clear hcz18_4; try clear hcz18_5; try clear hcz18_6; try clear hcz18_7; try clear hcz18_8; try clear hcz18_9; try clear hcz19_0; try clear hcz19_1; try clear hcz19_10; try clear hcz19_11; try clear hcz19_2; try clear hcz19_3; try clear hcz19_4; try clear hcz19_5; try clear hcz19_6; try clear hcz19_7; try clear hcz19_8; try clear hcz19_9; try clear hcz20_0; try clear hcz20_1; try clear hcz20_10; try clear hcz20_11; try clear hcz20_2; try clear hcz20_3; try clear hcz20_4; try clear hcz20_5; try clear hcz20_6; try clear hcz20_7; try clear hcz20_8; try clear hcz20_9; try clear hfz15_0; try clear hfz15_1; try clear hfz15_10; try clear hfz15_11; try clear hfz15_2; try clear hfz15_3; try clear hfz15_4; try clear hfz15_5; try clear hfz15_6; try clear hfz15_7; try clear hfz15_8; try clear hfz15_9; try clear hfz16_0; try clear hfz16_1; try clear hfz16_10; try clear hfz16_11; try clear hfz16_2; try clear hfz16_3; try clear hfz16_4; try clear hfz16_5; try clear hfz16_6; try clear hfz16_7; try clear hfz16_8; try clear hfz16_9; try clear hfz17_0; try clear hfz17_1; try clear hfz17_10; try clear hfz17_11; try clear hfz17_2; try clear hfz17_3; try clear hfz17_4; try clear hfz17_5; try clear hfz17_6; try clear hfz17_7; try clear hfz17_8; try clear hfz17_9; try clear hfz18_0; try clear hfz18_1; try clear hfz18_10; try clear hfz18_11; try clear hfz18_2; try clear hfz18_3; try clear hfz18_4; try clear hfz18_5; try clear hfz18_6; try clear hfz18_7; try clear hfz18_8; try clear hfz18_9; try clear hfz19_0; try clear hfz19_1; try clear hfz19_10; try clear hfz19_11; try clear hfz19_2; try clear hfz19_3; try clear hfz19_4; try clear hfz19_5; try clear hfz19_6; try clear hfz19_7; try clear hfz19_8; try clear hfz19_9; try clear hfz20_0; try clear hfz20_1; try clear hfz20_10; try clear hfz20_11; try clear hfz20_2; try clear hfz20_3; try clear hfz20_4; try clear hfz20_5; try clear hfz20_6; try clear hfz20_7; try clear hfz20_8; try clear hfz20_9; try clear hx117_0; try clear p117; try clear q117
  obtain ⟨kq, x37_1, rfl, HA, HJ1, BK113, HB⟩ := hcut
  cases kq with
  | zero => exact absurd HA.out (by simp [spec_MachineFault.j0])
  | succ kj1 =>
   have H := HA.out
   clear HA
   simp only [spec_MachineFault.j0] at H
   by_cases c21 : x37_1 = true
   ·subst c21
    rw [if_pos rfl] at H
    obtain rfl := Option.some.inj H
    go_wp2
    go_ret
    exact ⟨by first | rfl | (simp [errW_none, errW_some] <;> rfl) | (simp [*, errW_none, errW_some] <;> rfl), by repeat (first | (with_reducible first | exact HB.out | apply Sq.i | apply Sq.j | apply Sq.k | refine Sq.h ?_ GE113.out) | exact HB.out)⟩
   ·replace c21 := Bool.eq_false_iff.mpr c21
    subst c21
    rw [if_neg (show ¬ (false = true) by decide)] at H
    have HC22 := Sq.l H
    clear H
    go_upto_region 3 with (fail)
    go_cut [85] (fun v85 wc => ∃ (kq : Nat) (x85_21 : Bool), v85 = .bool x85_21 ∧ Aside0 (spec_MachineFault.j1 kq x85_21 a0_0 l0_1 a0_2 l0_3 l0_4 a0_5 a0_6 a0_7 a0_8 l0_9 l0_10 a0_11 = some r) ∧ Aside0 (kq ≤ kj1) ∧ Aside0 (wc.heap[gb113]? = some (.cells #[.int .i64 a0_0, (.slice A0_1 l0_1.length c0_1), .int .i64 a0_2, (.slice A0_3 l0_3.length c0_3), (.slice A0_4 l0_4.length c0_4), .string a0_5, .int .i64 a0_6, .int .i64 a0_7, .int .i64 a0_8, (.slice A0_9 l0_9.length c0_9), (.slice A0_10 l0_10.length c0_10), .int .i64 a0_11] 71 (0, 0))) ∧ Aside0 (Below w.heap.size w wc))
    case first =>
     have H := HC22.out
     clear HC22
     by_cases c23 : a0_2 < 0
     ·rw [if_pos c23] at H
      have c23b0 : decide (a0_2 < 0) = true := decide_eq_true c23
      clear c23
      (first | rw [c23b0] | (simp only [i64_w, i32_w]; rw [c23b0]) | skip)
      have H' := Sq.l H
      clear H
      have hcz24_0 : wc.cell? ⟨gb113, 0, none⟩ = some (.int .i64 a0_0) := (Sq.o BK113.out 0).trans rfl
      have hcz24_1 : wc.cell? ⟨gb113, 1, none⟩ = some (.slice A0_1 l0_1.length c0_1) := (Sq.o BK113.out 1).trans rfl
      have hcz24_2 : wc.cell? ⟨gb113, 2, none⟩ = some (.int .i64 a0_2) := (Sq.o BK113.out 2).trans rfl
      have hcz24_3 : wc.cell? ⟨gb113, 3, none⟩ = some (.slice A0_3 l0_3.length c0_3) := (Sq.o BK113.out 3).trans rfl
      have hcz24_4 : wc.cell? ⟨gb113, 4, none⟩ = some (.slice A0_4 l0_4.length c0_4) := (Sq.o BK113.out 4).trans rfl
      have hcz24_5 : wc.cell? ⟨gb113, 5, none⟩ = some (.string a0_5) := (Sq.o BK113.out 5).trans rfl
      have hcz24_6 : wc.cell? ⟨gb113, 6, none⟩ = some (.int .i64 a0_6) := (Sq.o BK113.out 6).trans rfl
      have hcz24_7 : wc.cell? ⟨gb113, 7, none⟩ = some (.int .i64 a0_7) := (Sq.o BK113.out 7).trans rfl
      have hcz24_8 : wc.cell? ⟨gb113, 8, none⟩ = some (.int .i64 a0_8) := (Sq.o BK113.out 8).trans rfl
      have hcz24_9 : wc.cell? ⟨gb113, 9, none⟩ = some (.slice A0_9 l0_9.length c0_9) := (Sq.o BK113.out 9).trans rfl
      have hcz24_10 : wc.cell? ⟨gb113, 10, none⟩ = some (.slice A0_10 l0_10.length c0_10) := (Sq.o BK113.out 10).trans rfl
      have hcz24_11 : wc.cell? ⟨gb113, 11, none⟩ = some (.int .i64 a0_11) := (Sq.o BK113.out 11).trans rfl
      have hfz24_0 := Sq.r BK113.out 0
      have hfz24_1 := Sq.r BK113.out 1
      have hfz24_2 := Sq.r BK113.out 2
      have hfz24_3 := Sq.r BK113.out 3
      have hfz24_4 := Sq.r BK113.out 4
      have hfz24_5 := Sq.r BK113.out 5
      have hfz24_6 := Sq.r BK113.out 6
      have hfz24_7 := Sq.r BK113.out 7
      have hfz24_8 := Sq.r BK113.out 8
      have hfz24_9 := Sq.r BK113.out 9
      have hfz24_10 := Sq.r BK113.out 10
      have hfz24_11 := Sq.r BK113.out 11
      go_wp2
      go_meet
      case rel => exact ⟨_, (true), (by first | rfl | (simp; done) | (simp [*]; done)), H', ⟨by have := HJ1.out; first | omega | exact Nat.le_refl _⟩, ⟨by (with_reducible repeat (first | refine Sq.d ?_ _ | refine Sq.e ?_ | refine Sq.f ?_ _)); exact BK113.out⟩, ⟨by repeat (first | (with_reducible first | exact HB.out | apply Sq.i | apply Sq.j | apply Sq.k | refine Sq.h ?_ GE113.out) | exact HB.out)⟩⟩
     ·rw [if_neg c23] at H
      have c23b0 : decide (a0_2 < 0) = false := decide_eq_false c23
      clear c23
      (first | rw [c23b0] | (simp only [i64_w, i32_w]; rw [c23b0]) | skip)
      by_cases c25 : a0_2 > 1
      ·rw [if_pos c25] at H
       have c25b0 : decide (1 < a0_2) = true := decide_eq_true c25
       clear c25
       have H' := Sq.l H
       clear H
       have hcz26_0 : wc.cell? ⟨gb113, 0, none⟩ = some (.int .i64 a0_0) := (Sq.o BK113.out 0).trans rfl
       have hcz26_1 : wc.cell? ⟨gb113, 1, none⟩ = some (.slice A0_1 l0_1.length c0_1) := (Sq.o BK113.out 1).trans rfl
       have hcz26_2 : wc.cell? ⟨gb113, 2, none⟩ = some (.int .i64 a0_2) := (Sq.o BK113.out 2).trans rfl
       have hcz26_3 : wc.cell? ⟨gb113, 3, none⟩ = some (.slice A0_3 l0_3.length c0_3) := (Sq.o BK113.out 3).trans rfl
       have hcz26_4 : wc.cell? ⟨gb113, 4, none⟩ = some (.slice A0_4 l0_4.length c0_4) := (Sq.o BK113.out 4).trans rfl
       have hcz26_5 : wc.cell? ⟨gb113, 5, none⟩ = some (.string a0_5) := (Sq.o BK113.out 5).trans rfl
       have hcz26_6 : wc.cell? ⟨gb113, 6, none⟩ = some (.int .i64 a0_6) := (Sq.o BK113.out 6).trans rfl
       have hcz26_7 : wc.cell? ⟨gb113, 7, none⟩ = some (.int .i64 a0_7) := (Sq.o BK113.out 7).trans rfl
       have hcz26_8 : wc.cell? ⟨gb113, 8, none⟩ = some (.int .i64 a0_8) := (Sq.o BK113.out 8).trans rfl
       have hcz26_9 : wc.cell? ⟨gb113, 9, none⟩ = some (.slice A0_9 l0_9.length c0_9) := (Sq.o BK113.out 9).trans rfl
       have hcz26_10 : wc.cell? ⟨gb113, 10, none⟩ = some (.slice A0_10 l0_10.length c0_10) := (Sq.o BK113.out 10).trans rfl
       have hcz26_11 : wc.cell? ⟨gb113, 11, none⟩ = some (.int .i64 a0_11) := (Sq.o BK113.out 11).trans rfl
       have hfz26_0 := Sq.r BK113.out 0
       have hfz26_1 := Sq.r BK113.out 1
       have hfz26_2 := Sq.r BK113.out 2
       have hfz26_3 := Sq.r BK113.out 3
       have hfz26_4 := Sq.r BK113.out 4
       have hfz26_5 := Sq.r BK113.out 5
       have hfz26_6 := Sq.r BK113.out 6
       have hfz26_7 := Sq.r BK113.out 7
       have hfz26_8 := Sq.r BK113.out 8
       have hfz26_9 := Sq.r BK113.out 9
       have hfz26_10 := Sq.r BK113.out 10
       have hfz26_11 := Sq.r BK113.out 11
       go_wp2
       go_meet
       case rel => exact ⟨_, (true), (by first | rfl | (simp; done) | (simp [*]; done)), H', ⟨by have := HJ1.out; first | omega | exact Nat.le_refl _⟩, ⟨by (with_reducible repeat (first | refine Sq.d ?_ _ | refine Sq.e ?_ | refine Sq.f ?_ _)); exact BK113.out⟩, ⟨by repeat (first | (with_reducible first | exact HB.out | apply Sq.i | apply Sq.j | apply Sq.k | refine Sq.h ?_ GE113.out) | exact HB.out)⟩⟩
      ·rw [if_neg c25] at H
       have c25b0 : decide (1 < a0_2) = false := decide_eq_false c25
       clear c25
       by_cases c27 : a0_6 < 0
       ·rw [if_pos c27] at H
        have c27b0 : decide (a0_6 < 0) = true := decide_eq_true c27
        clear c27
        have H' := Sq.l H
        clear H
        have hcz28_0 : wc.cell? ⟨gb113, 0, none⟩ = some (.int .i64 a0_0) := (Sq.o BK113.out 0).trans rfl
        have hcz28_1 : wc.cell? ⟨gb113, 1, none⟩ = some (.slice A0_1 l0_1.length c0_1) := (Sq.o BK113.out 1).trans rfl
        have hcz28_2 : wc.cell? ⟨gb113, 2, none⟩ = some (.int .i64 a0_2) := (Sq.o BK113.out 2).trans rfl
        have hcz28_3 : wc.cell? ⟨gb113, 3, none⟩ = some (.slice A0_3 l0_3.length c0_3) := (Sq.o BK113.out 3).trans rfl
        have hcz28_4 : wc.cell? ⟨gb113, 4, none⟩ = some (.slice A0_4 l0_4.length c0_4) := (Sq.o BK113.out 4).trans rfl
        have hcz28_5 : wc.cell? ⟨gb113, 5, none⟩ = some (.string a0_5) := (Sq.o BK113.out 5).trans rfl
        have hcz28_6 : wc.cell? ⟨gb113, 6, none⟩ = some (.int .i64 a0_6) := (Sq.o BK113.out 6).trans rfl
        have hcz28_7 : wc.cell? ⟨gb113, 7, none⟩ = some (.int .i64 a0_7) := (Sq.o BK113.out 7).trans rfl
        have hcz28_8 : wc.cell? ⟨gb113, 8, none⟩ = some (.int .i64 a0_8) := (Sq.o BK113.out 8).trans rfl
        have hcz28_9 : wc.cell? ⟨gb113, 9, none⟩ = some (.slice A0_9 l0_9.length c0_9) := (Sq.o BK113.out 9).trans rfl
        have hcz28_10 : wc.cell? ⟨gb113, 10, none⟩ = some (.slice A0_10 l0_10.length c0_10) := (Sq.o BK113.out 10).trans rfl
        have hcz28_11 : wc.cell? ⟨gb113, 11, none⟩ = some (.int .i64 a0_11) := (Sq.o BK113.out 11).trans rfl
        have hfz28_0 := Sq.r BK113.out 0
        have hfz28_1 := Sq.r BK113.out 1
        have hfz28_2 := Sq.r BK113.out 2
        have hfz28_3 := Sq.r BK113.out 3
        have hfz28_4 := Sq.r BK113.out 4
        have hfz28_5 := Sq.r BK113.out 5
        have hfz28_6 := Sq.r BK113.out 6
        have hfz28_7 := Sq.r BK113.out 7
        have hfz28_8 := Sq.r BK113.out 8
        have hfz28_9 := Sq.r BK113.out 9
        have hfz28_10 := Sq.r BK113.out 10
        have hfz28_11 := Sq.r BK113.out 11
        go_wp2
        go_meet
        case rel => exact ⟨_, (true), (by first | rfl | (simp; done) | (simp [*]; done)), H', ⟨by have := HJ1.out; first | omega | exact Nat.le_refl _⟩, ⟨by (with_reducible repeat (first | refine Sq.d ?_ _ | refine Sq.e ?_ | refine Sq.f ?_ _)); exact BK113.out⟩, ⟨by repeat (first | (with_reducible first | exact HB.out | apply Sq.i | apply Sq.j | apply Sq.k | refine Sq.h ?_ GE113.out) | exact HB.out)⟩⟩
       ·rw [if_neg c27] at H
        have c27b0 : decide (a0_6 < 0) = false := decide_eq_false c27
        clear c27
        by_cases c29 : a0_6 > 2
        ·rw [if_pos c29] at H
         have c29b0 : decide (2 < a0_6) = true := decide_eq_true c29
         clear c29
         have H' := Sq.l H
         clear H
         have hcz30_0 : wc.cell? ⟨gb113, 0, none⟩ = some (.int .i64 a0_0) := (Sq.o BK113.out 0).trans rfl
         have hcz30_1 : wc.cell? ⟨gb113, 1, none⟩ = some (.slice A0_1 l0_1.length c0_1) := (Sq.o BK113.out 1).trans rfl
         have hcz30_2 : wc.cell? ⟨gb113, 2, none⟩ = some (.int .i64 a0_2) := (Sq.o BK113.out 2).trans rfl
         have hcz30_3 : wc.cell? ⟨gb113, 3, none⟩ = some (.slice A0_3 l0_3.length c0_3) := (Sq.o BK113.out 3).trans rfl
         have hcz30_4 : wc.cell? ⟨gb113, 4, none⟩ = some (.slice A0_4 l0_4.length c0_4) := (Sq.o BK113.out 4).trans rfl
         have hcz30_5 : wc.cell? ⟨gb113, 5, none⟩ = some (.string a0_5) := (Sq.o BK113.out 5).trans rfl
         have hcz30_6 : wc.cell? ⟨gb113, 6, none⟩ = some (.int .i64 a0_6) := (Sq.o BK113.out 6).trans rfl
         have hcz30_7 : wc.cell? ⟨gb113, 7, none⟩ = some (.int .i64 a0_7) := (Sq.o BK113.out 7).trans rfl
         have hcz30_8 : wc.cell? ⟨gb113, 8, none⟩ = some (.int .i64 a0_8) := (Sq.o BK113.out 8).trans rfl
         have hcz30_9 : wc.cell? ⟨gb113, 9, none⟩ = some (.slice A0_9 l0_9.length c0_9) := (Sq.o BK113.out 9).trans rfl
         have hcz30_10 : wc.cell? ⟨gb113, 10, none⟩ = some (.slice A0_10 l0_10.length c0_10) := (Sq.o BK113.out 10).trans rfl
         have hcz30_11 : wc.cell? ⟨gb113, 11, none⟩ = some (.int .i64 a0_11) := (Sq.o BK113.out 11).trans rfl
         have hfz30_0 := Sq.r BK113.out 0
         have hfz30_1 := Sq.r BK113.out 1
         have hfz30_2 := Sq.r BK113.out 2
         have hfz30_3 := Sq.r BK113.out 3
         have hfz30_4 := Sq.r BK113.out 4
         have hfz30_5 := Sq.r BK113.out 5
         have hfz30_6 := Sq.r BK113.out 6
         have hfz30_7 := Sq.r BK113.out 7
         have hfz30_8 := Sq.r BK113.out 8
         have hfz30_9 := Sq.r BK113.out 9
         have hfz30_10 := Sq.r BK113.out 10
         have hfz30_11 := Sq.r BK113.out 11
         go_wp2
         go_meet
         case rel => exact ⟨_, (true), (by first | rfl | (simp; done) | (simp [*]; done)), H', ⟨by have := HJ1.out; first | omega | exact Nat.le_refl _⟩, ⟨by (with_reducible repeat (first | refine Sq.d ?_ _ | refine Sq.e ?_ | refine Sq.f ?_ _)); exact BK113.out⟩, ⟨by repeat (first | (with_reducible first | exact HB.out | apply Sq.i | apply Sq.j | apply Sq.k | refine Sq.h ?_ GE113.out) | exact HB.out)⟩⟩
        ·rw [if_neg c29] at H
         have c29b0 : decide (2 < a0_6) = false := decide_eq_false c29
         clear c29
         by_cases c31 : a0_7 < 0
         ·rw [if_pos c31] at H
          have c31b0 : decide (a0_7 < 0) = true := decide_eq_true c31
          clear c31
          have H' := Sq.l H
          clear H
          have hcz32_0 : wc.cell? ⟨gb113, 0, none⟩ = some (.int .i64 a0_0) := (Sq.o BK113.out 0).trans rfl
          have hcz32_1 : wc.cell? ⟨gb113, 1, none⟩ = some (.slice A0_1 l0_1.length c0_1) := (Sq.o BK113.out 1).trans rfl
          have hcz32_2 : wc.cell? ⟨gb113, 2, none⟩ = some (.int .i64 a0_2) := (Sq.o BK113.out 2).trans rfl
          have hcz32_3 : wc.cell? ⟨gb113, 3, none⟩ = some (.slice A0_3 l0_3.length c0_3) := (Sq.o BK113.out 3).trans rfl
          have hcz32_4 : wc.cell? ⟨gb113, 4, none⟩ = some (.slice A0_4 l0_4.length c0_4) := (Sq.o BK113.out 4).trans rfl
          have hcz32_5 : wc.cell? ⟨gb113, 5, none⟩ = some (.string a0_5) := (Sq.o BK113.out 5).trans rfl
          have hcz32_6 : wc.cell? ⟨gb113, 6, none⟩ = some (.int .i64 a0_6) := (Sq.o BK113.out 6).trans rfl
          have hcz32_7 : wc.cell? ⟨gb113, 7, none⟩ = some (.int .i64 a0_7) := (Sq.o BK113.out 7).trans rfl
          have hcz32_8 : wc.cell? ⟨gb113, 8, none⟩ = some (.int .i64 a0_8) := (Sq.o BK113.out 8).trans rfl
          have hcz32_9 : wc.cell? ⟨gb113, 9, none⟩ = some (.slice A0_9 l0_9.length c0_9) := (Sq.o BK113.out 9).trans rfl
          have hcz32_10 : wc.cell? ⟨gb113, 10, none⟩ = some (.slice A0_10 l0_10.length c0_10) := (Sq.o BK113.out 10).trans rfl
          have hcz32_11 : wc.cell? ⟨gb113, 11, none⟩ = some (.int .i64 a0_11) := (Sq.o BK113.out 11).trans rfl
          have hfz32_0 := Sq.r BK113.out 0
          have hfz32_1 := Sq.r BK113.out 1
          have hfz32_2 := Sq.r BK113.out 2
          have hfz32_3 := Sq.r BK113.out 3
          have hfz32_4 := Sq.r BK113.out 4
          have hfz32_5 := Sq.r BK113.out 5
          have hfz32_6 := Sq.r BK113.out 6
          have hfz32_7 := Sq.r BK113.out 7
          have hfz32_8 := Sq.r BK113.out 8
          have hfz32_9 := Sq.r BK113.out 9
          have hfz32_10 := Sq.r BK113.out 10
          have hfz32_11 := Sq.r BK113.out 11
          go_wp2
          go_meet
          case rel => exact ⟨_, (true), (by first | rfl | (simp; done) | (simp [*]; done)), H', ⟨by have := HJ1.out; first | omega | exact Nat.le_refl _⟩, ⟨by (with_reducible repeat (first | refine Sq.d ?_ _ | refine Sq.e ?_ | refine Sq.f ?_ _)); exact BK113.out⟩, ⟨by repeat (first | (with_reducible first | exact HB.out | apply Sq.i | apply Sq.j | apply Sq.k | refine Sq.h ?_ GE113.out) | exact HB.out)⟩⟩
         ·rw [if_neg c31] at H
          have c31b0 : decide (a0_7 < 0) = false := decide_eq_false c31
          clear c31
          by_cases c33 : a0_7 > 1099511627776
          ·rw [if_pos c33] at H
           have c33b0 : decide (1099511627776 < a0_7) = true := decide_eq_true c33
           clear c33
           have H' := Sq.l H
           clear H
           have hcz34_0 : wc.cell? ⟨gb113, 0, none⟩ = some (.int .i64 a0_0) := (Sq.o BK113.out 0).trans rfl
           have hcz34_1 : wc.cell? ⟨gb113, 1, none⟩ = some (.slice A0_1 l0_1.length c0_1) := (Sq.o BK113.out 1).trans rfl
           have hcz34_2 : wc.cell? ⟨gb113, 2, none⟩ = some (.int .i64 a0_2) := (Sq.o BK113.out 2).trans rfl
           have hcz34_3 : wc.cell? ⟨gb113, 3, none⟩ = some (.slice A0_3 l0_3.length c0_3) := (Sq.o BK113.out 3).trans rfl
           have hcz34_4 : wc.cell? ⟨gb113, 4, none⟩ = some (.slice A0_4 l0_4.length c0_4) := (Sq.o BK113.out 4).trans rfl
           have hcz34_5 : wc.cell? ⟨gb113, 5, none⟩ = some (.string a0_5) := (Sq.o BK113.out 5).trans rfl
           have hcz34_6 : wc.cell? ⟨gb113, 6, none⟩ = some (.int .i64 a0_6) := (Sq.o BK113.out 6).trans rfl
           have hcz34_7 : wc.cell? ⟨gb113, 7, none⟩ = some (.int .i64 a0_7) := (Sq.o BK113.out 7).trans rfl
           have hcz34_8 : wc.cell? ⟨gb113, 8, none⟩ = some (.int .i64 a0_8) := (Sq.o BK113.out 8).trans rfl
           have hcz34_9 : wc.cell? ⟨gb113, 9, none⟩ = some (.slice A0_9 l0_9.length c0_9) := (Sq.o BK113.out 9).trans rfl
           have hcz34_10 : wc.cell? ⟨gb113, 10, none⟩ = some (.slice A0_10 l0_10.length c0_10) := (Sq.o BK113.out 10).trans rfl
           have hcz34_11 : wc.cell? ⟨gb113, 11, none⟩ = some (.int .i64 a0_11) := (Sq.o BK113.out 11).trans rfl
           have hfz34_0 := Sq.r BK113.out 0
           have hfz34_1 := Sq.r BK113.out 1
           have hfz34_2 := Sq.r BK113.out 2
           have hfz34_3 := Sq.r BK113.out 3
           have hfz34_4 := Sq.r BK113.out 4
           have hfz34_5 := Sq.r BK113.out 5
           have hfz34_6 := Sq.r BK113.out 6
           have hfz34_7 := Sq.r BK113.out 7
           have hfz34_8 := Sq.r BK113.out 8
           have hfz34_9 := Sq.r BK113.out 9
           have hfz34_10 := Sq.r BK113.out 10
           have hfz34_11 := Sq.r BK113.out 11
           go_wp2
           go_meet
           case rel => exact ⟨_, (true), (by first | rfl | (simp; done) | (simp [*]; done)), H', ⟨by have := HJ1.out; first | omega | exact Nat.le_refl _⟩, ⟨by (with_reducible repeat (first | refine Sq.d ?_ _ | refine Sq.e ?_ | refine Sq.f ?_ _)); exact BK113.out⟩, ⟨by repeat (first | (with_reducible first | exact HB.out | apply Sq.i | apply Sq.j | apply Sq.k | refine Sq.h ?_ GE113.out) | exact HB.out)⟩⟩
          ·rw [if_neg c33] at H
           have c33b0 : decide (1099511627776 < a0_7) = false := decide_eq_false c33
           clear c33
           by_cases c35 : a0_8 < 0
           ·rw [if_pos c35] at H
            have c35b0 : decide (a0_8 < 0) = true := decide_eq_true c35
            clear c35
            have H' := Sq.l H
            clear H
            have hcz36_0 : wc.cell? ⟨gb113, 0, none⟩ = some (.int .i64 a0_0) := (Sq.o BK113.out 0).trans rfl
            have hcz36_1 : wc.cell? ⟨gb113, 1, none⟩ = some (.slice A0_1 l0_1.length c0_1) := (Sq.o BK113.out 1).trans rfl
            have hcz36_2 : wc.cell? ⟨gb113, 2, none⟩ = some (.int .i64 a0_2) := (Sq.o BK113.out 2).trans rfl
            have hcz36_3 : wc.cell? ⟨gb113, 3, none⟩ = some (.slice A0_3 l0_3.length c0_3) := (Sq.o BK113.out 3).trans rfl
            have hcz36_4 : wc.cell? ⟨gb113, 4, none⟩ = some (.slice A0_4 l0_4.length c0_4) := (Sq.o BK113.out 4).trans rfl
            have hcz36_5 : wc.cell? ⟨gb113, 5, none⟩ = some (.string a0_5) := (Sq.o BK113.out 5).trans rfl
            have hcz36_6 : wc.cell? ⟨gb113, 6, none⟩ = some (.int .i64 a0_6) := (Sq.o BK113.out 6).trans rfl
            have hcz36_7 : wc.cell? ⟨gb113, 7, none⟩ = some (.int .i64 a0_7) := (Sq.o BK113.out 7).trans rfl
            have hcz36_8 : wc.cell? ⟨gb113, 8, none⟩ = some (.int .i64 a0_8) := (Sq.o BK113.out 8).trans rfl
            have hcz36_9 : wc.cell? ⟨gb113, 9, none⟩ = some (.slice A0_9 l0_9.length c0_9) := (Sq.o BK113.out 9).trans rfl
            have hcz36_10 : wc.cell? ⟨gb113, 10, none⟩ = some (.slice A0_10 l0_10.length c0_10) := (Sq.o BK113.out 10).trans rfl
            have hcz36_11 : wc.cell? ⟨gb113, 11, none⟩ = some (.int .i64 a0_11) := (Sq.o BK113.out 11).trans rfl
            have hfz36_0 := Sq.r BK113.out 0
            have hfz36_1 := Sq.r BK113.out 1
            have hfz36_2 := Sq.r BK113.out 2
            have hfz36_3 := Sq.r BK113.out 3
            have hfz36_4 := Sq.r BK113.out 4
            have hfz36_5 := Sq.r BK113.out 5
            have hfz36_6 := Sq.r BK113.out 6
            have hfz36_7 := Sq.r BK113.out 7
            have hfz36_8 := Sq.r BK113.out 8
            have hfz36_9 := Sq.r BK113.out 9
            have hfz36_10 := Sq.r BK113.out 10
            have hfz36_11 := Sq.r BK113.out 11
            go_wp2
            go_meet
            case rel => exact ⟨_, (true), (by first | rfl | (simp; done) | (simp [*]; done)), H', ⟨by have := HJ1.out; first | omega | exact Nat.le_refl _⟩, ⟨by (with_reducible repeat (first | refine Sq.d ?_ _ | refine Sq.e ?_ | refine Sq.f ?_ _)); exact BK113.out⟩, ⟨by repeat (first | (with_reducible first | exact HB.out | apply Sq.i | apply Sq.j | apply Sq.k | refine Sq.h ?_ GE113.out) | exact HB.out)⟩⟩
           ·rw [if_neg c35] at H
            have c35b0 : decide (a0_8 < 0) = false := decide_eq_false c35
            clear c35
            by_cases c37 : a0_8 > 127
            ·rw [if_pos c37] at H
             have c37b0 : decide (127 < a0_8) = true := decide_eq_true c37
             clear c37
             have H' := Sq.l H
             clear H
             have hcz38_0 : wc.cell? ⟨gb113, 0, none⟩ = some (.int .i64 a0_0) := (Sq.o BK113.out 0).trans rfl
             have hcz38_1 : wc.cell? ⟨gb113, 1, none⟩ = some (.slice A0_1 l0_1.length c0_1) := (Sq.o BK113.out 1).trans rfl
             have hcz38_2 : wc.cell? ⟨gb113, 2, none⟩ = some (.int .i64 a0_2) := (Sq.o BK113.out 2).trans rfl
             have hcz38_3 : wc.cell? ⟨gb113, 3, none⟩ = some (.slice A0_3 l0_3.length c0_3) := (Sq.o BK113.out 3).trans rfl
             have hcz38_4 : wc.cell? ⟨gb113, 4, none⟩ = some (.slice A0_4 l0_4.length c0_4) := (Sq.o BK113.out 4).trans rfl
             have hcz38_5 : wc.cell? ⟨gb113, 5, none⟩ = some (.string a0_5) := (Sq.o BK113.out 5).trans rfl
             have hcz38_6 : wc.cell? ⟨gb113, 6, none⟩ = some (.int .i64 a0_6) := (Sq.o BK113.out 6).trans rfl
             have hcz38_7 : wc.cell? ⟨gb113, 7, none⟩ = some (.int .i64 a0_7) := (Sq.o BK113.out 7).trans rfl
             have hcz38_8 : wc.cell? ⟨gb113, 8, none⟩ = some (.int .i64 a0_8) := (Sq.o BK113.out 8).trans rfl
             have hcz38_9 : wc.cell? ⟨gb113, 9, none⟩ = some (.slice A0_9 l0_9.length c0_9) := (Sq.o BK113.out 9).trans rfl
             have hcz38_10 : wc.cell? ⟨gb113, 10, none⟩ = some (.slice A0_10 l0_10.length c0_10) := (Sq.o BK113.out 10).trans rfl
             have hcz38_11 : wc.cell? ⟨gb113, 11, none⟩ = some (.int .i64 a0_11) := (Sq.o BK113.out 11).trans rfl
             have hfz38_0 := Sq.r BK113.out 0
             have hfz38_1 := Sq.r BK113.out 1
             have hfz38_2 := Sq.r BK113.out 2
             have hfz38_3 := Sq.r BK113.out 3
             have hfz38_4 := Sq.r BK113.out 4
             have hfz38_5 := Sq.r BK113.out 5
             have hfz38_6 := Sq.r BK113.out 6
             have hfz38_7 := Sq.r BK113.out 7
             have hfz38_8 := Sq.r BK113.out 8
             have hfz38_9 := Sq.r BK113.out 9
             have hfz38_10 := Sq.r BK113.out 10
             have hfz38_11 := Sq.r BK113.out 11
             go_wp2
             go_meet
             case rel => exact ⟨_, (true), (by first | rfl | (simp; done) | (simp [*]; done)), H', ⟨by have := HJ1.out; first | omega | exact Nat.le_refl _⟩, ⟨by (with_reducible repeat (first | refine Sq.d ?_ _ | refine Sq.e ?_ | refine Sq.f ?_ _)); exact BK113.out⟩, ⟨by repeat (first | (with_reducible first | exact HB.out | apply Sq.i | apply Sq.j | apply Sq.k | refine Sq.h ?_ GE113.out) | exact HB.out)⟩⟩
            ·rw [if_neg c37] at H
             have c37b0 : decide (127 < a0_8) = false := decide_eq_false c37
             clear c37
             by_cases c39 : a0_11 < 0
             ·rw [if_pos c39] at H
              have c39b0 : decide (a0_11 < 0) = true := decide_eq_true c39
              clear c39
              have H' := Sq.l H
              clear H
              have hcz40_0 : wc.cell? ⟨gb113, 0, none⟩ = some (.int .i64 a0_0) := (Sq.o BK113.out 0).trans rfl
              have hcz40_1 : wc.cell? ⟨gb113, 1, none⟩ = some (.slice A0_1 l0_1.length c0_1) := (Sq.o BK113.out 1).trans rfl
              have hcz40_2 : wc.cell? ⟨gb113, 2, none⟩ = some (.int .i64 a0_2) := (Sq.o BK113.out 2).trans rfl
              have hcz40_3 : wc.cell? ⟨gb113, 3, none⟩ = some (.slice A0_3 l0_3.length c0_3) := (Sq.o BK113.out 3).trans rfl
              have hcz40_4 : wc.cell? ⟨gb113, 4, none⟩ = some (.slice A0_4 l0_4.length c0_4) := (Sq.o BK113.out 4).trans rfl
              have hcz40_5 : wc.cell? ⟨gb113, 5, none⟩ = some (.string a0_5) := (Sq.o BK113.out 5).trans rfl
              have hcz40_6 : wc.cell? ⟨gb113, 6, none⟩ = some (.int .i64 a0_6) := (Sq.o BK113.out 6).trans rfl
              have hcz40_7 : wc.cell? ⟨gb113, 7, none⟩ = some (.int .i64 a0_7) := (Sq.o BK113.out 7).trans rfl
              have hcz40_8 : wc.cell? ⟨gb113, 8, none⟩ = some (.int .i64 a0_8) := (Sq.o BK113.out 8).trans rfl
              have hcz40_9 : wc.cell? ⟨gb113, 9, none⟩ = some (.slice A0_9 l0_9.length c0_9) := (Sq.o BK113.out 9).trans rfl
              have hcz40_10 : wc.cell? ⟨gb113, 10, none⟩ = some (.slice A0_10 l0_10.length c0_10) := (Sq.o BK113.out 10).trans rfl
              have hcz40_11 : wc.cell? ⟨gb113, 11, none⟩ = some (.int .i64 a0_11) := (Sq.o BK113.out 11).trans rfl
              have hfz40_0 := Sq.r BK113.out 0
              have hfz40_1 := Sq.r BK113.out 1
              have hfz40_2 := Sq.r BK113.out 2
              have hfz40_3 := Sq.r BK113.out 3
              have hfz40_4 := Sq.r BK113.out 4
              have hfz40_5 := Sq.r BK113.out 5
              have hfz40_6 := Sq.r BK113.out 6
              have hfz40_7 := Sq.r BK113.out 7
              have hfz40_8 := Sq.r BK113.out 8
              have hfz40_9 := Sq.r BK113.out 9
              have hfz40_10 := Sq.r BK113.out 10
              have hfz40_11 := Sq.r BK113.out 11
              go_wp2
              go_meet
              case rel => exact ⟨_, (true), (by first | rfl | (simp; done) | (simp [*]; done)), H', ⟨by have := HJ1.out; first | omega | exact Nat.le_refl _⟩, ⟨by (with_reducible repeat (first | refine Sq.d ?_ _ | refine Sq.e ?_ | refine Sq.f ?_ _)); exact BK113.out⟩, ⟨by repeat (first | (with_reducible first | exact HB.out | apply Sq.i | apply Sq.j | apply Sq.k | refine Sq.h ?_ GE113.out) | exact HB.out)⟩⟩
             ·rw [if_neg c39] at H
              have c39b0 : decide (a0_11 < 0) = false := decide_eq_false c39
              clear c39
              have H' := Sq.l H
              clear H
              have hcz41_0 : wc.cell? ⟨gb113, 0, none⟩ = some (.int .i64 a0_0) := (Sq.o BK113.out 0).trans rfl
              have hcz41_1 : wc.cell? ⟨gb113, 1, none⟩ = some (.slice A0_1 l0_1.length c0_1) := (Sq.o BK113.out 1).trans rfl
              have hcz41_2 : wc.cell? ⟨gb113, 2, none⟩ = some (.int .i64 a0_2) := (Sq.o BK113.out 2).trans rfl
              have hcz41_3 : wc.cell? ⟨gb113, 3, none⟩ = some (.slice A0_3 l0_3.length c0_3) := (Sq.o BK113.out 3).trans rfl
              have hcz41_4 : wc.cell? ⟨gb113, 4, none⟩ = some (.slice A0_4 l0_4.length c0_4) := (Sq.o BK113.out 4).trans rfl
              have hcz41_5 : wc.cell? ⟨gb113, 5, none⟩ = some (.string a0_5) := (Sq.o BK113.out 5).trans rfl
              have hcz41_6 : wc.cell? ⟨gb113, 6, none⟩ = some (.int .i64 a0_6) := (Sq.o BK113.out 6).trans rfl
              have hcz41_7 : wc.cell? ⟨gb113, 7, none⟩ = some (.int .i64 a0_7) := (Sq.o BK113.out 7).trans rfl
              have hcz41_8 : wc.cell? ⟨gb113, 8, none⟩ = some (.int .i64 a0_8) := (Sq.o BK113.out 8).trans rfl
              have hcz41_9 : wc.cell? ⟨gb113, 9, none⟩ = some (.slice A0_9 l0_9.length c0_9) := (Sq.o BK113.out 9).trans rfl
              have hcz41_10 : wc.cell? ⟨gb113, 10, none⟩ = some (.slice A0_10 l0_10.length c0_10) := (Sq.o BK113.out 10).trans rfl
              have hcz41_11 : wc.cell? ⟨gb113, 11, none⟩ = some (.int .i64 a0_11) := (Sq.o BK113.out 11).trans rfl
              have hfz41_0 := Sq.r BK113.out 0
              have hfz41_1 := Sq.r BK113.out 1
              have hfz41_2 := Sq.r BK113.out 2
              have hfz41_3 := Sq.r BK113.out 3
              have hfz41_4 := Sq.r BK113.out 4
              have hfz41_5 := Sq.r BK113.out 5
              have hfz41_6 := Sq.r BK113.out 6
              have hfz41_7 := Sq.r BK113.out 7
              have hfz41_8 := Sq.r BK113.out 8
              have hfz41_9 := Sq.r BK113.out 9
              have hfz41_10 := Sq.r BK113.out 10
              have hfz41_11 := Sq.r BK113.out 11
              go_wp2
              go_meet
              case rel => exact ⟨_, (decide (a0_11 ≥ 2147483629)), (by first | rfl | (simp; done) | (simp [*]; done)), H', ⟨by have := HJ1.out; first | omega | exact Nat.le_refl _⟩, ⟨by (with_reducible repeat (first | refine Sq.d ?_ _ | refine Sq.e ?_ | refine Sq.f ?_ _)); exact BK113.out⟩, ⟨by repeat (first | (with_reducible first | exact HB.out | apply Sq.i | apply Sq.j | apply Sq.k | refine Sq.h ?_ GE113.out) | exact HB.out)⟩⟩
    case rest =>
     clear HC22; try clear c1; try clear p1; try clear q1; try clear hx1; try clear qi1; try clear c2; try clear p2; try clear c3; try clear c5; try clear c5b0; try clear c5b1; try clear c6; try clear c7; try clear c8; try clear c9; try clear c10; try clear c10b0; try clear c10b1; try clear c11; try clear c11b0; try clear c11b1; try clear p11; try clear q11; try clear hx11; try clear qi11; try clear c13; try clear c21; try clear c23; try clear c23b0; try clear c25; try clear c25b0; try clear c27; try clear c27b0; try clear c29; try clear c29b0; try clear c31; try clear c31b0; try clear c33; try clear c33b0; try clear c35; try clear c35b0; try clear c37; try clear c37b0; try clear c39; try clear c39b0; try clear hcz15_0; try clear hcz15_1; try clear hcz15_10; try clear hcz15_11; try clear hcz15_2; try clear hcz15_3; try clear hcz15_4; try clear hcz15_5; try clear hcz15_6; try clear hcz15_7; try clear hcz15_8; try clear hcz15_9; try clear hcz16_0; try clear hcz16_1; try clear hcz16_10; try clear hcz16_11; try clear hcz16_2; try clear hcz16_3; try clear hcz16_4; try clear hcz16_5; try clear hcz16_6; try clear hcz16_7; try clear hcz16_8; try clear hcz16_9; try clear hcz17_0; try clear hcz17_1; try clear hcz17_10; try clear hcz17_11; try clear hcz17_2; try clear hcz17_3; try clear hcz17_4; try clear hcz17_5; try clear hcz17_6; try clear hcz17_7; try clear hcz17_8; try clear hcz17_9; try clear hcz18_0; try clear hcz18_1; try clear hcz18_10; try clear hcz18_11; try clear hcz18_2; try clear hcz18_3; try clear hcz18_4; try clear hcz18_5; try clear hcz18_6; try clear hcz18_7; try clear hcz18_8; try clear hcz18_9; try clear hcz19_0; try clear hcz19_1; try clear hcz19_10; try clear hcz19_11; try clear hcz19_2; try clear hcz19_3; try clear hcz19_4; try clear hcz19_5; try clear hcz19_6; try clear hcz19_7; try clear hcz19_8; try clear hcz19_9; try clear hcz20_0; try clear hcz20_1; try clear hcz20_10; try clear hcz20_11; try clear hcz20_2; try clear hcz20_3; try clear hcz20_4; try clear hcz20_5; try clear hcz20_6; try clear hcz20_7; try clear hcz20_8; try clear hcz20_9; try clear hcz24_0; try clear hcz24_1; try clear hcz24_10; try clear hcz24_11; try clear hcz24_2; try clear hcz24_3; try clear hcz24_4; try clear hcz24_5; try clear hcz24_6; try clear hcz24_7; try clear hcz24_8; try clear hcz24_9; try clear hcz26_0; try clear hcz26_1; try clear hcz26_10; try clear hcz26_11; try clear hcz26_2; try clear hcz26_3; try clear hcz26_4; try clear hcz26_5; try clear hcz26_6; try clear hcz26_7; try clear hcz26_8; try clear hcz26_9; try clear hcz28_0; try clear hcz28_1; try clear hcz28_10; try clear hcz28_11; try clear hcz28_2; try clear hcz28_3; try clear hcz28_4; try clear hcz28_5; try clear hcz28_6; try clear hcz28_7; try clear hcz28_8; try clear hcz28_9; try clear hcz30_0; try clear hcz30_1; try clear hcz30_10; try clear hcz30_11; try clear hcz30_2; try clear hcz30_3; try clear hcz30_4; try clear hcz30_5; try clear hcz30_6; try clear hcz30_7; try clear hcz30_8; try clear hcz30_9; try clear hcz32_0; try clear hcz32_1; try clear hcz32_10; try clear hcz32_11; try clear hcz32_2; try clear hcz32_3; try clear hcz32_4; try clear hcz32_5; try clear hcz32_6; try clear hcz32_7; try clear hcz32_8; try clear hcz32_9; try clear hcz34_0; try clear hcz34_1; try clear hcz34_10; try clear hcz34_11; try clear hcz34_2; try clear hcz34_3; try clear hcz34_4; try clear hcz34_5; try clear hcz34_6; try clear hcz34_7; try clear hcz34_8; try clear hcz34_9; try clear hcz36_0; try clear hcz36_1; try clear hcz36_10; try clear hcz36_11; try clear hcz36_2; try clear hcz36_3; try clear hcz36_4; try clear hcz36_5; try clear hcz36_6; try clear hcz36_7; try clear hcz36_8; try clear hcz36_9; try clear hcz38_0; try clear hcz38_1; try clear hcz38_10; try clear hcz38_11; try clear hcz38_2; try clear hcz38_3; try clear hcz38_4; try clear hcz38_5; try clear hcz38_6; try clear hcz38_7; try clear hcz38_8; try clear hcz38_9; try clear hcz40_0; try clear hcz40_1; try clear hcz40_10; try clear hcz40_11; try clear hcz40_2; try clear hcz40_3; try clear hcz40_4; try clear hcz40_5; try clear hcz40_6; try clear hcz40_7; try clear hcz40_8; try clear hcz40_9; try clear hcz41_0; try clear hcz41_1; try clear hcz41_10; try clear hcz41_11; try clear hcz41_2; try clear hcz41_3; try clear hcz41_4; try clear hcz41_5; try clear hcz41_6; try clear hcz41_7; try clear hcz41_8; try clear hcz41_9; try clear hfz15_0; try clear hfz15_1; try clear hfz15_10; try clear hfz15_11; try clear hfz15_2; try clear hfz15_3; try clear hfz15_4; try clear hfz15_5; try clear hfz15_6; try clear hfz15_7; try clear hfz15_8; try clear hfz15_9; try clear hfz16_0; try clear hfz16_1; try clear hfz16_10; try clear hfz16_11; try clear hfz16_2; try clear hfz16_3; try clear hfz16_4; try clear hfz16_5; try clear hfz16_6; try clear hfz16_7; try clear hfz16_8; try clear hfz16_9; try clear hfz17_0; try clear hfz17_1; try clear hfz17_10; try clear hfz17_11; try clear hfz17_2; try clear hfz17_3; try clear hfz17_4; try clear hfz17_5; try clear hfz17_6; try clear hfz17_7; try clear hfz17_8; try clear hfz17_9; try clear hfz18_0; try clear hfz18_1; try clear hfz18_10; try clear hfz18_11; try clear hfz18_2; try clear hfz18_3; try clear hfz18_4; try clear hfz18_5; try clear hfz18_6; try clear hfz18_7; try clear hfz18_8; try clear hfz18_9; try clear hfz19_0; try clear hfz19_1; try clear hfz19_10; try clear hfz19_11; try clear hfz19_2; try clear hfz19_3; try clear hfz19_4; try clear hfz19_5; try clear hfz19_6; try clear hfz19_7; try clear hfz19_8; try clear hfz19_9; try clear hfz20_0; try clear hfz20_1; try clear hfz20_10; try clear hfz20_11; try clear hfz20_2; try clear hfz20_3; try clear hfz20_4; try clear hfz20_5; try clear hfz20_6; try clear hfz20_7; try clear hfz20_8; try clear hfz20_9; try clear hfz24_0; try clear hfz24_1; try clear hfz24_10; try clear hfz24_11; try clear hfz24_2; try clear hfz24_3; try clear hfz24_4; try clear hfz24_5; try clear hfz24_6; try clear hfz24_7; try clear hfz24_8; try clear hfz24_9; try clear hfz26_0; try clear hfz26_1; try clear hfz26_10; try clear hfz26_11; try clear hfz26_2; try clear hfz26_3; try clear hfz26_4; try clear hfz26_5; try clear hfz26_6; try clear hfz26_7; try clear hfz26_8; try clear hfz26_9; try clear hfz28_0; try clear hfz28_1; try clear hfz28_10; try clear hfz28_11; try clear hfz28_2; try clear hfz28_3; try clear hfz28_4; try clear hfz28_5; try clear hfz28_6; try clear hfz28_7; try clear hfz28_8; try clear hfz28_9; try clear hfz30_0; try clear hfz30_1; try clear hfz30_10; try clear hfz30_11; try clear hfz30_2; try clear hfz30_3; try clear hfz30_4; try clear hfz30_5; try clear hfz30_6; try clear hfz30_7; try clear hfz30_8; try clear hfz30_9; try clear hfz32_0; try clear hfz32_1; try clear hfz32_10; try clear hfz32_11; try clear hfz32_2; try clear hfz32_3; try clear hfz32_4; try clear hfz32_5; try clear hfz32_6; try clear hfz32_7; try clear hfz32_8; try clear hfz32_9; try clear hfz34_0; try clear hfz34_1; try clear hfz34_10; try clear hfz34_11; try clear hfz34_2; try clear hfz34_3; try clear hfz34_4; try clear hfz34_5; try clear hfz34_6; try clear hfz34_7; try clear hfz34_8; try clear hfz34_9; try clear hfz36_0; try clear hfz36_1; try clear hfz36_10; try clear hfz36_11; try clear hfz36_2; try clear hfz36_3; try clear hfz36_4; try clear hfz36_5; try clear hfz36_6; try clear hfz36_7; try clear hfz36_8; try clear hfz36_9; try clear hfz38_0; try clear hfz38_1; try clear hfz38_10; try clear hfz38_11; try clear hfz38_2; try clear hfz38_3; try clear hfz38_4; try clear hfz38_5; try clear hfz38_6; try clear hfz38_7; try clear hfz38_8; try clear hfz38_9; try clear hfz40_0; try clear hfz40_1; try clear hfz40_10; try clear hfz40_11; try clear hfz40_2; try clear hfz40_3; try clear hfz40_4; try clear hfz40_5; try clear hfz40_6; try clear hfz40_7; try clear hfz40_8; try clear hfz40_9; try clear hfz41_0; try clear hfz41_1; try clear hfz41_10; try clear hfz41_11; try clear hfz41_2; try clear hfz41_3; try clear hfz41_4; try clear hfz41_5; try clear hfz41_6; try clear hfz41_7; try clear hfz41_8; try clear hfz41_9; try clear hx117_0; try clear p1; try clear p11; try clear p117; try clear p2; try clear q1; try clear q11; try clear q117
     obtain ⟨kq, x85_21, rfl, HA, HJ21, BK113, HB⟩ := hcut
     cases kq with
     | zero => exact absurd HA.out (by simp [spec_MachineFault.j1])
     | succ kj21 =>
      have H := HA.out
      clear HA
      simp only [spec_MachineFault.j1] at H
      by_cases c42 : x85_21 = true
      ·subst c42
       rw [if_pos rfl] at H
       obtain rfl := Option.some.inj H
       go_wp2
       go_ret
       exact ⟨by first | rfl | (simp [errW_none, errW_some] <;> rfl) | (simp [*, errW_none, errW_some] <;> rfl), by repeat (first | (with_reducible first | exact HB.out | apply Sq.i | apply Sq.j | apply Sq.k | refine Sq.h ?_ GE113.out) | exact HB.out)⟩
      ·replace c42 := Bool.eq_false_iff.mpr c42
       subst c42
       rw [if_neg (show ¬ (false = true) by decide)] at H
       by_cases c43 : 0 < (l0_3.length : Int)
       ·rw [if_pos c43] at H
        have c43b0 : decide (0 < (l0_3.length : Int)) = true := decide_eq_true c43
        have c43b1 : decide (0 < l0_3.length) = true := decide_eq_true (by omega)
        clear c43
        by_cases c44 : (rd l0_3 0) ≥ 32
        ·rw [if_pos c44] at H
         have c44b0 : decide (32 ≤ (rd l0_3 0)) = true := decide_eq_true c44
         clear c44
         obtain rfl := Option.some.inj H
         have hcz45_0 : wc.cell? ⟨gb113, 0, none⟩ = some (.int .i64 a0_0) := (Sq.o BK113.out 0).trans rfl
         have hcz45_1 : wc.cell? ⟨gb113, 1, none⟩ = some (.slice A0_1 l0_1.length c0_1) := (Sq.o BK113.out 1).trans rfl
         have hcz45_2 : wc.cell? ⟨gb113, 2, none⟩ = some (.int .i64 a0_2) := (Sq.o BK113.out 2).trans rfl
         have hcz45_3 : wc.cell? ⟨gb113, 3, none⟩ = some (.slice A0_3 l0_3.length c0_3) := (Sq.o BK113.out 3).trans rfl
         have hcz45_4 : wc.cell? ⟨gb113, 4, none⟩ = some (.slice A0_4 l0_4.length c0_4) := (Sq.o BK113.out 4).trans rfl
         have hcz45_5 : wc.cell? ⟨gb113, 5, none⟩ = some (.string a0_5) := (Sq.o BK113.out 5).trans rfl
         have hcz45_6 : wc.cell? ⟨gb113, 6, none⟩ = some (.int .i64 a0_6) := (Sq.o BK113.out 6).trans rfl
         have hcz45_7 : wc.cell? ⟨gb113, 7, none⟩ = some (.int .i64 a0_7) := (Sq.o BK113.out 7).trans rfl
         have hcz45_8 : wc.cell? ⟨gb113, 8, none⟩ = some (.int .i64 a0_8) := (Sq.o BK113.out 8).trans rfl
         have hcz45_9 : wc.cell? ⟨gb113, 9, none⟩ = some (.slice A0_9 l0_9.length c0_9) := (Sq.o BK113.out 9).trans rfl
         have hcz45_10 : wc.cell? ⟨gb113, 10, none⟩ = some (.slice A0_10 l0_10.length c0_10) := (Sq.o BK113.out 10).trans rfl
         have hcz45_11 : wc.cell? ⟨gb113, 11, none⟩ = some (.int .i64 a0_11) := (Sq.o BK113.out 11).trans rfl
         have hfz45_0 := Sq.r BK113.out 0
         have hfz45_1 := Sq.r BK113.out 1
         have hfz45_2 := Sq.r BK113.out 2
         have hfz45_3 := Sq.r BK113.out 3
         have hfz45_4 := Sq.r BK113.out 4
         have hfz45_5 := Sq.r BK113.out 5
         have hfz45_6 := Sq.r BK113.out 6
         have hfz45_7 := Sq.r BK113.out 7
         have hfz45_8 := Sq.r BK113.out 8
         have hfz45_9 := Sq.r BK113.out 9
         have hfz45_10 := Sq.r BK113.out 10
         have hfz45_11 := Sq.r BK113.out 11
         have p120 : 0 ≤ (0 : Int) := (by omega)
         have q120 : 0 < (l0_3.length : Int) := of_decide_eq_true (by first | (with_reducible assumption) | assumption)
         obtain ⟨ad120, e120, hx120_0⟩ := Kd.at_int HR0_3.out 0 p120 q120
         cases e120
         have qi120 : (0 < l0_3.length) = True := eq_true (by omega)
         (try rw [show ((0 : Int)).toNat = 0 from rfl] at hx120_0)
         (try rw [Addr.add_zero'] at hx120_0)
         replace hx120_0 := (HB.out.cell (World.block_lt_of_cell? w _ hx120_0)).trans hx120_0
         replace p120 := eq_true p120; replace q120 := eq_true q120
         go_wp2
         go_ret
         exact ⟨by first | rfl | (simp [errW_none, errW_some] <;> rfl) | (simp [*, errW_none, errW_some] <;> rfl), by repeat (first | (with_reducible first | exact HB.out | apply Sq.i | apply Sq.j | apply Sq.k | refine Sq.h ?_ GE113.out) | exact HB.out)⟩
        ·rw [if_neg c44] at H
         have c44b0 : decide (32 ≤ (rd l0_3 0)) = false := decide_eq_false c44
         clear c44
         by_cases c46 : 8 < (l0_3.length : Int)
         ·rw [if_pos c46] at H
          have c46b0 : decide (8 < (l0_3.length : Int)) = true := decide_eq_true c46
          have c46b1 : decide (8 < l0_3.length) = true := decide_eq_true (by omega)
          clear c46
          by_cases c47 : (rd l0_3 8) = 0
          ·rw [if_pos c47] at H
           have c47b0 : ((rd l0_3 8) == 0) = true := beq_iff_eq.mpr c47
           have c47b1 : ((rd l0_3 8) != 0) = false := bne_eq_false_iff_eq.mpr c47
           clear c47
           by_cases c48 : 9 < (l0_3.length : Int)
           ·rw [if_pos c48] at H
            have c48b0 : decide (9 < (l0_3.length : Int)) = true := decide_eq_true c48
            have c48b1 : decide (9 < l0_3.length) = true := decide_eq_true (by omega)
            clear c48
            by_cases c49 : (rd l0_3 9) = 0
            ·rw [if_pos c49] at H
             have c49b0 : ((rd l0_3 9) == 0) = true := beq_iff_eq.mpr c49
             have c49b1 : ((rd l0_3 9) != 0) = false := bne_eq_false_iff_eq.mpr c49
             clear c49
             by_cases c50 : 11 < (l0_3.length : Int)
             ·rw [if_pos c50] at H
              have c50b0 : decide (11 < (l0_3.length : Int)) = true := decide_eq_true c50
              have c50b1 : decide (11 < l0_3.length) = true := decide_eq_true (by omega)
              clear c50
              by_cases c51 : (rd l0_3 11) = 0
              ·rw [if_pos c51] at H
               have c51b0 : ((rd l0_3 11) == 0) = true := beq_iff_eq.mpr c51
               have c51b1 : ((rd l0_3 11) != 0) = false := bne_eq_false_iff_eq.mpr c51
               clear c51
               replace H := Option.bind_eq_some_iff.mp H
               obtain ⟨t124, A520, H⟩ := H
               (try dsimp only at H)
               have A52 := Sq.l A520
               clear A520
               by_cases c53 : t124 = true
               ·subst c53
                rw [if_pos rfl] at H
                replace H := Option.bind_eq_some_iff.mp H
                obtain ⟨t125, A540, H⟩ := H
                (try dsimp only at H)
                have A54 := Sq.l A540
                clear A540
                by_cases c55 : t125 = true
                ·subst c55
                 rw [if_pos rfl] at H
                 obtain rfl := Option.some.inj H
                 have hcz56_0 : wc.cell? ⟨gb113, 0, none⟩ = some (.int .i64 a0_0) := (Sq.o BK113.out 0).trans rfl
                 have hcz56_1 : wc.cell? ⟨gb113, 1, none⟩ = some (.slice A0_1 l0_1.length c0_1) := (Sq.o BK113.out 1).trans rfl
                 have hcz56_2 : wc.cell? ⟨gb113, 2, none⟩ = some (.int .i64 a0_2) := (Sq.o BK113.out 2).trans rfl
                 have hcz56_3 : wc.cell? ⟨gb113, 3, none⟩ = some (.slice A0_3 l0_3.length c0_3) := (Sq.o BK113.out 3).trans rfl
                 have hcz56_4 : wc.cell? ⟨gb113, 4, none⟩ = some (.slice A0_4 l0_4.length c0_4) := (Sq.o BK113.out 4).trans rfl
                 have hcz56_5 : wc.cell? ⟨gb113, 5, none⟩ = some (.string a0_5) := (Sq.o BK113.out 5).trans rfl
                 have hcz56_6 : wc.cell? ⟨gb113, 6, none⟩ = some (.int .i64 a0_6) := (Sq.o BK113.out 6).trans rfl
                 have hcz56_7 : wc.cell? ⟨gb113, 7, none⟩ = some (.int .i64 a0_7) := (Sq.o BK113.out 7).trans rfl
                 have hcz56_8 : wc.cell? ⟨gb113, 8, none⟩ = some (.int .i64 a0_8) := (Sq.o BK113.out 8).trans rfl
                 have hcz56_9 : wc.cell? ⟨gb113, 9, none⟩ = some (.slice A0_9 l0_9.length c0_9) := (Sq.o BK113.out 9).trans rfl
                 have hcz56_10 : wc.cell? ⟨gb113, 10, none⟩ = some (.slice A0_10 l0_10.length c0_10) := (Sq.o BK113.out 10).trans rfl
                 have hcz56_11 : wc.cell? ⟨gb113, 11, none⟩ = some (.int .i64 a0_11) := (Sq.o BK113.out 11).trans rfl
                 have hfz56_0 := Sq.r BK113.out 0
                 have hfz56_1 := Sq.r BK113.out 1
                 have hfz56_2 := Sq.r BK113.out 2
                 have hfz56_3 := Sq.r BK113.out 3
                 have hfz56_4 := Sq.r BK113.out 4
                 have hfz56_5 := Sq.r BK113.out 5
                 have hfz56_6 := Sq.r BK113.out 6
                 have hfz56_7 := Sq.r BK113.out 7
                 have hfz56_8 := Sq.r BK113.out 8
                 have hfz56_9 := Sq.r BK113.out 9
                 have hfz56_10 := Sq.r BK113.out 10
                 have hfz56_11 := Sq.r BK113.out 11
                 have p120 : 0 ≤ (0 : Int) := (by omega)
                 have q120 : 0 < (l0_3.length : Int) := of_decide_eq_true (by first | (with_reducible assumption) | assumption)
                 obtain ⟨ad120, e120, hx120_0⟩ := Kd.at_int HR0_3.out 0 p120 q120
                 cases e120
                 have qi120 : (0 < l0_3.length) = True := eq_true (by omega)
                 (try rw [show ((0 : Int)).toNat = 0 from rfl] at hx120_0)
                 (try rw [Addr.add_zero'] at hx120_0)
                 replace hx120_0 := (HB.out.cell (World.block_lt_of_cell? w _ hx120_0)).trans hx120_0
                 replace p120 := eq_true p120; replace q120 := eq_true q120
                 have p121 : 0 ≤ (8 : Int) := (by omega)
                 have q121 : 8 < (l0_3.length : Int) := of_decide_eq_true (by first | (with_reducible assumption) | assumption)
                 obtain ⟨ad121, e121, hx121_0⟩ := Kd.at_int HR0_3.out 8 p121 q121
                 obtain rfl : ad120 = ad121 := (by injection e121)
                 (try simp only [show (8 : Int).toNat = 8 from rfl, Nat.reduceMul, Nat.reduceEqDiff, Go.Addr.add, ↓reduceIte] at hx121_0)
                 have qi121 : (8 < l0_3.length) = True := eq_true (by omega)
                 (try rw [show ((8 : Int)).toNat = 8 from rfl] at hx121_0)
                 replace hx121_0 := (HB.out.cell (World.block_lt_of_cell? w _ hx121_0)).trans hx121_0
                 replace p121 := eq_true p121; replace q121 := eq_true q121
                 have p122 : 0 ≤ (9 : Int) := (by omega)
                 have q122 : 9 < (l0_3.length : Int) := of_decide_eq_true (by first | (with_reducible assumption) | assumption)
                 obtain ⟨ad122, e122, hx122_0⟩ := Kd.at_int HR0_3.out 9 p122 q122
                 obtain rfl : ad120 = ad122 := (by injection e122)
                 (try simp only [show (9 : Int).toNat = 9 from rfl, Nat.reduceMul, Nat.reduceEqDiff, Go.Addr.add, ↓reduceIte] at hx122_0)
                 have qi122 : (9 < l0_3.length) = True := eq_true (by omega)
                 (try rw [show ((9 : Int)).toNat = 9 from rfl] at hx122_0)
                 replace hx122_0 := (HB.out.cell (World.block_lt_of_cell? w _ hx122_0)).trans hx122_0
                 replace p122 := eq_true p122; replace q122 := eq_true q122
                 have p123 : 0 ≤ (11 : Int) := (by omega)
                 have q123 : 11 < (l0_3.length : Int) := of_decide_eq_true (by first | (with_reducible assumption) | assumption)
                 obtain ⟨ad123, e123, hx123_0⟩ := Kd.at_int HR0_3.out 11 p123 q123
                 obtain rfl : ad120 = ad123 := (by injection e123)
                 (try simp only [show (11 : Int).toNat = 11 from rfl, Nat.reduceMul, Nat.reduceEqDiff, Go.Addr.add, ↓reduceIte] at hx123_0)
                 have qi123 : (11 < l0_3.length) = True := eq_true (by omega)
                 (try rw [show ((11 : Int)).toNat = 11 from rfl] at hx123_0)
                 replace hx123_0 := (HB.out.cell (World.block_lt_of_cell? w _ hx123_0)).trans hx123_0
                 replace p123 := eq_true p123; replace q123 := eq_true q123
                 go_wp2_with (first | (go_at_call 122; (with_reducible refine (spec_l04Ports.calls kj21 _ _ l0_9 true _ ?side1 ?side2 A52.out).mono ?_); (case side1 => repeat (first | exact (Sq.a1 HR0_9.out HB.out) | (with_reducible refine Sq.s ?_ _) | (with_reducible refine Sq.t ?_ _) | (with_reducible refine Sq.u ?_))); (case side2 => exact HC0_9.out); rintro e w' ⟨rfl, ⟨nd, rfl⟩⟩) | (go_at_call 122; (with_reducible refine (spec_l04Ports.calls kj21 _ _ l0_10 true _ ?side1 ?side2 A54.out).mono ?_); (case side1 => repeat (first | exact (Sq.a1 HR0_10.out (by repeat (first | (with_reducible first | exact HB.out | apply Sq.i | apply Sq.j | apply Sq.k | refine Sq.h ?_ GE113.out) | exact HB.out))) | (with_reducible refine Sq.s ?_ _) | (with_reducible refine Sq.t ?_ _) | (with_reducible refine Sq.u ?_))); (case side2 => exact HC0_10.out); rintro e w' ⟨rfl, ⟨nd, rfl⟩⟩))
                 go_ret
                 exact ⟨by first | rfl | (simp [errW_none, errW_some] <;> rfl) | (simp [*, errW_none, errW_some] <;> rfl), by repeat (first | (with_reducible first | exact HB.out | apply Sq.i | apply Sq.j | apply Sq.k | refine Sq.h ?_ GE113.out) | exact HB.out)⟩
                ·replace c55 := Bool.eq_false_iff.mpr c55
                 subst c55
                 rw [if_neg (show ¬ (false = true) by decide)] at H
                 obtain rfl := Option.some.inj H
                 have hcz57_0 : wc.cell? ⟨gb113, 0, none⟩ = some (.int .i64 a0_0) := (Sq.o BK113.out 0).trans rfl
                 have hcz57_1 : wc.cell? ⟨gb113, 1, none⟩ = some (.slice A0_1 l0_1.length c0_1) := (Sq.o BK113.out 1).trans rfl
                 have hcz57_2 : wc.cell? ⟨gb113, 2, none⟩ = some (.int .i64 a0_2) := (Sq.o BK113.out 2).trans rfl
                 have hcz57_3 : wc.cell? ⟨gb113, 3, none⟩ = some (.slice A0_3 l0_3.length c0_3) := (Sq.o BK113.out 3).trans rfl
                 have hcz57_4 : wc.cell? ⟨gb113, 4, none⟩ = some (.slice A0_4 l0_4.length c0_4) := (Sq.o BK113.out 4).trans rfl
                 have hcz57_5 : wc.cell? ⟨gb113, 5, none⟩ = some (.string a0_5) := (Sq.o BK113.out 5).trans rfl
                 have hcz57_6 : wc.cell? ⟨gb113, 6, none⟩ = some (.int .i64 a0_6) := (Sq.o BK113.out 6).trans rfl
                 have hcz57_7 : wc.cell? ⟨gb113, 7, none⟩ = some (.int .i64 a0_7) := (Sq.o BK113.out 7).trans rfl
                 have hcz57_8 : wc.cell? ⟨gb113, 8, none⟩ = some (.int .i64 a0_8) := (Sq.o BK113.out 8).trans rfl
                 have hcz57_9 : wc.cell? ⟨gb113, 9, none⟩ = some (.slice A0_9 l0_9.length c0_9) := (Sq.o BK113.out 9).trans rfl
                 have hcz57_10 : wc.cell? ⟨gb113, 10, none⟩ = some (.slice A0_10 l0_10.length c0_10) := (Sq.o BK113.out 10).trans rfl
                 have hcz57_11 : wc.cell? ⟨gb113, 11, none⟩ = some (.int .i64 a0_11) := (Sq.o BK113.out 11).trans rfl
                 have hfz57_0 := Sq.r BK113.out 0
                 have hfz57_1 := Sq.r BK113.out 1
                 have hfz57_2 := Sq.r BK113.out 2
                 have hfz57_3 := Sq.r BK113.out 3
                 have hfz57_4 := Sq.r BK113.out 4
                 have hfz57_5 := Sq.r BK113.out 5
                 have hfz57_6 := Sq.r BK113.out 6
                 have hfz57_7 := Sq.r BK113.out 7
                 have hfz57_8 := Sq.r BK113.out 8
                 have hfz57_9 := Sq.r BK113.out 9
                 have hfz57_10 := Sq.r BK113.out 10
                 have hfz57_11 := Sq.r BK113.out 11
                 have p120 : 0 ≤ (0 : Int) := (by omega)
                 have q120 : 0 < (l0_3.length : Int) := of_decide_eq_true (by first | (with_reducible assumption) | assumption)
                 obtain ⟨ad120, e120, hx120_0⟩ := Kd.at_int HR0_3.out 0 p120 q120
                 cases e120
                 have qi120 : (0 < l0_3.length) = True := eq_true (by omega)
                 (try rw [show ((0 : Int)).toNat = 0 from rfl] at hx120_0)
                 (try rw [Addr.add_zero'] at hx120_0)
                 replace hx120_0 := (HB.out.cell (World.block_lt_of_cell? w _ hx120_0)).trans hx120_0
                 replace p120 := eq_true p120; replace q120 := eq_true q120
                 have p121 : 0 ≤ (8 : Int) := (by omega)
                 have q121 : 8 < (l0_3.length : Int) := of_decide_eq_true (by first | (with_reducible assumption) | assumption)
                 obtain ⟨ad121, e121, hx121_0⟩ := Kd.at_int HR0_3.out 8 p121 q121
                 obtain rfl : ad120 = ad121 := (by injection e121)
                 (try simp only [show (8 : Int).toNat = 8 from rfl, Nat.reduceMul, Nat.reduceEqDiff, Go.Addr.add, ↓reduceIte] at hx121_0)
                 have qi121 : (8 < l0_3.length) = True := eq_true (by omega)
                 (try rw [show ((8 : Int)).toNat = 8 from rfl] at hx121_0)
                 replace hx121_0 := (HB.out.cell (World.block_lt_of_cell? w _ hx121_0)).trans hx121_0
                 replace p121 := eq_true p121; replace q121 := eq_true q121
                 have p122 : 0 ≤ (9 : Int) := (by omega)
                 have q122 : 9 < (l0_3.length : Int) := of_decide_eq_true (by first | (with_reducible assumption) | assumption)
                 obtain ⟨ad122, e122, hx122_0⟩ := Kd.at_int HR0_3.out 9 p122 q122
                 obtain rfl : ad120 = ad122 := (by injection e122)
                 (try simp only [show (9 : Int).toNat = 9 from rfl, Nat.reduceMul, Nat.reduceEqDiff, Go.Addr.add, ↓reduceIte] at hx122_0)
                 have qi122 : (9 < l0_3.length) = True := eq_true (by omega)
                 (try rw [show ((9 : Int)).toNat = 9 from rfl] at hx122_0)
                 replace hx122_0 := (HB.out.cell (World.block_lt_of_cell? w _ hx122_0)).trans hx122_0
                 replace p122 := eq_true p122; replace q122 := eq_true q122
                 have p123 : 0 ≤ (11 : Int) := (by omega)
                 have q123 : 11 < (l0_3.length : Int) := of_decide_eq_true (by first | (with_reducible assumption) | assumption)
                 obtain ⟨ad123, e123, hx123_0⟩ := Kd.at_int HR0_3.out 11 p123 q123
                 obtain rfl : ad120 = ad123 := (by injection e123)
                 (try simp only [show (11 : Int).toNat = 11 from rfl, Nat.reduceMul, Nat.reduceEqDiff, Go.Addr.add, ↓reduceIte] at hx123_0)
                 have qi123 : (11 < l0_3.length) = True := eq_true (by omega)
                 (try rw [show ((11 : Int)).toNat = 11 from rfl] at hx123_0)
                 replace hx123_0 := (HB.out.cell (World.block_lt_of_cell? w _ hx123_0)).trans hx123_0
                 replace p123 := eq_true p123; replace q123 := eq_true q123
                 go_wp2_with (first | (go_at_call 122; (with_reducible refine (spec_l04Ports.calls kj21 _ _ l0_9 true _ ?side1 ?side2 A52.out).mono ?_); (case side1 => repeat (first | exact (Sq.a1 HR0_9.out HB.out) | (with_reducible refine Sq.s ?_ _) | (with_reducible refine Sq.t ?_ _) | (with_reducible refine Sq.u ?_))); (case side2 => exact HC0_9.out); rintro e w' ⟨rfl, ⟨nd, rfl⟩⟩) | (go_at_call 122; (with_reducible refine (spec_l04Ports.calls kj21 _ _ l0_10 false _ ?side1 ?side2 A54.out).mono ?_); (case side1 => repeat (first | exact (Sq.a1 HR0_10.out (by repeat (first | (with_reducible first | exact HB.out | apply Sq.i | apply Sq.j | apply Sq.k | refine Sq.h ?_ GE113.out) | exact HB.out))) | (with_reducible refine Sq.s ?_ _) | (with_reducible refine Sq.t ?_ _) | (with_reducible refine Sq.u ?_))); (case side2 => exact HC0_10.out); rintro e w' ⟨rfl, ⟨nd, rfl⟩⟩))
                 go_ret
                 exact ⟨by first | rfl | (simp [errW_none, errW_some] <;> rfl) | (simp [*, errW_none, errW_some] <;> rfl), by repeat (first | (with_reducible first | exact HB.out | apply Sq.i | apply Sq.j | apply Sq.k | refine Sq.h ?_ GE113.out) | exact HB.out)⟩
               ·replace c53 := Bool.eq_false_iff.mpr c53
                subst c53
                rw [if_neg (show ¬ (false = true) by decide)] at H
                obtain rfl := Option.some.inj H
                have hcz58_0 : wc.cell? ⟨gb113, 0, none⟩ = some (.int .i64 a0_0) := (Sq.o BK113.out 0).trans rfl
                have hcz58_1 : wc.cell? ⟨gb113, 1, none⟩ = some (.slice A0_1 l0_1.length c0_1) := (Sq.o BK113.out 1).trans rfl
                have hcz58_2 : wc.cell? ⟨gb113, 2, none⟩ = some (.int .i64 a0_2) := (Sq.o BK113.out 2).trans rfl
                have hcz58_3 : wc.cell? ⟨gb113, 3, none⟩ = some (.slice A0_3 l0_3.length c0_3) := (Sq.o BK113.out 3).trans rfl
                have hcz58_4 : wc.cell? ⟨gb113, 4, none⟩ = some (.slice A0_4 l0_4.length c0_4) := (Sq.o BK113.out 4).trans rfl
                have hcz58_5 : wc.cell? ⟨gb113, 5, none⟩ = some (.string a0_5) := (Sq.o BK113.out 5).trans rfl
                have hcz58_6 : wc.cell? ⟨gb113, 6, none⟩ = some (.int .i64 a0_6) := (Sq.o BK113.out 6).trans rfl
                have hcz58_7 : wc.cell? ⟨gb113, 7, none⟩ = some (.int .i64 a0_7) := (Sq.o BK113.out 7).trans rfl
                have hcz58_8 : wc.cell? ⟨gb113, 8, none⟩ = some (.int .i64 a0_8) := (Sq.o BK113.out 8).trans rfl
                have hcz58_9 : wc.cell? ⟨gb113, 9, none⟩ = some (.slice A0_9 l0_9.length c0_9) := (Sq.o BK113.out 9).trans rfl
                have hcz58_10 : wc.cell? ⟨gb113, 10, none⟩ = some (.slice A0_10 l0_10.length c0_10) := (Sq.o BK113.out 10).trans rfl
                have hcz58_11 : wc.cell? ⟨gb113, 11, none⟩ = some (.int .i64 a0_11) := (Sq.o BK113.out 11).trans rfl
                have hfz58_0 := Sq.r BK113.out 0
                have hfz58_1 := Sq.r BK113.out 1
                have hfz58_2 := Sq.r BK113.out 2
                have hfz58_3 := Sq.r BK113.out 3
                have hfz58_4 := Sq.r BK113.out 4
                have hfz58_5 := Sq.r BK113.out 5
                have hfz58_6 := Sq.r BK113.out 6
                have hfz58_7 := Sq.r BK113.out 7
                have hfz58_8 := Sq.r BK113.out 8
                have hfz58_9 := Sq.r BK113.out 9
                have hfz58_10 := Sq.r BK113.out 10
                have hfz58_11 := Sq.r BK113.out 11
                have p120 : 0 ≤ (0 : Int) := (by omega)
                have q120 : 0 < (l0_3.length : Int) := of_decide_eq_true (by first | (with_reducible assumption) | assumption)
                obtain ⟨ad120, e120, hx120_0⟩ := Kd.at_int HR0_3.out 0 p120 q120
                cases e120
                have qi120 : (0 < l0_3.length) = True := eq_true (by omega)
                (try rw [show ((0 : Int)).toNat = 0 from rfl] at hx120_0)
                (try rw [Addr.add_zero'] at hx120_0)
                replace hx120_0 := (HB.out.cell (World.block_lt_of_cell? w _ hx120_0)).trans hx120_0
                replace p120 := eq_true p120; replace q120 := eq_true q120
                have p121 : 0 ≤ (8 : Int) := (by omega)
                have q121 : 8 < (l0_3.length : Int) := of_decide_eq_true (by first | (with_reducible assumption) | assumption)
                obtain ⟨ad121, e121, hx121_0⟩ := Kd.at_int HR0_3.out 8 p121 q121
                obtain rfl : ad120 = ad121 := (by injection e121)
                (try simp only [show (8 : Int).toNat = 8 from rfl, Nat.reduceMul, Nat.reduceEqDiff, Go.Addr.add, ↓reduceIte] at hx121_0)
                have qi121 : (8 < l0_3.length) = True := eq_true (by omega)
                (try rw [show ((8 : Int)).toNat = 8 from rfl] at hx121_0)
                replace hx121_0 := (HB.out.cell (World.block_lt_of_cell? w _ hx121_0)).trans hx121_0
                replace p121 := eq_true p121; replace q121 := eq_true q121
                have p122 : 0 ≤ (9 : Int) := (by omega)
                have q122 : 9 < (l0_3.length : Int) := of_decide_eq_true (by first | (with_reducible assumption) | assumption)
                obtain ⟨ad122, e122, hx122_0⟩ := Kd.at_int HR0_3.out 9 p122 q122
                obtain rfl : ad120 = ad122 := (by injection e122)
                (try simp only [show (9 : Int).toNat = 9 from rfl, Nat.reduceMul, Nat.reduceEqDiff, Go.Addr.add, ↓reduceIte] at hx122_0)
                have qi122 : (9 < l0_3.length) = True := eq_true (by omega)
                (try rw [show ((9 : Int)).toNat = 9 from rfl] at hx122_0)
                replace hx122_0 := (HB.out.cell (World.block_lt_of_cell? w _ hx122_0)).trans hx122_0
                replace p122 := eq_true p122; replace q122 := eq_true q122
                have p123 : 0 ≤ (11 : Int) := (by omega)
                have q123 : 11 < (l0_3.length : Int) := of_decide_eq_true (by first | (with_reducible assumption) | assumption)
                obtain ⟨ad123, e123, hx123_0⟩ := Kd.at_int HR0_3.out 11 p123 q123
                obtain rfl : ad120 = ad123 := (by injection e123)
                (try simp only [show (11 : Int).toNat = 11 from rfl, Nat.reduceMul, Nat.reduceEqDiff, Go.Addr.add, ↓reduceIte] at hx123_0)
                have qi123 : (11 < l0_3.length) = True := eq_true (by omega)
                (try rw [show ((11 : Int)).toNat = 11 from rfl] at hx123_0)
                replace hx123_0 := (HB.out.cell (World.block_lt_of_cell? w _ hx123_0)).trans hx123_0
                replace p123 := eq_true p123; replace q123 := eq_true q123
                go_wp2_with (first | (go_at_call 122; (with_reducible refine (spec_l04Ports.calls kj21 _ _ l0_9 false _ ?side1 ?side2 A52.out).mono ?_); (case side1 => repeat (first | exact (Sq.a1 HR0_9.out HB.out) | (with_reducible refine Sq.s ?_ _) | (with_reducible refine Sq.t ?_ _) | (with_reducible refine Sq.u ?_))); (case side2 => exact HC0_9.out); rintro e w' ⟨rfl, ⟨nd, rfl⟩⟩))
                go_ret
                exact ⟨by first | rfl | (simp [errW_none, errW_some] <;> rfl) | (simp [*, errW_none, errW_some] <;> rfl), by repeat (first | (with_reducible first | exact HB.out | apply Sq.i | apply Sq.j | apply Sq.k | refine Sq.h ?_ GE113.out) | exact HB.out)⟩
              ·rw [if_neg c51] at H
               have c51b0 : ((rd l0_3 11) == 0) = false := beq_eq_false_iff_ne.mpr c51
               have c51b1 : ((rd l0_3 11) != 0) = true := bne_iff_ne.mpr c51
               obtain rfl := Option.some.inj H
               have hcz59_0 : wc.cell? ⟨gb113, 0, none⟩ = some (.int .i64 a0_0) := (Sq.o BK113.out 0).trans rfl
               have hcz59_1 : wc.cell? ⟨gb113, 1, none⟩ = some (.slice A0_1 l0_1.length c0_1) := (Sq.o BK113.out 1).trans rfl
               have hcz59_2 : wc.cell? ⟨gb113, 2, none⟩ = some (.int .i64 a0_2) := (Sq.o BK113.out 2).trans rfl
               have hcz59_3 : wc.cell? ⟨gb113, 3, none⟩ = some (.slice A0_3 l0_3.length c0_3) := (Sq.o BK113.out 3).trans rfl
               have hcz59_4 : wc.cell? ⟨gb113, 4, none⟩ = some (.slice A0_4 l0_4.length c0_4) := (Sq.o BK113.out 4).trans rfl
               have hcz59_5 : wc.cell? ⟨gb113, 5, none⟩ = some (.string a0_5) := (Sq.o BK113.out 5).trans rfl
               have hcz59_6 : wc.cell? ⟨gb113, 6, none⟩ = some (.int .i64 a0_6) := (Sq.o BK113.out 6).trans rfl
               have hcz59_7 : wc.cell? ⟨gb113, 7, none⟩ = some (.int .i64 a0_7) := (Sq.o BK113.out 7).trans rfl
               have hcz59_8 : wc.cell? ⟨gb113, 8, none⟩ = some (.int .i64 a0_8) := (Sq.o BK113.out 8).trans rfl
               have hcz59_9 : wc.cell? ⟨gb113, 9, none⟩ = some (.slice A0_9 l0_9.length c0_9) := (Sq.o BK113.out 9).trans rfl
               have hcz59_10 : wc.cell? ⟨gb113, 10, none⟩ = some (.slice A0_10 l0_10.length c0_10) := (Sq.o BK113.out 10).trans rfl
               have hcz59_11 : wc.cell? ⟨gb113, 11, none⟩ = some (.int .i64 a0_11) := (Sq.o BK113.out 11).trans rfl
               have hfz59_0 := Sq.r BK113.out 0
               have hfz59_1 := Sq.r BK113.out 1
               have hfz59_2 := Sq.r BK113.out 2
               have hfz59_3 := Sq.r BK113.out 3
               have hfz59_4 := Sq.r BK113.out 4
               have hfz59_5 := Sq.r BK113.out 5
               have hfz59_6 := Sq.r BK113.out 6
               have hfz59_7 := Sq.r BK113.out 7
               have hfz59_8 := Sq.r BK113.out 8
               have hfz59_9 := Sq.r BK113.out 9
               have hfz59_10 := Sq.r BK113.out 10
               have hfz59_11 := Sq.r BK113.out 11
               have p120 : 0 ≤ (0 : Int) := (by omega)
               have q120 : 0 < (l0_3.length : Int) := of_decide_eq_true (by first | (with_reducible assumption) | assumption)
               obtain ⟨ad120, e120, hx120_0⟩ := Kd.at_int HR0_3.out 0 p120 q120
               cases e120
               have qi120 : (0 < l0_3.length) = True := eq_true (by omega)
               (try rw [show ((0 : Int)).toNat = 0 from rfl] at hx120_0)
               (try rw [Addr.add_zero'] at hx120_0)
               replace hx120_0 := (HB.out.cell (World.block_lt_of_cell? w _ hx120_0)).trans hx120_0
               replace p120 := eq_true p120; replace q120 := eq_true q120
               have p121 : 0 ≤ (8 : Int) := (by omega)
               have q121 : 8 < (l0_3.length : Int) := of_decide_eq_true (by first | (with_reducible assumption) | assumption)
               obtain ⟨ad121, e121, hx121_0⟩ := Kd.at_int HR0_3.out 8 p121 q121
               obtain rfl : ad120 = ad121 := (by injection e121)
               (try simp only [show (8 : Int).toNat = 8 from rfl, Nat.reduceMul, Nat.reduceEqDiff, Go.Addr.add, ↓reduceIte] at hx121_0)
               have qi121 : (8 < l0_3.length) = True := eq_true (by omega)
               (try rw [show ((8 : Int)).toNat = 8 from rfl] at hx121_0)
               replace hx121_0 := (HB.out.cell (World.block_lt_of_cell? w _ hx121_0)).trans hx121_0
               replace p121 := eq_true p121; replace q121 := eq_true q121
               have p122 : 0 ≤ (9 : Int) := (by omega)
               have q122 : 9 < (l0_3.length : Int) := of_decide_eq_true (by first | (with_reducible assumption) | assumption)
               obtain ⟨ad122, e122, hx122_0⟩ := Kd.at_int HR0_3.out 9 p122 q122
               obtain rfl : ad120 = ad122 := (by injection e122)
               (try simp only [show (9 : Int).toNat = 9 from rfl, Nat.reduceMul, Nat.reduceEqDiff, Go.Addr.add, ↓reduceIte] at hx122_0)
               have qi122 : (9 < l0_3.length) = True := eq_true (by omega)
               (try rw [show ((9 : Int)).toNat = 9 from rfl] at hx122_0)
               replace hx122_0 := (HB.out.cell (World.block_lt_of_cell? w _ hx122_0)).trans hx122_0
               replace p122 := eq_true p122; replace q122 := eq_true q122
               have p123 : 0 ≤ (11 : Int) := (by omega)
               have q123 : 11 < (l0_3.length : Int) := of_decide_eq_true (by first | (with_reducible assumption) | assumption)
               obtain ⟨ad123, e123, hx123_0⟩ := Kd.at_int HR0_3.out 11 p123 q123
               obtain rfl : ad120 = ad123 := (by injection e123)
               (try simp only [show (11 : Int).toNat = 11 from rfl, Nat.reduceMul, Nat.reduceEqDiff, Go.Addr.add, ↓reduceIte] at hx123_0)
               have qi123 : (11 < l0_3.length) = True := eq_true (by omega)
               (try rw [show ((11 : Int)).toNat = 11 from rfl] at hx123_0)
               replace hx123_0 := (HB.out.cell (World.block_lt_of_cell? w _ hx123_0)).trans hx123_0
               replace p123 := eq_true p123; replace q123 := eq_true q123
               go_wp2
               go_ret
               exact ⟨by first | rfl | (simp [errW_none, errW_some] <;> rfl) | (simp [*, errW_none, errW_some] <;> rfl), by repeat (first | (with_reducible first | exact HB.out | apply Sq.i | apply Sq.j | apply Sq.k | refine Sq.h ?_ GE113.out) | exact HB.out)⟩
             ·rw [if_neg c50] at H
              exact absurd H (by simp)
            ·rw [if_neg c49] at H
             have c49b0 : ((rd l0_3 9) == 0) = false := beq_eq_false_iff_ne.mpr c49
             have c49b1 : ((rd l0_3 9) != 0) = true := bne_iff_ne.mpr c49
             obtain rfl := Option.some.inj H
             have hcz60_0 : wc.cell? ⟨gb113, 0, none⟩ = some (.int .i64 a0_0) := (Sq.o BK113.out 0).trans rfl
             have hcz60_1 : wc.cell? ⟨gb113, 1, none⟩ = some (.slice A0_1 l0_1.length c0_1) := (Sq.o BK113.out 1).trans rfl
             have hcz60_2 : wc.cell? ⟨gb113, 2, none⟩ = some (.int .i64 a0_2) := (Sq.o BK113.out 2).trans rfl
             have hcz60_3 : wc.cell? ⟨gb113, 3, none⟩ = some (.slice A0_3 l0_3.length c0_3) := (Sq.o BK113.out 3).trans rfl
             have hcz60_4 : wc.cell? ⟨gb113, 4, none⟩ = some (.slice A0_4 l0_4.length c0_4) := (Sq.o BK113.out 4).trans rfl
             have hcz60_5 : wc.cell? ⟨gb113, 5, none⟩ = some (.string a0_5) := (Sq.o BK113.out 5).trans rfl
             have hcz60_6 : wc.cell? ⟨gb113, 6, none⟩ = some (.int .i64 a0_6) := (Sq.o BK113.out 6).trans rfl
             have hcz60_7 : wc.cell? ⟨gb113, 7, none⟩ = some (.int .i64 a0_7) := (Sq.o BK113.out 7).trans rfl
             have hcz60_8 : wc.cell? ⟨gb113, 8, none⟩ = some (.int .i64 a0_8) := (Sq.o BK113.out 8).trans rfl
             have hcz60_9 : wc.cell? ⟨gb113, 9, none⟩ = some (.slice A0_9 l0_9.length c0_9) := (Sq.o BK113.out 9).trans rfl
             have hcz60_10 : wc.cell? ⟨gb113, 10, none⟩ = some (.slice A0_10 l0_10.length c0_10) := (Sq.o BK113.out 10).trans rfl
             have hcz60_11 : wc.cell? ⟨gb113, 11, none⟩ = some (.int .i64 a0_11) := (Sq.o BK113.out 11).trans rfl
             have hfz60_0 := Sq.r BK113.out 0
             have hfz60_1 := Sq.r BK113.out 1
             have hfz60_2 := Sq.r BK113.out 2
             have hfz60_3 := Sq.r BK113.out 3
             have hfz60_4 := Sq.r BK113.out 4
             have hfz60_5 := Sq.r BK113.out 5
             have hfz60_6 := Sq.r BK113.out 6
             have hfz60_7 := Sq.r BK113.out 7
             have hfz60_8 := Sq.r BK113.out 8
             have hfz60_9 := Sq.r BK113.out 9
             have hfz60_10 := Sq.r BK113.out 10
             have hfz60_11 := Sq.r BK113.out 11
             have p120 : 0 ≤ (0 : Int) := (by omega)
             have q120 : 0 < (l0_3.length : Int) := of_decide_eq_true (by first | (with_reducible assumption) | assumption)
             obtain ⟨ad120, e120, hx120_0⟩ := Kd.at_int HR0_3.out 0 p120 q120
             cases e120
             have qi120 : (0 < l0_3.length) = True := eq_true (by omega)
             (try rw [show ((0 : Int)).toNat = 0 from rfl] at hx120_0)
             (try rw [Addr.add_zero'] at hx120_0)
             replace hx120_0 := (HB.out.cell (World.block_lt_of_cell? w _ hx120_0)).trans hx120_0
             replace p120 := eq_true p120; replace q120 := eq_true q120
             have p121 : 0 ≤ (8 : Int) := (by omega)
             have q121 : 8 < (l0_3.length : Int) := of_decide_eq_true (by first | (with_reducible assumption) | assumption)
             obtain ⟨ad121, e121, hx121_0⟩ := Kd.at_int HR0_3.out 8 p121 q121
             obtain rfl : ad120 = ad121 := (by injection e121)
             (try simp only [show (8 : Int).toNat = 8 from rfl, Nat.reduceMul, Nat.reduceEqDiff, Go.Addr.add, ↓reduceIte] at hx121_0)
             have qi121 : (8 < l0_3.length) = True := eq_true (by omega)
             (try rw [show ((8 : Int)).toNat = 8 from rfl] at hx121_0)
             replace hx121_0 := (HB.out.cell (World.block_lt_of_cell? w _ hx121_0)).trans hx121_0
             replace p121 := eq_true p121; replace q121 := eq_true q121
             have p122 : 0 ≤ (9 : Int) := (by omega)
             have q122 : 9 < (l0_3.length : Int) := of_decide_eq_true (by first | (with_reducible assumption) | assumption)
             obtain ⟨ad122, e122, hx122_0⟩ := Kd.at_int HR0_3.out 9 p122 q122
             obtain rfl : ad120 = ad122 := (by injection e122)
             (try simp only [show (9 : Int).toNat = 9 from rfl, Nat.reduceMul, Nat.reduceEqDiff, Go.Addr.add, ↓reduceIte] at hx122_0)
             have qi122 : (9 < l0_3.length) = True := eq_true (by omega)
             (try rw [show ((9 : Int)).toNat = 9 from rfl] at hx122_0)
             replace hx122_0 := (HB.out.cell (World.block_lt_of_cell? w _ hx122_0)).trans hx122_0
             replace p122 := eq_true p122; replace q122 := eq_true q122
             go_wp2
             go_ret
             exact ⟨by first | rfl | (simp [errW_none, errW_some] <;> rfl) | (simp [*, errW_none, errW_some] <;> rfl), by repeat (first | (with_reducible first | exact HB.out | apply Sq.i | apply Sq.j | apply Sq.k | refine Sq.h ?_ GE113.out) | exact HB.out)⟩
           ·rw [if_neg c48] at H
            exact absurd H (by simp)
          ·rw [if_neg c47] at H
           have c47b0 : ((rd l0_3 8) == 0) = false := beq_eq_false_iff_ne.mpr c47
           have c47b1 : ((rd l0_3 8) != 0) = true := bne_iff_ne.mpr c47
           obtain rfl := Option.some.inj H
           have hcz61_0 : wc.cell? ⟨gb113, 0, none⟩ = some (.int .i64 a0_0) := (Sq.o BK113.out 0).trans rfl
           have hcz61_1 : wc.cell? ⟨gb113, 1, none⟩ = some (.slice A0_1 l0_1.length c0_1) := (Sq.o BK113.out 1).trans rfl
           have hcz61_2 : wc.cell? ⟨gb113, 2, none⟩ = some (.int .i64 a0_2) := (Sq.o BK113.out 2).trans rfl
           have hcz61_3 : wc.cell? ⟨gb113, 3, none⟩ = some (.slice A0_3 l0_3.length c0_3) := (Sq.o BK113.out 3).trans rfl
           have hcz61_4 : wc.cell? ⟨gb113, 4, none⟩ = some (.slice A0_4 l0_4.length c0_4) := (Sq.o BK113.out 4).trans rfl
           have hcz61_5 : wc.cell? ⟨gb113, 5, none⟩ = some (.string a0_5) := (Sq.o BK113.out 5).trans rfl
           have hcz61_6 : wc.cell? ⟨gb113, 6, none⟩ = some (.int .i64 a0_6) := (Sq.o BK113.out 6).trans rfl
           have hcz61_7 : wc.cell? ⟨gb113, 7, none⟩ = some (.int .i64 a0_7) := (Sq.o BK113.out 7).trans rfl
           have hcz61_8 : wc.cell? ⟨gb113, 8, none⟩ = some (.int .i64 a0_8) := (Sq.o BK113.out 8).trans rfl
           have hcz61_9 : wc.cell? ⟨gb113, 9, none⟩ = some (.slice A0_9 l0_9.length c0_9) := (Sq.o BK113.out 9).trans rfl
           have hcz61_10 : wc.cell? ⟨gb113, 10, none⟩ = some (.slice A0_10 l0_10.length c0_10) := (Sq.o BK113.out 10).trans rfl
           have hcz61_11 : wc.cell? ⟨gb113, 11, none⟩ = some (.int .i64 a0_11) := (Sq.o BK113.out 11).trans rfl
           have hfz61_0 := Sq.r BK113.out 0
           have hfz61_1 := Sq.r BK113.out 1
           have hfz61_2 := Sq.r BK113.out 2
           have hfz61_3 := Sq.r BK113.out 3
           have hfz61_4 := Sq.r BK113.out 4
           have hfz61_5 := Sq.r BK113.out 5
           have hfz61_6 := Sq.r BK113.out 6
           have hfz61_7 := Sq.r BK113.out 7
           have hfz61_8 := Sq.r BK113.out 8
           have hfz61_9 := Sq.r BK113.out 9
           have hfz61_10 := Sq.r BK113.out 10
           have hfz61_11 := Sq.r BK113.out 11
           have p120 : 0 ≤ (0 : Int) := (by omega)
           have q120 : 0 < (l0_3.length : Int) := of_decide_eq_true (by first | (with_reducible assumption) | assumption)
           obtain ⟨ad120, e120, hx120_0⟩ := Kd.at_int HR0_3.out 0 p120 q120
           cases e120
           have qi120 : (0 < l0_3.length) = True := eq_true (by omega)
           (try rw [show ((0 : Int)).toNat = 0 from rfl] at hx120_0)
           (try rw [Addr.add_zero'] at hx120_0)
           replace hx120_0 := (HB.out.cell (World.block_lt_of_cell? w _ hx120_0)).trans hx120_0
           replace p120 := eq_true p120; replace q120 := eq_true q120
           have p121 : 0 ≤ (8 : Int) := (by omega)
           have q121 : 8 < (l0_3.length : Int) := of_decide_eq_true (by first | (with_reducible assumption) | assumption)
           obtain ⟨ad121, e121, hx121_0⟩ := Kd.at_int HR0_3.out 8 p121 q121
           obtain rfl : ad120 = ad121 := (by injection e121)
           (try simp only [show (8 : Int).toNat = 8 from rfl, Nat.reduceMul, Nat.reduceEqDiff, Go.Addr.add, ↓reduceIte] at hx121_0)
           have qi121 : (8 < l0_3.length) = True := eq_true (by omega)
           (try rw [show ((8 : Int)).toNat = 8 from rfl] at hx121_0)
           replace hx121_0 := (HB.out.cell (World.block_lt_of_cell? w _ hx121_0)).trans hx121_0
           replace p121 := eq_true p121; replace q121 := eq_true q121
           go_wp2
           go_ret
           exact ⟨by first | rfl | (simp [errW_none, errW_some] <;> rfl) | (simp [*, errW_none, errW_some] <;> rfl), by repeat (first | (with_reducible first | exact HB.out | apply Sq.i | apply Sq.j | apply Sq.k | refine Sq.h ?_ GE113.out) | exact HB.out)⟩
         ·rw [if_neg c46] at H
          exact absurd H (by simp)
       ·rw [if_neg c43] at H
        exact absurd H (by simp)

end Go.Proofs.Ytmajbehafgajmaa.QFnExactRaiseLine
