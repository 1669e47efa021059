-- Written for this claim by this session's own driver (wip/xprint.py).
import Derived.Test.YtoifdnnjdohfmaaQFnExactPackImagex0
import Derived.Test.YtoifdnnjdohfmaaQFnExactPackImagex5
import Derived.Test.YtoifdnnjdohfmaaQFnExactPackImagex6
namespace Go.Proofs.Ytoifdnnjdohfmaa.QFnExactPackImage
open Go.RowKit Go.Proofs.YtoifdnnjdohfmaaW.PrintWords Go.Proofs.YtoifdnnjdohfmaaW.PrintLast Go.Proofs.YtoifdnnjdohfmaaW.PrintMore
attribute [local go_sem] max2_int min2_int max_two min_two max_three min_three max_four min_four   -- for this text's walks alone
set_option linter.unusedVariables false
set_option linter.unusedSimpArgs false

/-! ### spec_PackImage: function 10 -/
mutual
def spec_PackImage.l0 : Nat → ByteArray → Int → ByteArray → ByteArray → List Int → List ByteArray → List (S42) → Option (ByteArray)
 | 0, _, _, _, _, _, _, _ => none
 | k + 1, x3, x4, x196000, x196001, x196002, x196003, x196004 => if x4 < (x196003.length : Int) then (if 0 ≤ x4 then (if x3.size + (rdOf ByteArray.empty x196003 x4).size ≤ 9223372036854775807 then (spec_PackImage.l0 k (x3 ++ (rdOf ByteArray.empty x196003 x4)) (wrap64 (x4 + 1)) x196000 x196001 x196002 x196003 x196004) else (none)) else (none)) else (spec_PackImage.l1 k x3 0 x196000 x196001 x196002 x196003 x196004)
def spec_PackImage.l1 : Nat → ByteArray → Int → ByteArray → ByteArray → List Int → List ByteArray → List (S42) → Option (ByteArray)
 | 0, _, _, _, _, _, _, _ => none
 | k + 1, x3, x5, x196000, x196001, x196002, x196003, x196004 => if x5 < (x196004.length : Int) then (if 0 ≤ x5 then ((spec_l13Short.f ((rd_T42 x196004 x5).f0)).bind fun t205 => (if x3.size + t205.size ≤ 9223372036854775807 then ((spec_l13PutTable.f k ((rd_T42 x196004 x5).f1)).bind fun t207 => (if (x3 ++ t205).size + t207.size ≤ 9223372036854775807 then (spec_PackImage.l1 k ((x3 ++ t205) ++ t207) (wrap64 (x5 + 1)) x196000 x196001 x196002 x196003 x196004) else (none))) else (none))) else (none)) else ((spec_Mix.f k x3 7).bind fun t208 => ((spec_PutWord.f t208).bind fun t209 => (if x3.size + t209.size ≤ 9223372036854775807 then (some (x3 ++ t209)) else (none))))
end
def spec_PackImage.f (k : Nat) (a0_0 : ByteArray) (a0_1 : ByteArray) (l0_2 : List Int) (l0_3 : List ByteArray) (l0_4 : List (S42)) : Option (ByteArray) := (spec_ImageFault.f k a0_0 a0_1 l0_2 l0_3 l0_4).bind fun t196 => (if t196 = 0 then ((spec_PutWord.f (l0_2.length : Int)).bind fun t197 => (if 4 + t197.size ≤ 9223372036854775807 then ((spec_PutWord.f (l0_3.length : Int)).bind fun t198 => (if ((⟨#[73, 77, 71, 49]⟩ : ByteArray) ++ t197).size + t198.size ≤ 9223372036854775807 then ((spec_PutWord.f (l0_4.length : Int)).bind fun t199 => (if (((⟨#[73, 77, 71, 49]⟩ : ByteArray) ++ t197) ++ t198).size + t199.size ≤ 9223372036854775807 then ((spec_l13Short.f a0_0).bind fun t200 => (if ((((⟨#[73, 77, 71, 49]⟩ : ByteArray) ++ t197) ++ t198) ++ t199).size + t200.size ≤ 9223372036854775807 then ((spec_l13Short.f a0_1).bind fun t201 => (if (((((⟨#[73, 77, 71, 49]⟩ : ByteArray) ++ t197) ++ t198) ++ t199) ++ t200).size + t201.size ≤ 9223372036854775807 then ((spec_l13PutTable.f k l0_2).bind fun t202 => (if ((((((⟨#[73, 77, 71, 49]⟩ : ByteArray) ++ t197) ++ t198) ++ t199) ++ t200) ++ t201).size + t202.size ≤ 9223372036854775807 then (spec_PackImage.l0 k (((((((⟨#[73, 77, 71, 49]⟩ : ByteArray) ++ t197) ++ t198) ++ t199) ++ t200) ++ t201) ++ t202) 0 a0_0 a0_1 l0_2 l0_3 l0_4) else (none))) else (none))) else (none))) else (none))) else (none))) else (none))) else (some (⟨#[]⟩ : ByteArray)))
theorem spec_PackImage.mono_l : ∀ k, (∀ y0 y1 y2 y3 y4 y5 y6, LeO (spec_PackImage.l0 k y0 y1 y2 y3 y4 y5 y6) (spec_PackImage.l0 (k + 1) y0 y1 y2 y3 y4 y5 y6)) ∧ (∀ y0 y1 y2 y3 y4 y5 y6, LeO (spec_PackImage.l1 k y0 y1 y2 y3 y4 y5 y6) (spec_PackImage.l1 (k + 1) y0 y1 y2 y3 y4 y5 y6))
 | 0 => ⟨fun _ _ _ _ _ _ _ r h => by simp [spec_PackImage.l0] at h, fun _ _ _ _ _ _ _ r h => by simp [spec_PackImage.l1] at h⟩
 | k + 1 => by
  obtain ⟨ih0, ih1⟩ := spec_PackImage.mono_l k
  refine ⟨?_, ?_⟩
  ·intro y0 y1 y2 y3 y4 y5 y6
   unfold spec_PackImage.l0
   repeat' first
   | (with_reducible exact ih0 _ _ _ _ _ _ _)
   | (with_reducible exact ih1 _ _ _ _ _ _ _)
   | (with_reducible exact spec_ImageFault.mono _ _ _ _ _ _)
   | (with_reducible exact spec_Mix.mono _ _ _)
   | (with_reducible exact spec_l13PutTable.mono _ _)
   | (with_reducible exact LeO.refl _)
   | (with_reducible exact LeO.none _)
   | (with_reducible refine LeO.ite ?_ ?_)
   | (with_reducible refine LeO.bind ?_ (fun _ => ?_))
   | exact ih0 _ _ _ _ _ _ _
   | exact ih1 _ _ _ _ _ _ _
   | exact spec_ImageFault.mono _ _ _ _ _ _
   | exact spec_Mix.mono _ _ _
   | exact spec_l13PutTable.mono _ _
   | exact LeO.none _
   | refine LeO.ite ?_ ?_
   | refine LeO.bind ?_ (fun _ => ?_)
  ·intro y0 y1 y2 y3 y4 y5 y6
   unfold spec_PackImage.l1
   repeat' first
   | (with_reducible exact ih0 _ _ _ _ _ _ _)
   | (with_reducible exact ih1 _ _ _ _ _ _ _)
   | (with_reducible exact spec_ImageFault.mono _ _ _ _ _ _)
   | (with_reducible exact spec_Mix.mono _ _ _)
   | (with_reducible exact spec_l13PutTable.mono _ _)
   | (with_reducible exact LeO.refl _)
   | (with_reducible exact LeO.none _)
   | (with_reducible refine LeO.ite ?_ ?_)
   | (with_reducible refine LeO.bind ?_ (fun _ => ?_))
   | exact ih0 _ _ _ _ _ _ _
   | exact ih1 _ _ _ _ _ _ _
   | exact spec_ImageFault.mono _ _ _ _ _ _
   | exact spec_Mix.mono _ _ _
   | exact spec_l13PutTable.mono _ _
   | exact LeO.none _
   | refine LeO.ite ?_ ?_
   | refine LeO.bind ?_ (fun _ => ?_)
theorem spec_PackImage.mono : ∀ a0 a1 a2 a3 a4 k, LeO (spec_PackImage.f k a0 a1 a2 a3 a4) (spec_PackImage.f (k + 1) a0 a1 a2 a3 a4) := by
 intro a0 a1 a2 a3 a4 k
 obtain ⟨ih0, ih1⟩ := spec_PackImage.mono_l k
 unfold spec_PackImage.f
 repeat' first
   | (with_reducible exact ih0 _ _ _ _ _ _ _)
   | (with_reducible exact ih1 _ _ _ _ _ _ _)
   | (with_reducible exact spec_ImageFault.mono _ _ _ _ _ _)
   | (with_reducible exact spec_Mix.mono _ _ _)
   | (with_reducible exact spec_l13PutTable.mono _ _)
   | (with_reducible exact LeO.refl _)
   | (with_reducible exact LeO.none _)
   | (with_reducible refine LeO.ite ?_ ?_)
   | (with_reducible refine LeO.bind ?_ (fun _ => ?_))
   | exact ih0 _ _ _ _ _ _ _
   | exact ih1 _ _ _ _ _ _ _
   | exact spec_ImageFault.mono _ _ _ _ _ _
   | exact spec_Mix.mono _ _ _
   | exact spec_l13PutTable.mono _ _
   | exact LeO.none _
   | refine LeO.ite ?_ ?_
   | refine LeO.bind ?_ (fun _ => ?_)
def spec_PackImage.T3 : Bool × List (List Nat × List Nat) := (true, [([], []), ([0], [0]), ([1], [1]), ([2], [2]), ([3], [3]), ([], []), ([5], [5]), ([6], [6]), ([7, 3], [7]), ([4, 8], [4, 8]), ([], []), ([10], [10]), ([11], [11]), ([12, 8], [12]), ([9, 13], [9, 13]), ([], []), ([15], [15]), ([16, 13], [16]), ([14, 17], [14, 17]), ([], []), ([19], [19]), ([20, 17], [20]), ([18, 21], [18, 21]), ([], []), ([23], [23]), ([24, 21], [24]), ([22, 25], [22, 25]), ([26, 25, 0, 1, 2, 3, 4, 5, 6, 7, 8, 9, 10, 11, 12, 13, 14, 15, 16, 17, 18, 19, 20, 21, 22, 23, 24, 25, 26], [26])])
def spec_PackImage.B3 : List Nat := [0, 1, 3, 7, 15, 0, 32, 96, 239, 511, 0, 1024, 3072, 7663, 16383, 0, 32768, 114159, 262143, 0, 524288, 1818095, 4194303, 0, 8388608, 29081071, 67108863, 134217727]
theorem spec_PackImage.tab3 : rtab .any (opsOf Try.f10 3) = spec_PackImage.T3 := by kernel_rfl
theorem spec_PackImage.bits3 : waitsOk spec_PackImage.T3.2 spec_PackImage.B3 = true := by kernel_rfl
def spec_PackImage.T11 : Bool × List (List Nat × List Nat) := (true, [([], []), ([], []), ([1], [1]), ([], []), ([2, 3], [2, 3]), ([4], [4]), ([5], [5]), ([6], [6]), ([0, 7], [0, 7]), ([], []), ([9], [9]), ([], []), ([10, 11], [10, 11]), ([12], [12]), ([13], [13]), ([14, 7], [14]), ([8, 15], [8, 15]), ([16, 15, 0, 1, 2, 3, 4, 5, 6, 7, 8, 9, 10, 11, 12, 13, 14, 15, 16], [0, 16])])
def spec_PackImage.B11 : List Nat := [0, 0, 2, 0, 14, 30, 62, 126, 255, 0, 512, 0, 3584, 7680, 15872, 32510, 65535, 131071]
theorem spec_PackImage.tab11 : rtab .any (opsOf Try.f10 11) = spec_PackImage.T11 := by kernel_rfl
theorem spec_PackImage.bits11 : waitsOk spec_PackImage.T11.2 spec_PackImage.B11 = true := by kernel_rfl
set_option maxHeartbeats 8000000 in
set_option maxRecDepth 100000 in
theorem spec_PackImage.calls (k : Nat) (a0_0 : ByteArray) (a0_1 : ByteArray) (A0_2 : Option Addr) (c0_2 : Nat) (l0_2 : List Int) (A0_3 : Option Addr) (c0_3 : Nat) (l0_3 : List ByteArray) (A0_4 : Option Addr) (c0_4 : Nat) (l0_4 : List (S42)) (r : ByteArray) (w : World) (hr0_2 : Kd.C (Kd.int .i64) w A0_2 l0_2.length l0_2) (hc0_2 : l0_2.length ≤ c0_2) (hr0_3 : Kd.C Kd.string w A0_3 l0_3.length l0_3) (hc0_3 : l0_3.length ≤ c0_3) (hr0_4 : Kd.C k42 w A0_4 l0_4.length l0_4) (hc0_4 : l0_4.length ≤ c0_4) (h : spec_PackImage.f k a0_0 a0_1 l0_2 l0_3 l0_4 = some r) :
  Calls Try.prog 10 #[.agg #[.string a0_0, .string a0_1, .slice A0_2 l0_2.length c0_2, .slice A0_3 l0_3.length c0_3, .slice A0_4 l0_4.length c0_4]] w fun e w' => e = .returned (.string r) ∧ Below w.heap.size w w' := by
 have hu31 := Try.underlying31
 have HR0_2 := Sq.l hr0_2
 have HC0_2 := Sq.l hc0_2
 clear hr0_2 hc0_2
 have HR0_3 := Sq.l hr0_3
 have HC0_3 := Sq.l hc0_3
 clear hr0_3 hc0_3
 have HR0_4 := Sq.l hr0_4
 have HC0_4 := Sq.l hc0_4
 clear hr0_4 hc0_4
 have HB := Sq.l (Below.refl w.heap.size w)
 have H : ((spec_ImageFault.f k a0_0 a0_1 l0_2 l0_3 l0_4).bind fun t196 => (if t196 = 0 then ((spec_PutWord.f (l0_2.length : Int)).bind fun t197 => (if 4 + t197.size ≤ 9223372036854775807 then ((spec_PutWord.f (l0_3.length : Int)).bind fun t198 => (if ((⟨#[73, 77, 71, 49]⟩ : ByteArray) ++ t197).size + t198.size ≤ 9223372036854775807 then ((spec_PutWord.f (l0_4.length : Int)).bind fun t199 => (if (((⟨#[73, 77, 71, 49]⟩ : ByteArray) ++ t197) ++ t198).size + t199.size ≤ 9223372036854775807 then ((spec_l13Short.f a0_0).bind fun t200 => (if ((((⟨#[73, 77, 71, 49]⟩ : ByteArray) ++ t197) ++ t198) ++ t199).size + t200.size ≤ 9223372036854775807 then ((spec_l13Short.f a0_1).bind fun t201 => (if (((((⟨#[73, 77, 71, 49]⟩ : ByteArray) ++ t197) ++ t198) ++ t199) ++ t200).size + t201.size ≤ 9223372036854775807 then ((spec_l13PutTable.f k l0_2).bind fun t202 => (if ((((((⟨#[73, 77, 71, 49]⟩ : ByteArray) ++ t197) ++ t198) ++ t199) ++ t200) ++ t201).size + t202.size ≤ 9223372036854775807 then (spec_PackImage.l0 k (((((((⟨#[73, 77, 71, 49]⟩ : ByteArray) ++ t197) ++ t198) ++ t199) ++ t200) ++ t201) ++ t202) 0 a0_0 a0_1 l0_2 l0_3 l0_4) else (none))) else (none))) else (none))) else (none))) else (none))) else (none))) else (some (⟨#[]⟩ : ByteArray)))) = some r := h
 clear h
 replace H := Option.bind_eq_some_iff.mp H
 obtain ⟨t196, A20, H⟩ := H
 (try dsimp only at H)
 have A2 := Sq.l A20
 clear A20
 by_cases c3 : t196 = 0
 ·rw [if_pos c3] at H
  have c3b0 : (t196 == 0) = true := beq_iff_eq.mpr c3
  have c3b1 : (t196 != 0) = false := bne_eq_false_iff_eq.mpr c3
  clear c3
  replace H := Option.bind_eq_some_iff.mp H
  obtain ⟨t197, A40, H⟩ := H
  (try dsimp only at H)
  have A4 := Sq.l A40
  clear A40
  by_cases c5 : 4 + t197.size ≤ 9223372036854775807
  ·rw [if_pos c5] at H
   have c5b0 := eq_true c5
   have c5b1 : decide (4 + t197.size ≤ 9223372036854775807) = true := decide_eq_true c5
   try have c5b2 : (9223372036854775807 < 4 + t197.size) = False := eq_false (Nat.not_lt.2 c5)
   replace H := Option.bind_eq_some_iff.mp H
   obtain ⟨t198, A60, H⟩ := H
   (try dsimp only at H)
   have A6 := Sq.l A60
   clear A60
   by_cases c7 : ((⟨#[73, 77, 71, 49]⟩ : ByteArray) ++ t197).size + t198.size ≤ 9223372036854775807
   ·rw [if_pos c7] at H
    have c7b0 := eq_true c7
    have c7b1 : decide (((⟨#[73, 77, 71, 49]⟩ : ByteArray) ++ t197).size + t198.size ≤ 9223372036854775807) = true := decide_eq_true c7
    try have c7b2 : (9223372036854775807 < ((⟨#[73, 77, 71, 49]⟩ : ByteArray) ++ t197).size + t198.size) = False := eq_false (Nat.not_lt.2 c7)
    (try (have c7b2n : (9223372036854775807 < 4 + t197.size + t198.size) = False := by have h_ := c7b2; (repeat rw [ByteArray.size_append] at h_); exact h_))
    replace H := Option.bind_eq_some_iff.mp H
    obtain ⟨t199, A80, H⟩ := H
    (try dsimp only at H)
    have A8 := Sq.l A80
    clear A80
    by_cases c9 : (((⟨#[73, 77, 71, 49]⟩ : ByteArray) ++ t197) ++ t198).size + t199.size ≤ 9223372036854775807
    ·rw [if_pos c9] at H
     have c9b0 := eq_true c9
     have c9b1 : decide ((((⟨#[73, 77, 71, 49]⟩ : ByteArray) ++ t197) ++ t198).size + t199.size ≤ 9223372036854775807) = true := decide_eq_true c9
     try have c9b2 : (9223372036854775807 < (((⟨#[73, 77, 71, 49]⟩ : ByteArray) ++ t197) ++ t198).size + t199.size) = False := eq_false (Nat.not_lt.2 c9)
     (try (have c9b2n : (9223372036854775807 < 4 + t197.size + t198.size + t199.size) = False := by have h_ := c9b2; (repeat rw [ByteArray.size_append] at h_); exact h_))
     replace H := Option.bind_eq_some_iff.mp H
     obtain ⟨t200, A100, H⟩ := H
     (try dsimp only at H)
     have A10 := Sq.l A100
     clear A100
     by_cases c11 : ((((⟨#[73, 77, 71, 49]⟩ : ByteArray) ++ t197) ++ t198) ++ t199).size + t200.size ≤ 9223372036854775807
     ·rw [if_pos c11] at H
      have c11b0 := eq_true c11
      have c11b1 : decide (((((⟨#[73, 77, 71, 49]⟩ : ByteArray) ++ t197) ++ t198) ++ t199).size + t200.size ≤ 9223372036854775807) = true := decide_eq_true c11
      try have c11b2 : (9223372036854775807 < ((((⟨#[73, 77, 71, 49]⟩ : ByteArray) ++ t197) ++ t198) ++ t199).size + t200.size) = False := eq_false (Nat.not_lt.2 c11)
      (try (have c11b2n : (9223372036854775807 < 4 + t197.size + t198.size + t199.size + t200.size) = False := by have h_ := c11b2; (repeat rw [ByteArray.size_append] at h_); exact h_))
      replace H := Option.bind_eq_some_iff.mp H
      obtain ⟨t201, A120, H⟩ := H
      (try dsimp only at H)
      have A12 := Sq.l A120
      clear A120
      by_cases c13 : (((((⟨#[73, 77, 71, 49]⟩ : ByteArray) ++ t197) ++ t198) ++ t199) ++ t200).size + t201.size ≤ 9223372036854775807
      ·rw [if_pos c13] at H
       have c13b0 := eq_true c13
       have c13b1 : decide ((((((⟨#[73, 77, 71, 49]⟩ : ByteArray) ++ t197) ++ t198) ++ t199) ++ t200).size + t201.size ≤ 9223372036854775807) = true := decide_eq_true c13
       try have c13b2 : (9223372036854775807 < (((((⟨#[73, 77, 71, 49]⟩ : ByteArray) ++ t197) ++ t198) ++ t199) ++ t200).size + t201.size) = False := eq_false (Nat.not_lt.2 c13)
       (try (have c13b2n : (9223372036854775807 < 4 + t197.size + t198.size + t199.size + t200.size + t201.size) = False := by have h_ := c13b2; (repeat rw [ByteArray.size_append] at h_); exact h_))
       replace H := Option.bind_eq_some_iff.mp H
       obtain ⟨t202, A140, H⟩ := H
       (try dsimp only at H)
       have A14 := Sq.l A140
       clear A140
       by_cases c15 : ((((((⟨#[73, 77, 71, 49]⟩ : ByteArray) ++ t197) ++ t198) ++ t199) ++ t200) ++ t201).size + t202.size ≤ 9223372036854775807
       ·rw [if_pos c15] at H
        have c15b0 := eq_true c15
        have c15b1 : decide (((((((⟨#[73, 77, 71, 49]⟩ : ByteArray) ++ t197) ++ t198) ++ t199) ++ t200) ++ t201).size + t202.size ≤ 9223372036854775807) = true := decide_eq_true c15
        try have c15b2 : (9223372036854775807 < ((((((⟨#[73, 77, 71, 49]⟩ : ByteArray) ++ t197) ++ t198) ++ t199) ++ t200) ++ t201).size + t202.size) = False := eq_false (Nat.not_lt.2 c15)
        (try (have c15b2n : (9223372036854775807 < 4 + t197.size + t198.size + t199.size + t200.size + t201.size + t202.size) = False := by have h_ := c15b2; (repeat rw [ByteArray.size_append] at h_); exact h_))
        have H' := Sq.l H
        clear H
        go_enter Try.func10, Try.ntmps10
        try go_wp2_with (first | ((with_reducible refine gate_dst (N := 1) rfl ?_); refine box_event ?hg (N := 1) ?hd (cs := #[.string a0_0, .string a0_1, .slice A0_2 l0_2.length c0_2, .slice A0_3 l0_3.length c0_3, .slice A0_4 l0_4.length c0_4]) (t := 31) ?hr ?_; (case hd => rfl); (case hg => rfl); (case hr => first | (go_simp; done) | (go_simp; rfl)); intro gb195 hg w16 hbox hb; have n0_ := Sq.l (Sq.a4 (by repeat (first | (with_reducible first | exact HB.out | apply Sq.i | apply Sq.j | apply Sq.k) | exact HB.out)) hb); have n1_ := Sq.l (hbox); have n2_ := Sq.l ((by rw [hg]; exact (Sq.a5 (by repeat (first | (with_reducible first | exact HB.out | apply Sq.i | apply Sq.j | apply Sq.k) | exact HB.out))) : w.heap.size ≤ gb195)); have n3_ := Sq.l ((by rw [hg]; exact (Sq.a5 (by repeat (first | (with_reducible first | exact HB.out | apply Sq.i | apply Sq.j | apply Sq.k) | exact HB.out))) : w.heap.size ≤ gb195)); clear HB; have HB := n0_; have BK195 := n1_; have GW195 := n2_; have GE195 := n3_; clear n0_ n1_ n2_ n3_; clear hb hbox hg; have hcz17_0 : w16.cell? ⟨gb195, 0, none⟩ = some (.string a0_0) := (Sq.o BK195.out 0).trans rfl; have hcz17_1 : w16.cell? ⟨gb195, 1, none⟩ = some (.string a0_1) := (Sq.o BK195.out 1).trans rfl; have hcz17_2 : w16.cell? ⟨gb195, 2, none⟩ = some (.slice A0_2 l0_2.length c0_2) := (Sq.o BK195.out 2).trans rfl; have hcz17_3 : w16.cell? ⟨gb195, 3, none⟩ = some (.slice A0_3 l0_3.length c0_3) := (Sq.o BK195.out 3).trans rfl; have hcz17_4 : w16.cell? ⟨gb195, 4, none⟩ = some (.slice A0_4 l0_4.length c0_4) := (Sq.o BK195.out 4).trans rfl; have hfz17_0 := Sq.r BK195.out 0; have hfz17_1 := Sq.r BK195.out 1; have hfz17_2 := Sq.r BK195.out 2; have hfz17_3 := Sq.r BK195.out 3; have hfz17_4 := Sq.r BK195.out 4) | ((with_reducible refine gate_callee (f := 6) rfl ?_); refine goesL_ (some 7) rfl rfl Try.func6 (by kernel_rfl) rfl #[.agg #[.string a0_0, .string a0_1, .slice A0_2 l0_2.length c0_2, .slice A0_3 l0_3.length c0_3, .slice A0_4 l0_4.length c0_4]] rfl (by (try simp only [List.map_toArray, List.map_cons, List.map_nil]); first | done | rfl | (simp only [List.length_drop, List.length_take]; rfl)) ?_; (with_reducible refine (spec_ImageFault.calls k a0_0 a0_1 _ _ l0_2 _ _ l0_3 _ _ l0_4 t196 _ ?side1 ?side2 ?side3 ?side4 ?side5 ?side6 A2.out).mono ?_); (case side1 => repeat (first | exact (Sq.a1 HR0_2.out HB.out) | (with_reducible refine Sq.s ?_ _) | (with_reducible refine Sq.t ?_ _) | (with_reducible refine Sq.u ?_))); (case side2 => exact HC0_2.out); (case side3 => repeat (first | exact (Sq.a1 HR0_3.out HB.out) | (with_reducible refine Sq.s ?_ _) | (with_reducible refine Sq.t ?_ _) | (with_reducible refine Sq.u ?_))); (case side4 => exact HC0_3.out); (case side5 => repeat (first | exact (Sq.a1 HR0_4.out HB.out) | (with_reducible refine Sq.s ?_ _) | (with_reducible refine Sq.t ?_ _) | (with_reducible refine Sq.u ?_))); (case side6 => exact HC0_4.out); rintro e w18 ⟨rfl, hb⟩; refine ⟨_, rfl, ?_⟩; have n0_ := Sq.l (Sq.m (g := gb195) (o := .cells #[.string a0_0, .string a0_1, .slice A0_2 l0_2.length c0_2, .slice A0_3 l0_3.length c0_3, .slice A0_4 l0_4.length c0_4] 31 (0, 0)) (by (with_reducible repeat (first | refine Sq.d ?_ _ | refine Sq.e ?_ | refine Sq.f ?_ _)); exact BK195.out) hb); have n1_ := Sq.l (Sq.a4 (by repeat (first | (with_reducible first | exact HB.out | apply Sq.i | apply Sq.j | apply Sq.k | refine Sq.h ?_ GE195.out) | exact HB.out)) hb); clear BK195; clear HB; have BK195 := n0_; have HB := n1_; clear n0_ n1_; (try clear hb); (try clear hb2); (try clear hk); (try clear hi)))
        have n0_ := Sq.l (Sq.e BK195.out)
        have n1_ := Sq.l (Sq.k HB.out)
        clear BK195 HB; have BK195 := n0_; have HB := n1_; clear n0_ n1_
        refine start_ (n := 28) (S := fun w' => w'.cell? ⟨gb195, 0, none⟩ = some (.string a0_0) ∧ w'.cell? ⟨gb195, 1, none⟩ = some (.string a0_1) ∧ w'.cell? ⟨gb195, 2, none⟩ = some (.slice A0_2 l0_2.length c0_2) ∧ w'.cell? ⟨gb195, 3, none⟩ = some (.slice A0_3 l0_3.length c0_3) ∧ w'.cell? ⟨gb195, 4, none⟩ = some (.slice A0_4 l0_4.length c0_4)) (ds := []) #[false, false, false, false, false, false, false, false, false, false, false, false, false, false, false, false, false, false, false, false, false, false, false, false, false, false, false, false] (by kernel_rfl) rfl rfl ⟨(Sq.o BK195.out 0).trans rfl, (Sq.o BK195.out 1).trans rfl, (Sq.o BK195.out 2).trans rfl, (Sq.o BK195.out 3).trans rfl, (Sq.o BK195.out 4).trans rfl⟩ (fun hHeld => ?_); refine with_tabW spec_PackImage.tab3 spec_PackImage.bits3 (fun HT_ HW_ => ?_)
        generalize w18.drew = w19 at BK195 HB hHeld ⊢
        refine pure_ (i := 0) (N := some 9) (v := ?_) (a' := ?_) #[true, false, false, false, false, false, false, false, false, false, false, false, false, false, false, false, false, false, false, false, false, false, false, false, false, false, false, false] rfl rfl (any_of HT_.out (by kernel_rfl)) (fun _ _ _ h => h) (Or.inl ⟨by rfl, ?_⟩) ?_ ?_
        rotate_left
        ·intro w'
         go_simp
         with_reducible rfl
        rotate_left
        ·simp only [Act.put, List.setIfInBounds_toArray, List.set_cons_zero, List.set_cons_succ, i64_w, i32_w]
         rfl
        refine pure_ (i := 5) (N := some 14) (v := ?_) (a' := ?_) #[true, false, false, false, false, true, false, false, false, false, false, false, false, false, false, false, false, false, false, false, false, false, false, false, false, false, false, false] rfl rfl (any_of HT_.out (by kernel_rfl)) (fun _ _ _ h => h) (Or.inl ⟨by rfl, ?_⟩) ?_ ?_
        rotate_left
        ·intro w'
         go_simp
         with_reducible rfl
        rotate_left
        ·simp only [Act.put, List.setIfInBounds_toArray, List.set_cons_zero, List.set_cons_succ, i64_w, i32_w]
         rfl
        refine pure_ (i := 10) (N := some 19) (v := ?_) (a' := ?_) #[true, false, false, false, false, true, false, false, false, false, true, false, false, false, false, false, false, false, false, false, false, false, false, false, false, false, false, false] rfl rfl (any_of HT_.out (by kernel_rfl)) (fun _ _ _ h => h) (Or.inl ⟨by rfl, ?_⟩) ?_ ?_
        rotate_left
        ·intro w'
         go_simp
         with_reducible rfl
        rotate_left
        ·simp only [Act.put, List.setIfInBounds_toArray, List.set_cons_zero, List.set_cons_succ, i64_w, i32_w]
         rfl
        refine pure_ (i := 15) (N := some 24) (v := ?_) (a' := ?_) #[true, false, false, false, false, true, false, false, false, false, true, false, false, false, false, true, false, false, false, false, false, false, false, false, false, false, false, false] rfl rfl (any_of HT_.out (by kernel_rfl)) (fun _ _ _ h => h) (Or.inl ⟨by rfl, ?_⟩) ?_ ?_
        rotate_left
        ·intro w'
         go_simp
         with_reducible rfl
        rotate_left
        ·simp only [Act.put, List.setIfInBounds_toArray, List.set_cons_zero, List.set_cons_succ, i64_w, i32_w]
         rfl
        refine pure_ (i := 19) (N := some 28) (v := ?_) (a' := ?_) #[true, false, false, false, false, true, false, false, false, false, true, false, false, false, false, true, false, false, false, true, false, false, false, false, false, false, false, false] rfl rfl (any_of HT_.out (by kernel_rfl)) (fun _ _ _ h => h) (Or.inl ⟨by rfl, ?_⟩) ?_ ?_
        rotate_left
        ·intro w'
         go_simp
         with_reducible rfl
        rotate_left
        ·simp only [Act.put, List.setIfInBounds_toArray, List.set_cons_zero, List.set_cons_succ, i64_w, i32_w]
         rfl
        refine pure_ (i := 23) (N := some 32) (v := ?_) (a' := ?_) #[true, false, false, false, false, true, false, false, false, false, true, false, false, false, false, true, false, false, false, true, false, false, false, true, false, false, false, false] rfl rfl (any_of HT_.out (by kernel_rfl)) (fun _ _ _ h => h) (Or.inl ⟨by rfl, ?_⟩) ?_ ?_
        rotate_left
        ·intro w'
         go_simp
         with_reducible rfl
        rotate_left
        ·simp only [Act.put, List.setIfInBounds_toArray, List.set_cons_zero, List.set_cons_succ, i64_w, i32_w]
         rfl
        refine take_ (i := 1) (N := some 10) (v := ?_) (a' := ?_) #[true, true, false, false, false, true, false, false, false, false, true, false, false, false, false, true, false, false, false, true, false, false, false, true, false, false, false, false] rfl rfl (take_ofW HT_.out HW_.out (by kernel_rfl)) (fun _ _ _ h => h) (Or.inl ⟨by rfl, ?_⟩) hHeld ?_ ?_
        rotate_left
        ·rintro w' ⟨s0, s1, s2, s3, s4⟩
         go_simp
         with_reducible rfl
        rotate_left
        ·simp only [Act.put, List.setIfInBounds_toArray, List.set_cons_zero, List.set_cons_succ, i64_w, i32_w]
         rfl
        refine pure_ (i := 2) (N := some 11) (v := ?_) (a' := ?_) #[true, true, true, false, false, true, false, false, false, false, true, false, false, false, false, true, false, false, false, true, false, false, false, true, false, false, false, false] rfl rfl (any_of HT_.out (by kernel_rfl)) (fun _ _ _ h => h) (Or.inl ⟨by rfl, ?_⟩) ?_ ?_
        rotate_left
        ·intro w'
         go_simp
         with_reducible rfl
        rotate_left
        ·simp only [Act.put, List.setIfInBounds_toArray, List.set_cons_zero, List.set_cons_succ, i64_w, i32_w]
         rfl
        refine take_ (i := 6) (N := some 15) (v := ?_) (a' := ?_) #[true, true, true, false, false, true, true, false, false, false, true, false, false, false, false, true, false, false, false, true, false, false, false, true, false, false, false, false] rfl rfl (take_ofW HT_.out HW_.out (by kernel_rfl)) (fun _ _ _ h => h) (Or.inl ⟨by rfl, ?_⟩) hHeld ?_ ?_
        rotate_left
        ·rintro w' ⟨s0, s1, s2, s3, s4⟩
         go_simp
         with_reducible rfl
        rotate_left
        ·simp only [Act.put, List.setIfInBounds_toArray, List.set_cons_zero, List.set_cons_succ, i64_w, i32_w]
         rfl
        refine pure_ (i := 7) (N := some 16) (v := ?_) (a' := ?_) #[true, true, true, false, false, true, true, true, false, false, true, false, false, false, false, true, false, false, false, true, false, false, false, true, false, false, false, false] rfl rfl (any_of HT_.out (by kernel_rfl)) (fun _ _ _ h => h) (Or.inl ⟨by rfl, ?_⟩) ?_ ?_
        rotate_left
        ·intro w'
         go_simp
         with_reducible rfl
        rotate_left
        ·simp only [Act.put, List.setIfInBounds_toArray, List.set_cons_zero, List.set_cons_succ, i64_w, i32_w]
         rfl
        refine take_ (i := 11) (N := some 20) (v := ?_) (a' := ?_) #[true, true, true, false, false, true, true, true, false, false, true, true, false, false, false, true, false, false, false, true, false, false, false, true, false, false, false, false] rfl rfl (take_ofW HT_.out HW_.out (by kernel_rfl)) (fun _ _ _ h => h) (Or.inl ⟨by rfl, ?_⟩) hHeld ?_ ?_
        rotate_left
        ·rintro w' ⟨s0, s1, s2, s3, s4⟩
         go_simp
         with_reducible rfl
        rotate_left
        ·simp only [Act.put, List.setIfInBounds_toArray, List.set_cons_zero, List.set_cons_succ, i64_w, i32_w]
         rfl
        refine pure_ (i := 12) (N := some 21) (v := ?_) (a' := ?_) #[true, true, true, false, false, true, true, true, false, false, true, true, true, false, false, true, false, false, false, true, false, false, false, true, false, false, false, false] rfl rfl (any_of HT_.out (by kernel_rfl)) (fun _ _ _ h => h) (Or.inl ⟨by rfl, ?_⟩) ?_ ?_
        rotate_left
        ·intro w'
         go_simp
         with_reducible rfl
        rotate_left
        ·simp only [Act.put, List.setIfInBounds_toArray, List.set_cons_zero, List.set_cons_succ, i64_w, i32_w]
         rfl
        refine take_ (i := 16) (N := some 25) (v := ?_) (a' := ?_) #[true, true, true, false, false, true, true, true, false, false, true, true, true, false, false, true, true, false, false, true, false, false, false, true, false, false, false, false] rfl rfl (take_ofW HT_.out HW_.out (by kernel_rfl)) (fun _ _ _ h => h) (Or.inl ⟨by rfl, ?_⟩) hHeld ?_ ?_
        rotate_left
        ·rintro w' ⟨s0, s1, s2, s3, s4⟩
         go_simp
         with_reducible rfl
        rotate_left
        ·simp only [Act.put, List.setIfInBounds_toArray, List.set_cons_zero, List.set_cons_succ, i64_w, i32_w]
         rfl
        refine take_ (i := 20) (N := some 29) (v := ?_) (a' := ?_) #[true, true, true, false, false, true, true, true, false, false, true, true, true, false, false, true, true, false, false, true, true, false, false, true, false, false, false, false] rfl rfl (take_ofW HT_.out HW_.out (by kernel_rfl)) (fun _ _ _ h => h) (Or.inl ⟨by rfl, ?_⟩) hHeld ?_ ?_
        rotate_left
        ·rintro w' ⟨s0, s1, s2, s3, s4⟩
         go_simp
         with_reducible rfl
        rotate_left
        ·simp only [Act.put, List.setIfInBounds_toArray, List.set_cons_zero, List.set_cons_succ, i64_w, i32_w]
         rfl
        refine take_ (i := 24) (N := some 33) (v := ?_) (a' := ?_) #[true, true, true, false, false, true, true, true, false, false, true, true, true, false, false, true, true, false, false, true, true, false, false, true, true, false, false, false] rfl rfl (take_ofW HT_.out HW_.out (by kernel_rfl)) (fun _ _ _ h => h) (Or.inl ⟨by rfl, ?_⟩) hHeld ?_ ?_
        rotate_left
        ·rintro w' ⟨s0, s1, s2, s3, s4⟩
         go_simp
         with_reducible rfl
        rotate_left
        ·simp only [Act.put, List.setIfInBounds_toArray, List.set_cons_zero, List.set_cons_succ, i64_w, i32_w]
         rfl
        refine one_ (i := 3) (N := some 12) #[true, true, true, true, false, true, true, true, false, false, true, true, true, false, false, true, true, false, false, true, true, false, false, true, true, false, false, false] rfl rfl (one_of HT_.out (by kernel_rfl)) (by decide) (fun K hK => ?_)
        refine goes_ Try.func29 (by kernel_rfl) rfl #[.int .i64 (l0_2.length : Int)] (by rfl) rfl rfl (by (try simp only [List.map_toArray, List.map_cons, List.map_nil]); first | done | rfl | (simp only [List.length_drop, List.length_take]; rfl)) ?_
        with_reducible refine (spec_PutWord.calls (l0_2.length : Int) t197 _ A4.out).mono ?_
        rintro e w20 ⟨rfl, hb⟩
        refine ⟨_, rfl, ?_⟩
        have n0_ := Sq.l (Sq.m (g := gb195) (o := .cells #[.string a0_0, .string a0_1, .slice A0_2 l0_2.length c0_2, .slice A0_3 l0_3.length c0_3, .slice A0_4 l0_4.length c0_4] 31 (0, 0)) (by (with_reducible repeat (first | refine Sq.d ?_ _ | refine Sq.e ?_ | refine Sq.f ?_ _)); exact BK195.out) hb)
        have n1_ := Sq.l (Sq.a4 (by repeat (first | (with_reducible first | exact HB.out | apply Sq.i | apply Sq.j | apply Sq.k | refine Sq.h ?_ GE195.out) | exact HB.out)) hb)
        clear BK195 HB; have BK195 := n0_; have HB := n1_; clear n0_ n1_; (try clear hb); (try clear hb2); (try clear hk); (try clear hi)
        refine hK.out _ _ ⟨(Sq.o BK195.out 0).trans rfl, (Sq.o BK195.out 1).trans rfl, (Sq.o BK195.out 2).trans rfl, (Sq.o BK195.out 3).trans rfl, (Sq.o BK195.out 4).trans rfl⟩ (fun hHeld => ?_)
        clear hK K
        refine norm_ (a' := ?_) ?_ ?_
        rotate_left
        ·show Act.put _ (some 12) _ = _
         simp only [Act.put, List.setIfInBounds_toArray, List.set_cons_zero, List.set_cons_succ, i64_w, i32_w]
         rfl
        refine pure_ (i := 4) (N := some 13) (v := ?_) (a' := ?_) #[true, true, true, true, true, true, true, true, false, false, true, true, true, false, false, true, true, false, false, true, true, false, false, true, true, false, false, false] rfl rfl (any_of HT_.out (by kernel_rfl)) (fun _ _ _ h => h) (Or.inl ⟨by rfl, ?_⟩) ?_ ?_
        rotate_left
        ·intro w'
         go_simp
         with_reducible rfl
        rotate_left
        ·simp only [Act.put, List.setIfInBounds_toArray, List.set_cons_zero, List.set_cons_succ, i64_w, i32_w]
         rfl
        refine one_ (i := 8) (N := some 17) #[true, true, true, true, true, true, true, true, true, false, true, true, true, false, false, true, true, false, false, true, true, false, false, true, true, false, false, false] rfl rfl (one_of HT_.out (by kernel_rfl)) (by decide) (fun K hK => ?_)
        refine goes_ Try.func29 (by kernel_rfl) rfl #[.int .i64 (l0_3.length : Int)] (by rfl) rfl rfl (by (try simp only [List.map_toArray, List.map_cons, List.map_nil]); first | done | rfl | (simp only [List.length_drop, List.length_take]; rfl)) ?_
        with_reducible refine (spec_PutWord.calls (l0_3.length : Int) t198 _ A6.out).mono ?_
        rintro e w21 ⟨rfl, hb⟩
        refine ⟨_, rfl, ?_⟩
        have n0_ := Sq.l (Sq.m (g := gb195) (o := .cells #[.string a0_0, .string a0_1, .slice A0_2 l0_2.length c0_2, .slice A0_3 l0_3.length c0_3, .slice A0_4 l0_4.length c0_4] 31 (0, 0)) (by (with_reducible repeat (first | refine Sq.d ?_ _ | refine Sq.e ?_ | refine Sq.f ?_ _)); exact BK195.out) hb)
        have n1_ := Sq.l (Sq.a4 (by repeat (first | (with_reducible first | exact HB.out | apply Sq.i | apply Sq.j | apply Sq.k | refine Sq.h ?_ GE195.out) | exact HB.out)) hb)
        clear BK195 HB; have BK195 := n0_; have HB := n1_; clear n0_ n1_; (try clear hb); (try clear hb2); (try clear hk); (try clear hi)
        refine hK.out _ _ ⟨(Sq.o BK195.out 0).trans rfl, (Sq.o BK195.out 1).trans rfl, (Sq.o BK195.out 2).trans rfl, (Sq.o BK195.out 3).trans rfl, (Sq.o BK195.out 4).trans rfl⟩ (fun hHeld => ?_)
        clear hK K
        refine norm_ (a' := ?_) ?_ ?_
        rotate_left
        ·show Act.put _ (some 17) _ = _
         simp only [Act.put, List.setIfInBounds_toArray, List.set_cons_zero, List.set_cons_succ, i64_w, i32_w]
         rfl
        refine pure_ (i := 9) (N := some 18) (v := ?_) (a' := ?_) #[true, true, true, true, true, true, true, true, true, true, true, true, true, false, false, true, true, false, false, true, true, false, false, true, true, false, false, false] rfl rfl (any_of HT_.out (by kernel_rfl)) (fun _ _ _ h => h) (Or.inl ⟨by rfl, ?_⟩) ?_ ?_
        rotate_left
        ·intro w'
         go_simp
         with_reducible rfl
        rotate_left
        ·simp only [Act.put, List.setIfInBounds_toArray, List.set_cons_zero, List.set_cons_succ, i64_w, i32_w]
         rfl
        refine one_ (i := 13) (N := some 22) #[true, true, true, true, true, true, true, true, true, true, true, true, true, true, false, true, true, false, false, true, true, false, false, true, true, false, false, false] rfl rfl (one_of HT_.out (by kernel_rfl)) (by decide) (fun K hK => ?_)
        refine goes_ Try.func29 (by kernel_rfl) rfl #[.int .i64 (l0_4.length : Int)] (by rfl) rfl rfl (by (try simp only [List.map_toArray, List.map_cons, List.map_nil]); first | done | rfl | (simp only [List.length_drop, List.length_take]; rfl)) ?_
        with_reducible refine (spec_PutWord.calls (l0_4.length : Int) t199 _ A8.out).mono ?_
        rintro e w22 ⟨rfl, hb⟩
        refine ⟨_, rfl, ?_⟩
        have n0_ := Sq.l (Sq.m (g := gb195) (o := .cells #[.string a0_0, .string a0_1, .slice A0_2 l0_2.length c0_2, .slice A0_3 l0_3.length c0_3, .slice A0_4 l0_4.length c0_4] 31 (0, 0)) (by (with_reducible repeat (first | refine Sq.d ?_ _ | refine Sq.e ?_ | refine Sq.f ?_ _)); exact BK195.out) hb)
        have n1_ := Sq.l (Sq.a4 (by repeat (first | (with_reducible first | exact HB.out | apply Sq.i | apply Sq.j | apply Sq.k | refine Sq.h ?_ GE195.out) | exact HB.out)) hb)
        clear BK195 HB; have BK195 := n0_; have HB := n1_; clear n0_ n1_; (try clear hb); (try clear hb2); (try clear hk); (try clear hi)
        refine hK.out _ _ ⟨(Sq.o BK195.out 0).trans rfl, (Sq.o BK195.out 1).trans rfl, (Sq.o BK195.out 2).trans rfl, (Sq.o BK195.out 3).trans rfl, (Sq.o BK195.out 4).trans rfl⟩ (fun hHeld => ?_)
        clear hK K
        refine norm_ (a' := ?_) ?_ ?_
        rotate_left
        ·show Act.put _ (some 22) _ = _
         simp only [Act.put, List.setIfInBounds_toArray, List.set_cons_zero, List.set_cons_succ, i64_w, i32_w]
         rfl
        refine pure_ (i := 14) (N := some 23) (v := ?_) (a' := ?_) #[true, true, true, true, true, true, true, true, true, true, true, true, true, true, true, true, true, false, false, true, true, false, false, true, true, false, false, false] rfl rfl (any_of HT_.out (by kernel_rfl)) (fun _ _ _ h => h) (Or.inl ⟨by rfl, ?_⟩) ?_ ?_
        rotate_left
        ·intro w'
         go_simp
         with_reducible rfl
        rotate_left
        ·simp only [Act.put, List.setIfInBounds_toArray, List.set_cons_zero, List.set_cons_succ, i64_w, i32_w]
         rfl
        refine one_ (i := 17) (N := some 26) #[true, true, true, true, true, true, true, true, true, true, true, true, true, true, true, true, true, true, false, true, true, false, false, true, true, false, false, false] rfl rfl (one_of HT_.out (by kernel_rfl)) (by decide) (fun K hK => ?_)
        refine goes_ Try.func30 (by kernel_rfl) rfl #[.string a0_0] (by rfl) rfl rfl (by (try simp only [List.map_toArray, List.map_cons, List.map_nil]); first | done | rfl | (simp only [List.length_drop, List.length_take]; rfl)) ?_
        with_reducible refine (spec_l13Short.calls a0_0 t200 _ A10.out).mono ?_
        rintro e w23 ⟨rfl, hb⟩
        refine ⟨_, rfl, ?_⟩
        have n0_ := Sq.l (Sq.m (g := gb195) (o := .cells #[.string a0_0, .string a0_1, .slice A0_2 l0_2.length c0_2, .slice A0_3 l0_3.length c0_3, .slice A0_4 l0_4.length c0_4] 31 (0, 0)) (by (with_reducible repeat (first | refine Sq.d ?_ _ | refine Sq.e ?_ | refine Sq.f ?_ _)); exact BK195.out) hb)
        have n1_ := Sq.l (Sq.a4 (by repeat (first | (with_reducible first | exact HB.out | apply Sq.i | apply Sq.j | apply Sq.k | refine Sq.h ?_ GE195.out) | exact HB.out)) hb)
        clear BK195 HB; have BK195 := n0_; have HB := n1_; clear n0_ n1_; (try clear hb); (try clear hb2); (try clear hk); (try clear hi)
        refine hK.out _ _ ⟨(Sq.o BK195.out 0).trans rfl, (Sq.o BK195.out 1).trans rfl, (Sq.o BK195.out 2).trans rfl, (Sq.o BK195.out 3).trans rfl, (Sq.o BK195.out 4).trans rfl⟩ (fun hHeld => ?_)
        clear hK K
        refine norm_ (a' := ?_) ?_ ?_
        rotate_left
        ·show Act.put _ (some 26) _ = _
         simp only [Act.put, List.setIfInBounds_toArray, List.set_cons_zero, List.set_cons_succ, i64_w, i32_w]
         rfl
        refine pure_ (i := 18) (N := some 27) (v := ?_) (a' := ?_) #[true, true, true, true, true, true, true, true, true, true, true, true, true, true, true, true, true, true, true, true, true, false, false, true, true, false, false, false] rfl rfl (any_of HT_.out (by kernel_rfl)) (fun _ _ _ h => h) (Or.inl ⟨by rfl, ?_⟩) ?_ ?_
        rotate_left
        ·intro w'
         go_simp
         with_reducible rfl
        rotate_left
        ·simp only [Act.put, List.setIfInBounds_toArray, List.set_cons_zero, List.set_cons_succ, i64_w, i32_w]
         rfl
        refine one_ (i := 21) (N := some 30) #[true, true, true, true, true, true, true, true, true, true, true, true, true, true, true, true, true, true, true, true, true, true, false, true, true, false, false, false] rfl rfl (one_of HT_.out (by kernel_rfl)) (by decide) (fun K hK => ?_)
        refine goes_ Try.func30 (by kernel_rfl) rfl #[.string a0_1] (by rfl) rfl rfl (by (try simp only [List.map_toArray, List.map_cons, List.map_nil]); first | done | rfl | (simp only [List.length_drop, List.length_take]; rfl)) ?_
        with_reducible refine (spec_l13Short.calls a0_1 t201 _ A12.out).mono ?_
        rintro e w24 ⟨rfl, hb⟩
        refine ⟨_, rfl, ?_⟩
        have n0_ := Sq.l (Sq.m (g := gb195) (o := .cells #[.string a0_0, .string a0_1, .slice A0_2 l0_2.length c0_2, .slice A0_3 l0_3.length c0_3, .slice A0_4 l0_4.length c0_4] 31 (0, 0)) (by (with_reducible repeat (first | refine Sq.d ?_ _ | refine Sq.e ?_ | refine Sq.f ?_ _)); exact BK195.out) hb)
        have n1_ := Sq.l (Sq.a4 (by repeat (first | (with_reducible first | exact HB.out | apply Sq.i | apply Sq.j | apply Sq.k | refine Sq.h ?_ GE195.out) | exact HB.out)) hb)
        clear BK195 HB; have BK195 := n0_; have HB := n1_; clear n0_ n1_; (try clear hb); (try clear hb2); (try clear hk); (try clear hi)
        refine hK.out _ _ ⟨(Sq.o BK195.out 0).trans rfl, (Sq.o BK195.out 1).trans rfl, (Sq.o BK195.out 2).trans rfl, (Sq.o BK195.out 3).trans rfl, (Sq.o BK195.out 4).trans rfl⟩ (fun hHeld => ?_)
        clear hK K
        refine norm_ (a' := ?_) ?_ ?_
        rotate_left
        ·show Act.put _ (some 30) _ = _
         simp only [Act.put, List.setIfInBounds_toArray, List.set_cons_zero, List.set_cons_succ, i64_w, i32_w]
         rfl
        refine pure_ (i := 22) (N := some 31) (v := ?_) (a' := ?_) #[true, true, true, true, true, true, true, true, true, true, true, true, true, true, true, true, true, true, true, true, true, true, true, true, true, false, false, false] rfl rfl (any_of HT_.out (by kernel_rfl)) (fun _ _ _ h => h) (Or.inl ⟨by rfl, ?_⟩) ?_ ?_
        rotate_left
        ·intro w'
         go_simp
         with_reducible rfl
        rotate_left
        ·simp only [Act.put, List.setIfInBounds_toArray, List.set_cons_zero, List.set_cons_succ, i64_w, i32_w]
         rfl
        refine one_ (i := 25) (N := some 34) #[true, true, true, true, true, true, true, true, true, true, true, true, true, true, true, true, true, true, true, true, true, true, true, true, true, true, false, false] rfl rfl (one_of HT_.out (by kernel_rfl)) (by decide) (fun K hK => ?_)
        refine goes_ Try.func31 (by kernel_rfl) rfl #[.slice A0_2 l0_2.length c0_2] (by rfl) rfl rfl (by (try simp only [List.map_toArray, List.map_cons, List.map_nil]); first | done | rfl | (simp only [List.length_drop, List.length_take]; rfl)) ?_
        with_reducible refine (spec_l13PutTable.calls k _ _ l0_2 t202 _ ?side1 ?side2 A14.out).mono ?_
        (case side1 => repeat (first | exact (Sq.a1 HR0_2.out HB.out) | (with_reducible refine Sq.s ?_ _) | (with_reducible refine Sq.t ?_ _) | (with_reducible refine Sq.u ?_)))
        (case side2 => exact HC0_2.out)
        rintro e w25 ⟨rfl, hb⟩
        refine ⟨_, rfl, ?_⟩
        have n0_ := Sq.l (Sq.m (g := gb195) (o := .cells #[.string a0_0, .string a0_1, .slice A0_2 l0_2.length c0_2, .slice A0_3 l0_3.length c0_3, .slice A0_4 l0_4.length c0_4] 31 (0, 0)) (by (with_reducible repeat (first | refine Sq.d ?_ _ | refine Sq.e ?_ | refine Sq.f ?_ _)); exact BK195.out) hb)
        have n1_ := Sq.l (Sq.a4 (by repeat (first | (with_reducible first | exact HB.out | apply Sq.i | apply Sq.j | apply Sq.k | refine Sq.h ?_ GE195.out) | exact HB.out)) hb)
        clear BK195 HB; have BK195 := n0_; have HB := n1_; clear n0_ n1_; (try clear hb); (try clear hb2); (try clear hk); (try clear hi)
        refine hK.out _ _ ⟨(Sq.o BK195.out 0).trans rfl, (Sq.o BK195.out 1).trans rfl, (Sq.o BK195.out 2).trans rfl, (Sq.o BK195.out 3).trans rfl, (Sq.o BK195.out 4).trans rfl⟩ (fun hHeld => ?_)
        clear hK K
        refine norm_ (a' := ?_) ?_ ?_
        rotate_left
        ·show Act.put _ (some 34) _ = _
         simp only [Act.put, List.setIfInBounds_toArray, List.set_cons_zero, List.set_cons_succ, i64_w, i32_w]
         rfl
        refine pure_ (i := 26) (N := some 35) (v := ?_) (a' := ?_) #[true, true, true, true, true, true, true, true, true, true, true, true, true, true, true, true, true, true, true, true, true, true, true, true, true, true, true, false] rfl rfl (any_of HT_.out (by kernel_rfl)) (fun _ _ _ h => h) (Or.inl ⟨by rfl, ?_⟩) ?_ ?_
        rotate_left
        ·intro w'
         go_simp
         with_reducible rfl
        rotate_left
        ·simp only [Act.put, List.setIfInBounds_toArray, List.set_cons_zero, List.set_cons_succ, i64_w, i32_w]
         rfl
        refine pure_ (i := 27) (N := some 3) (v := ?_) (a' := ?_) #[true, true, true, true, true, true, true, true, true, true, true, true, true, true, true, true, true, true, true, true, true, true, true, true, true, true, true, true] rfl rfl (any_of HT_.out (by kernel_rfl)) (fun _ _ _ h => h) (Or.inl ⟨by rfl, ?_⟩) ?_ ?_
        rotate_left
        ·intro w'
         go_simp
         with_reducible rfl
        rotate_left
        ·simp only [Act.put, List.setIfInBounds_toArray, List.set_cons_zero, List.set_cons_succ, i64_w, i32_w]
         rfl
        refine done_ (done_of HT_.out (by kernel_rfl)) ?_
        try go_wp2
        go_loopg [3, 4] k (fun kq v3 v4 w' => ∃ (x3_1 : ByteArray) (x4_1 : Int), v3 = .string x3_1 ∧ v4 = .int .i64 x4_1 ∧ Aside0 (spec_PackImage.l0 kq x3_1 x4_1 a0_0 a0_1 l0_2 l0_3 l0_4 = some r) ∧ Aside0 (kq ≤ k) ∧ Aside0 (w'.heap[gb195]? = some (.cells #[.string a0_0, .string a0_1, (.slice A0_2 l0_2.length c0_2), (.slice A0_3 l0_3.length c0_3), (.slice A0_4 l0_4.length c0_4)] 31 (0, 0))) ∧ Aside0 (Below w.heap.size w w'))
        case atStart => exact ⟨(((((((⟨#[73, 77, 71, 49]⟩ : ByteArray) ++ t197) ++ t198) ++ t199) ++ t200) ++ t201) ++ t202), (0), (by first | rfl | (simp; done) | (simp [*]; done)), (by first | rfl | (simp; done) | (simp [*]; done)), H', ⟨Nat.le_refl _⟩, ⟨by (with_reducible repeat (first | refine Sq.d ?_ _ | refine Sq.e ?_ | refine Sq.f ?_ _)); exact BK195.out⟩, ⟨by repeat (first | (with_reducible first | exact HB.out | apply Sq.i | apply Sq.j | apply Sq.k | refine Sq.h ?_ GE195.out) | exact HB.out)⟩⟩
        case round =>
         clear H'
         try clear c1; try clear c2; try clear p2; try clear c3; try clear c3b0; try clear c3b1; try clear c5; try clear c5b0; try clear c5b1; try clear c5b2; try clear c6; try clear c7; try clear c7b0; try clear c7b1; try clear c7b2; try clear c9; try clear c9b0; try clear c9b1; try clear c9b2; try clear c10; try clear c11; try clear c11b0; try clear c11b1; try clear c11b2; try clear c13; try clear c13b0; try clear c13b1; try clear c13b2; try clear c15; try clear c15b0; try clear c15b1; try clear c15b2; try clear hcz17_0; try clear hcz17_1; try clear hcz17_2; try clear hcz17_3; try clear hcz17_4; try clear hfz17_0; try clear hfz17_1; try clear hfz17_2; try clear hfz17_3; try clear hfz17_4
         obtain ⟨x3_1, x4_1, rfl, rfl, HA, HK1, BK195, HB⟩ := hrel
         cases gk with
         | zero => exact absurd HA.out (by simp [spec_PackImage.l0])
         | succ k1 =>
          have H := HA.out
          clear HA
          simp only [spec_PackImage.l0] at H
          by_cases c26 : x4_1 < (l0_3.length : Int)
          ·rw [if_pos c26] at H
           have c26b0 : decide (x4_1 < (l0_3.length : Int)) = true := decide_eq_true c26
           clear c26
           by_cases c27 : 0 ≤ x4_1
           ·rw [if_pos c27] at H
            have c27b0 : decide (0 ≤ x4_1) = true := decide_eq_true c27
            clear c27
            by_cases c28 : x3_1.size + (rdOf ByteArray.empty l0_3 x4_1).size ≤ 9223372036854775807
            ·rw [if_pos c28] at H
             have c28b0 := eq_true c28
             have c28b1 : decide (x3_1.size + (rdOf ByteArray.empty l0_3 x4_1).size ≤ 9223372036854775807) = true := decide_eq_true c28
             try have c28b2 : (9223372036854775807 < x3_1.size + (rdOf ByteArray.empty l0_3 x4_1).size) = False := eq_false (Nat.not_lt.2 c28)
             have H' := Sq.l H
             clear H
             have hcz29_0 : wr.cell? ⟨gb195, 0, none⟩ = some (.string a0_0) := (Sq.o BK195.out 0).trans rfl
             have hcz29_1 : wr.cell? ⟨gb195, 1, none⟩ = some (.string a0_1) := (Sq.o BK195.out 1).trans rfl
             have hcz29_2 : wr.cell? ⟨gb195, 2, none⟩ = some (.slice A0_2 l0_2.length c0_2) := (Sq.o BK195.out 2).trans rfl
             have hcz29_3 : wr.cell? ⟨gb195, 3, none⟩ = some (.slice A0_3 l0_3.length c0_3) := (Sq.o BK195.out 3).trans rfl
             have hcz29_4 : wr.cell? ⟨gb195, 4, none⟩ = some (.slice A0_4 l0_4.length c0_4) := (Sq.o BK195.out 4).trans rfl
             have hfz29_0 := Sq.r BK195.out 0
             have hfz29_1 := Sq.r BK195.out 1
             have hfz29_2 := Sq.r BK195.out 2
             have hfz29_3 := Sq.r BK195.out 3
             have hfz29_4 := Sq.r BK195.out 4
             have p203 : 0 ≤ (x4_1 : Int) := of_decide_eq_true (by first | (with_reducible assumption) | assumption)
             have q203 : x4_1 < (l0_3.length : Int) := of_decide_eq_true (by first | (with_reducible assumption) | assumption)
             obtain ⟨ad203, e203, hx203_0⟩ := Kd.at_string HR0_3.out x4_1 p203 q203
             cases e203
             replace hx203_0 := (HB.out.cell (World.block_lt_of_cell? w _ hx203_0)).trans hx203_0
             replace p203 := eq_true p203; replace q203 := eq_true q203
             go_wp2
             go_roundg k1
             case measure => have := HK1.out; omega
             case rel => exact ⟨(x3_1 ++ (rdOf ByteArray.empty l0_3 x4_1)), (wrap64 (x4_1 + 1)), (by first | rfl | (simp; done) | (simp [*]; done)), (by first | rfl | (simp; done) | (simp [*]; done)), H', ⟨by have := HK1.out; omega⟩, ⟨by (with_reducible repeat (first | refine Sq.d ?_ _ | refine Sq.e ?_ | refine Sq.f ?_ _)); exact BK195.out⟩, ⟨by repeat (first | (with_reducible first | exact HB.out | apply Sq.i | apply Sq.j | apply Sq.k | refine Sq.h ?_ GE195.out) | exact HB.out)⟩⟩
            ·rw [if_neg c28] at H
             exact absurd H (by simp)
           ·rw [if_neg c27] at H
            exact absurd H (by simp)
          ·rw [if_neg c26] at H
           have c26b0 : decide (x4_1 < (l0_3.length : Int)) = false := decide_eq_false c26
           clear c26
           have H' := Sq.l H
           clear H
           have hcz30_0 : wr.cell? ⟨gb195, 0, none⟩ = some (.string a0_0) := (Sq.o BK195.out 0).trans rfl
           have hcz30_1 : wr.cell? ⟨gb195, 1, none⟩ = some (.string a0_1) := (Sq.o BK195.out 1).trans rfl
           have hcz30_2 : wr.cell? ⟨gb195, 2, none⟩ = some (.slice A0_2 l0_2.length c0_2) := (Sq.o BK195.out 2).trans rfl
           have hcz30_3 : wr.cell? ⟨gb195, 3, none⟩ = some (.slice A0_3 l0_3.length c0_3) := (Sq.o BK195.out 3).trans rfl
           have hcz30_4 : wr.cell? ⟨gb195, 4, none⟩ = some (.slice A0_4 l0_4.length c0_4) := (Sq.o BK195.out 4).trans rfl
           have hfz30_0 := Sq.r BK195.out 0
           have hfz30_1 := Sq.r BK195.out 1
           have hfz30_2 := Sq.r BK195.out 2
           have hfz30_3 := Sq.r BK195.out 3
           have hfz30_4 := Sq.r BK195.out 4
           go_wp2
           go_loopg [3, 5] k1 (fun kq v3 v5 w' => ∃ (x3_2 : ByteArray) (x5_2 : Int), v3 = .string x3_2 ∧ v5 = .int .i64 x5_2 ∧ Aside0 (spec_PackImage.l1 kq x3_2 x5_2 a0_0 a0_1 l0_2 l0_3 l0_4 = some r) ∧ Aside0 (kq ≤ k1) ∧ Aside0 (w'.heap[gb195]? = some (.cells #[.string a0_0, .string a0_1, (.slice A0_2 l0_2.length c0_2), (.slice A0_3 l0_3.length c0_3), (.slice A0_4 l0_4.length c0_4)] 31 (0, 0))) ∧ Aside0 (Below w.heap.size w w'))
           case atStart => exact ⟨(x3_1), (0), (by first | rfl | (simp; done) | (simp [*]; done)), (by first | rfl | (simp; done) | (simp [*]; done)), H', ⟨Nat.le_refl _⟩, ⟨by (with_reducible repeat (first | refine Sq.d ?_ _ | refine Sq.e ?_ | refine Sq.f ?_ _)); exact BK195.out⟩, ⟨by repeat (first | (with_reducible first | exact HB.out | apply Sq.i | apply Sq.j | apply Sq.k | refine Sq.h ?_ GE195.out) | exact HB.out)⟩⟩
           case round =>
            clear H'
            try clear c1; try clear c2; try clear p2; try clear q2; try clear hx2; try clear c3; try clear c3b0; try clear c3b1; try clear c5; try clear c5b0; try clear c5b1; try clear c5b2; try clear c6; try clear p6; try clear c7; try clear c7b0; try clear c7b1; try clear c7b2; try clear c9; try clear c9b0; try clear c9b1; try clear c9b2; try clear c10; try clear c11; try clear c11b0; try clear c11b1; try clear c11b2; try clear c13; try clear c13b0; try clear c13b1; try clear c13b2; try clear c15; try clear c15b0; try clear c15b1; try clear c15b2; try clear p20; try clear q20; try clear hx20; try clear c26; try clear c26b0; try clear c27; try clear c27b0; try clear c28; try clear c28b0; try clear c28b1; try clear c28b2; try clear c29; try clear c30; try clear hcz17_0; try clear hcz17_1; try clear hcz17_2; try clear hcz17_3; try clear hcz17_4; try clear hcz29_0; try clear hcz29_1; try clear hcz29_2; try clear hcz29_3; try clear hcz29_4; try clear hcz30_0; try clear hcz30_1; try clear hcz30_2; try clear hcz30_3; try clear hcz30_4; try clear hfz17_0; try clear hfz17_1; try clear hfz17_2; try clear hfz17_3; try clear hfz17_4; try clear hfz29_0; try clear hfz29_1; try clear hfz29_2; try clear hfz29_3; try clear hfz29_4; try clear hfz30_0; try clear hfz30_1; try clear hfz30_2; try clear hfz30_3; try clear hfz30_4; try clear hx203_0; try clear p2; try clear p203; try clear q203
            obtain ⟨x3_2, x5_2, rfl, rfl, HA, HK2, BK195, HB⟩ := hrel
            cases gk with
            | zero => exact absurd HA.out (by simp [spec_PackImage.l1])
            | succ k2 =>
             have H := HA.out
             clear HA
             simp only [spec_PackImage.l1] at H
             by_cases c31 : x5_2 < (l0_4.length : Int)
             ·rw [if_pos c31] at H
              have c31b0 : decide (x5_2 < (l0_4.length : Int)) = true := decide_eq_true c31
              clear c31
              by_cases c32 : 0 ≤ x5_2
              ·rw [if_pos c32] at H
               have c32b0 : decide (0 ≤ x5_2) = true := decide_eq_true c32
               clear c32
               replace H := Option.bind_eq_some_iff.mp H
               obtain ⟨t205, A330, H⟩ := H
               (try dsimp only at H)
               have A33 := Sq.l A330
               clear A330
               by_cases c34 : x3_2.size + t205.size ≤ 9223372036854775807
               ·rw [if_pos c34] at H
                have c34b0 := eq_true c34
                have c34b1 : decide (x3_2.size + t205.size ≤ 9223372036854775807) = true := decide_eq_true c34
                try have c34b2 : (9223372036854775807 < x3_2.size + t205.size) = False := eq_false (Nat.not_lt.2 c34)
                replace H := Option.bind_eq_some_iff.mp H
                obtain ⟨t207, A350, H⟩ := H
                (try dsimp only at H)
                have A35 := Sq.l A350
                clear A350
                by_cases c36 : (x3_2 ++ t205).size + t207.size ≤ 9223372036854775807
                ·rw [if_pos c36] at H
                 have c36b0 := eq_true c36
                 have c36b1 : decide ((x3_2 ++ t205).size + t207.size ≤ 9223372036854775807) = true := decide_eq_true c36
                 try have c36b2 : (9223372036854775807 < (x3_2 ++ t205).size + t207.size) = False := eq_false (Nat.not_lt.2 c36)
                 (try (have c36b2n : (9223372036854775807 < x3_2.size + t205.size + t207.size) = False := by have h_ := c36b2; (repeat rw [ByteArray.size_append] at h_); exact h_))
                 have H' := Sq.l H
                 clear H
                 have hcz37_0 : wr.cell? ⟨gb195, 0, none⟩ = some (.string a0_0) := (Sq.o BK195.out 0).trans rfl
                 have hcz37_1 : wr.cell? ⟨gb195, 1, none⟩ = some (.string a0_1) := (Sq.o BK195.out 1).trans rfl
                 have hcz37_2 : wr.cell? ⟨gb195, 2, none⟩ = some (.slice A0_2 l0_2.length c0_2) := (Sq.o BK195.out 2).trans rfl
                 have hcz37_3 : wr.cell? ⟨gb195, 3, none⟩ = some (.slice A0_3 l0_3.length c0_3) := (Sq.o BK195.out 3).trans rfl
                 have hcz37_4 : wr.cell? ⟨gb195, 4, none⟩ = some (.slice A0_4 l0_4.length c0_4) := (Sq.o BK195.out 4).trans rfl
                 have hfz37_0 := Sq.r BK195.out 0
                 have hfz37_1 := Sq.r BK195.out 1
                 have hfz37_2 := Sq.r BK195.out 2
                 have hfz37_3 := Sq.r BK195.out 3
                 have hfz37_4 := Sq.r BK195.out 4
                 try go_wp2
                 have n0_ := Sq.l (Sq.e BK195.out)
                 have n1_ := Sq.l (Sq.k HB.out)
                 clear BK195 HB; have BK195 := n0_; have HB := n1_; clear n0_ n1_
                 have p204 : 0 ≤ (x5_2 : Int) := of_decide_eq_true (by first | (with_reducible assumption) | assumption)
                 have q204 : x5_2 < (l0_4.length : Int) := of_decide_eq_true (by first | (with_reducible assumption) | assumption)
                 obtain ⟨ad204, A204_1, c204_1, e204, hx204_0, hx204_1, hl204_1, hi204_1⟩ := at_T42 HR0_4.out x5_2 p204 q204
                 have hw204_1 := hx204_1
                 have hw204_0 := hx204_0
                 cases e204
                 replace hx204_0 := (HB.out.cell (World.block_lt_of_cell? w _ hx204_0)).trans hx204_0
                 replace hx204_1 := (HB.out.cell (World.block_lt_of_cell? w _ hx204_1)).trans hx204_1
                 have HR204_1 := Sq.l hi204_1
                 have HC204_1 := Sq.l hl204_1
                 clear hi204_1 hl204_1; replace p204 := eq_true p204; replace q204 := eq_true q204
                 have p206 : 0 ≤ (x5_2 : Int) := of_decide_eq_true (by first | (with_reducible assumption) | assumption)
                 have q206 : x5_2 < (l0_4.length : Int) := of_decide_eq_true (by first | (with_reducible assumption) | assumption)
                 obtain ⟨ad206, A206_1, c206_1, e206, hx206_0, hx206_1, hl206_1, hi206_1⟩ := at_T42 HR0_4.out x5_2 p206 q206
                 have hw206_1 := hx206_1
                 have hw206_0 := hx206_0
                 obtain rfl : ad204 = ad206 := (by injection e206)
                 replace hx206_0 := (HB.out.cell (World.block_lt_of_cell? w _ hx206_0)).trans hx206_0
                 replace hx206_1 := (HB.out.cell (World.block_lt_of_cell? w _ hx206_1)).trans hx206_1
                 have HR206_1 := Sq.l hi206_1
                 have HC206_1 := Sq.l hl206_1
                 clear hi206_1 hl206_1; replace p206 := eq_true p206; replace q206 := eq_true q206
                 have ea_ := Option.some.inj (hx204_1.symm.trans hx206_1)
                 injection ea_ with ea_ en_ ec_
                 subst ea_
                 subst ec_
                 clear en_
                 refine start_ (n := 18) (S := fun w' => w'.cell? ⟨gb195, 0, none⟩ = some (.string a0_0) ∧ w'.cell? ⟨gb195, 1, none⟩ = some (.string a0_1) ∧ w'.cell? ⟨gb195, 2, none⟩ = some (.slice A0_2 l0_2.length c0_2) ∧ w'.cell? ⟨gb195, 3, none⟩ = some (.slice A0_3 l0_3.length c0_3) ∧ w'.cell? ⟨gb195, 4, none⟩ = some (.slice (some ad204) l0_4.length c0_4) ∧ w'.cell? (ad204.add ((x5_2).toNat * 2)) = some (.string ((rd_T42 l0_4 x5_2).f0)) ∧ w'.cell? ⟨(ad204.add ((x5_2).toNat * 2)).block, (ad204.add ((x5_2).toNat * 2)).off + 1, none⟩ = some (.slice A204_1 ((rd_T42 l0_4 x5_2).f1).length c204_1) ∧ w'.cell? (ad204.add ((x5_2).toNat * 2)) = some (.string ((rd_T42 l0_4 x5_2).f0)) ∧ w'.cell? ⟨(ad204.add ((x5_2).toNat * 2)).block, (ad204.add ((x5_2).toNat * 2)).off + 1, none⟩ = some (.slice A204_1 ((rd_T42 l0_4 x5_2).f1).length c204_1)) (ds := []) #[false, false, false, false, false, false, false, false, false, false, false, false, false, false, false, false, false, false] (by kernel_rfl) rfl rfl ⟨(Sq.o BK195.out 0).trans rfl, (Sq.o BK195.out 1).trans rfl, (Sq.o BK195.out 2).trans rfl, (Sq.o BK195.out 3).trans rfl, (Sq.o BK195.out 4).trans rfl, ((HB.out.cell (World.block_lt_of_cell? w _ hw204_0)).trans hw204_0), ((HB.out.cell (World.block_lt_of_cell? w _ hw204_1)).trans hw204_1), ((HB.out.cell (World.block_lt_of_cell? w _ hw206_0)).trans hw206_0), ((HB.out.cell (World.block_lt_of_cell? w _ hw206_1)).trans hw206_1)⟩ (fun hHeld => ?_); refine with_tabW spec_PackImage.tab11 spec_PackImage.bits11 (fun HT_ HW_ => ?_)
                 generalize wr.drew = w38 at BK195 HB HR204_1 HR206_1 hx204_0 hx204_1 hx206_0 hx206_1 hHeld ⊢
                 refine pure_ (i := 0) (N := some 57) (v := ?_) (a' := ?_) #[true, false, false, false, false, false, false, false, false, false, false, false, false, false, false, false, false, false] rfl rfl (any_of HT_.out (by kernel_rfl)) (fun _ _ _ h => h) (Or.inl ⟨by rfl, ?_⟩) ?_ ?_
                 rotate_left
                 ·intro w'
                  go_simp
                  with_reducible rfl
                 rotate_left
                 ·simp only [Act.put, List.setIfInBounds_toArray, List.set_cons_zero, List.set_cons_succ, i64_w, i32_w]
                  rfl
                 refine pure_ (i := 1) (N := some 58) (v := ?_) (a' := ?_) #[true, true, false, false, false, false, false, false, false, false, false, false, false, false, false, false, false, false] rfl rfl (any_of HT_.out (by kernel_rfl)) (fun _ _ _ h => h) (Or.inl ⟨by rfl, ?_⟩) ?_ ?_
                 rotate_left
                 ·intro w'
                  go_simp
                  with_reducible rfl
                 rotate_left
                 ·simp only [Act.put, List.setIfInBounds_toArray, List.set_cons_zero, List.set_cons_succ, i64_w, i32_w]
                  rfl
                 refine pure_ (i := 3) (N := some 60) (v := ?_) (a' := ?_) #[true, true, false, true, false, false, false, false, false, false, false, false, false, false, false, false, false, false] rfl rfl (any_of HT_.out (by kernel_rfl)) (fun _ _ _ h => h) (Or.inl ⟨by rfl, ?_⟩) ?_ ?_
                 rotate_left
                 ·intro w'
                  go_simp
                  with_reducible rfl
                 rotate_left
                 ·simp only [Act.put, List.setIfInBounds_toArray, List.set_cons_zero, List.set_cons_succ, i64_w, i32_w]
                  rfl
                 refine pure_ (i := 9) (N := some 66) (v := ?_) (a' := ?_) #[true, true, false, true, false, false, false, false, false, true, false, false, false, false, false, false, false, false] rfl rfl (any_of HT_.out (by kernel_rfl)) (fun _ _ _ h => h) (Or.inl ⟨by rfl, ?_⟩) ?_ ?_
                 rotate_left
                 ·intro w'
                  go_simp
                  with_reducible rfl
                 rotate_left
                 ·simp only [Act.put, List.setIfInBounds_toArray, List.set_cons_zero, List.set_cons_succ, i64_w, i32_w]
                  rfl
                 refine pure_ (i := 11) (N := some 68) (v := ?_) (a' := ?_) #[true, true, false, true, false, false, false, false, false, true, false, true, false, false, false, false, false, false] rfl rfl (any_of HT_.out (by kernel_rfl)) (fun _ _ _ h => h) (Or.inl ⟨by rfl, ?_⟩) ?_ ?_
                 rotate_left
                 ·intro w'
                  go_simp
                  with_reducible rfl
                 rotate_left
                 ·simp only [Act.put, List.setIfInBounds_toArray, List.set_cons_zero, List.set_cons_succ, i64_w, i32_w]
                  rfl
                 refine take_ (i := 2) (N := some 59) (v := ?_) (a' := ?_) #[true, true, true, true, false, false, false, false, false, true, false, true, false, false, false, false, false, false] rfl rfl (take_ofW HT_.out HW_.out (by kernel_rfl)) (fun _ _ _ h => h) (Or.inl ⟨by rfl, ?_⟩) hHeld ?_ ?_
                 rotate_left
                 ·rintro w' ⟨s0, s1, s2, s3, s4, s5, s6, s7, s8⟩
                  go_simp
                  with_reducible rfl
                 rotate_left
                 ·simp only [Act.put, List.setIfInBounds_toArray, List.set_cons_zero, List.set_cons_succ, i64_w, i32_w]
                  rfl
                 refine pure_ (i := 4) (N := some 61) (v := ?_) (a' := ?_) #[true, true, true, true, true, false, false, false, false, true, false, true, false, false, false, false, false, false] rfl rfl (any_of HT_.out (by kernel_rfl)) (fun _ _ _ h => h) (Or.inl ⟨by rfl, ?_⟩) ?_ ?_
                 rotate_left
                 ·intro w'
                  go_simp
                  with_reducible rfl
                 rotate_left
                 ·simp only [Act.put, List.setIfInBounds_toArray, List.set_cons_zero, List.set_cons_succ, i64_w, i32_w]
                  rfl
                 refine pure_ (i := 5) (N := some 62) (v := ?_) (a' := ?_) #[true, true, true, true, true, true, false, false, false, true, false, true, false, false, false, false, false, false] rfl rfl (any_of HT_.out (by kernel_rfl)) (fun _ _ _ h => h) (Or.inl ⟨by rfl, ?_⟩) ?_ ?_
                 rotate_left
                 ·intro w'
                  go_simp
                  with_reducible rfl
                 rotate_left
                 ·simp only [Act.put, List.setIfInBounds_toArray, List.set_cons_zero, List.set_cons_succ, i64_w, i32_w]
                  rfl
                 refine take_ (i := 6) (N := some 63) (v := ?_) (a' := ?_) #[true, true, true, true, true, true, true, false, false, true, false, true, false, false, false, false, false, false] rfl rfl (take_ofW HT_.out HW_.out (by kernel_rfl)) (fun _ _ _ h => h) (Or.inl ⟨by rfl, ?_⟩) hHeld ?_ ?_
                 rotate_left
                 ·rintro w' ⟨s0, s1, s2, s3, s4, s5, s6, s7, s8⟩
                  go_simp
                  with_reducible rfl
                 rotate_left
                 ·simp only [Act.put, List.setIfInBounds_toArray, List.set_cons_zero, List.set_cons_succ, i64_w, i32_w]
                  rfl
                 refine take_ (i := 10) (N := some 67) (v := ?_) (a' := ?_) #[true, true, true, true, true, true, true, false, false, true, true, true, false, false, false, false, false, false] rfl rfl (take_ofW HT_.out HW_.out (by kernel_rfl)) (fun _ _ _ h => h) (Or.inl ⟨by rfl, ?_⟩) hHeld ?_ ?_
                 rotate_left
                 ·rintro w' ⟨s0, s1, s2, s3, s4, s5, s6, s7, s8⟩
                  go_simp
                  with_reducible rfl
                 rotate_left
                 ·simp only [Act.put, List.setIfInBounds_toArray, List.set_cons_zero, List.set_cons_succ, i64_w, i32_w]
                  rfl
                 refine pure_ (i := 12) (N := some 69) (v := ?_) (a' := ?_) #[true, true, true, true, true, true, true, false, false, true, true, true, true, false, false, false, false, false] rfl rfl (any_of HT_.out (by kernel_rfl)) (fun _ _ _ h => h) (Or.inl ⟨by rfl, ?_⟩) ?_ ?_
                 rotate_left
                 ·intro w'
                  go_simp
                  with_reducible rfl
                 rotate_left
                 ·simp only [Act.put, List.setIfInBounds_toArray, List.set_cons_zero, List.set_cons_succ, i64_w, i32_w]
                  rfl
                 refine pure_ (i := 13) (N := some 70) (v := ?_) (a' := ?_) #[true, true, true, true, true, true, true, false, false, true, true, true, true, true, false, false, false, false] rfl rfl (any_of HT_.out (by kernel_rfl)) (fun _ _ _ h => h) (Or.inl ⟨by rfl, ?_⟩) ?_ ?_
                 rotate_left
                 ·intro w'
                  go_simp
                  with_reducible rfl
                 rotate_left
                 ·simp only [Act.put, List.setIfInBounds_toArray, List.set_cons_zero, List.set_cons_succ, i64_w, i32_w]
                  rfl
                 refine take_ (i := 14) (N := some 71) (v := ?_) (a' := ?_) #[true, true, true, true, true, true, true, false, false, true, true, true, true, true, true, false, false, false] rfl rfl (take_ofW HT_.out HW_.out (by kernel_rfl)) (fun _ _ _ h => h) (Or.inl ⟨by rfl, ?_⟩) hHeld ?_ ?_
                 rotate_left
                 ·rintro w' ⟨s0, s1, s2, s3, s4, s5, s6, s7, s8⟩
                  go_simp
                  with_reducible rfl
                 rotate_left
                 ·simp only [Act.put, List.setIfInBounds_toArray, List.set_cons_zero, List.set_cons_succ, i64_w, i32_w]
                  rfl
                 refine one_ (i := 7) (N := some 64) #[true, true, true, true, true, true, true, true, false, true, true, true, true, true, true, false, false, false] rfl rfl (one_of HT_.out (by kernel_rfl)) (by decide) (fun K hK => ?_)
                 refine goes_ Try.func30 (by kernel_rfl) rfl #[.string ((rd_T42 l0_4 x5_2).f0)] (by rfl) rfl rfl (by (try simp only [List.map_toArray, List.map_cons, List.map_nil]); first | done | rfl | (simp only [List.length_drop, List.length_take]; rfl)) ?_
                 with_reducible refine (spec_l13Short.calls ((rd_T42 l0_4 x5_2).f0) t205 _ A33.out).mono ?_
                 rintro e w39 ⟨rfl, hb⟩
                 refine ⟨_, rfl, ?_⟩
                 have n0_ := Sq.l (Sq.m (g := gb195) (o := .cells #[.string a0_0, .string a0_1, .slice A0_2 l0_2.length c0_2, .slice A0_3 l0_3.length c0_3, .slice (some ad204) l0_4.length c0_4] 31 (0, 0)) (by (with_reducible repeat (first | refine Sq.d ?_ _ | refine Sq.e ?_ | refine Sq.f ?_ _)); exact BK195.out) hb)
                 have n1_ := Sq.l (Sq.a4 (by repeat (first | (with_reducible first | exact HB.out | apply Sq.i | apply Sq.j | apply Sq.k | refine Sq.h ?_ GE195.out) | exact HB.out)) hb)
                 clear BK195 HB; have BK195 := n0_; have HB := n1_; clear n0_ n1_; (try clear hb); (try clear hb2); (try clear hk); (try clear hi)
                 refine hK.out _ _ ⟨(Sq.o BK195.out 0).trans rfl, (Sq.o BK195.out 1).trans rfl, (Sq.o BK195.out 2).trans rfl, (Sq.o BK195.out 3).trans rfl, (Sq.o BK195.out 4).trans rfl, ((HB.out.cell (World.block_lt_of_cell? w _ hw204_0)).trans hw204_0), ((HB.out.cell (World.block_lt_of_cell? w _ hw204_1)).trans hw204_1), ((HB.out.cell (World.block_lt_of_cell? w _ hw206_0)).trans hw206_0), ((HB.out.cell (World.block_lt_of_cell? w _ hw206_1)).trans hw206_1)⟩ (fun hHeld => ?_)
                 clear hK K
                 refine norm_ (a' := ?_) ?_ ?_
                 rotate_left
                 ·show Act.put _ (some 64) _ = _
                  simp only [Act.put, List.setIfInBounds_toArray, List.set_cons_zero, List.set_cons_succ, i64_w, i32_w]
                  rfl
                 refine pure_ (i := 8) (N := some 65) (v := ?_) (a' := ?_) #[true, true, true, true, true, true, true, true, true, true, true, true, true, true, true, false, false, false] rfl rfl (any_of HT_.out (by kernel_rfl)) (fun _ _ _ h => h) (Or.inl ⟨by rfl, ?_⟩) ?_ ?_
                 rotate_left
                 ·intro w'
                  go_simp
                  with_reducible rfl
                 rotate_left
                 ·simp only [Act.put, List.setIfInBounds_toArray, List.set_cons_zero, List.set_cons_succ, i64_w, i32_w]
                  rfl
                 refine one_ (i := 15) (N := some 72) #[true, true, true, true, true, true, true, true, true, true, true, true, true, true, true, true, false, false] rfl rfl (one_of HT_.out (by kernel_rfl)) (by decide) (fun K hK => ?_)
                 refine goes_ Try.func31 (by kernel_rfl) rfl #[.slice A204_1 ((rd_T42 l0_4 x5_2).f1).length c204_1] (by rfl) rfl rfl (by (try simp only [List.map_toArray, List.map_cons, List.map_nil]); first | done | rfl | (simp only [List.length_drop, List.length_take]; rfl)) ?_
                 with_reducible refine (spec_l13PutTable.calls k2 _ _ ((rd_T42 l0_4 x5_2).f1) t207 _ ?side1 ?side2 A35.out).mono ?_
                 (case side1 => repeat (first | exact (Sq.a1 HR206_1.out HB.out) | (with_reducible refine Sq.s ?_ _) | (with_reducible refine Sq.t ?_ _) | (with_reducible refine Sq.u ?_)))
                 (case side2 => exact HC206_1.out)
                 rintro e w40 ⟨rfl, hb⟩
                 refine ⟨_, rfl, ?_⟩
                 have n0_ := Sq.l (Sq.m (g := gb195) (o := .cells #[.string a0_0, .string a0_1, .slice A0_2 l0_2.length c0_2, .slice A0_3 l0_3.length c0_3, .slice (some ad204) l0_4.length c0_4] 31 (0, 0)) (by (with_reducible repeat (first | refine Sq.d ?_ _ | refine Sq.e ?_ | refine Sq.f ?_ _)); exact BK195.out) hb)
                 have n1_ := Sq.l (Sq.a4 (by repeat (first | (with_reducible first | exact HB.out | apply Sq.i | apply Sq.j | apply Sq.k | refine Sq.h ?_ GE195.out) | exact HB.out)) hb)
                 clear BK195 HB; have BK195 := n0_; have HB := n1_; clear n0_ n1_; (try clear hb); (try clear hb2); (try clear hk); (try clear hi)
                 refine hK.out _ _ ⟨(Sq.o BK195.out 0).trans rfl, (Sq.o BK195.out 1).trans rfl, (Sq.o BK195.out 2).trans rfl, (Sq.o BK195.out 3).trans rfl, (Sq.o BK195.out 4).trans rfl, ((HB.out.cell (World.block_lt_of_cell? w _ hw204_0)).trans hw204_0), ((HB.out.cell (World.block_lt_of_cell? w _ hw204_1)).trans hw204_1), ((HB.out.cell (World.block_lt_of_cell? w _ hw206_0)).trans hw206_0), ((HB.out.cell (World.block_lt_of_cell? w _ hw206_1)).trans hw206_1)⟩ (fun hHeld => ?_)
                 clear hK K
                 refine norm_ (a' := ?_) ?_ ?_
                 rotate_left
                 ·show Act.put _ (some 72) _ = _
                  simp only [Act.put, List.setIfInBounds_toArray, List.set_cons_zero, List.set_cons_succ, i64_w, i32_w]
                  rfl
                 refine pure_ (i := 16) (N := some 73) (v := ?_) (a' := ?_) #[true, true, true, true, true, true, true, true, true, true, true, true, true, true, true, true, true, false] rfl rfl (any_of HT_.out (by kernel_rfl)) (fun _ _ _ h => h) (Or.inl ⟨by rfl, ?_⟩) ?_ ?_
                 rotate_left
                 ·intro w'
                  go_simp
                  with_reducible rfl
                 rotate_left
                 ·simp only [Act.put, List.setIfInBounds_toArray, List.set_cons_zero, List.set_cons_succ, i64_w, i32_w]
                  rfl
                 refine pure_ (i := 17) (N := some 3) (v := ?_) (a' := ?_) #[true, true, true, true, true, true, true, true, true, true, true, true, true, true, true, true, true, true] rfl rfl (any_of HT_.out (by kernel_rfl)) (fun _ _ _ h => h) (Or.inl ⟨by rfl, ?_⟩) ?_ ?_
                 rotate_left
                 ·intro w'
                  go_simp
                  with_reducible rfl
                 rotate_left
                 ·simp only [Act.put, List.setIfInBounds_toArray, List.set_cons_zero, List.set_cons_succ, i64_w, i32_w]
                  rfl
                 refine done_ (done_of HT_.out (by kernel_rfl)) ?_
                 try go_wp2
                 go_roundg k2
                 case measure => have := HK1.out; have := HK2.out; omega
                 case rel => exact ⟨((x3_2 ++ t205) ++ t207), (wrap64 (x5_2 + 1)), (by first | rfl | (simp; done) | (simp [*]; done)), (by first | rfl | (simp; done) | (simp [*]; done)), H', ⟨by have := HK1.out; have := HK2.out; omega⟩, ⟨by (with_reducible repeat (first | refine Sq.d ?_ _ | refine Sq.e ?_ | refine Sq.f ?_ _)); exact BK195.out⟩, ⟨by repeat (first | (with_reducible first | exact HB.out | apply Sq.i | apply Sq.j | apply Sq.k | refine Sq.h ?_ GE195.out) | exact HB.out)⟩⟩
                ·rw [if_neg c36] at H
                 exact absurd H (by simp)
               ·rw [if_neg c34] at H
                exact absurd H (by simp)
              ·rw [if_neg c32] at H
               exact absurd H (by simp)
             ·rw [if_neg c31] at H
              have c31b0 : decide (x5_2 < (l0_4.length : Int)) = false := decide_eq_false c31
              clear c31
              replace H := Option.bind_eq_some_iff.mp H
              obtain ⟨t208, A410, H⟩ := H
              (try dsimp only at H)
              have A41 := Sq.l A410
              clear A410
              replace H := Option.bind_eq_some_iff.mp H
              obtain ⟨t209, A420, H⟩ := H
              (try dsimp only at H)
              have A42 := Sq.l A420
              clear A420
              by_cases c43 : x3_2.size + t209.size ≤ 9223372036854775807
              ·rw [if_pos c43] at H
               have c43b0 := eq_true c43
               have c43b1 : decide (x3_2.size + t209.size ≤ 9223372036854775807) = true := decide_eq_true c43
               try have c43b2 : (9223372036854775807 < x3_2.size + t209.size) = False := eq_false (Nat.not_lt.2 c43)
               obtain rfl := Option.some.inj H
               have hcz44_0 : wr.cell? ⟨gb195, 0, none⟩ = some (.string a0_0) := (Sq.o BK195.out 0).trans rfl
               have hcz44_1 : wr.cell? ⟨gb195, 1, none⟩ = some (.string a0_1) := (Sq.o BK195.out 1).trans rfl
               have hcz44_2 : wr.cell? ⟨gb195, 2, none⟩ = some (.slice A0_2 l0_2.length c0_2) := (Sq.o BK195.out 2).trans rfl
               have hcz44_3 : wr.cell? ⟨gb195, 3, none⟩ = some (.slice A0_3 l0_3.length c0_3) := (Sq.o BK195.out 3).trans rfl
               have hcz44_4 : wr.cell? ⟨gb195, 4, none⟩ = some (.slice A0_4 l0_4.length c0_4) := (Sq.o BK195.out 4).trans rfl
               have hfz44_0 := Sq.r BK195.out 0
               have hfz44_1 := Sq.r BK195.out 1
               have hfz44_2 := Sq.r BK195.out 2
               have hfz44_3 := Sq.r BK195.out 3
               have hfz44_4 := Sq.r BK195.out 4
               go_wp2_with (first | ((with_reducible refine gate_callee (f := 32) rfl ?_); refine goesL_ (some 76) rfl rfl Try.func32 (by kernel_rfl) rfl #[.string x3_2, .int .i64 7] rfl (by (try simp only [List.map_toArray, List.map_cons, List.map_nil]); first | done | rfl | (simp only [List.length_drop, List.length_take]; rfl)) ?_; (with_reducible refine (spec_Mix.calls k2 x3_2 7 t208 _ A41.out).mono ?_); rintro e w' ⟨rfl, ⟨nd, rfl⟩⟩; refine ⟨_, rfl, ?_⟩) | ((with_reducible refine gate_callee (f := 29) rfl ?_); refine goesL_ (some 77) rfl rfl Try.func29 (by kernel_rfl) rfl #[.int .i64 t208] rfl (by (try simp only [List.map_toArray, List.map_cons, List.map_nil]); first | done | rfl | (simp only [List.length_drop, List.length_take]; rfl)) ?_; (with_reducible refine (spec_PutWord.calls t208 t209 _ A42.out).mono ?_); rintro e w45 ⟨rfl, hb⟩; refine ⟨_, rfl, ?_⟩; have n0_ := Sq.l (Sq.m (g := gb195) (o := .cells #[.string a0_0, .string a0_1, .slice A0_2 l0_2.length c0_2, .slice A0_3 l0_3.length c0_3, .slice A0_4 l0_4.length c0_4] 31 (0, 0)) (by (with_reducible repeat (first | refine Sq.d ?_ _ | refine Sq.e ?_ | refine Sq.f ?_ _)); exact BK195.out) hb); have n1_ := Sq.l (Sq.a4 (by repeat (first | (with_reducible first | exact HB.out | apply Sq.i | apply Sq.j | apply Sq.k | refine Sq.h ?_ GE195.out) | exact HB.out)) hb); clear BK195; clear HB; have BK195 := n0_; have HB := n1_; clear n0_ n1_; (try clear hb); (try clear hb2); (try clear hk); (try clear hi)))
               go_ret
               exact ⟨by first | rfl | (simp [errW_none, errW_some] <;> rfl) | (simp [*, errW_none, errW_some] <;> rfl), by repeat (first | (with_reducible first | exact HB.out | apply Sq.i | apply Sq.j | apply Sq.k | refine Sq.h ?_ GE195.out) | exact HB.out)⟩
              ·rw [if_neg c43] at H
               exact absurd H (by simp)
       ·rw [if_neg c15] at H
        exact absurd H (by simp)
      ·rw [if_neg c13] at H
       exact absurd H (by simp)
     ·rw [if_neg c11] at H
      exact absurd H (by simp)
    ·rw [if_neg c9] at H
     exact absurd H (by simp)
   ·rw [if_neg c7] at H
    exact absurd H (by simp)
  ·rw [if_neg c5] at H
   exact absurd H (by simp)
 ·rw [if_neg c3] at H
  have c3b0 : (t196 == 0) = false := beq_eq_false_iff_ne.mpr c3
  have c3b1 : (t196 != 0) = true := bne_iff_ne.mpr c3
  obtain rfl := Option.some.inj H
  go_enter Try.func10, Try.ntmps10
  go_wp2_with (first | ((with_reducible refine gate_dst (N := 1) rfl ?_); refine box_event ?hg (N := 1) ?hd (cs := #[.string a0_0, .string a0_1, .slice A0_2 l0_2.length c0_2, .slice A0_3 l0_3.length c0_3, .slice A0_4 l0_4.length c0_4]) (t := 31) ?hr ?_; (case hd => rfl); (case hg => rfl); (case hr => first | (go_simp; done) | (go_simp; rfl)); intro gb195 hg w46 hbox hb; have n0_ := Sq.l (Sq.a4 (by repeat (first | (with_reducible first | exact HB.out | apply Sq.i | apply Sq.j | apply Sq.k) | exact HB.out)) hb); have n1_ := Sq.l (hbox); have n2_ := Sq.l ((by rw [hg]; exact (Sq.a5 (by repeat (first | (with_reducible first | exact HB.out | apply Sq.i | apply Sq.j | apply Sq.k) | exact HB.out))) : w.heap.size ≤ gb195)); have n3_ := Sq.l ((by rw [hg]; exact (Sq.a5 (by repeat (first | (with_reducible first | exact HB.out | apply Sq.i | apply Sq.j | apply Sq.k) | exact HB.out))) : w.heap.size ≤ gb195)); clear HB; have HB := n0_; have BK195 := n1_; have GW195 := n2_; have GE195 := n3_; clear n0_ n1_ n2_ n3_; clear hb hbox hg; have hcz47_0 : w46.cell? ⟨gb195, 0, none⟩ = some (.string a0_0) := (Sq.o BK195.out 0).trans rfl; have hcz47_1 : w46.cell? ⟨gb195, 1, none⟩ = some (.string a0_1) := (Sq.o BK195.out 1).trans rfl; have hcz47_2 : w46.cell? ⟨gb195, 2, none⟩ = some (.slice A0_2 l0_2.length c0_2) := (Sq.o BK195.out 2).trans rfl; have hcz47_3 : w46.cell? ⟨gb195, 3, none⟩ = some (.slice A0_3 l0_3.length c0_3) := (Sq.o BK195.out 3).trans rfl; have hcz47_4 : w46.cell? ⟨gb195, 4, none⟩ = some (.slice A0_4 l0_4.length c0_4) := (Sq.o BK195.out 4).trans rfl; have hfz47_0 := Sq.r BK195.out 0; have hfz47_1 := Sq.r BK195.out 1; have hfz47_2 := Sq.r BK195.out 2; have hfz47_3 := Sq.r BK195.out 3; have hfz47_4 := Sq.r BK195.out 4) | ((with_reducible refine gate_callee (f := 6) rfl ?_); refine goesL_ (some 7) rfl rfl Try.func6 (by kernel_rfl) rfl #[.agg #[.string a0_0, .string a0_1, .slice A0_2 l0_2.length c0_2, .slice A0_3 l0_3.length c0_3, .slice A0_4 l0_4.length c0_4]] rfl (by (try simp only [List.map_toArray, List.map_cons, List.map_nil]); first | done | rfl | (simp only [List.length_drop, List.length_take]; rfl)) ?_; (with_reducible refine (spec_ImageFault.calls k a0_0 a0_1 _ _ l0_2 _ _ l0_3 _ _ l0_4 t196 _ ?side1 ?side2 ?side3 ?side4 ?side5 ?side6 A2.out).mono ?_); (case side1 => repeat (first | exact (Sq.a1 HR0_2.out HB.out) | (with_reducible refine Sq.s ?_ _) | (with_reducible refine Sq.t ?_ _) | (with_reducible refine Sq.u ?_))); (case side2 => exact HC0_2.out); (case side3 => repeat (first | exact (Sq.a1 HR0_3.out HB.out) | (with_reducible refine Sq.s ?_ _) | (with_reducible refine Sq.t ?_ _) | (with_reducible refine Sq.u ?_))); (case side4 => exact HC0_3.out); (case side5 => repeat (first | exact (Sq.a1 HR0_4.out HB.out) | (with_reducible refine Sq.s ?_ _) | (with_reducible refine Sq.t ?_ _) | (with_reducible refine Sq.u ?_))); (case side6 => exact HC0_4.out); rintro e w48 ⟨rfl, hb⟩; refine ⟨_, rfl, ?_⟩; have n0_ := Sq.l (Sq.m (g := gb195) (o := .cells #[.string a0_0, .string a0_1, .slice A0_2 l0_2.length c0_2, .slice A0_3 l0_3.length c0_3, .slice A0_4 l0_4.length c0_4] 31 (0, 0)) (by (with_reducible repeat (first | refine Sq.d ?_ _ | refine Sq.e ?_ | refine Sq.f ?_ _)); exact BK195.out) hb); have n1_ := Sq.l (Sq.a4 (by repeat (first | (with_reducible first | exact HB.out | apply Sq.i | apply Sq.j | apply Sq.k | refine Sq.h ?_ GE195.out) | exact HB.out)) hb); clear BK195; clear HB; have BK195 := n0_; have HB := n1_; clear n0_ n1_; (try clear hb); (try clear hb2); (try clear hk); (try clear hi)))
  go_ret
  exact ⟨by first | rfl | (simp [errW_none, errW_some] <;> rfl) | (simp [*, errW_none, errW_some] <;> rfl), by repeat (first | (with_reducible first | exact HB.out | apply Sq.i | apply Sq.j | apply Sq.k | refine Sq.h ?_ GE195.out) | exact HB.out)⟩

end Go.Proofs.Ytoifdnnjdohfmaa.QFnExactPackImage
