-- Written for this claim by this session's own driver (wip/xprint.py).
import Derived.Test.YtjpgelnhmcblmaaQFnExactMachineFaultx0
import Derived.Test.YtjpgelnhmcblmaaQFnExactMachineFaultx4
namespace Go.Proofs.Ytjpgelnhmcblmaa.QFnExactMachineFault
open Go.RowKit Go.Proofs.YtjpgelnhmcblmaaW.PrintWords Go.Proofs.YtjpgelnhmcblmaaW.PrintLast Go.Proofs.YtjpgelnhmcblmaaW.PrintMore
attribute [local go_sem] max2_int min2_int max_two min_two max_three min_three max_four min_four   -- for this text's walks alone
set_option linter.unusedVariables false
set_option linter.unusedSimpArgs false

/-! ### impl_MachineFault: function 57 -/
def inB (a lo hi : Int) : Bool := decide (lo ≤ a) && decide (a ≤ hi)
theorem yin_eq (a lo hi : Int) : impl_yin.f a lo hi = some (inB a lo hi) := by
  unfold impl_yin.f inB
  by_cases h : a ≥ lo
  · rw [if_pos h, decide_eq_true h]; rfl
  · rw [if_neg h, decide_eq_false h]; rfl
def wordB (x : Int) : Bool := decide (0 ≤ x) && decide (x < 4294967296)
theorem yword_eq (x : Int) : impl_yisWord.f x = some (wordB x) := by
  unfold impl_yisWord.f wordB
  by_cases h : x ≥ 0
  · rw [if_pos h, decide_eq_true h]; rfl
  · rw [if_neg h, decide_eq_false h]; rfl
def memB (s : ByteArray) : Bool := decide (256 ≤ (s.size : Int)) && (decide ((s.size : Int) ≤ 65536) && (((s.size : Int) % 256) == 0))
theorem ymem_eq (s : ByteArray) : impl_ymemOk.f s = some (memB s) := by
  unfold impl_ymemOk.f memB
  by_cases h : (s.size : Int) ≥ 256
  · rw [if_pos h, decide_eq_true h]
    by_cases h2 : (s.size : Int) ≤ 65536
    · rw [if_pos h2, decide_eq_true h2]; rfl
    · rw [if_neg h2, decide_eq_false h2]; rfl
  · rw [if_neg h, decide_eq_false h]; rfl
def wordsB (l : List Int) (n : Int) : Bool := decide ((l.length : Int) = n) && !(l.any wordBad)
theorem ywords_eq (l : List Int) (n : Int) : impl_ywordsOk.f l n = some (wordsB l n) := by
  unfold impl_ywordsOk.f wordsB
  by_cases h : (l.length : Int) = n
  · rw [if_pos h, decide_eq_true h]; rfl
  · rw [if_neg h, decide_eq_false h]; rfl
theorem wordsB_len {l : List Int} {n : Int} (h : wordsB l n = true) : (l.length : Int) = n := by
  unfold wordsB at h
  rw [Bool.and_eq_true] at h
  exact of_decide_eq_true h.1
def portsB (l : List (S184)) : Bool := decide ((l.length : Int) ≤ 100) && !(l.any portsOkBad)
theorem yports_eq (l : List (S184)) : impl_yportsOk.f l = some (portsB l) := by
  unfold impl_yportsOk.f portsB
  by_cases h : (l.length : Int) ≤ 100
  · rw [if_pos h, decide_eq_true h]; rfl
  · rw [if_neg h, decide_eq_false h]; rfl
def impl_MachineFault.f (a0_0 : Int) (l0_1 : List Int) (a0_2 : Int) (l0_3 : List Int) (l0_4 : List Int) (a0_5 : ByteArray) (a0_6 : Int) (a0_7 : Int) (a0_8 : Int) (l0_9 : List (S184)) (l0_10 : List (S184)) (a0_11 : Int) : Option (Int) := if (memB a0_5 && (wordB a0_0 && (wordsB l0_1 16 && ((rd l0_1 0 == 0) && (wordsB l0_3 12 && (wordsB l0_4 16 && (inB a0_2 0 1 && (inB a0_6 0 2 && (inB a0_7 0 1099511627776 && (inB a0_8 0 127 && (portsB l0_9 && (portsB l0_10 && (inB a0_11 0 2147483628 && (decide (rd l0_3 0 < 32) && ((rd l0_3 8 == 0) && ((rd l0_3 9 == 0) && ((rd l0_3 11 == 0)))))))))))))))))) = true then some 0 else some 1
set_option maxHeartbeats 64000000 in
set_option maxRecDepth 200000 in
theorem impl_MachineFault.calls (a0_0 : Int) (A0_1 : Option Addr) (c0_1 : Nat) (l0_1 : List Int) (a0_2 : Int) (A0_3 : Option Addr) (c0_3 : Nat) (l0_3 : List Int) (A0_4 : Option Addr) (c0_4 : Nat) (l0_4 : List Int) (a0_5 : ByteArray) (a0_6 : Int) (a0_7 : Int) (a0_8 : Int) (A0_9 : Option Addr) (c0_9 : Nat) (l0_9 : List (S184)) (A0_10 : Option Addr) (c0_10 : Nat) (l0_10 : List (S184)) (a0_11 : Int) (r : Int) (w : World) (hr0_1 : Kd.C (Kd.int .i64) w A0_1 l0_1.length l0_1) (hc0_1 : l0_1.length ≤ c0_1) (hr0_3 : Kd.C (Kd.int .i64) w A0_3 l0_3.length l0_3) (hc0_3 : l0_3.length ≤ c0_3) (hr0_4 : Kd.C (Kd.int .i64) w A0_4 l0_4.length l0_4) (hc0_4 : l0_4.length ≤ c0_4) (hr0_9 : Kd.C k184 w A0_9 l0_9.length l0_9) (hc0_9 : l0_9.length ≤ c0_9) (hr0_10 : Kd.C k184 w A0_10 l0_10.length l0_10) (hc0_10 : l0_10.length ≤ c0_10) (h : impl_MachineFault.f a0_0 l0_1 a0_2 l0_3 l0_4 a0_5 a0_6 a0_7 a0_8 l0_9 l0_10 a0_11 = some r) :
    Calls Try.prog 57 #[.agg #[.int .i64 a0_0, .slice A0_1 l0_1.length c0_1, .int .i64 a0_2, .slice A0_3 l0_3.length c0_3, .slice A0_4 l0_4.length c0_4, .string a0_5, .int .i64 a0_6, .int .i64 a0_7, .int .i64 a0_8, .slice A0_9 l0_9.length c0_9, .slice A0_10 l0_10.length c0_10, .int .i64 a0_11]] w fun e w' => e = .returned (.int .i64 r) ∧ Below w.heap.size w w' := by
  unfold impl_MachineFault.f at h
  have HR1 := Aside0.mk hr0_1
  have HC1 := Aside0.mk hc0_1
  clear hr0_1 hc0_1
  have HR3 := Aside0.mk hr0_3
  have HC3 := Aside0.mk hc0_3
  clear hr0_3 hc0_3
  have HR4 := Aside0.mk hr0_4
  have HC4 := Aside0.mk hc0_4
  clear hr0_4 hc0_4
  have HR9 := Aside0.mk hr0_9
  have HC9 := Aside0.mk hc0_9
  clear hr0_9 hc0_9
  have HR10 := Aside0.mk hr0_10
  have HC10 := Aside0.mk hc0_10
  clear hr0_10 hc0_10
  have H := Aside0.mk h
  clear h
  obtain ⟨B, hB⟩ : ∃ B : World, B = (w.alloc (Obj.cells #[.int .i64 a0_0, .slice A0_1 l0_1.length c0_1, .int .i64 a0_2, .slice A0_3 l0_3.length c0_3, .slice A0_4 l0_4.length c0_4, .string a0_5, .int .i64 a0_6, .int .i64 a0_7, .int .i64 a0_8, .slice A0_9 l0_9.length c0_9, .slice A0_10 l0_10.length c0_10, .int .i64 a0_11] 84)) := ⟨_, rfl⟩
  have HBB := Aside0.mk hB
  have hwB : Below w.heap.size w B := by rw [hB]; exact below_alloc (Below.refl _ _) _
  have hszB : w.heap.size ≤ B.heap.size := hwB.size
  have HBX : ∀ W : World, Below B.heap.size B W → W.cell? ⟨w.heap.size, 0, none⟩ = some (.int .i64 a0_0) ∧ W.cell? ⟨w.heap.size, 1, none⟩ = some (.slice A0_1 l0_1.length c0_1) ∧ W.cell? ⟨w.heap.size, 2, none⟩ = some (.int .i64 a0_2) ∧ W.cell? ⟨w.heap.size, 3, none⟩ = some (.slice A0_3 l0_3.length c0_3) ∧ W.cell? ⟨w.heap.size, 4, none⟩ = some (.slice A0_4 l0_4.length c0_4) ∧ W.cell? ⟨w.heap.size, 5, none⟩ = some (.string a0_5) ∧ W.cell? ⟨w.heap.size, 6, none⟩ = some (.int .i64 a0_6) ∧ W.cell? ⟨w.heap.size, 7, none⟩ = some (.int .i64 a0_7) ∧ W.cell? ⟨w.heap.size, 8, none⟩ = some (.int .i64 a0_8) ∧ W.cell? ⟨w.heap.size, 9, none⟩ = some (.slice A0_9 l0_9.length c0_9) ∧ W.cell? ⟨w.heap.size, 10, none⟩ = some (.slice A0_10 l0_10.length c0_10) ∧ W.cell? ⟨w.heap.size, 11, none⟩ = some (.int .i64 a0_11) := fun W hb => by rw [hB] at hb; exact ⟨pw_cell_below hb (by simp), pw_cell_below hb (by simp), pw_cell_below hb (by simp), pw_cell_below hb (by simp), pw_cell_below hb (by simp), pw_cell_below hb (by simp), pw_cell_below hb (by simp), pw_cell_below hb (by simp), pw_cell_below hb (by simp), pw_cell_below hb (by simp), pw_cell_below hb (by simp), pw_cell_below hb (by simp)⟩
  have HWB := Aside0.mk hwB
  have HSZ := Aside0.mk hszB
  have hy0 := fun W => impl_ymemOk.calls a0_5 _ W (ymem_eq _)
  have hy1 := fun W => impl_yisWord.calls a0_0 _ W (yword_eq _)
  have hy2 : ∀ W : World, Below B.heap.size B W → Calls Try.prog 125 #[.slice A0_1 l0_1.length c0_1, .int .i64 16] W fun e w' => e = .returned (.bool (wordsB l0_1 16)) ∧ Aside0 (Below B.heap.size B w') ∧ w'.cell? ⟨w.heap.size, 0, none⟩ = some (.int .i64 a0_0) ∧ w'.cell? ⟨w.heap.size, 1, none⟩ = some (.slice A0_1 l0_1.length c0_1) ∧ w'.cell? ⟨w.heap.size, 2, none⟩ = some (.int .i64 a0_2) ∧ w'.cell? ⟨w.heap.size, 3, none⟩ = some (.slice A0_3 l0_3.length c0_3) ∧ w'.cell? ⟨w.heap.size, 4, none⟩ = some (.slice A0_4 l0_4.length c0_4) ∧ w'.cell? ⟨w.heap.size, 5, none⟩ = some (.string a0_5) ∧ w'.cell? ⟨w.heap.size, 6, none⟩ = some (.int .i64 a0_6) ∧ w'.cell? ⟨w.heap.size, 7, none⟩ = some (.int .i64 a0_7) ∧ w'.cell? ⟨w.heap.size, 8, none⟩ = some (.int .i64 a0_8) ∧ w'.cell? ⟨w.heap.size, 9, none⟩ = some (.slice A0_9 l0_9.length c0_9) ∧ w'.cell? ⟨w.heap.size, 10, none⟩ = some (.slice A0_10 l0_10.length c0_10) ∧ w'.cell? ⟨w.heap.size, 11, none⟩ = some (.int .i64 a0_11) := fun W hbx => by
    have hb : Below w.heap.size w W := hwB.trans (hbx.mono hszB)
    refine (impl_ywordsOk.calls A0_1 c0_1 l0_1 16 _ W (Kd.C_below HR1.out hb) HC1.out (ywords_eq l0_1 16)).mono ?_
    rintro e w' ⟨he, hb'⟩
    have hbx' : Below B.heap.size B w' := hbx.trans (hb'.mono hbx.size)
    exact ⟨he, ⟨hbx'⟩, HBX w' hbx'⟩
  have hy4 : ∀ W : World, Below B.heap.size B W → Calls Try.prog 125 #[.slice A0_3 l0_3.length c0_3, .int .i64 12] W fun e w' => e = .returned (.bool (wordsB l0_3 12)) ∧ Aside0 (Below B.heap.size B w') ∧ w'.cell? ⟨w.heap.size, 0, none⟩ = some (.int .i64 a0_0) ∧ w'.cell? ⟨w.heap.size, 1, none⟩ = some (.slice A0_1 l0_1.length c0_1) ∧ w'.cell? ⟨w.heap.size, 2, none⟩ = some (.int .i64 a0_2) ∧ w'.cell? ⟨w.heap.size, 3, none⟩ = some (.slice A0_3 l0_3.length c0_3) ∧ w'.cell? ⟨w.heap.size, 4, none⟩ = some (.slice A0_4 l0_4.length c0_4) ∧ w'.cell? ⟨w.heap.size, 5, none⟩ = some (.string a0_5) ∧ w'.cell? ⟨w.heap.size, 6, none⟩ = some (.int .i64 a0_6) ∧ w'.cell? ⟨w.heap.size, 7, none⟩ = some (.int .i64 a0_7) ∧ w'.cell? ⟨w.heap.size, 8, none⟩ = some (.int .i64 a0_8) ∧ w'.cell? ⟨w.heap.size, 9, none⟩ = some (.slice A0_9 l0_9.length c0_9) ∧ w'.cell? ⟨w.heap.size, 10, none⟩ = some (.slice A0_10 l0_10.length c0_10) ∧ w'.cell? ⟨w.heap.size, 11, none⟩ = some (.int .i64 a0_11) := fun W hbx => by
    have hb : Below w.heap.size w W := hwB.trans (hbx.mono hszB)
    refine (impl_ywordsOk.calls A0_3 c0_3 l0_3 12 _ W (Kd.C_below HR3.out hb) HC3.out (ywords_eq l0_3 12)).mono ?_
    rintro e w' ⟨he, hb'⟩
    have hbx' : Below B.heap.size B w' := hbx.trans (hb'.mono hbx.size)
    exact ⟨he, ⟨hbx'⟩, HBX w' hbx'⟩
  have hy5 : ∀ W : World, Below B.heap.size B W → Calls Try.prog 125 #[.slice A0_4 l0_4.length c0_4, .int .i64 16] W fun e w' => e = .returned (.bool (wordsB l0_4 16)) ∧ Aside0 (Below B.heap.size B w') ∧ w'.cell? ⟨w.heap.size, 0, none⟩ = some (.int .i64 a0_0) ∧ w'.cell? ⟨w.heap.size, 1, none⟩ = some (.slice A0_1 l0_1.length c0_1) ∧ w'.cell? ⟨w.heap.size, 2, none⟩ = some (.int .i64 a0_2) ∧ w'.cell? ⟨w.heap.size, 3, none⟩ = some (.slice A0_3 l0_3.length c0_3) ∧ w'.cell? ⟨w.heap.size, 4, none⟩ = some (.slice A0_4 l0_4.length c0_4) ∧ w'.cell? ⟨w.heap.size, 5, none⟩ = some (.string a0_5) ∧ w'.cell? ⟨w.heap.size, 6, none⟩ = some (.int .i64 a0_6) ∧ w'.cell? ⟨w.heap.size, 7, none⟩ = some (.int .i64 a0_7) ∧ w'.cell? ⟨w.heap.size, 8, none⟩ = some (.int .i64 a0_8) ∧ w'.cell? ⟨w.heap.size, 9, none⟩ = some (.slice A0_9 l0_9.length c0_9) ∧ w'.cell? ⟨w.heap.size, 10, none⟩ = some (.slice A0_10 l0_10.length c0_10) ∧ w'.cell? ⟨w.heap.size, 11, none⟩ = some (.int .i64 a0_11) := fun W hbx => by
    have hb : Below w.heap.size w W := hwB.trans (hbx.mono hszB)
    refine (impl_ywordsOk.calls A0_4 c0_4 l0_4 16 _ W (Kd.C_below HR4.out hb) HC4.out (ywords_eq l0_4 16)).mono ?_
    rintro e w' ⟨he, hb'⟩
    have hbx' : Below B.heap.size B w' := hbx.trans (hb'.mono hbx.size)
    exact ⟨he, ⟨hbx'⟩, HBX w' hbx'⟩
  have hy6 := fun W => impl_yin.calls a0_2 0 1 _ W (yin_eq _ _ _)
  have hy7 := fun W => impl_yin.calls a0_6 0 2 _ W (yin_eq _ _ _)
  have hy8 := fun W => impl_yin.calls a0_7 0 1099511627776 _ W (yin_eq _ _ _)
  have hy9 := fun W => impl_yin.calls a0_8 0 127 _ W (yin_eq _ _ _)
  have hy10 : ∀ W : World, Below B.heap.size B W → Calls Try.prog 126 #[.slice A0_9 l0_9.length c0_9] W fun e w' => e = .returned (.bool (portsB l0_9)) ∧ Aside0 (Below B.heap.size B w') ∧ w'.cell? ⟨w.heap.size, 0, none⟩ = some (.int .i64 a0_0) ∧ w'.cell? ⟨w.heap.size, 1, none⟩ = some (.slice A0_1 l0_1.length c0_1) ∧ w'.cell? ⟨w.heap.size, 2, none⟩ = some (.int .i64 a0_2) ∧ w'.cell? ⟨w.heap.size, 3, none⟩ = some (.slice A0_3 l0_3.length c0_3) ∧ w'.cell? ⟨w.heap.size, 4, none⟩ = some (.slice A0_4 l0_4.length c0_4) ∧ w'.cell? ⟨w.heap.size, 5, none⟩ = some (.string a0_5) ∧ w'.cell? ⟨w.heap.size, 6, none⟩ = some (.int .i64 a0_6) ∧ w'.cell? ⟨w.heap.size, 7, none⟩ = some (.int .i64 a0_7) ∧ w'.cell? ⟨w.heap.size, 8, none⟩ = some (.int .i64 a0_8) ∧ w'.cell? ⟨w.heap.size, 9, none⟩ = some (.slice A0_9 l0_9.length c0_9) ∧ w'.cell? ⟨w.heap.size, 10, none⟩ = some (.slice A0_10 l0_10.length c0_10) ∧ w'.cell? ⟨w.heap.size, 11, none⟩ = some (.int .i64 a0_11) := fun W hbx => by
    have hb : Below w.heap.size w W := hwB.trans (hbx.mono hszB)
    refine (impl_yportsOk.calls A0_9 c0_9 l0_9 _ W (Kd.C_below HR9.out hb) HC9.out (yports_eq l0_9)).mono ?_
    rintro e w' ⟨he, hb'⟩
    have hbx' : Below B.heap.size B w' := hbx.trans (hb'.mono hbx.size)
    exact ⟨he, ⟨hbx'⟩, HBX w' hbx'⟩
  have hy11 : ∀ W : World, Below B.heap.size B W → Calls Try.prog 126 #[.slice A0_10 l0_10.length c0_10] W fun e w' => e = .returned (.bool (portsB l0_10)) ∧ Aside0 (Below B.heap.size B w') ∧ w'.cell? ⟨w.heap.size, 0, none⟩ = some (.int .i64 a0_0) ∧ w'.cell? ⟨w.heap.size, 1, none⟩ = some (.slice A0_1 l0_1.length c0_1) ∧ w'.cell? ⟨w.heap.size, 2, none⟩ = some (.int .i64 a0_2) ∧ w'.cell? ⟨w.heap.size, 3, none⟩ = some (.slice A0_3 l0_3.length c0_3) ∧ w'.cell? ⟨w.heap.size, 4, none⟩ = some (.slice A0_4 l0_4.length c0_4) ∧ w'.cell? ⟨w.heap.size, 5, none⟩ = some (.string a0_5) ∧ w'.cell? ⟨w.heap.size, 6, none⟩ = some (.int .i64 a0_6) ∧ w'.cell? ⟨w.heap.size, 7, none⟩ = some (.int .i64 a0_7) ∧ w'.cell? ⟨w.heap.size, 8, none⟩ = some (.int .i64 a0_8) ∧ w'.cell? ⟨w.heap.size, 9, none⟩ = some (.slice A0_9 l0_9.length c0_9) ∧ w'.cell? ⟨w.heap.size, 10, none⟩ = some (.slice A0_10 l0_10.length c0_10) ∧ w'.cell? ⟨w.heap.size, 11, none⟩ = some (.int .i64 a0_11) := fun W hbx => by
    have hb : Below w.heap.size w W := hwB.trans (hbx.mono hszB)
    refine (impl_yportsOk.calls A0_10 c0_10 l0_10 _ W (Kd.C_below HR10.out hb) HC10.out (yports_eq l0_10)).mono ?_
    rintro e w' ⟨he, hb'⟩
    have hbx' : Below B.heap.size B w' := hbx.trans (hb'.mono hbx.size)
    exact ⟨he, ⟨hbx'⟩, HBX w' hbx'⟩
  have hy12 := fun W => impl_yin.calls a0_11 0 2147483628 _ W (yin_eq _ _ _)
  clear HBX hwB hszB
  go_enter Try.func57, Try.ntmps57
  go_wp2_with (fail)
  go_at_call 90
  with_reducible refine (hy0 _).mono ?_
  rintro e w' ⟨rfl, ⟨m0, rfl⟩⟩
  cases hb0 : memB a0_5
  case false =>
    have h := H.out
    simp only [hb0, Bool.false_and, Bool.and_false, Bool.false_eq_true, if_false, Option.some.injEq] at h
    subst h
    go_wp2
    go_ret
    refine ⟨rfl, HWB.out.trans (Below.mono ?_ HSZ.out)⟩
    repeat (first | exact BX11.out | exact BX10.out | exact BX5.out | exact BX4.out | exact BX2.out | (rw [← HBB.out]; exact Below.refl _ _) | exact Below.refl _ _ | apply pw_below_drewN)
  go_wp2_with (fail)
  go_at_call 77
  with_reducible refine (hy1 _).mono ?_
  rintro e w' ⟨rfl, ⟨m1, rfl⟩⟩
  cases hb1 : wordB a0_0
  case false =>
    have h := H.out
    simp only [hb1, Bool.false_and, Bool.and_false, Bool.false_eq_true, if_false, Option.some.injEq] at h
    subst h
    go_wp2
    go_ret
    refine ⟨rfl, HWB.out.trans (Below.mono ?_ HSZ.out)⟩
    repeat (first | exact BX11.out | exact BX10.out | exact BX5.out | exact BX4.out | exact BX2.out | (rw [← HBB.out]; exact Below.refl _ _) | exact Below.refl _ _ | apply pw_below_drewN)
  go_wp2_with (fail)
  go_at_call 125
  with_reducible refine (hy2 _ ?hbb).mono ?_
  (case hbb => repeat (first | exact BX11.out | exact BX10.out | exact BX5.out | exact BX4.out | (rw [← HBB.out]; exact Below.refl _ _) | exact Below.refl _ _ | apply pw_below_drewN))
  rintro e w2 ⟨rfl, BX2, h2_0, h2_1, h2_2, h2_3, h2_4, h2_5, h2_6, h2_7, h2_8, h2_9, h2_10, h2_11⟩
  cases hb2 : wordsB l0_1 16
  case false =>
    have h := H.out
    simp only [hb2, Bool.false_and, Bool.and_false, Bool.false_eq_true, if_false, Option.some.injEq] at h
    subst h
    go_wp2
    go_ret
    refine ⟨rfl, HWB.out.trans (Below.mono ?_ HSZ.out)⟩
    repeat (first | exact BX11.out | exact BX10.out | exact BX5.out | exact BX4.out | exact BX2.out | (rw [← HBB.out]; exact Below.refl _ _) | exact Below.refl _ _ | apply pw_below_drewN)
  have hlen2 := wordsB_len hb2
  obtain ⟨ad0, e_, hq0⟩ := Kd.at_int HR1.out 0 (by omega) (by omega)
  cases e_
  obtain ⟨x0, hrd0⟩ : ∃ x, rd l0_1 0 = x := ⟨_, rfl⟩
  rw [hrd0] at hq0
  have HRD0 := Aside0.mk hrd0
  clear hrd0
  replace hq0 : w.cell? ad0 = some (.int .i64 x0) := by simpa [Addr.add] using hq0
  have hq0z := pw_cell_below (HWB.out.trans (Below.mono BX2.out HSZ.out)) hq0
  by_cases hx0 : x0 = 0
  case neg =>
    have hn0a : (x0 != 0) = true := bne_iff_ne.mpr hx0
    have hbq : ((rd l0_1 0 == 0)) = false := by rw [HRD0.out]; exact beq_eq_false_iff_ne.mpr hx0
    have h := H.out
    simp only [hbq, Bool.false_and, Bool.and_false, Bool.false_eq_true, if_false, Option.some.injEq] at h
    subst h
    go_wp2
    go_ret
    refine ⟨rfl, HWB.out.trans (Below.mono ?_ HSZ.out)⟩
    repeat (first | exact BX11.out | exact BX10.out | exact BX5.out | exact BX4.out | exact BX2.out | (rw [← HBB.out]; exact Below.refl _ _) | exact Below.refl _ _ | apply pw_below_drewN)
  subst hx0
  go_wp2_with (fail)
  go_at_call 125
  with_reducible refine (hy4 _ ?hbb).mono ?_
  (case hbb => repeat (first | exact BX11.out | exact BX10.out | exact BX5.out | exact BX2.out | (rw [← HBB.out]; exact Below.refl _ _) | exact Below.refl _ _ | apply pw_below_drewN))
  rintro e w4 ⟨rfl, BX4, h4_0, h4_1, h4_2, h4_3, h4_4, h4_5, h4_6, h4_7, h4_8, h4_9, h4_10, h4_11⟩
  have hq0_4 := pw_cell_below (HWB.out.trans (Below.mono BX4.out HSZ.out)) hq0
  cases hb4 : wordsB l0_3 12
  case false =>
    have h := H.out
    simp only [hb4, Bool.false_and, Bool.and_false, Bool.false_eq_true, if_false, Option.some.injEq] at h
    subst h
    go_wp2
    go_ret
    refine ⟨rfl, HWB.out.trans (Below.mono ?_ HSZ.out)⟩
    repeat (first | exact BX11.out | exact BX10.out | exact BX5.out | exact BX4.out | exact BX2.out | (rw [← HBB.out]; exact Below.refl _ _) | exact Below.refl _ _ | apply pw_below_drewN)
  have hlen4 := wordsB_len hb4
  go_wp2_with (fail)
  go_at_call 125
  with_reducible refine (hy5 _ ?hbb).mono ?_
  (case hbb => repeat (first | exact BX11.out | exact BX10.out | exact BX4.out | exact BX2.out | (rw [← HBB.out]; exact Below.refl _ _) | exact Below.refl _ _ | apply pw_below_drewN))
  rintro e w5 ⟨rfl, BX5, h5_0, h5_1, h5_2, h5_3, h5_4, h5_5, h5_6, h5_7, h5_8, h5_9, h5_10, h5_11⟩
  have hq0_5 := pw_cell_below (HWB.out.trans (Below.mono BX5.out HSZ.out)) hq0
  cases hb5 : wordsB l0_4 16
  case false =>
    have h := H.out
    simp only [hb5, Bool.false_and, Bool.and_false, Bool.false_eq_true, if_false, Option.some.injEq] at h
    subst h
    go_wp2
    go_ret
    refine ⟨rfl, HWB.out.trans (Below.mono ?_ HSZ.out)⟩
    repeat (first | exact BX11.out | exact BX10.out | exact BX5.out | exact BX4.out | exact BX2.out | (rw [← HBB.out]; exact Below.refl _ _) | exact Below.refl _ _ | apply pw_below_drewN)
  have hlen5 := wordsB_len hb5
  go_wp2_with (fail)
  go_at_call 74
  with_reducible refine (hy6 _).mono ?_
  rintro e w' ⟨rfl, ⟨m6, rfl⟩⟩
  cases hb6 : inB a0_2 0 1
  case false =>
    have h := H.out
    simp only [hb6, Bool.false_and, Bool.and_false, Bool.false_eq_true, if_false, Option.some.injEq] at h
    subst h
    go_wp2
    go_ret
    refine ⟨rfl, HWB.out.trans (Below.mono ?_ HSZ.out)⟩
    repeat (first | exact BX11.out | exact BX10.out | exact BX5.out | exact BX4.out | exact BX2.out | (rw [← HBB.out]; exact Below.refl _ _) | exact Below.refl _ _ | apply pw_below_drewN)
  go_wp2_with (fail)
  go_at_call 74
  with_reducible refine (hy7 _).mono ?_
  rintro e w' ⟨rfl, ⟨m7, rfl⟩⟩
  cases hb7 : inB a0_6 0 2
  case false =>
    have h := H.out
    simp only [hb7, Bool.false_and, Bool.and_false, Bool.false_eq_true, if_false, Option.some.injEq] at h
    subst h
    go_wp2
    go_ret
    refine ⟨rfl, HWB.out.trans (Below.mono ?_ HSZ.out)⟩
    repeat (first | exact BX11.out | exact BX10.out | exact BX5.out | exact BX4.out | exact BX2.out | (rw [← HBB.out]; exact Below.refl _ _) | exact Below.refl _ _ | apply pw_below_drewN)
  go_wp2_with (fail)
  go_at_call 74
  with_reducible refine (hy8 _).mono ?_
  rintro e w' ⟨rfl, ⟨m8, rfl⟩⟩
  cases hb8 : inB a0_7 0 1099511627776
  case false =>
    have h := H.out
    simp only [hb8, Bool.false_and, Bool.and_false, Bool.false_eq_true, if_false, Option.some.injEq] at h
    subst h
    go_wp2
    go_ret
    refine ⟨rfl, HWB.out.trans (Below.mono ?_ HSZ.out)⟩
    repeat (first | exact BX11.out | exact BX10.out | exact BX5.out | exact BX4.out | exact BX2.out | (rw [← HBB.out]; exact Below.refl _ _) | exact Below.refl _ _ | apply pw_below_drewN)
  go_wp2_with (fail)
  go_at_call 74
  with_reducible refine (hy9 _).mono ?_
  rintro e w' ⟨rfl, ⟨m9, rfl⟩⟩
  cases hb9 : inB a0_8 0 127
  case false =>
    have h := H.out
    simp only [hb9, Bool.false_and, Bool.and_false, Bool.false_eq_true, if_false, Option.some.injEq] at h
    subst h
    go_wp2
    go_ret
    refine ⟨rfl, HWB.out.trans (Below.mono ?_ HSZ.out)⟩
    repeat (first | exact BX11.out | exact BX10.out | exact BX5.out | exact BX4.out | exact BX2.out | (rw [← HBB.out]; exact Below.refl _ _) | exact Below.refl _ _ | apply pw_below_drewN)
  go_wp2_with (fail)
  go_at_call 126
  with_reducible refine (hy10 _ ?hbb).mono ?_
  (case hbb => repeat (first | exact BX11.out | exact BX5.out | exact BX4.out | exact BX2.out | (rw [← HBB.out]; exact Below.refl _ _) | exact Below.refl _ _ | apply pw_below_drewN))
  rintro e w10 ⟨rfl, BX10, h10_0, h10_1, h10_2, h10_3, h10_4, h10_5, h10_6, h10_7, h10_8, h10_9, h10_10, h10_11⟩
  have hq0_10 := pw_cell_below (HWB.out.trans (Below.mono BX10.out HSZ.out)) hq0
  cases hb10 : portsB l0_9
  case false =>
    have h := H.out
    simp only [hb10, Bool.false_and, Bool.and_false, Bool.false_eq_true, if_false, Option.some.injEq] at h
    subst h
    go_wp2
    go_ret
    refine ⟨rfl, HWB.out.trans (Below.mono ?_ HSZ.out)⟩
    repeat (first | exact BX11.out | exact BX10.out | exact BX5.out | exact BX4.out | exact BX2.out | (rw [← HBB.out]; exact Below.refl _ _) | exact Below.refl _ _ | apply pw_below_drewN)
  go_wp2_with (fail)
  go_at_call 126
  with_reducible refine (hy11 _ ?hbb).mono ?_
  (case hbb => repeat (first | exact BX10.out | exact BX5.out | exact BX4.out | exact BX2.out | (rw [← HBB.out]; exact Below.refl _ _) | exact Below.refl _ _ | apply pw_below_drewN))
  rintro e w11 ⟨rfl, BX11, h11_0, h11_1, h11_2, h11_3, h11_4, h11_5, h11_6, h11_7, h11_8, h11_9, h11_10, h11_11⟩
  have hq0_11 := pw_cell_below (HWB.out.trans (Below.mono BX11.out HSZ.out)) hq0
  cases hb11 : portsB l0_10
  case false =>
    have h := H.out
    simp only [hb11, Bool.false_and, Bool.and_false, Bool.false_eq_true, if_false, Option.some.injEq] at h
    subst h
    go_wp2
    go_ret
    refine ⟨rfl, HWB.out.trans (Below.mono ?_ HSZ.out)⟩
    repeat (first | exact BX11.out | exact BX10.out | exact BX5.out | exact BX4.out | exact BX2.out | (rw [← HBB.out]; exact Below.refl _ _) | exact Below.refl _ _ | apply pw_below_drewN)
  go_wp2_with (fail)
  go_at_call 74
  with_reducible refine (hy12 _).mono ?_
  rintro e w' ⟨rfl, ⟨m12, rfl⟩⟩
  cases hb12 : inB a0_11 0 2147483628
  case false =>
    have h := H.out
    simp only [hb12, Bool.false_and, Bool.and_false, Bool.false_eq_true, if_false, Option.some.injEq] at h
    subst h
    go_wp2
    go_ret
    refine ⟨rfl, HWB.out.trans (Below.mono ?_ HSZ.out)⟩
    repeat (first | exact BX11.out | exact BX10.out | exact BX5.out | exact BX4.out | exact BX2.out | (rw [← HBB.out]; exact Below.refl _ _) | exact Below.refl _ _ | apply pw_below_drewN)
  obtain ⟨ad1, e_, hq1⟩ := Kd.at_int HR3.out 0 (by omega) (by omega)
  cases e_
  obtain ⟨x1, hrd1⟩ : ∃ x, rd l0_3 0 = x := ⟨_, rfl⟩
  rw [hrd1] at hq1
  have HRD1 := Aside0.mk hrd1
  clear hrd1
  replace hq1 : w.cell? ad1 = some (.int .i64 x1) := by simpa [Addr.add] using hq1
  have hq1z := pw_cell_below (HWB.out.trans (Below.mono BX11.out HSZ.out)) hq1
  by_cases hx1 : x1 < 32
  case neg =>
    have h13a : decide (32 ≤ x1) = true := decide_eq_true (by omega)
    have h13b : (32 ≤ x1) := by omega
    have hbq : (decide (rd l0_3 0 < 32)) = false := by rw [HRD1.out]; exact decide_eq_false hx1
    have h := H.out
    simp only [hbq, Bool.false_and, Bool.and_false, Bool.false_eq_true, if_false, Option.some.injEq] at h
    subst h
    go_wp2
    go_ret
    refine ⟨rfl, HWB.out.trans (Below.mono ?_ HSZ.out)⟩
    repeat (first | exact BX11.out | exact BX10.out | exact BX5.out | exact BX4.out | exact BX2.out | (rw [← HBB.out]; exact Below.refl _ _) | exact Below.refl _ _ | apply pw_below_drewN)
  have h13a : decide (32 ≤ x1) = false := decide_eq_false (by omega)
  have h13b : ¬ (32 ≤ x1) := by omega
  have hz13 := HRD1.out
  obtain ⟨ad2, e_, hq2⟩ := Kd.at_int HR3.out 8 (by omega) (by omega)
  obtain rfl := Option.some.inj e_
  obtain ⟨x2, hrd2⟩ : ∃ x, rd l0_3 8 = x := ⟨_, rfl⟩
  rw [hrd2] at hq2
  have HRD2 := Aside0.mk hrd2
  clear hrd2
  replace hq2 : w.cell? { block := ad1.block, off := ad1.off + 8, spot := none } = some (.int .i64 x2) := hq2
  have hq2z := pw_cell_below (HWB.out.trans (Below.mono BX11.out HSZ.out)) hq2
  by_cases hx2 : x2 = 0
  case neg =>
    have hn2a : (x2 != 0) = true := bne_iff_ne.mpr hx2
    have hbq : ((rd l0_3 8 == 0)) = false := by rw [HRD2.out]; exact beq_eq_false_iff_ne.mpr hx2
    have h := H.out
    simp only [hbq, Bool.false_and, Bool.and_false, Bool.false_eq_true, if_false, Option.some.injEq] at h
    subst h
    go_wp2
    go_ret
    refine ⟨rfl, HWB.out.trans (Below.mono ?_ HSZ.out)⟩
    repeat (first | exact BX11.out | exact BX10.out | exact BX5.out | exact BX4.out | exact BX2.out | (rw [← HBB.out]; exact Below.refl _ _) | exact Below.refl _ _ | apply pw_below_drewN)
  subst hx2
  obtain ⟨ad3, e_, hq3⟩ := Kd.at_int HR3.out 9 (by omega) (by omega)
  obtain rfl := Option.some.inj e_
  obtain ⟨x3, hrd3⟩ : ∃ x, rd l0_3 9 = x := ⟨_, rfl⟩
  rw [hrd3] at hq3
  have HRD3 := Aside0.mk hrd3
  clear hrd3
  replace hq3 : w.cell? { block := ad1.block, off := ad1.off + 9, spot := none } = some (.int .i64 x3) := hq3
  have hq3z := pw_cell_below (HWB.out.trans (Below.mono BX11.out HSZ.out)) hq3
  by_cases hx3 : x3 = 0
  case neg =>
    have hn3a : (x3 != 0) = true := bne_iff_ne.mpr hx3
    have hbq : ((rd l0_3 9 == 0)) = false := by rw [HRD3.out]; exact beq_eq_false_iff_ne.mpr hx3
    have h := H.out
    simp only [hbq, Bool.false_and, Bool.and_false, Bool.false_eq_true, if_false, Option.some.injEq] at h
    subst h
    go_wp2
    go_ret
    refine ⟨rfl, HWB.out.trans (Below.mono ?_ HSZ.out)⟩
    repeat (first | exact BX11.out | exact BX10.out | exact BX5.out | exact BX4.out | exact BX2.out | (rw [← HBB.out]; exact Below.refl _ _) | exact Below.refl _ _ | apply pw_below_drewN)
  subst hx3
  obtain ⟨ad4, e_, hq4⟩ := Kd.at_int HR3.out 11 (by omega) (by omega)
  obtain rfl := Option.some.inj e_
  obtain ⟨x4, hrd4⟩ : ∃ x, rd l0_3 11 = x := ⟨_, rfl⟩
  rw [hrd4] at hq4
  have HRD4 := Aside0.mk hrd4
  clear hrd4
  replace hq4 : w.cell? { block := ad1.block, off := ad1.off + 11, spot := none } = some (.int .i64 x4) := hq4
  have hq4z := pw_cell_below (HWB.out.trans (Below.mono BX11.out HSZ.out)) hq4
  by_cases hx4 : x4 = 0
  case neg =>
    have hn4a : (x4 != 0) = true := bne_iff_ne.mpr hx4
    have hbq : ((rd l0_3 11 == 0)) = false := by rw [HRD4.out]; exact beq_eq_false_iff_ne.mpr hx4
    have h := H.out
    simp only [hbq, Bool.false_and, Bool.and_false, Bool.false_eq_true, if_false, Option.some.injEq] at h
    subst h
    go_wp2
    go_ret
    refine ⟨rfl, HWB.out.trans (Below.mono ?_ HSZ.out)⟩
    repeat (first | exact BX11.out | exact BX10.out | exact BX5.out | exact BX4.out | exact BX2.out | (rw [← HBB.out]; exact Below.refl _ _) | exact Below.refl _ _ | apply pw_below_drewN)
  subst hx4
  have h := H.out
  have z0 : ((rd l0_1 0 == 0)) = true := by rw [HRD0.out]; rfl
  have z1 : decide (rd l0_3 0 < 32) = true := decide_eq_true (by rw [HRD1.out]; exact hx1)
  have z2 : (rd l0_3 8 == 0) = true := by rw [HRD2.out]; rfl
  have z3 : (rd l0_3 9 == 0) = true := by rw [HRD3.out]; rfl
  have z4 : (rd l0_3 11 == 0) = true := by rw [HRD4.out]; rfl
  simp only [hb0, hb1, hb2, hb4, hb5, hb6, hb7, hb8, hb9, hb10, hb11, hb12, z0, z1, z2, z3, z4, Bool.true_and, Bool.and_true, if_true, Option.some.injEq] at h
  subst h
  clear z0 z1 z2 z3 z4
  go_wp2
  go_ret
  refine ⟨rfl, HWB.out.trans (Below.mono ?_ HSZ.out)⟩
  repeat (first | exact BX11.out | exact BX10.out | exact BX5.out | exact BX4.out | exact BX2.out | (rw [← HBB.out]; exact Below.refl _ _) | exact Below.refl _ _ | apply pw_below_drewN)

end Go.Proofs.Ytjpgelnhmcblmaa.QFnExactMachineFault
