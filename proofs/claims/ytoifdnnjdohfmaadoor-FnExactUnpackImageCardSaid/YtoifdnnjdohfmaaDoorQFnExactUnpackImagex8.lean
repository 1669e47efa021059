-- Written for this claim by this session's own driver (wip/xprint.py).
import Derived.Test.YtoifdnnjdohfmaaDoorQFnExactUnpackImagex0
namespace Go.Proofs.YtoifdnnjdohfmaaDoor.QFnExactUnpackImage
open Go.RowKit Go.Proofs.YtoifdnnjdohfmaaDoorW.PrintWords Go.Proofs.YtoifdnnjdohfmaaDoorW.PrintLast Go.Proofs.YtoifdnnjdohfmaaDoorW.PrintMore
attribute [local go_sem] max2_int min2_int max_two min_two max_three min_three max_four min_four   -- for this text's walks alone
set_option linter.unusedVariables false
set_option linter.unusedSimpArgs false

/-! ### laws_eqInt64S: function 60 -/
def laws_eqInt64S.l0 : Nat → List Int → List Int → Int → Option (Bool)
  | 0, _, _, _ => none
  | k + 1, x0, x1, x5 => if x5 < (x0.length : Int) then (if 0 ≤ x5 then (if x5 < (x1.length : Int) then (if (rd x0 x5) = (rd x1 x5) then (laws_eqInt64S.l0 k x0 x1 (wrap64 (x5 + 1))) else (some false)) else (none)) else (none)) else (some true)
def laws_eqInt64S.f (k : Nat) (l0 : List Int) (l1 : List Int) : Option (Bool) := if (l0.length : Int) = (l1.length : Int) then (laws_eqInt64S.l0 k l0 l1 0) else (some false)
theorem laws_eqInt64S.mono_l : ∀ k, (∀ y0 y1 y2, LeO (laws_eqInt64S.l0 k y0 y1 y2) (laws_eqInt64S.l0 (k + 1) y0 y1 y2))
  | 0 => fun _ _ _ r h => by simp [laws_eqInt64S.l0] at h
  | k + 1 => by
    have ih0 := laws_eqInt64S.mono_l k
    · intro y0 y1 y2
      unfold laws_eqInt64S.l0
      repeat' first
      | (with_reducible exact ih0 _ _ _)
      | (with_reducible exact LeO.refl _)
      | (with_reducible exact LeO.none _)
      | (with_reducible refine LeO.ite ?_ ?_)
      | (with_reducible refine LeO.bind ?_ (fun _ => ?_))
      | exact ih0 _ _ _
      | exact LeO.none _
      | refine LeO.ite ?_ ?_
      | refine LeO.bind ?_ (fun _ => ?_)
theorem laws_eqInt64S.mono : ∀ a0 a1 k, LeO (laws_eqInt64S.f k a0 a1) (laws_eqInt64S.f (k + 1) a0 a1) := by
  intro a0 a1 k
  have ih0 := laws_eqInt64S.mono_l k
  unfold laws_eqInt64S.f
  repeat' first
      | (with_reducible exact ih0 _ _ _)
      | (with_reducible exact LeO.refl _)
      | (with_reducible exact LeO.none _)
      | (with_reducible refine LeO.ite ?_ ?_)
      | (with_reducible refine LeO.bind ?_ (fun _ => ?_))
      | exact ih0 _ _ _
      | exact LeO.none _
      | refine LeO.ite ?_ ?_
      | refine LeO.bind ?_ (fun _ => ?_)
set_option maxHeartbeats 8000000 in
set_option maxRecDepth 100000 in
theorem laws_eqInt64S.calls (k : Nat) (A0 : Option Addr) (c0 : Nat) (l0 : List Int) (A1 : Option Addr) (c1 : Nat) (l1 : List Int) (r : Bool) (w : World) (hr0 : Kd.C (Kd.int .i64) w A0 l0.length l0) (hc0 : l0.length ≤ c0) (hr1 : Kd.C (Kd.int .i64) w A1 l1.length l1) (hc1 : l1.length ≤ c1) (h : laws_eqInt64S.f k l0 l1 = some r) :
    Calls Tryd.prog 60 #[.slice A0 l0.length c0, .slice A1 l1.length c1] w fun e w' => e = .returned (.bool r) ∧ Drawn0 w w' := by
  have HR0 := Aside0.mk hr0
  have HC0 := Aside0.mk hc0
  clear hr0 hc0
  have HR1 := Aside0.mk hr1
  have HC1 := Aside0.mk hc1
  clear hr1 hc1
  have H : (if (l0.length : Int) = (l1.length : Int) then (laws_eqInt64S.l0 k l0 l1 0) else (some false)) = some r := h
  clear h
  by_cases c3 : (l0.length : Int) = (l1.length : Int)
  · rw [if_pos c3] at H
    have c3b0 : ((l0.length : Int) == (l1.length : Int)) = true := beq_iff_eq.mpr c3
    have c3b1 : ((l0.length : Int) != (l1.length : Int)) = false := bne_eq_false_iff_eq.mpr c3
    have c3b2 : (l0.length == l1.length) = true := by first | simpa using c3 | (simp at c3 ⊢; omega)
    clear c3
    have H' := Aside0.mk H
    clear H
    go_enter Tryd.func60, Tryd.ntmps60
    go_wp2
    repeat (go_quiet (fail); try go_wp2)
    go_loopg [5] k (fun kq v5 w' => ∃ (x5_1 : Int), v5 = .int .i64 x5_1 ∧ Aside0 (laws_eqInt64S.l0 kq l0 l1 x5_1 = some r) ∧ Aside0 (kq ≤ k) ∧ Drawn0 w w')
    case atStart => exact ⟨(0), (by first | rfl | (simp; done) | (simp [*]; done)), H', ⟨Nat.le_refl _⟩, by repeat (first | exact Drawn0.refl _ | apply Drawn0.step)⟩
    case round =>
      clear H'
      try clear c1
      try clear p2
      try clear c3
      try clear c3b0
      try clear c3b1
      try clear c3b2
      obtain ⟨x5_1, rfl, HA, HK1, ⟨m1, rfl⟩⟩ := hrel
      cases gk with
      | zero => exact absurd HA.out (by simp [laws_eqInt64S.l0])
      | succ k1 =>
        have H := HA.out
        clear HA
        simp only [laws_eqInt64S.l0] at H
        by_cases c4 : x5_1 < (l0.length : Int)
        · rw [if_pos c4] at H
          have c4b0 : decide (x5_1 < (l0.length : Int)) = true := decide_eq_true c4
          clear c4
          by_cases c5 : 0 ≤ x5_1
          · rw [if_pos c5] at H
            have c5b0 : decide (0 ≤ x5_1) = true := decide_eq_true c5
            clear c5
            by_cases c6 : x5_1 < (l1.length : Int)
            · rw [if_pos c6] at H
              have c6b0 : decide (x5_1 < (l1.length : Int)) = true := decide_eq_true c6
              clear c6
              by_cases c7 : (rd l0 x5_1) = (rd l1 x5_1)
              · rw [if_pos c7] at H
                have c7b0 : ((rd l0 x5_1) == (rd l1 x5_1)) = true := beq_iff_eq.mpr c7
                have c7b1 : ((rd l0 x5_1) != (rd l1 x5_1)) = false := bne_eq_false_iff_eq.mpr c7
                clear c7
                have H' := Aside0.mk H
                clear H
                have p151 : 0 ≤ (x5_1 : Int) := of_decide_eq_true (by first | (with_reducible assumption) | assumption)
                have q151 : x5_1 < (l0.length : Int) := of_decide_eq_true (by first | (with_reducible assumption) | assumption)
                obtain ⟨ad151, e151, hx151_0⟩ := Kd.at_int HR0.out x5_1 p151 q151
                cases e151
                replace p151 := eq_true p151
                replace q151 := eq_true q151
                have p152 : 0 ≤ (x5_1 : Int) := of_decide_eq_true (by first | (with_reducible assumption) | assumption)
                have q152 : x5_1 < (l1.length : Int) := of_decide_eq_true (by first | (with_reducible assumption) | assumption)
                obtain ⟨ad152, e152, hx152_0⟩ := Kd.at_int HR1.out x5_1 p152 q152
                cases e152
                replace p152 := eq_true p152
                replace q152 := eq_true q152
                go_wp2
                repeat (go_quiet (fail); try go_wp2)
                go_roundg k1
                case measure => have := HK1.out; omega
                case rel => exact ⟨(wrap64 (x5_1 + 1)), (by first | rfl | (simp; done) | (simp [*]; done)), H', ⟨by have := HK1.out; omega⟩, by repeat (first | exact Drawn0.refl _ | apply Drawn0.step)⟩
              · rw [if_neg c7] at H
                have c7b0 : ((rd l0 x5_1) == (rd l1 x5_1)) = false := beq_eq_false_iff_ne.mpr c7
                have c7b1 : ((rd l0 x5_1) != (rd l1 x5_1)) = true := bne_iff_ne.mpr c7
                obtain rfl := Option.some.inj H
                have p151 : 0 ≤ (x5_1 : Int) := of_decide_eq_true (by first | (with_reducible assumption) | assumption)
                have q151 : x5_1 < (l0.length : Int) := of_decide_eq_true (by first | (with_reducible assumption) | assumption)
                obtain ⟨ad151, e151, hx151_0⟩ := Kd.at_int HR0.out x5_1 p151 q151
                cases e151
                replace p151 := eq_true p151
                replace q151 := eq_true q151
                have p152 : 0 ≤ (x5_1 : Int) := of_decide_eq_true (by first | (with_reducible assumption) | assumption)
                have q152 : x5_1 < (l1.length : Int) := of_decide_eq_true (by first | (with_reducible assumption) | assumption)
                obtain ⟨ad152, e152, hx152_0⟩ := Kd.at_int HR1.out x5_1 p152 q152
                cases e152
                replace p152 := eq_true p152
                replace q152 := eq_true q152
                go_wp2
                repeat (go_quiet (fail); try go_wp2)
                go_ret
                exact ⟨by first | rfl | (simp; done) | (simp [*]; done), by repeat (first | exact Drawn0.refl _ | apply Drawn0.step)⟩
            · rw [if_neg c6] at H
              exact absurd H (by simp)
          · rw [if_neg c5] at H
            exact absurd H (by simp)
        · rw [if_neg c4] at H
          have c4b0 : decide (x5_1 < (l0.length : Int)) = false := decide_eq_false c4
          clear c4
          obtain rfl := Option.some.inj H
          go_wp2
          repeat (go_quiet (fail); try go_wp2)
          go_ret
          exact ⟨by first | rfl | (simp; done) | (simp [*]; done), by repeat (first | exact Drawn0.refl _ | apply Drawn0.step)⟩
  · rw [if_neg c3] at H
    have c3b0 : ((l0.length : Int) == (l1.length : Int)) = false := beq_eq_false_iff_ne.mpr c3
    have c3b1 : ((l0.length : Int) != (l1.length : Int)) = true := bne_iff_ne.mpr c3
    have c3b2 : (l0.length == l1.length) = false := by first | simpa using c3 | (simp at c3 ⊢; omega)
    obtain rfl := Option.some.inj H
    go_enter Tryd.func60, Tryd.ntmps60
    go_wp2
    repeat (go_quiet (fail); try go_wp2)
    go_ret
    exact ⟨by first | rfl | (simp; done) | (simp [*]; done), by repeat (first | exact Drawn0.refl _ | apply Drawn0.step)⟩

/-! ### laws_eqStringS: function 61 -/
def laws_eqStringS.l0 : Nat → List ByteArray → List ByteArray → Int → Option (Bool)
  | 0, _, _, _ => none
  | k + 1, x0, x1, x5 => if x5 < (x0.length : Int) then (if 0 ≤ x5 then (if x5 < (x1.length : Int) then (if (rdOf ByteArray.empty x0 x5).toList = (rdOf ByteArray.empty x1 x5).toList then (laws_eqStringS.l0 k x0 x1 (wrap64 (x5 + 1))) else (some false)) else (none)) else (none)) else (some true)
def laws_eqStringS.f (k : Nat) (l0 : List ByteArray) (l1 : List ByteArray) : Option (Bool) := if (l0.length : Int) = (l1.length : Int) then (laws_eqStringS.l0 k l0 l1 0) else (some false)
theorem laws_eqStringS.mono_l : ∀ k, (∀ y0 y1 y2, LeO (laws_eqStringS.l0 k y0 y1 y2) (laws_eqStringS.l0 (k + 1) y0 y1 y2))
  | 0 => fun _ _ _ r h => by simp [laws_eqStringS.l0] at h
  | k + 1 => by
    have ih0 := laws_eqStringS.mono_l k
    · intro y0 y1 y2
      unfold laws_eqStringS.l0
      repeat' first
      | (with_reducible exact ih0 _ _ _)
      | (with_reducible exact LeO.refl _)
      | (with_reducible exact LeO.none _)
      | (with_reducible refine LeO.ite ?_ ?_)
      | (with_reducible refine LeO.bind ?_ (fun _ => ?_))
      | exact ih0 _ _ _
      | exact LeO.none _
      | refine LeO.ite ?_ ?_
      | refine LeO.bind ?_ (fun _ => ?_)
theorem laws_eqStringS.mono : ∀ a0 a1 k, LeO (laws_eqStringS.f k a0 a1) (laws_eqStringS.f (k + 1) a0 a1) := by
  intro a0 a1 k
  have ih0 := laws_eqStringS.mono_l k
  unfold laws_eqStringS.f
  repeat' first
      | (with_reducible exact ih0 _ _ _)
      | (with_reducible exact LeO.refl _)
      | (with_reducible exact LeO.none _)
      | (with_reducible refine LeO.ite ?_ ?_)
      | (with_reducible refine LeO.bind ?_ (fun _ => ?_))
      | exact ih0 _ _ _
      | exact LeO.none _
      | refine LeO.ite ?_ ?_
      | refine LeO.bind ?_ (fun _ => ?_)
set_option maxHeartbeats 8000000 in
set_option maxRecDepth 100000 in
theorem laws_eqStringS.calls (k : Nat) (A0 : Option Addr) (c0 : Nat) (l0 : List ByteArray) (A1 : Option Addr) (c1 : Nat) (l1 : List ByteArray) (r : Bool) (w : World) (hr0 : Kd.C Kd.string w A0 l0.length l0) (hc0 : l0.length ≤ c0) (hr1 : Kd.C Kd.string w A1 l1.length l1) (hc1 : l1.length ≤ c1) (h : laws_eqStringS.f k l0 l1 = some r) :
    Calls Tryd.prog 61 #[.slice A0 l0.length c0, .slice A1 l1.length c1] w fun e w' => e = .returned (.bool r) ∧ Drawn0 w w' := by
  have HR0 := Aside0.mk hr0
  have HC0 := Aside0.mk hc0
  clear hr0 hc0
  have HR1 := Aside0.mk hr1
  have HC1 := Aside0.mk hc1
  clear hr1 hc1
  have H : (if (l0.length : Int) = (l1.length : Int) then (laws_eqStringS.l0 k l0 l1 0) else (some false)) = some r := h
  clear h
  by_cases c3 : (l0.length : Int) = (l1.length : Int)
  · rw [if_pos c3] at H
    have c3b0 : ((l0.length : Int) == (l1.length : Int)) = true := beq_iff_eq.mpr c3
    have c3b1 : ((l0.length : Int) != (l1.length : Int)) = false := bne_eq_false_iff_eq.mpr c3
    have c3b2 : (l0.length == l1.length) = true := by first | simpa using c3 | (simp at c3 ⊢; omega)
    clear c3
    have H' := Aside0.mk H
    clear H
    go_enter Tryd.func61, Tryd.ntmps61
    go_wp2
    repeat (go_quiet (fail); try go_wp2)
    go_loopg [5] k (fun kq v5 w' => ∃ (x5_1 : Int), v5 = .int .i64 x5_1 ∧ Aside0 (laws_eqStringS.l0 kq l0 l1 x5_1 = some r) ∧ Aside0 (kq ≤ k) ∧ Drawn0 w w')
    case atStart => exact ⟨(0), (by first | rfl | (simp; done) | (simp [*]; done)), H', ⟨Nat.le_refl _⟩, by repeat (first | exact Drawn0.refl _ | apply Drawn0.step)⟩
    case round =>
      clear H'
      try clear c1
      try clear p2
      try clear c3
      try clear c3b0
      try clear c3b1
      try clear c3b2
      obtain ⟨x5_1, rfl, HA, HK1, ⟨m1, rfl⟩⟩ := hrel
      cases gk with
      | zero => exact absurd HA.out (by simp [laws_eqStringS.l0])
      | succ k1 =>
        have H := HA.out
        clear HA
        simp only [laws_eqStringS.l0] at H
        by_cases c4 : x5_1 < (l0.length : Int)
        · rw [if_pos c4] at H
          have c4b0 : decide (x5_1 < (l0.length : Int)) = true := decide_eq_true c4
          clear c4
          by_cases c5 : 0 ≤ x5_1
          · rw [if_pos c5] at H
            have c5b0 : decide (0 ≤ x5_1) = true := decide_eq_true c5
            clear c5
            by_cases c6 : x5_1 < (l1.length : Int)
            · rw [if_pos c6] at H
              have c6b0 : decide (x5_1 < (l1.length : Int)) = true := decide_eq_true c6
              clear c6
              by_cases c7 : (rdOf ByteArray.empty l0 x5_1).toList = (rdOf ByteArray.empty l1 x5_1).toList
              · rw [if_pos c7] at H
                have c7b0 : ((rdOf ByteArray.empty l0 x5_1).toList == (rdOf ByteArray.empty l1 x5_1).toList) = true := beq_iff_eq.mpr c7
                have c7b1 : ((rdOf ByteArray.empty l0 x5_1).toList != (rdOf ByteArray.empty l1 x5_1).toList) = false := bne_eq_false_iff_eq.mpr c7
                clear c7
                have H' := Aside0.mk H
                clear H
                have p153 : 0 ≤ (x5_1 : Int) := of_decide_eq_true (by first | (with_reducible assumption) | assumption)
                have q153 : x5_1 < (l0.length : Int) := of_decide_eq_true (by first | (with_reducible assumption) | assumption)
                obtain ⟨ad153, e153, hx153_0⟩ := Kd.at_string HR0.out x5_1 p153 q153
                cases e153
                replace p153 := eq_true p153
                replace q153 := eq_true q153
                have p154 : 0 ≤ (x5_1 : Int) := of_decide_eq_true (by first | (with_reducible assumption) | assumption)
                have q154 : x5_1 < (l1.length : Int) := of_decide_eq_true (by first | (with_reducible assumption) | assumption)
                obtain ⟨ad154, e154, hx154_0⟩ := Kd.at_string HR1.out x5_1 p154 q154
                cases e154
                replace p154 := eq_true p154
                replace q154 := eq_true q154
                go_wp2
                repeat (go_quiet (fail); try go_wp2)
                go_roundg k1
                case measure => have := HK1.out; omega
                case rel => exact ⟨(wrap64 (x5_1 + 1)), (by first | rfl | (simp; done) | (simp [*]; done)), H', ⟨by have := HK1.out; omega⟩, by repeat (first | exact Drawn0.refl _ | apply Drawn0.step)⟩
              · rw [if_neg c7] at H
                have c7b0 : ((rdOf ByteArray.empty l0 x5_1).toList == (rdOf ByteArray.empty l1 x5_1).toList) = false := beq_eq_false_iff_ne.mpr c7
                have c7b1 : ((rdOf ByteArray.empty l0 x5_1).toList != (rdOf ByteArray.empty l1 x5_1).toList) = true := bne_iff_ne.mpr c7
                obtain rfl := Option.some.inj H
                have p153 : 0 ≤ (x5_1 : Int) := of_decide_eq_true (by first | (with_reducible assumption) | assumption)
                have q153 : x5_1 < (l0.length : Int) := of_decide_eq_true (by first | (with_reducible assumption) | assumption)
                obtain ⟨ad153, e153, hx153_0⟩ := Kd.at_string HR0.out x5_1 p153 q153
                cases e153
                replace p153 := eq_true p153
                replace q153 := eq_true q153
                have p154 : 0 ≤ (x5_1 : Int) := of_decide_eq_true (by first | (with_reducible assumption) | assumption)
                have q154 : x5_1 < (l1.length : Int) := of_decide_eq_true (by first | (with_reducible assumption) | assumption)
                obtain ⟨ad154, e154, hx154_0⟩ := Kd.at_string HR1.out x5_1 p154 q154
                cases e154
                replace p154 := eq_true p154
                replace q154 := eq_true q154
                go_wp2
                repeat (go_quiet (fail); try go_wp2)
                go_ret
                exact ⟨by first | rfl | (simp; done) | (simp [*]; done), by repeat (first | exact Drawn0.refl _ | apply Drawn0.step)⟩
            · rw [if_neg c6] at H
              exact absurd H (by simp)
          · rw [if_neg c5] at H
            exact absurd H (by simp)
        · rw [if_neg c4] at H
          have c4b0 : decide (x5_1 < (l0.length : Int)) = false := decide_eq_false c4
          clear c4
          obtain rfl := Option.some.inj H
          go_wp2
          repeat (go_quiet (fail); try go_wp2)
          go_ret
          exact ⟨by first | rfl | (simp; done) | (simp [*]; done), by repeat (first | exact Drawn0.refl _ | apply Drawn0.step)⟩
  · rw [if_neg c3] at H
    have c3b0 : ((l0.length : Int) == (l1.length : Int)) = false := beq_eq_false_iff_ne.mpr c3
    have c3b1 : ((l0.length : Int) != (l1.length : Int)) = true := bne_iff_ne.mpr c3
    have c3b2 : (l0.length == l1.length) = false := by first | simpa using c3 | (simp at c3 ⊢; omega)
    obtain rfl := Option.some.inj H
    go_enter Tryd.func61, Tryd.ntmps61
    go_wp2
    repeat (go_quiet (fail); try go_wp2)
    go_ret
    exact ⟨by first | rfl | (simp; done) | (simp [*]; done), by repeat (first | exact Drawn0.refl _ | apply Drawn0.step)⟩

/-! ### laws_eqSnap: function 82 -/
def laws_eqSnap.f (k : Nat) (a0_0 : ByteArray) (l0_1 : List Int) (a1_0 : ByteArray) (l1_1 : List Int) : Option (Bool) := if a0_0.toList = a1_0.toList then ((laws_eqInt64S.f k l0_1 l1_1).bind fun t157 => (if t157 = true then (some true) else (some false))) else (some false)
theorem laws_eqSnap.mono : ∀ a0 a1 a2 a3 k, LeO (laws_eqSnap.f k a0 a1 a2 a3) (laws_eqSnap.f (k + 1) a0 a1 a2 a3) := by
  intro a0 a1 a2 a3 k
  unfold laws_eqSnap.f
  repeat' first
      | (with_reducible exact laws_eqInt64S.mono _ _ _)
      | (with_reducible exact LeO.refl _)
      | (with_reducible exact LeO.none _)
      | (with_reducible refine LeO.ite ?_ ?_)
      | (with_reducible refine LeO.bind ?_ (fun _ => ?_))
      | exact laws_eqInt64S.mono _ _ _
      | exact LeO.none _
      | refine LeO.ite ?_ ?_
      | refine LeO.bind ?_ (fun _ => ?_)
set_option maxHeartbeats 8000000 in
set_option maxRecDepth 100000 in
theorem laws_eqSnap.calls (k : Nat) (a0_0 : ByteArray) (A0_1 : Option Addr) (c0_1 : Nat) (l0_1 : List Int) (a1_0 : ByteArray) (A1_1 : Option Addr) (c1_1 : Nat) (l1_1 : List Int) (r : Bool) (w : World) (hr0_1 : Kd.C (Kd.int .i64) w A0_1 l0_1.length l0_1) (hc0_1 : l0_1.length ≤ c0_1) (hr1_1 : Kd.C (Kd.int .i64) w A1_1 l1_1.length l1_1) (hc1_1 : l1_1.length ≤ c1_1) (h : laws_eqSnap.f k a0_0 l0_1 a1_0 l1_1 = some r) :
    Calls Tryd.prog 82 #[.agg #[.string a0_0, .slice A0_1 l0_1.length c0_1], .agg #[.string a1_0, .slice A1_1 l1_1.length c1_1]] w fun e w' => e = .returned (.bool r) ∧ Below w.heap.size w w' := by
  have hu47 := Tryd.underlying47
  have HR0_1 := Aside0.mk hr0_1
  have HC0_1 := Aside0.mk hc0_1
  clear hr0_1 hc0_1
  have HR1_1 := Aside0.mk hr1_1
  have HC1_1 := Aside0.mk hc1_1
  clear hr1_1 hc1_1
  have HB := Aside0.mk (Below.refl w.heap.size w)
  have H : (if a0_0.toList = a1_0.toList then ((laws_eqInt64S.f k l0_1 l1_1).bind fun t157 => (if t157 = true then (some true) else (some false))) else (some false)) = some r := h
  clear h
  by_cases c3 : a0_0.toList = a1_0.toList
  · rw [if_pos c3] at H
    have c3b0 : (a0_0.toList == a1_0.toList) = true := beq_iff_eq.mpr c3
    have c3b1 : (a0_0.toList != a1_0.toList) = false := bne_eq_false_iff_eq.mpr c3
    clear c3
    replace H := Option.bind_eq_some_iff.mp H
    obtain ⟨t157, A40, H⟩ := H
    replace H : (if t157 = true then (some true) else (some false)) = some r := H
    have A4 := Aside0.mk A40
    clear A40
    by_cases c5 : t157 = true
    · subst c5
      have H1 : (some true) = some r := by rw [if_pos rfl] at H; exact H
      clear H
      have H := H1
      clear H1
      obtain rfl := Option.some.inj H
      go_enter Tryd.func82, Tryd.ntmps82
      go_wp2_with (first | ((with_reducible refine gate_dst (N := 2) rfl ?_); refine box_event ?hg (N := 2) ?hd (cs := #[.string a0_0, .slice A0_1 l0_1.length c0_1]) (t := 47) ?hr ?_; (case hd => rfl); (case hg => rfl); (case hr => first | (go_simp; done) | (go_simp; rfl)); intro gb155 hg w6 hbox hb; have n0_ := Aside0.mk (below_step (by repeat (first | (with_reducible first | exact HB.out | apply below_alloc | apply pw_below_drewN | apply below_drew1) | exact HB.out)) hb); have n1_ := Aside0.mk (hbox); have n2_ := Aside0.mk ((by rw [hg]; exact (below_size (by repeat (first | (with_reducible first | exact HB.out | apply below_alloc | apply pw_below_drewN | apply below_drew1) | exact HB.out))) : w.heap.size ≤ gb155)); have n3_ := Aside0.mk ((by rw [hg]; exact (below_size (by repeat (first | (with_reducible first | exact HB.out | apply below_alloc | apply pw_below_drewN | apply below_drew1) | exact HB.out))) : w.heap.size ≤ gb155)); clear HB; have HB := n0_; have BK155 := n1_; have GW155 := n2_; have GE155 := n3_; clear n0_ n1_ n2_ n3_; clear hb hbox hg) | ((with_reducible refine gate_dst (N := 3) rfl ?_); refine box_event ?hg (N := 3) ?hd (cs := #[.string a1_0, .slice A1_1 l1_1.length c1_1]) (t := 47) ?hr ?_; (case hd => rfl); (case hg => rfl); (case hr => first | (go_simp; done) | (go_simp; rfl)); intro gb156 hg w7 hbox hb; have n0_ := Aside0.mk (blk_below (g := gb155) (o := .cells #[.string a0_0, .slice A0_1 l0_1.length c0_1] 47 (0, 0)) (by (with_reducible repeat (first | refine blk_drewN ?_ _ | refine blk_drew ?_ | refine blk_alloc ?_ _)); exact BK155.out) hb); have n1_ := Aside0.mk (below_step (by repeat (first | (with_reducible first | exact HB.out | apply below_alloc | apply pw_below_drewN | apply below_drew1 | refine below_set ?_ GE155.out) | exact HB.out)) hb); have n2_ := Aside0.mk (hbox); have n3_ := Aside0.mk ((by rw [hg]; exact (below_size (by repeat (first | (with_reducible first | exact HB.out | apply below_alloc | apply pw_below_drewN | apply below_drew1 | refine below_set ?_ GE155.out) | exact HB.out))) : w.heap.size ≤ gb156)); have n4_ := Aside0.mk ((by rw [hg]; exact (below_size (by repeat (first | (with_reducible first | exact HB.out | apply below_alloc | apply pw_below_drewN | apply below_drew1 | refine below_set ?_ GE155.out) | exact HB.out))) : w.heap.size ≤ gb156)); have n5_ := Aside0.mk ((by rw [hg]; exact Nat.ne_of_lt (blk_lt (g := gb155) (o := .cells #[.string a0_0, .slice A0_1 l0_1.length c0_1] 47 (0, 0)) (by (with_reducible repeat (first | refine blk_drewN ?_ _ | refine blk_drew ?_ | refine blk_alloc ?_ _)); exact BK155.out)) : gb155 ≠ gb156)); have n6_ := Aside0.mk ((by rw [hg]; exact Nat.ne_of_gt (blk_lt (g := gb155) (o := .cells #[.string a0_0, .slice A0_1 l0_1.length c0_1] 47 (0, 0)) (by (with_reducible repeat (first | refine blk_drewN ?_ _ | refine blk_drew ?_ | refine blk_alloc ?_ _)); exact BK155.out)) : gb156 ≠ gb155)); clear BK155; clear HB; have BK155 := n0_; have HB := n1_; have BK156 := n2_; have GW156 := n3_; have GE156 := n4_; have NB155_156 := n5_; have NB156_155 := n6_; clear n0_ n1_ n2_ n3_ n4_ n5_ n6_; clear hb hbox hg; have hnb8 := NB155_156.out; have hnc8 := NB156_155.out; have hcz9_0 : w7.cell? ⟨gb155, 0, none⟩ = some (.string a0_0) := (blk_cell BK155.out 0).trans rfl; have hcz9_1 : w7.cell? ⟨gb155, 1, none⟩ = some (.slice A0_1 l0_1.length c0_1) := (blk_cell BK155.out 1).trans rfl; have hfz9_0 := blk_frozen BK155.out 0; have hfz9_1 := blk_frozen BK155.out 1; have hcz10_0 : w7.cell? ⟨gb156, 0, none⟩ = some (.string a1_0) := (blk_cell BK156.out 0).trans rfl; have hcz10_1 : w7.cell? ⟨gb156, 1, none⟩ = some (.slice A1_1 l1_1.length c1_1) := (blk_cell BK156.out 1).trans rfl; have hfz10_0 := blk_frozen BK156.out 0; have hfz10_1 := blk_frozen BK156.out 1) | ((with_reducible refine gate_callee (f := 60) rfl ?_); refine goesL_ (some 14) rfl rfl Tryd.func60 (by kernel_rfl) rfl #[.slice A0_1 l0_1.length c0_1, .slice A1_1 l1_1.length c1_1] rfl (by (try simp only [List.map_toArray, List.map_cons, List.map_nil]); first | done | rfl | (simp only [List.length_drop, List.length_take]; rfl)) ?_; (with_reducible refine (laws_eqInt64S.calls k _ _ l0_1 _ _ l1_1 true _ ?side1 ?side2 ?side3 ?side4 A4.out).mono ?_); (case side1 => repeat (first | exact (Kd.C_below HR0_1.out HB.out) | (with_reducible refine Kd.C_alloc ?_ _) | (with_reducible refine Kd.C_drewN ?_ _) | (with_reducible refine Kd.C_drew ?_))); (case side2 => exact HC0_1.out); (case side3 => repeat (first | exact (Kd.C_below HR1_1.out HB.out) | (with_reducible refine Kd.C_alloc ?_ _) | (with_reducible refine Kd.C_drewN ?_ _) | (with_reducible refine Kd.C_drew ?_))); (case side4 => exact HC1_1.out); rintro e w' ⟨rfl, ⟨nd, rfl⟩⟩; refine ⟨_, rfl, ?_⟩))
      go_ret
      exact ⟨by first | rfl | (simp [errW_none, errW_some] <;> rfl) | (simp [*, errW_none, errW_some] <;> rfl), by repeat (first | (with_reducible first | exact HB.out | apply below_alloc | apply pw_below_drewN | apply below_drew1 | refine below_set ?_ GE155.out | refine below_set ?_ GE156.out) | exact HB.out)⟩
    · replace c5 := Bool.eq_false_iff.mpr c5
      subst c5
      have H1 : (some false) = some r := by rw [if_neg (show ¬ (false = true) by decide)] at H; exact H
      clear H
      have H := H1
      clear H1
      obtain rfl := Option.some.inj H
      go_enter Tryd.func82, Tryd.ntmps82
      go_wp2_with (first | ((with_reducible refine gate_dst (N := 2) rfl ?_); refine box_event ?hg (N := 2) ?hd (cs := #[.string a0_0, .slice A0_1 l0_1.length c0_1]) (t := 47) ?hr ?_; (case hd => rfl); (case hg => rfl); (case hr => first | (go_simp; done) | (go_simp; rfl)); intro gb155 hg w11 hbox hb; have n0_ := Aside0.mk (below_step (by repeat (first | (with_reducible first | exact HB.out | apply below_alloc | apply pw_below_drewN | apply below_drew1) | exact HB.out)) hb); have n1_ := Aside0.mk (hbox); have n2_ := Aside0.mk ((by rw [hg]; exact (below_size (by repeat (first | (with_reducible first | exact HB.out | apply below_alloc | apply pw_below_drewN | apply below_drew1) | exact HB.out))) : w.heap.size ≤ gb155)); have n3_ := Aside0.mk ((by rw [hg]; exact (below_size (by repeat (first | (with_reducible first | exact HB.out | apply below_alloc | apply pw_below_drewN | apply below_drew1) | exact HB.out))) : w.heap.size ≤ gb155)); clear HB; have HB := n0_; have BK155 := n1_; have GW155 := n2_; have GE155 := n3_; clear n0_ n1_ n2_ n3_; clear hb hbox hg) | ((with_reducible refine gate_dst (N := 3) rfl ?_); refine box_event ?hg (N := 3) ?hd (cs := #[.string a1_0, .slice A1_1 l1_1.length c1_1]) (t := 47) ?hr ?_; (case hd => rfl); (case hg => rfl); (case hr => first | (go_simp; done) | (go_simp; rfl)); intro gb156 hg w12 hbox hb; have n0_ := Aside0.mk (blk_below (g := gb155) (o := .cells #[.string a0_0, .slice A0_1 l0_1.length c0_1] 47 (0, 0)) (by (with_reducible repeat (first | refine blk_drewN ?_ _ | refine blk_drew ?_ | refine blk_alloc ?_ _)); exact BK155.out) hb); have n1_ := Aside0.mk (below_step (by repeat (first | (with_reducible first | exact HB.out | apply below_alloc | apply pw_below_drewN | apply below_drew1 | refine below_set ?_ GE155.out) | exact HB.out)) hb); have n2_ := Aside0.mk (hbox); have n3_ := Aside0.mk ((by rw [hg]; exact (below_size (by repeat (first | (with_reducible first | exact HB.out | apply below_alloc | apply pw_below_drewN | apply below_drew1 | refine below_set ?_ GE155.out) | exact HB.out))) : w.heap.size ≤ gb156)); have n4_ := Aside0.mk ((by rw [hg]; exact (below_size (by repeat (first | (with_reducible first | exact HB.out | apply below_alloc | apply pw_below_drewN | apply below_drew1 | refine below_set ?_ GE155.out) | exact HB.out))) : w.heap.size ≤ gb156)); have n5_ := Aside0.mk ((by rw [hg]; exact Nat.ne_of_lt (blk_lt (g := gb155) (o := .cells #[.string a0_0, .slice A0_1 l0_1.length c0_1] 47 (0, 0)) (by (with_reducible repeat (first | refine blk_drewN ?_ _ | refine blk_drew ?_ | refine blk_alloc ?_ _)); exact BK155.out)) : gb155 ≠ gb156)); have n6_ := Aside0.mk ((by rw [hg]; exact Nat.ne_of_gt (blk_lt (g := gb155) (o := .cells #[.string a0_0, .slice A0_1 l0_1.length c0_1] 47 (0, 0)) (by (with_reducible repeat (first | refine blk_drewN ?_ _ | refine blk_drew ?_ | refine blk_alloc ?_ _)); exact BK155.out)) : gb156 ≠ gb155)); clear BK155; clear HB; have BK155 := n0_; have HB := n1_; have BK156 := n2_; have GW156 := n3_; have GE156 := n4_; have NB155_156 := n5_; have NB156_155 := n6_; clear n0_ n1_ n2_ n3_ n4_ n5_ n6_; clear hb hbox hg; have hnb13 := NB155_156.out; have hnc13 := NB156_155.out; have hcz14_0 : w12.cell? ⟨gb155, 0, none⟩ = some (.string a0_0) := (blk_cell BK155.out 0).trans rfl; have hcz14_1 : w12.cell? ⟨gb155, 1, none⟩ = some (.slice A0_1 l0_1.length c0_1) := (blk_cell BK155.out 1).trans rfl; have hfz14_0 := blk_frozen BK155.out 0; have hfz14_1 := blk_frozen BK155.out 1; have hcz15_0 : w12.cell? ⟨gb156, 0, none⟩ = some (.string a1_0) := (blk_cell BK156.out 0).trans rfl; have hcz15_1 : w12.cell? ⟨gb156, 1, none⟩ = some (.slice A1_1 l1_1.length c1_1) := (blk_cell BK156.out 1).trans rfl; have hfz15_0 := blk_frozen BK156.out 0; have hfz15_1 := blk_frozen BK156.out 1) | ((with_reducible refine gate_callee (f := 60) rfl ?_); refine goesL_ (some 14) rfl rfl Tryd.func60 (by kernel_rfl) rfl #[.slice A0_1 l0_1.length c0_1, .slice A1_1 l1_1.length c1_1] rfl (by (try simp only [List.map_toArray, List.map_cons, List.map_nil]); first | done | rfl | (simp only [List.length_drop, List.length_take]; rfl)) ?_; (with_reducible refine (laws_eqInt64S.calls k _ _ l0_1 _ _ l1_1 false _ ?side1 ?side2 ?side3 ?side4 A4.out).mono ?_); (case side1 => repeat (first | exact (Kd.C_below HR0_1.out HB.out) | (with_reducible refine Kd.C_alloc ?_ _) | (with_reducible refine Kd.C_drewN ?_ _) | (with_reducible refine Kd.C_drew ?_))); (case side2 => exact HC0_1.out); (case side3 => repeat (first | exact (Kd.C_below HR1_1.out HB.out) | (with_reducible refine Kd.C_alloc ?_ _) | (with_reducible refine Kd.C_drewN ?_ _) | (with_reducible refine Kd.C_drew ?_))); (case side4 => exact HC1_1.out); rintro e w' ⟨rfl, ⟨nd, rfl⟩⟩; refine ⟨_, rfl, ?_⟩))
      go_ret
      exact ⟨by first | rfl | (simp [errW_none, errW_some] <;> rfl) | (simp [*, errW_none, errW_some] <;> rfl), by repeat (first | (with_reducible first | exact HB.out | apply below_alloc | apply pw_below_drewN | apply below_drew1 | refine below_set ?_ GE155.out | refine below_set ?_ GE156.out) | exact HB.out)⟩
  · rw [if_neg c3] at H
    have c3b0 : (a0_0.toList == a1_0.toList) = false := beq_eq_false_iff_ne.mpr c3
    have c3b1 : (a0_0.toList != a1_0.toList) = true := bne_iff_ne.mpr c3
    obtain rfl := Option.some.inj H
    go_enter Tryd.func82, Tryd.ntmps82
    go_wp2_with (first | ((with_reducible refine gate_dst (N := 2) rfl ?_); refine box_event ?hg (N := 2) ?hd (cs := #[.string a0_0, .slice A0_1 l0_1.length c0_1]) (t := 47) ?hr ?_; (case hd => rfl); (case hg => rfl); (case hr => first | (go_simp; done) | (go_simp; rfl)); intro gb155 hg w16 hbox hb; have n0_ := Aside0.mk (below_step (by repeat (first | (with_reducible first | exact HB.out | apply below_alloc | apply pw_below_drewN | apply below_drew1) | exact HB.out)) hb); have n1_ := Aside0.mk (hbox); have n2_ := Aside0.mk ((by rw [hg]; exact (below_size (by repeat (first | (with_reducible first | exact HB.out | apply below_alloc | apply pw_below_drewN | apply below_drew1) | exact HB.out))) : w.heap.size ≤ gb155)); have n3_ := Aside0.mk ((by rw [hg]; exact (below_size (by repeat (first | (with_reducible first | exact HB.out | apply below_alloc | apply pw_below_drewN | apply below_drew1) | exact HB.out))) : w.heap.size ≤ gb155)); clear HB; have HB := n0_; have BK155 := n1_; have GW155 := n2_; have GE155 := n3_; clear n0_ n1_ n2_ n3_; clear hb hbox hg) | ((with_reducible refine gate_dst (N := 3) rfl ?_); refine box_event ?hg (N := 3) ?hd (cs := #[.string a1_0, .slice A1_1 l1_1.length c1_1]) (t := 47) ?hr ?_; (case hd => rfl); (case hg => rfl); (case hr => first | (go_simp; done) | (go_simp; rfl)); intro gb156 hg w17 hbox hb; have n0_ := Aside0.mk (blk_below (g := gb155) (o := .cells #[.string a0_0, .slice A0_1 l0_1.length c0_1] 47 (0, 0)) (by (with_reducible repeat (first | refine blk_drewN ?_ _ | refine blk_drew ?_ | refine blk_alloc ?_ _)); exact BK155.out) hb); have n1_ := Aside0.mk (below_step (by repeat (first | (with_reducible first | exact HB.out | apply below_alloc | apply pw_below_drewN | apply below_drew1 | refine below_set ?_ GE155.out) | exact HB.out)) hb); have n2_ := Aside0.mk (hbox); have n3_ := Aside0.mk ((by rw [hg]; exact (below_size (by repeat (first | (with_reducible first | exact HB.out | apply below_alloc | apply pw_below_drewN | apply below_drew1 | refine below_set ?_ GE155.out) | exact HB.out))) : w.heap.size ≤ gb156)); have n4_ := Aside0.mk ((by rw [hg]; exact (below_size (by repeat (first | (with_reducible first | exact HB.out | apply below_alloc | apply pw_below_drewN | apply below_drew1 | refine below_set ?_ GE155.out) | exact HB.out))) : w.heap.size ≤ gb156)); have n5_ := Aside0.mk ((by rw [hg]; exact Nat.ne_of_lt (blk_lt (g := gb155) (o := .cells #[.string a0_0, .slice A0_1 l0_1.length c0_1] 47 (0, 0)) (by (with_reducible repeat (first | refine blk_drewN ?_ _ | refine blk_drew ?_ | refine blk_alloc ?_ _)); exact BK155.out)) : gb155 ≠ gb156)); have n6_ := Aside0.mk ((by rw [hg]; exact Nat.ne_of_gt (blk_lt (g := gb155) (o := .cells #[.string a0_0, .slice A0_1 l0_1.length c0_1] 47 (0, 0)) (by (with_reducible repeat (first | refine blk_drewN ?_ _ | refine blk_drew ?_ | refine blk_alloc ?_ _)); exact BK155.out)) : gb156 ≠ gb155)); clear BK155; clear HB; have BK155 := n0_; have HB := n1_; have BK156 := n2_; have GW156 := n3_; have GE156 := n4_; have NB155_156 := n5_; have NB156_155 := n6_; clear n0_ n1_ n2_ n3_ n4_ n5_ n6_; clear hb hbox hg; have hnb18 := NB155_156.out; have hnc18 := NB156_155.out; have hcz19_0 : w17.cell? ⟨gb155, 0, none⟩ = some (.string a0_0) := (blk_cell BK155.out 0).trans rfl; have hcz19_1 : w17.cell? ⟨gb155, 1, none⟩ = some (.slice A0_1 l0_1.length c0_1) := (blk_cell BK155.out 1).trans rfl; have hfz19_0 := blk_frozen BK155.out 0; have hfz19_1 := blk_frozen BK155.out 1; have hcz20_0 : w17.cell? ⟨gb156, 0, none⟩ = some (.string a1_0) := (blk_cell BK156.out 0).trans rfl; have hcz20_1 : w17.cell? ⟨gb156, 1, none⟩ = some (.slice A1_1 l1_1.length c1_1) := (blk_cell BK156.out 1).trans rfl; have hfz20_0 := blk_frozen BK156.out 0; have hfz20_1 := blk_frozen BK156.out 1))
    go_ret
    exact ⟨by first | rfl | (simp [errW_none, errW_some] <;> rfl) | (simp [*, errW_none, errW_some] <;> rfl), by repeat (first | (with_reducible first | exact HB.out | apply below_alloc | apply pw_below_drewN | apply below_drew1 | refine below_set ?_ GE155.out | refine below_set ?_ GE156.out) | exact HB.out)⟩

/-! ### laws_eqSnapS: function 62 -/
def laws_eqSnapS.l0 : Nat → List (S47) → List (S47) → Int → Option (Bool)
 | 0, _, _, _ => none
 | k + 1, x0, x1, x5 => if x5 < (x0.length : Int) then (if 0 ≤ x5 then (if x5 < (x1.length : Int) then ((laws_eqSnap.f k ((rd_T47 x0 x5).f0) ((rd_T47 x0 x5).f1) ((rd_T47 x1 x5).f0) ((rd_T47 x1 x5).f1)).bind fun t160 => (if t160 = true then (laws_eqSnapS.l0 k x0 x1 (wrap64 (x5 + 1))) else (some false))) else (none)) else (none)) else (some true)
def laws_eqSnapS.f (k : Nat) (l0 : List (S47)) (l1 : List (S47)) : Option (Bool) := if (l0.length : Int) = (l1.length : Int) then (laws_eqSnapS.l0 k l0 l1 0) else (some false)
theorem laws_eqSnapS.mono_l : ∀ k, (∀ y0 y1 y2, LeO (laws_eqSnapS.l0 k y0 y1 y2) (laws_eqSnapS.l0 (k + 1) y0 y1 y2))
 | 0 => fun _ _ _ r h => by simp [laws_eqSnapS.l0] at h
 | k + 1 => by
  have ih0 := laws_eqSnapS.mono_l k
  ·intro y0 y1 y2
   unfold laws_eqSnapS.l0
   repeat' first
   | (with_reducible exact ih0 _ _ _)
   | (with_reducible exact laws_eqSnap.mono _ _ _ _ _)
   | (with_reducible exact LeO.refl _)
   | (with_reducible exact LeO.none _)
   | (with_reducible refine LeO.ite ?_ ?_)
   | (with_reducible refine LeO.bind ?_ (fun _ => ?_))
   | exact ih0 _ _ _
   | exact laws_eqSnap.mono _ _ _ _ _
   | exact LeO.none _
   | refine LeO.ite ?_ ?_
   | refine LeO.bind ?_ (fun _ => ?_)
theorem laws_eqSnapS.mono : ∀ a0 a1 k, LeO (laws_eqSnapS.f k a0 a1) (laws_eqSnapS.f (k + 1) a0 a1) := by
 intro a0 a1 k
 have ih0 := laws_eqSnapS.mono_l k
 unfold laws_eqSnapS.f
 repeat' first
   | (with_reducible exact ih0 _ _ _)
   | (with_reducible exact laws_eqSnap.mono _ _ _ _ _)
   | (with_reducible exact LeO.refl _)
   | (with_reducible exact LeO.none _)
   | (with_reducible refine LeO.ite ?_ ?_)
   | (with_reducible refine LeO.bind ?_ (fun _ => ?_))
   | exact ih0 _ _ _
   | exact laws_eqSnap.mono _ _ _ _ _
   | exact LeO.none _
   | refine LeO.ite ?_ ?_
   | refine LeO.bind ?_ (fun _ => ?_)
def laws_eqSnapS.T6 : Bool × List (List Nat × List Nat) := (true, [([], []), ([], []), ([0, 1], [0, 1]), ([2], [2]), ([], []), ([], []), ([4, 5], [4, 5]), ([6], [6]), ([3, 7], [3, 7]), ([8], [8])])
def laws_eqSnapS.B6 : List Nat := [0, 0, 3, 7, 0, 0, 48, 112, 255, 511]
theorem laws_eqSnapS.tab6 : rtab .any (opsOf Tryd.f62 6) = laws_eqSnapS.T6 := by kernel_rfl
theorem laws_eqSnapS.bits6 : waitsOk laws_eqSnapS.T6.2 laws_eqSnapS.B6 = true := by kernel_rfl
set_option maxHeartbeats 8000000 in
set_option maxRecDepth 100000 in
theorem laws_eqSnapS.calls (k : Nat) (A0 : Option Addr) (c0 : Nat) (l0 : List (S47)) (A1 : Option Addr) (c1 : Nat) (l1 : List (S47)) (r : Bool) (w : World) (hr0 : Kd.C k47 w A0 l0.length l0) (hc0 : l0.length ≤ c0) (hr1 : Kd.C k47 w A1 l1.length l1) (hc1 : l1.length ≤ c1) (h : laws_eqSnapS.f k l0 l1 = some r) :
  Calls Tryd.prog 62 #[.slice A0 l0.length c0, .slice A1 l1.length c1] w fun e w' => e = .returned (.bool r) ∧ Below w.heap.size w w' := by
 have hu47 := Tryd.underlying47
 have HR0 := Sq.l hr0
 have HC0 := Sq.l hc0
 clear hr0 hc0
 have HR1 := Sq.l hr1
 have HC1 := Sq.l hc1
 clear hr1 hc1
 have HB := Sq.l (Below.refl w.heap.size w)
 have H : (if (l0.length : Int) = (l1.length : Int) then (laws_eqSnapS.l0 k l0 l1 0) else (some false)) = some r := h
 clear h
 by_cases c3 : (l0.length : Int) = (l1.length : Int)
 ·rw [if_pos c3] at H
  have c3b0 : ((l0.length : Int) == (l1.length : Int)) = true := beq_iff_eq.mpr c3
  have c3b1 : ((l0.length : Int) != (l1.length : Int)) = false := bne_eq_false_iff_eq.mpr c3
  have c3b2 : (l0.length == l1.length) = true := by first | simpa using c3 | (simp at c3 ⊢; omega)
  clear c3
  have H' := Sq.l H
  clear H
  go_enter Tryd.func62, Tryd.ntmps62
  go_wp2
  go_loopg [5] k (fun kq v5 w' => ∃ (x5_1 : Int), v5 = .int .i64 x5_1 ∧ Aside0 (laws_eqSnapS.l0 kq l0 l1 x5_1 = some r) ∧ Aside0 (kq ≤ k) ∧ Aside0 (Below w.heap.size w w'))
  case atStart => exact ⟨(0), (by first | rfl | (simp; done) | (simp [*]; done)), H', ⟨Nat.le_refl _⟩, ⟨by repeat (first | (with_reducible first | exact HB.out | apply Sq.i | apply Sq.j | apply Sq.k) | exact HB.out)⟩⟩
  case round =>
   clear H'
   try clear c1; try clear p2; try clear c3; try clear c3b0; try clear c3b1; try clear c3b2
   obtain ⟨x5_1, rfl, HA, HK1, HB⟩ := hrel
   cases gk with
   | zero => exact absurd HA.out (by simp [laws_eqSnapS.l0])
   | succ k1 =>
    have H := HA.out
    clear HA
    simp only [laws_eqSnapS.l0] at H
    by_cases c4 : x5_1 < (l0.length : Int)
    ·rw [if_pos c4] at H
     have c4b0 : decide (x5_1 < (l0.length : Int)) = true := decide_eq_true c4
     clear c4
     by_cases c5 : 0 ≤ x5_1
     ·rw [if_pos c5] at H
      have c5b0 : decide (0 ≤ x5_1) = true := decide_eq_true c5
      clear c5
      by_cases c6 : x5_1 < (l1.length : Int)
      ·rw [if_pos c6] at H
       have c6b0 : decide (x5_1 < (l1.length : Int)) = true := decide_eq_true c6
       clear c6
       replace H := Option.bind_eq_some_iff.mp H
       obtain ⟨t160, A70, H⟩ := H
       (try dsimp only at H)
       have A7 := Sq.l A70
       clear A70
       by_cases c8 : t160 = true
       ·subst c8
        rw [if_pos rfl] at H
        have H' := Sq.l H
        clear H
        try go_wp2
        have n0_ := Sq.l (Sq.k HB.out)
        clear HB; have HB := n0_; clear n0_
        have p158 : 0 ≤ (x5_1 : Int) := of_decide_eq_true (by first | (with_reducible assumption) | assumption)
        have q158 : x5_1 < (l0.length : Int) := of_decide_eq_true (by first | (with_reducible assumption) | assumption)
        obtain ⟨ad158, A158_1, c158_1, e158, hx158_0, hx158_1, hl158_1, hi158_1⟩ := at_T47 HR0.out x5_1 p158 q158
        have hw158_1 := hx158_1
        have hw158_0 := hx158_0
        cases e158
        replace hx158_0 := (HB.out.cell (World.block_lt_of_cell? w _ hx158_0)).trans hx158_0
        replace hx158_1 := (HB.out.cell (World.block_lt_of_cell? w _ hx158_1)).trans hx158_1
        have HR158_1 := Sq.l hi158_1
        have HC158_1 := Sq.l hl158_1
        clear hi158_1 hl158_1; replace p158 := eq_true p158; replace q158 := eq_true q158
        have p159 : 0 ≤ (x5_1 : Int) := of_decide_eq_true (by first | (with_reducible assumption) | assumption)
        have q159 : x5_1 < (l1.length : Int) := of_decide_eq_true (by first | (with_reducible assumption) | assumption)
        obtain ⟨ad159, A159_1, c159_1, e159, hx159_0, hx159_1, hl159_1, hi159_1⟩ := at_T47 HR1.out x5_1 p159 q159
        have hw159_1 := hx159_1
        have hw159_0 := hx159_0
        cases e159
        replace hx159_0 := (HB.out.cell (World.block_lt_of_cell? w _ hx159_0)).trans hx159_0
        replace hx159_1 := (HB.out.cell (World.block_lt_of_cell? w _ hx159_1)).trans hx159_1
        have HR159_1 := Sq.l hi159_1
        have HC159_1 := Sq.l hl159_1
        clear hi159_1 hl159_1; replace p159 := eq_true p159; replace q159 := eq_true q159
        refine start_ (n := 10) (S := fun w' => w'.cell? (ad158.add ((x5_1).toNat * 2)) = some (.string ((rd_T47 l0 x5_1).f0)) ∧ w'.cell? ⟨(ad158.add ((x5_1).toNat * 2)).block, (ad158.add ((x5_1).toNat * 2)).off + 1, none⟩ = some (.slice A158_1 ((rd_T47 l0 x5_1).f1).length c158_1) ∧ w'.cell? (ad159.add ((x5_1).toNat * 2)) = some (.string ((rd_T47 l1 x5_1).f0)) ∧ w'.cell? ⟨(ad159.add ((x5_1).toNat * 2)).block, (ad159.add ((x5_1).toNat * 2)).off + 1, none⟩ = some (.slice A159_1 ((rd_T47 l1 x5_1).f1).length c159_1)) (ds := []) #[false, false, false, false, false, false, false, false, false, false] (by kernel_rfl) rfl rfl ⟨((HB.out.cell (World.block_lt_of_cell? w _ hw158_0)).trans hw158_0), ((HB.out.cell (World.block_lt_of_cell? w _ hw158_1)).trans hw158_1), ((HB.out.cell (World.block_lt_of_cell? w _ hw159_0)).trans hw159_0), ((HB.out.cell (World.block_lt_of_cell? w _ hw159_1)).trans hw159_1)⟩ (fun hHeld => ?_); refine with_tabW laws_eqSnapS.tab6 laws_eqSnapS.bits6 (fun HT_ HW_ => ?_)
        generalize wr.drew = w9 at HB HR158_1 HR159_1 hx158_0 hx158_1 hx159_0 hx159_1 hHeld ⊢
        refine pure_ (i := 0) (N := some 17) (v := ?_) (a' := ?_) #[true, false, false, false, false, false, false, false, false, false] rfl rfl (any_of HT_.out (by kernel_rfl)) (fun _ _ _ h => h) (Or.inl ⟨by rfl, ?_⟩) ?_ ?_
        rotate_left
        ·intro w'
         go_simp
         with_reducible rfl
        rotate_left
        ·simp only [Act.put, List.setIfInBounds_toArray, List.set_cons_zero, List.set_cons_succ, i64_w, i32_w]
         rfl
        refine pure_ (i := 1) (N := some 18) (v := ?_) (a' := ?_) #[true, true, false, false, false, false, false, false, false, false] rfl rfl (any_of HT_.out (by kernel_rfl)) (fun _ _ _ h => h) (Or.inl ⟨by rfl, ?_⟩) ?_ ?_
        rotate_left
        ·intro w'
         go_simp
         with_reducible rfl
        rotate_left
        ·simp only [Act.put, List.setIfInBounds_toArray, List.set_cons_zero, List.set_cons_succ, i64_w, i32_w]
         rfl
        refine pure_ (i := 2) (N := some 19) (v := ?_) (a' := ?_) #[true, true, true, false, false, false, false, false, false, false] rfl rfl (any_of HT_.out (by kernel_rfl)) (fun _ _ _ h => h) (Or.inl ⟨by rfl, ?_⟩) ?_ ?_
        rotate_left
        ·intro w'
         go_simp
         with_reducible rfl
        rotate_left
        ·simp only [Act.put, List.setIfInBounds_toArray, List.set_cons_zero, List.set_cons_succ, i64_w, i32_w]
         rfl
        refine pure_ (i := 4) (N := some 21) (v := ?_) (a' := ?_) #[true, true, true, false, true, false, false, false, false, false] rfl rfl (any_of HT_.out (by kernel_rfl)) (fun _ _ _ h => h) (Or.inl ⟨by rfl, ?_⟩) ?_ ?_
        rotate_left
        ·intro w'
         go_simp
         with_reducible rfl
        rotate_left
        ·simp only [Act.put, List.setIfInBounds_toArray, List.set_cons_zero, List.set_cons_succ, i64_w, i32_w]
         rfl
        refine pure_ (i := 5) (N := some 22) (v := ?_) (a' := ?_) #[true, true, true, false, true, true, false, false, false, false] rfl rfl (any_of HT_.out (by kernel_rfl)) (fun _ _ _ h => h) (Or.inl ⟨by rfl, ?_⟩) ?_ ?_
        rotate_left
        ·intro w'
         go_simp
         with_reducible rfl
        rotate_left
        ·simp only [Act.put, List.setIfInBounds_toArray, List.set_cons_zero, List.set_cons_succ, i64_w, i32_w]
         rfl
        refine pure_ (i := 6) (N := some 23) (v := ?_) (a' := ?_) #[true, true, true, false, true, true, true, false, false, false] rfl rfl (any_of HT_.out (by kernel_rfl)) (fun _ _ _ h => h) (Or.inl ⟨by rfl, ?_⟩) ?_ ?_
        rotate_left
        ·intro w'
         go_simp
         with_reducible rfl
        rotate_left
        ·simp only [Act.put, List.setIfInBounds_toArray, List.set_cons_zero, List.set_cons_succ, i64_w, i32_w]
         rfl
        refine take_ (i := 3) (N := some 20) (v := ?_) (a' := ?_) #[true, true, true, true, true, true, true, false, false, false] rfl rfl (take_ofW HT_.out HW_.out (by kernel_rfl)) (fun _ _ _ h => h) (Or.inl ⟨by rfl, ?_⟩) hHeld ?_ ?_
        rotate_left
        ·rintro w' ⟨s0, s1, s2, s3⟩
         go_simp
         with_reducible rfl
        rotate_left
        ·simp only [Act.put, List.setIfInBounds_toArray, List.set_cons_zero, List.set_cons_succ, i64_w, i32_w]
         rfl
        refine take_ (i := 7) (N := some 24) (v := ?_) (a' := ?_) #[true, true, true, true, true, true, true, true, false, false] rfl rfl (take_ofW HT_.out HW_.out (by kernel_rfl)) (fun _ _ _ h => h) (Or.inl ⟨by rfl, ?_⟩) hHeld ?_ ?_
        rotate_left
        ·rintro w' ⟨s0, s1, s2, s3⟩
         go_simp
         with_reducible rfl
        rotate_left
        ·simp only [Act.put, List.setIfInBounds_toArray, List.set_cons_zero, List.set_cons_succ, i64_w, i32_w]
         rfl
        refine one_ (i := 8) (N := some 25) #[true, true, true, true, true, true, true, true, true, false] rfl rfl (one_of HT_.out (by kernel_rfl)) (by decide) (fun K hK => ?_)
        refine goes_ Tryd.func82 (by kernel_rfl) rfl #[.agg #[.string ((rd_T47 l0 x5_1).f0), .slice A158_1 ((rd_T47 l0 x5_1).f1).length c158_1], .agg #[.string ((rd_T47 l1 x5_1).f0), .slice A159_1 ((rd_T47 l1 x5_1).f1).length c159_1]] (by rfl) rfl rfl (by (try simp only [List.map_toArray, List.map_cons, List.map_nil]); first | done | rfl | (simp only [List.length_drop, List.length_take]; rfl)) ?_
        with_reducible refine (laws_eqSnap.calls k1 ((rd_T47 l0 x5_1).f0) _ _ ((rd_T47 l0 x5_1).f1) ((rd_T47 l1 x5_1).f0) _ _ ((rd_T47 l1 x5_1).f1) true _ ?side1 ?side2 ?side3 ?side4 A7.out).mono ?_
        (case side1 => repeat (first | exact (Sq.a1 HR158_1.out HB.out) | (with_reducible refine Sq.s ?_ _) | (with_reducible refine Sq.t ?_ _) | (with_reducible refine Sq.u ?_)))
        (case side2 => exact HC158_1.out)
        (case side3 => repeat (first | exact (Sq.a1 HR159_1.out HB.out) | (with_reducible refine Sq.s ?_ _) | (with_reducible refine Sq.t ?_ _) | (with_reducible refine Sq.u ?_)))
        (case side4 => exact HC159_1.out)
        rintro e w10 ⟨rfl, hb⟩
        refine ⟨_, rfl, ?_⟩
        have n0_ := Sq.l (Sq.a4 (by repeat (first | (with_reducible first | exact HB.out | apply Sq.i | apply Sq.j | apply Sq.k) | exact HB.out)) hb)
        clear HB; have HB := n0_; clear n0_; (try clear hb); (try clear hb2); (try clear hk); (try clear hi)
        refine hK.out _ _ ⟨((HB.out.cell (World.block_lt_of_cell? w _ hw158_0)).trans hw158_0), ((HB.out.cell (World.block_lt_of_cell? w _ hw158_1)).trans hw158_1), ((HB.out.cell (World.block_lt_of_cell? w _ hw159_0)).trans hw159_0), ((HB.out.cell (World.block_lt_of_cell? w _ hw159_1)).trans hw159_1)⟩ (fun hHeld => ?_)
        clear hK K
        refine norm_ (a' := ?_) ?_ ?_
        rotate_left
        ·show Act.put _ (some 25) _ = _
         simp only [Act.put, List.setIfInBounds_toArray, List.set_cons_zero, List.set_cons_succ, i64_w, i32_w]
         rfl
        refine pure_ (i := 9) (N := some 26) (v := ?_) (a' := ?_) #[true, true, true, true, true, true, true, true, true, true] rfl rfl (any_of HT_.out (by kernel_rfl)) (fun _ _ _ h => h) (Or.inl ⟨by rfl, ?_⟩) ?_ ?_
        rotate_left
        ·intro w'
         go_simp
         with_reducible rfl
        rotate_left
        ·simp only [Act.put, List.setIfInBounds_toArray, List.set_cons_zero, List.set_cons_succ, i64_w, i32_w]
         rfl
        refine done_ (done_of HT_.out (by kernel_rfl)) ?_
        try go_wp2
        go_roundg k1
        case measure => have := HK1.out; omega
        case rel => exact ⟨(wrap64 (x5_1 + 1)), (by first | rfl | (simp; done) | (simp [*]; done)), H', ⟨by have := HK1.out; omega⟩, ⟨by repeat (first | (with_reducible first | exact HB.out | apply Sq.i | apply Sq.j | apply Sq.k) | exact HB.out)⟩⟩
       ·replace c8 := Bool.eq_false_iff.mpr c8
        subst c8
        rw [if_neg (show ¬ (false = true) by decide)] at H
        obtain rfl := Option.some.inj H
        try go_wp2
        have n0_ := Sq.l (Sq.k HB.out)
        clear HB; have HB := n0_; clear n0_
        have p158 : 0 ≤ (x5_1 : Int) := of_decide_eq_true (by first | (with_reducible assumption) | assumption)
        have q158 : x5_1 < (l0.length : Int) := of_decide_eq_true (by first | (with_reducible assumption) | assumption)
        obtain ⟨ad158, A158_1, c158_1, e158, hx158_0, hx158_1, hl158_1, hi158_1⟩ := at_T47 HR0.out x5_1 p158 q158
        have hw158_1 := hx158_1
        have hw158_0 := hx158_0
        cases e158
        replace hx158_0 := (HB.out.cell (World.block_lt_of_cell? w _ hx158_0)).trans hx158_0
        replace hx158_1 := (HB.out.cell (World.block_lt_of_cell? w _ hx158_1)).trans hx158_1
        have HR158_1 := Sq.l hi158_1
        have HC158_1 := Sq.l hl158_1
        clear hi158_1 hl158_1; replace p158 := eq_true p158; replace q158 := eq_true q158
        have p159 : 0 ≤ (x5_1 : Int) := of_decide_eq_true (by first | (with_reducible assumption) | assumption)
        have q159 : x5_1 < (l1.length : Int) := of_decide_eq_true (by first | (with_reducible assumption) | assumption)
        obtain ⟨ad159, A159_1, c159_1, e159, hx159_0, hx159_1, hl159_1, hi159_1⟩ := at_T47 HR1.out x5_1 p159 q159
        have hw159_1 := hx159_1
        have hw159_0 := hx159_0
        cases e159
        replace hx159_0 := (HB.out.cell (World.block_lt_of_cell? w _ hx159_0)).trans hx159_0
        replace hx159_1 := (HB.out.cell (World.block_lt_of_cell? w _ hx159_1)).trans hx159_1
        have HR159_1 := Sq.l hi159_1
        have HC159_1 := Sq.l hl159_1
        clear hi159_1 hl159_1; replace p159 := eq_true p159; replace q159 := eq_true q159
        refine start_ (n := 10) (S := fun w' => w'.cell? (ad158.add ((x5_1).toNat * 2)) = some (.string ((rd_T47 l0 x5_1).f0)) ∧ w'.cell? ⟨(ad158.add ((x5_1).toNat * 2)).block, (ad158.add ((x5_1).toNat * 2)).off + 1, none⟩ = some (.slice A158_1 ((rd_T47 l0 x5_1).f1).length c158_1) ∧ w'.cell? (ad159.add ((x5_1).toNat * 2)) = some (.string ((rd_T47 l1 x5_1).f0)) ∧ w'.cell? ⟨(ad159.add ((x5_1).toNat * 2)).block, (ad159.add ((x5_1).toNat * 2)).off + 1, none⟩ = some (.slice A159_1 ((rd_T47 l1 x5_1).f1).length c159_1)) (ds := []) #[false, false, false, false, false, false, false, false, false, false] (by kernel_rfl) rfl rfl ⟨((HB.out.cell (World.block_lt_of_cell? w _ hw158_0)).trans hw158_0), ((HB.out.cell (World.block_lt_of_cell? w _ hw158_1)).trans hw158_1), ((HB.out.cell (World.block_lt_of_cell? w _ hw159_0)).trans hw159_0), ((HB.out.cell (World.block_lt_of_cell? w _ hw159_1)).trans hw159_1)⟩ (fun hHeld => ?_); refine with_tabW laws_eqSnapS.tab6 laws_eqSnapS.bits6 (fun HT_ HW_ => ?_)
        generalize wr.drew = w11 at HB HR158_1 HR159_1 hx158_0 hx158_1 hx159_0 hx159_1 hHeld ⊢
        refine pure_ (i := 0) (N := some 17) (v := ?_) (a' := ?_) #[true, false, false, false, false, false, false, false, false, false] rfl rfl (any_of HT_.out (by kernel_rfl)) (fun _ _ _ h => h) (Or.inl ⟨by rfl, ?_⟩) ?_ ?_
        rotate_left
        ·intro w'
         go_simp
         with_reducible rfl
        rotate_left
        ·simp only [Act.put, List.setIfInBounds_toArray, List.set_cons_zero, List.set_cons_succ, i64_w, i32_w]
         rfl
        refine pure_ (i := 1) (N := some 18) (v := ?_) (a' := ?_) #[true, true, false, false, false, false, false, false, false, false] rfl rfl (any_of HT_.out (by kernel_rfl)) (fun _ _ _ h => h) (Or.inl ⟨by rfl, ?_⟩) ?_ ?_
        rotate_left
        ·intro w'
         go_simp
         with_reducible rfl
        rotate_left
        ·simp only [Act.put, List.setIfInBounds_toArray, List.set_cons_zero, List.set_cons_succ, i64_w, i32_w]
         rfl
        refine pure_ (i := 2) (N := some 19) (v := ?_) (a' := ?_) #[true, true, true, false, false, false, false, false, false, false] rfl rfl (any_of HT_.out (by kernel_rfl)) (fun _ _ _ h => h) (Or.inl ⟨by rfl, ?_⟩) ?_ ?_
        rotate_left
        ·intro w'
         go_simp
         with_reducible rfl
        rotate_left
        ·simp only [Act.put, List.setIfInBounds_toArray, List.set_cons_zero, List.set_cons_succ, i64_w, i32_w]
         rfl
        refine pure_ (i := 4) (N := some 21) (v := ?_) (a' := ?_) #[true, true, true, false, true, false, false, false, false, false] rfl rfl (any_of HT_.out (by kernel_rfl)) (fun _ _ _ h => h) (Or.inl ⟨by rfl, ?_⟩) ?_ ?_
        rotate_left
        ·intro w'
         go_simp
         with_reducible rfl
        rotate_left
        ·simp only [Act.put, List.setIfInBounds_toArray, List.set_cons_zero, List.set_cons_succ, i64_w, i32_w]
         rfl
        refine pure_ (i := 5) (N := some 22) (v := ?_) (a' := ?_) #[true, true, true, false, true, true, false, false, false, false] rfl rfl (any_of HT_.out (by kernel_rfl)) (fun _ _ _ h => h) (Or.inl ⟨by rfl, ?_⟩) ?_ ?_
        rotate_left
        ·intro w'
         go_simp
         with_reducible rfl
        rotate_left
        ·simp only [Act.put, List.setIfInBounds_toArray, List.set_cons_zero, List.set_cons_succ, i64_w, i32_w]
         rfl
        refine pure_ (i := 6) (N := some 23) (v := ?_) (a' := ?_) #[true, true, true, false, true, true, true, false, false, false] rfl rfl (any_of HT_.out (by kernel_rfl)) (fun _ _ _ h => h) (Or.inl ⟨by rfl, ?_⟩) ?_ ?_
        rotate_left
        ·intro w'
         go_simp
         with_reducible rfl
        rotate_left
        ·simp only [Act.put, List.setIfInBounds_toArray, List.set_cons_zero, List.set_cons_succ, i64_w, i32_w]
         rfl
        refine take_ (i := 3) (N := some 20) (v := ?_) (a' := ?_) #[true, true, true, true, true, true, true, false, false, false] rfl rfl (take_ofW HT_.out HW_.out (by kernel_rfl)) (fun _ _ _ h => h) (Or.inl ⟨by rfl, ?_⟩) hHeld ?_ ?_
        rotate_left
        ·rintro w' ⟨s0, s1, s2, s3⟩
         go_simp
         with_reducible rfl
        rotate_left
        ·simp only [Act.put, List.setIfInBounds_toArray, List.set_cons_zero, List.set_cons_succ, i64_w, i32_w]
         rfl
        refine take_ (i := 7) (N := some 24) (v := ?_) (a' := ?_) #[true, true, true, true, true, true, true, true, false, false] rfl rfl (take_ofW HT_.out HW_.out (by kernel_rfl)) (fun _ _ _ h => h) (Or.inl ⟨by rfl, ?_⟩) hHeld ?_ ?_
        rotate_left
        ·rintro w' ⟨s0, s1, s2, s3⟩
         go_simp
         with_reducible rfl
        rotate_left
        ·simp only [Act.put, List.setIfInBounds_toArray, List.set_cons_zero, List.set_cons_succ, i64_w, i32_w]
         rfl
        refine one_ (i := 8) (N := some 25) #[true, true, true, true, true, true, true, true, true, false] rfl rfl (one_of HT_.out (by kernel_rfl)) (by decide) (fun K hK => ?_)
        refine goes_ Tryd.func82 (by kernel_rfl) rfl #[.agg #[.string ((rd_T47 l0 x5_1).f0), .slice A158_1 ((rd_T47 l0 x5_1).f1).length c158_1], .agg #[.string ((rd_T47 l1 x5_1).f0), .slice A159_1 ((rd_T47 l1 x5_1).f1).length c159_1]] (by rfl) rfl rfl (by (try simp only [List.map_toArray, List.map_cons, List.map_nil]); first | done | rfl | (simp only [List.length_drop, List.length_take]; rfl)) ?_
        with_reducible refine (laws_eqSnap.calls k1 ((rd_T47 l0 x5_1).f0) _ _ ((rd_T47 l0 x5_1).f1) ((rd_T47 l1 x5_1).f0) _ _ ((rd_T47 l1 x5_1).f1) false _ ?side1 ?side2 ?side3 ?side4 A7.out).mono ?_
        (case side1 => repeat (first | exact (Sq.a1 HR158_1.out HB.out) | (with_reducible refine Sq.s ?_ _) | (with_reducible refine Sq.t ?_ _) | (with_reducible refine Sq.u ?_)))
        (case side2 => exact HC158_1.out)
        (case side3 => repeat (first | exact (Sq.a1 HR159_1.out HB.out) | (with_reducible refine Sq.s ?_ _) | (with_reducible refine Sq.t ?_ _) | (with_reducible refine Sq.u ?_)))
        (case side4 => exact HC159_1.out)
        rintro e w12 ⟨rfl, hb⟩
        refine ⟨_, rfl, ?_⟩
        have n0_ := Sq.l (Sq.a4 (by repeat (first | (with_reducible first | exact HB.out | apply Sq.i | apply Sq.j | apply Sq.k) | exact HB.out)) hb)
        clear HB; have HB := n0_; clear n0_; (try clear hb); (try clear hb2); (try clear hk); (try clear hi)
        refine hK.out _ _ ⟨((HB.out.cell (World.block_lt_of_cell? w _ hw158_0)).trans hw158_0), ((HB.out.cell (World.block_lt_of_cell? w _ hw158_1)).trans hw158_1), ((HB.out.cell (World.block_lt_of_cell? w _ hw159_0)).trans hw159_0), ((HB.out.cell (World.block_lt_of_cell? w _ hw159_1)).trans hw159_1)⟩ (fun hHeld => ?_)
        clear hK K
        refine norm_ (a' := ?_) ?_ ?_
        rotate_left
        ·show Act.put _ (some 25) _ = _
         simp only [Act.put, List.setIfInBounds_toArray, List.set_cons_zero, List.set_cons_succ, i64_w, i32_w]
         rfl
        refine pure_ (i := 9) (N := some 26) (v := ?_) (a' := ?_) #[true, true, true, true, true, true, true, true, true, true] rfl rfl (any_of HT_.out (by kernel_rfl)) (fun _ _ _ h => h) (Or.inl ⟨by rfl, ?_⟩) ?_ ?_
        rotate_left
        ·intro w'
         go_simp
         with_reducible rfl
        rotate_left
        ·simp only [Act.put, List.setIfInBounds_toArray, List.set_cons_zero, List.set_cons_succ, i64_w, i32_w]
         rfl
        refine done_ (done_of HT_.out (by kernel_rfl)) ?_
        try go_wp2
        go_ret
        exact ⟨by first | rfl | (simp [errW_none, errW_some] <;> rfl) | (simp [*, errW_none, errW_some] <;> rfl), by repeat (first | (with_reducible first | exact HB.out | apply Sq.i | apply Sq.j | apply Sq.k) | exact HB.out)⟩
      ·rw [if_neg c6] at H
       exact absurd H (by simp)
     ·rw [if_neg c5] at H
      exact absurd H (by simp)
    ·rw [if_neg c4] at H
     have c4b0 : decide (x5_1 < (l0.length : Int)) = false := decide_eq_false c4
     clear c4
     obtain rfl := Option.some.inj H
     go_wp2
     go_ret
     exact ⟨by first | rfl | (simp [errW_none, errW_some] <;> rfl) | (simp [*, errW_none, errW_some] <;> rfl), by repeat (first | (with_reducible first | exact HB.out | apply Sq.i | apply Sq.j | apply Sq.k) | exact HB.out)⟩
 ·rw [if_neg c3] at H
  have c3b0 : ((l0.length : Int) == (l1.length : Int)) = false := beq_eq_false_iff_ne.mpr c3
  have c3b1 : ((l0.length : Int) != (l1.length : Int)) = true := bne_iff_ne.mpr c3
  have c3b2 : (l0.length == l1.length) = false := by first | simpa using c3 | (simp at c3 ⊢; omega)
  obtain rfl := Option.some.inj H
  go_enter Tryd.func62, Tryd.ntmps62
  go_wp2
  go_ret
  exact ⟨by first | rfl | (simp [errW_none, errW_some] <;> rfl) | (simp [*, errW_none, errW_some] <;> rfl), by repeat (first | (with_reducible first | exact HB.out | apply Sq.i | apply Sq.j | apply Sq.k) | exact HB.out)⟩

/-! ### laws_eqImage: function 30 -/
def laws_eqImage.f (k : Nat) (a0_0 : ByteArray) (a0_1 : ByteArray) (l0_2 : List Int) (l0_3 : List ByteArray) (l0_4 : List (S47)) (a1_0 : ByteArray) (a1_1 : ByteArray) (l1_2 : List Int) (l1_3 : List ByteArray) (l1_4 : List (S47)) : Option (Bool) := if a0_0.toList = a1_0.toList then (if a0_1.toList = a1_1.toList then ((laws_eqInt64S.f k l0_2 l1_2).bind fun t163 => (if t163 = true then ((laws_eqStringS.f k l0_3 l1_3).bind fun t164 => (if t164 = true then ((laws_eqSnapS.f k l0_4 l1_4).bind fun t165 => (if t165 = true then (some true) else (some false))) else (some false))) else (some false))) else (some false)) else (some false)
theorem laws_eqImage.mono : ∀ a0 a1 a2 a3 a4 a5 a6 a7 a8 a9 k, LeO (laws_eqImage.f k a0 a1 a2 a3 a4 a5 a6 a7 a8 a9) (laws_eqImage.f (k + 1) a0 a1 a2 a3 a4 a5 a6 a7 a8 a9) := by
 intro a0 a1 a2 a3 a4 a5 a6 a7 a8 a9 k
 unfold laws_eqImage.f
 repeat' first
   | (with_reducible exact laws_eqInt64S.mono _ _ _)
   | (with_reducible exact laws_eqSnapS.mono _ _ _)
   | (with_reducible exact laws_eqStringS.mono _ _ _)
   | (with_reducible exact LeO.refl _)
   | (with_reducible exact LeO.none _)
   | (with_reducible refine LeO.ite ?_ ?_)
   | (with_reducible refine LeO.bind ?_ (fun _ => ?_))
   | exact laws_eqInt64S.mono _ _ _
   | exact laws_eqSnapS.mono _ _ _
   | exact laws_eqStringS.mono _ _ _
   | exact LeO.none _
   | refine LeO.ite ?_ ?_
   | refine LeO.bind ?_ (fun _ => ?_)
set_option maxHeartbeats 8000000 in
set_option maxRecDepth 100000 in
theorem laws_eqImage.calls (k : Nat) (a0_0 : ByteArray) (a0_1 : ByteArray) (A0_2 : Option Addr) (c0_2 : Nat) (l0_2 : List Int) (A0_3 : Option Addr) (c0_3 : Nat) (l0_3 : List ByteArray) (A0_4 : Option Addr) (c0_4 : Nat) (l0_4 : List (S47)) (a1_0 : ByteArray) (a1_1 : ByteArray) (A1_2 : Option Addr) (c1_2 : Nat) (l1_2 : List Int) (A1_3 : Option Addr) (c1_3 : Nat) (l1_3 : List ByteArray) (A1_4 : Option Addr) (c1_4 : Nat) (l1_4 : List (S47)) (r : Bool) (w : World) (hr0_2 : Kd.C (Kd.int .i64) w A0_2 l0_2.length l0_2) (hc0_2 : l0_2.length ≤ c0_2) (hr0_3 : Kd.C Kd.string w A0_3 l0_3.length l0_3) (hc0_3 : l0_3.length ≤ c0_3) (hr0_4 : Kd.C k47 w A0_4 l0_4.length l0_4) (hc0_4 : l0_4.length ≤ c0_4) (hr1_2 : Kd.C (Kd.int .i64) w A1_2 l1_2.length l1_2) (hc1_2 : l1_2.length ≤ c1_2) (hr1_3 : Kd.C Kd.string w A1_3 l1_3.length l1_3) (hc1_3 : l1_3.length ≤ c1_3) (hr1_4 : Kd.C k47 w A1_4 l1_4.length l1_4) (hc1_4 : l1_4.length ≤ c1_4) (h : laws_eqImage.f k a0_0 a0_1 l0_2 l0_3 l0_4 a1_0 a1_1 l1_2 l1_3 l1_4 = some r) :
  Calls Tryd.prog 30 #[.agg #[.string a0_0, .string a0_1, .slice A0_2 l0_2.length c0_2, .slice A0_3 l0_3.length c0_3, .slice A0_4 l0_4.length c0_4], .agg #[.string a1_0, .string a1_1, .slice A1_2 l1_2.length c1_2, .slice A1_3 l1_3.length c1_3, .slice A1_4 l1_4.length c1_4]] w fun e w' => e = .returned (.bool r) ∧ Below w.heap.size w w' := by
 have hu26 := Tryd.underlying26
 have HR0_2 := Sq.l hr0_2
 have HC0_2 := Sq.l hc0_2
 clear hr0_2 hc0_2
 have HR0_3 := Sq.l hr0_3
 have HC0_3 := Sq.l hc0_3
 clear hr0_3 hc0_3
 have HR0_4 := Sq.l hr0_4
 have HC0_4 := Sq.l hc0_4
 clear hr0_4 hc0_4
 have HR1_2 := Sq.l hr1_2
 have HC1_2 := Sq.l hc1_2
 clear hr1_2 hc1_2
 have HR1_3 := Sq.l hr1_3
 have HC1_3 := Sq.l hc1_3
 clear hr1_3 hc1_3
 have HR1_4 := Sq.l hr1_4
 have HC1_4 := Sq.l hc1_4
 clear hr1_4 hc1_4
 have HB := Sq.l (Below.refl w.heap.size w)
 have H : (if a0_0.toList = a1_0.toList then (if a0_1.toList = a1_1.toList then ((laws_eqInt64S.f k l0_2 l1_2).bind fun t163 => (if t163 = true then ((laws_eqStringS.f k l0_3 l1_3).bind fun t164 => (if t164 = true then ((laws_eqSnapS.f k l0_4 l1_4).bind fun t165 => (if t165 = true then (some true) else (some false))) else (some false))) else (some false))) else (some false)) else (some false)) = some r := h
 clear h
 by_cases c3 : a0_0.toList = a1_0.toList
 ·rw [if_pos c3] at H
  have c3b0 : (a0_0.toList == a1_0.toList) = true := beq_iff_eq.mpr c3
  have c3b1 : (a0_0.toList != a1_0.toList) = false := bne_eq_false_iff_eq.mpr c3
  clear c3
  by_cases c4 : a0_1.toList = a1_1.toList
  ·rw [if_pos c4] at H
   have c4b0 : (a0_1.toList == a1_1.toList) = true := beq_iff_eq.mpr c4
   have c4b1 : (a0_1.toList != a1_1.toList) = false := bne_eq_false_iff_eq.mpr c4
   clear c4
   replace H := Option.bind_eq_some_iff.mp H
   obtain ⟨t163, A50, H⟩ := H
   (try dsimp only at H)
   have A5 := Sq.l A50
   clear A50
   by_cases c6 : t163 = true
   ·subst c6
    rw [if_pos rfl] at H
    replace H := Option.bind_eq_some_iff.mp H
    obtain ⟨t164, A70, H⟩ := H
    (try dsimp only at H)
    have A7 := Sq.l A70
    clear A70
    by_cases c8 : t164 = true
    ·subst c8
     rw [if_pos rfl] at H
     replace H := Option.bind_eq_some_iff.mp H
     obtain ⟨t165, A90, H⟩ := H
     (try dsimp only at H)
     have A9 := Sq.l A90
     clear A90
     by_cases c10 : t165 = true
     ·subst c10
      rw [if_pos rfl] at H
      obtain rfl := Option.some.inj H
      go_enter Tryd.func30, Tryd.ntmps30
      go_wp2_with (first | ((with_reducible refine gate_dst (N := 2) rfl ?_); refine box_event ?hg (N := 2) ?hd (cs := #[.string a0_0, .string a0_1, .slice A0_2 l0_2.length c0_2, .slice A0_3 l0_3.length c0_3, .slice A0_4 l0_4.length c0_4]) (t := 26) ?hr ?_; (case hd => rfl); (case hg => rfl); (case hr => first | (go_simp; done) | (go_simp; rfl)); intro gb161 hg w11 hbox hb; have n0_ := Sq.l (Sq.a4 (by repeat (first | (with_reducible first | exact HB.out | apply Sq.i | apply Sq.j | apply Sq.k) | exact HB.out)) hb); have n1_ := Sq.l (hbox); have n2_ := Sq.l ((by rw [hg]; exact (Sq.a5 (by repeat (first | (with_reducible first | exact HB.out | apply Sq.i | apply Sq.j | apply Sq.k) | exact HB.out))) : w.heap.size ≤ gb161)); have n3_ := Sq.l ((by rw [hg]; exact (Sq.a5 (by repeat (first | (with_reducible first | exact HB.out | apply Sq.i | apply Sq.j | apply Sq.k) | exact HB.out))) : w.heap.size ≤ gb161)); clear HB; have HB := n0_; have BK161 := n1_; have GW161 := n2_; have GE161 := n3_; clear n0_ n1_ n2_ n3_; clear hb hbox hg) | ((with_reducible refine gate_dst (N := 3) rfl ?_); refine box_event ?hg (N := 3) ?hd (cs := #[.string a1_0, .string a1_1, .slice A1_2 l1_2.length c1_2, .slice A1_3 l1_3.length c1_3, .slice A1_4 l1_4.length c1_4]) (t := 26) ?hr ?_; (case hd => rfl); (case hg => rfl); (case hr => first | (go_simp; done) | (go_simp; rfl)); intro gb162 hg w12 hbox hb; have n0_ := Sq.l (Sq.m (Sq.W BK161.out) hb); have n1_ := Sq.l (Sq.a4 (by repeat (first | (with_reducible first | exact HB.out | apply Sq.i | apply Sq.j | apply Sq.k | refine Sq.h ?_ GE161.out) | exact HB.out)) hb); have n2_ := Sq.l (hbox); have n3_ := Sq.l ((by rw [hg]; exact (Sq.a5 (by repeat (first | (with_reducible first | exact HB.out | apply Sq.i | apply Sq.j | apply Sq.k | refine Sq.h ?_ GE161.out) | exact HB.out))) : w.heap.size ≤ gb162)); have n4_ := Sq.l ((by rw [hg]; exact (Sq.a5 (by repeat (first | (with_reducible first | exact HB.out | apply Sq.i | apply Sq.j | apply Sq.k | refine Sq.h ?_ GE161.out) | exact HB.out))) : w.heap.size ≤ gb162)); have n5_ := Sq.l ((by rw [hg]; exact Nat.ne_of_lt (blk_lt (Sq.W BK161.out)) : gb161 ≠ gb162)); have n6_ := Sq.l ((by rw [hg]; exact Nat.ne_of_gt (blk_lt (Sq.W BK161.out)) : gb162 ≠ gb161)); clear BK161 HB; have BK161 := n0_; have HB := n1_; have BK162 := n2_; have GW162 := n3_; have GE162 := n4_; have NB161_162 := n5_; have NB162_161 := n6_; clear n0_ n1_ n2_ n3_ n4_ n5_ n6_; clear hb hbox hg; have hnb13 := NB161_162.out; have hnc13 := NB162_161.out; obtain ⟨hcz14_0, hcz14_1, hcz14_2, hcz14_3, hcz14_4⟩ := Sq.C5 BK161.out; obtain ⟨hfz14_0, hfz14_1, hfz14_2, hfz14_3, hfz14_4⟩ := Sq.F5 BK161.out; obtain ⟨hcz15_0, hcz15_1, hcz15_2, hcz15_3, hcz15_4⟩ := Sq.C5 BK162.out; obtain ⟨hfz15_0, hfz15_1, hfz15_2, hfz15_3, hfz15_4⟩ := Sq.F5 BK162.out) | ((with_reducible refine gate_callee (f := 60) rfl ?_); refine goesL_ (some 19) rfl rfl Tryd.func60 (by kernel_rfl) rfl #[.slice A0_2 l0_2.length c0_2, .slice A1_2 l1_2.length c1_2] rfl (by (try simp only [List.map_toArray, List.map_cons, List.map_nil]); first | done | rfl | (simp only [List.length_drop, List.length_take]; rfl)) ?_; (with_reducible refine (laws_eqInt64S.calls k _ _ l0_2 _ _ l1_2 true _ ?side1 ?side2 ?side3 ?side4 A5.out).mono ?_); (case side1 => repeat (first | exact (Sq.a1 HR0_2.out HB.out) | (with_reducible refine Sq.s ?_ _) | (with_reducible refine Sq.t ?_ _) | (with_reducible refine Sq.u ?_))); (case side2 => exact HC0_2.out); (case side3 => repeat (first | exact (Sq.a1 HR1_2.out HB.out) | (with_reducible refine Sq.s ?_ _) | (with_reducible refine Sq.t ?_ _) | (with_reducible refine Sq.u ?_))); (case side4 => exact HC1_2.out); rintro e w' ⟨rfl, ⟨nd, rfl⟩⟩; refine ⟨_, rfl, ?_⟩) | ((with_reducible refine gate_callee (f := 61) rfl ?_); refine goesL_ (some 25) rfl rfl Tryd.func61 (by kernel_rfl) rfl #[.slice A0_3 l0_3.length c0_3, .slice A1_3 l1_3.length c1_3] rfl (by (try simp only [List.map_toArray, List.map_cons, List.map_nil]); first | done | rfl | (simp only [List.length_drop, List.length_take]; rfl)) ?_; (with_reducible refine (laws_eqStringS.calls k _ _ l0_3 _ _ l1_3 true _ ?side1 ?side2 ?side3 ?side4 A7.out).mono ?_); (case side1 => repeat (first | exact (Sq.a1 HR0_3.out (by repeat (first | (with_reducible first | exact HB.out | apply Sq.i | apply Sq.j | apply Sq.k | refine Sq.h ?_ GE161.out | refine Sq.h ?_ GE162.out) | exact HB.out))) | (with_reducible refine Sq.s ?_ _) | (with_reducible refine Sq.t ?_ _) | (with_reducible refine Sq.u ?_))); (case side2 => exact HC0_3.out); (case side3 => repeat (first | exact (Sq.a1 HR1_3.out (by repeat (first | (with_reducible first | exact HB.out | apply Sq.i | apply Sq.j | apply Sq.k | refine Sq.h ?_ GE161.out | refine Sq.h ?_ GE162.out) | exact HB.out))) | (with_reducible refine Sq.s ?_ _) | (with_reducible refine Sq.t ?_ _) | (with_reducible refine Sq.u ?_))); (case side4 => exact HC1_3.out); rintro e w' ⟨rfl, ⟨nd, rfl⟩⟩; refine ⟨_, rfl, ?_⟩) | ((with_reducible refine gate_callee (f := 62) rfl ?_); refine goesL_ (some 31) rfl rfl Tryd.func62 (by kernel_rfl) rfl #[.slice A0_4 l0_4.length c0_4, .slice A1_4 l1_4.length c1_4] rfl (by (try simp only [List.map_toArray, List.map_cons, List.map_nil]); first | done | rfl | (simp only [List.length_drop, List.length_take]; rfl)) ?_; (with_reducible refine (laws_eqSnapS.calls k _ _ l0_4 _ _ l1_4 true _ ?side1 ?side2 ?side3 ?side4 A9.out).mono ?_); (case side1 => repeat (first | exact (Sq.a1 HR0_4.out (by repeat (first | (with_reducible first | exact HB.out | apply Sq.i | apply Sq.j | apply Sq.k | refine Sq.h ?_ GE161.out | refine Sq.h ?_ GE162.out) | exact HB.out))) | (with_reducible refine Sq.s ?_ _) | (with_reducible refine Sq.t ?_ _) | (with_reducible refine Sq.u ?_))); (case side2 => exact HC0_4.out); (case side3 => repeat (first | exact (Sq.a1 HR1_4.out (by repeat (first | (with_reducible first | exact HB.out | apply Sq.i | apply Sq.j | apply Sq.k | refine Sq.h ?_ GE161.out | refine Sq.h ?_ GE162.out) | exact HB.out))) | (with_reducible refine Sq.s ?_ _) | (with_reducible refine Sq.t ?_ _) | (with_reducible refine Sq.u ?_))); (case side4 => exact HC1_4.out); rintro e w16 ⟨rfl, hb⟩; refine ⟨_, rfl, ?_⟩; have n0_ := Sq.l (Sq.m (Sq.W BK161.out) hb); have n1_ := Sq.l (Sq.m (Sq.W BK162.out) hb); have n2_ := Sq.l (Sq.a4 (by repeat (first | (with_reducible first | exact HB.out | apply Sq.i | apply Sq.j | apply Sq.k | refine Sq.h ?_ GE161.out | refine Sq.h ?_ GE162.out) | exact HB.out)) hb); clear BK161 BK162 HB; have BK161 := n0_; have BK162 := n1_; have HB := n2_; clear n0_ n1_ n2_; (try clear hb); (try clear hb2); (try clear hk); (try clear hi)))
      go_ret
      exact ⟨by first | rfl | (simp [errW_none, errW_some] <;> rfl) | (simp [*, errW_none, errW_some] <;> rfl), by repeat (first | (with_reducible first | exact HB.out | apply Sq.i | apply Sq.j | apply Sq.k | refine Sq.h ?_ GE161.out | refine Sq.h ?_ GE162.out) | exact HB.out)⟩
     ·replace c10 := Bool.eq_false_iff.mpr c10
      subst c10
      rw [if_neg (show ¬ (false = true) by decide)] at H
      obtain rfl := Option.some.inj H
      go_enter Tryd.func30, Tryd.ntmps30
      go_wp2_with (first | ((with_reducible refine gate_dst (N := 2) rfl ?_); refine box_event ?hg (N := 2) ?hd (cs := #[.string a0_0, .string a0_1, .slice A0_2 l0_2.length c0_2, .slice A0_3 l0_3.length c0_3, .slice A0_4 l0_4.length c0_4]) (t := 26) ?hr ?_; (case hd => rfl); (case hg => rfl); (case hr => first | (go_simp; done) | (go_simp; rfl)); intro gb161 hg w17 hbox hb; have n0_ := Sq.l (Sq.a4 (by repeat (first | (with_reducible first | exact HB.out | apply Sq.i | apply Sq.j | apply Sq.k) | exact HB.out)) hb); have n1_ := Sq.l (hbox); have n2_ := Sq.l ((by rw [hg]; exact (Sq.a5 (by repeat (first | (with_reducible first | exact HB.out | apply Sq.i | apply Sq.j | apply Sq.k) | exact HB.out))) : w.heap.size ≤ gb161)); have n3_ := Sq.l ((by rw [hg]; exact (Sq.a5 (by repeat (first | (with_reducible first | exact HB.out | apply Sq.i | apply Sq.j | apply Sq.k) | exact HB.out))) : w.heap.size ≤ gb161)); clear HB; have HB := n0_; have BK161 := n1_; have GW161 := n2_; have GE161 := n3_; clear n0_ n1_ n2_ n3_; clear hb hbox hg) | ((with_reducible refine gate_dst (N := 3) rfl ?_); refine box_event ?hg (N := 3) ?hd (cs := #[.string a1_0, .string a1_1, .slice A1_2 l1_2.length c1_2, .slice A1_3 l1_3.length c1_3, .slice A1_4 l1_4.length c1_4]) (t := 26) ?hr ?_; (case hd => rfl); (case hg => rfl); (case hr => first | (go_simp; done) | (go_simp; rfl)); intro gb162 hg w18 hbox hb; have n0_ := Sq.l (Sq.m (Sq.W BK161.out) hb); have n1_ := Sq.l (Sq.a4 (by repeat (first | (with_reducible first | exact HB.out | apply Sq.i | apply Sq.j | apply Sq.k | refine Sq.h ?_ GE161.out) | exact HB.out)) hb); have n2_ := Sq.l (hbox); have n3_ := Sq.l ((by rw [hg]; exact (Sq.a5 (by repeat (first | (with_reducible first | exact HB.out | apply Sq.i | apply Sq.j | apply Sq.k | refine Sq.h ?_ GE161.out) | exact HB.out))) : w.heap.size ≤ gb162)); have n4_ := Sq.l ((by rw [hg]; exact (Sq.a5 (by repeat (first | (with_reducible first | exact HB.out | apply Sq.i | apply Sq.j | apply Sq.k | refine Sq.h ?_ GE161.out) | exact HB.out))) : w.heap.size ≤ gb162)); have n5_ := Sq.l ((by rw [hg]; exact Nat.ne_of_lt (blk_lt (Sq.W BK161.out)) : gb161 ≠ gb162)); have n6_ := Sq.l ((by rw [hg]; exact Nat.ne_of_gt (blk_lt (Sq.W BK161.out)) : gb162 ≠ gb161)); clear BK161 HB; have BK161 := n0_; have HB := n1_; have BK162 := n2_; have GW162 := n3_; have GE162 := n4_; have NB161_162 := n5_; have NB162_161 := n6_; clear n0_ n1_ n2_ n3_ n4_ n5_ n6_; clear hb hbox hg; have hnb19 := NB161_162.out; have hnc19 := NB162_161.out; obtain ⟨hcz20_0, hcz20_1, hcz20_2, hcz20_3, hcz20_4⟩ := Sq.C5 BK161.out; obtain ⟨hfz20_0, hfz20_1, hfz20_2, hfz20_3, hfz20_4⟩ := Sq.F5 BK161.out; obtain ⟨hcz21_0, hcz21_1, hcz21_2, hcz21_3, hcz21_4⟩ := Sq.C5 BK162.out; obtain ⟨hfz21_0, hfz21_1, hfz21_2, hfz21_3, hfz21_4⟩ := Sq.F5 BK162.out) | ((with_reducible refine gate_callee (f := 60) rfl ?_); refine goesL_ (some 19) rfl rfl Tryd.func60 (by kernel_rfl) rfl #[.slice A0_2 l0_2.length c0_2, .slice A1_2 l1_2.length c1_2] rfl (by (try simp only [List.map_toArray, List.map_cons, List.map_nil]); first | done | rfl | (simp only [List.length_drop, List.length_take]; rfl)) ?_; (with_reducible refine (laws_eqInt64S.calls k _ _ l0_2 _ _ l1_2 true _ ?side1 ?side2 ?side3 ?side4 A5.out).mono ?_); (case side1 => repeat (first | exact (Sq.a1 HR0_2.out HB.out) | (with_reducible refine Sq.s ?_ _) | (with_reducible refine Sq.t ?_ _) | (with_reducible refine Sq.u ?_))); (case side2 => exact HC0_2.out); (case side3 => repeat (first | exact (Sq.a1 HR1_2.out HB.out) | (with_reducible refine Sq.s ?_ _) | (with_reducible refine Sq.t ?_ _) | (with_reducible refine Sq.u ?_))); (case side4 => exact HC1_2.out); rintro e w' ⟨rfl, ⟨nd, rfl⟩⟩; refine ⟨_, rfl, ?_⟩) | ((with_reducible refine gate_callee (f := 61) rfl ?_); refine goesL_ (some 25) rfl rfl Tryd.func61 (by kernel_rfl) rfl #[.slice A0_3 l0_3.length c0_3, .slice A1_3 l1_3.length c1_3] rfl (by (try simp only [List.map_toArray, List.map_cons, List.map_nil]); first | done | rfl | (simp only [List.length_drop, List.length_take]; rfl)) ?_; (with_reducible refine (laws_eqStringS.calls k _ _ l0_3 _ _ l1_3 true _ ?side1 ?side2 ?side3 ?side4 A7.out).mono ?_); (case side1 => repeat (first | exact (Sq.a1 HR0_3.out (by repeat (first | (with_reducible first | exact HB.out | apply Sq.i | apply Sq.j | apply Sq.k | refine Sq.h ?_ GE161.out | refine Sq.h ?_ GE162.out) | exact HB.out))) | (with_reducible refine Sq.s ?_ _) | (with_reducible refine Sq.t ?_ _) | (with_reducible refine Sq.u ?_))); (case side2 => exact HC0_3.out); (case side3 => repeat (first | exact (Sq.a1 HR1_3.out (by repeat (first | (with_reducible first | exact HB.out | apply Sq.i | apply Sq.j | apply Sq.k | refine Sq.h ?_ GE161.out | refine Sq.h ?_ GE162.out) | exact HB.out))) | (with_reducible refine Sq.s ?_ _) | (with_reducible refine Sq.t ?_ _) | (with_reducible refine Sq.u ?_))); (case side4 => exact HC1_3.out); rintro e w' ⟨rfl, ⟨nd, rfl⟩⟩; refine ⟨_, rfl, ?_⟩) | ((with_reducible refine gate_callee (f := 62) rfl ?_); refine goesL_ (some 31) rfl rfl Tryd.func62 (by kernel_rfl) rfl #[.slice A0_4 l0_4.length c0_4, .slice A1_4 l1_4.length c1_4] rfl (by (try simp only [List.map_toArray, List.map_cons, List.map_nil]); first | done | rfl | (simp only [List.length_drop, List.length_take]; rfl)) ?_; (with_reducible refine (laws_eqSnapS.calls k _ _ l0_4 _ _ l1_4 false _ ?side1 ?side2 ?side3 ?side4 A9.out).mono ?_); (case side1 => repeat (first | exact (Sq.a1 HR0_4.out (by repeat (first | (with_reducible first | exact HB.out | apply Sq.i | apply Sq.j | apply Sq.k | refine Sq.h ?_ GE161.out | refine Sq.h ?_ GE162.out) | exact HB.out))) | (with_reducible refine Sq.s ?_ _) | (with_reducible refine Sq.t ?_ _) | (with_reducible refine Sq.u ?_))); (case side2 => exact HC0_4.out); (case side3 => repeat (first | exact (Sq.a1 HR1_4.out (by repeat (first | (with_reducible first | exact HB.out | apply Sq.i | apply Sq.j | apply Sq.k | refine Sq.h ?_ GE161.out | refine Sq.h ?_ GE162.out) | exact HB.out))) | (with_reducible refine Sq.s ?_ _) | (with_reducible refine Sq.t ?_ _) | (with_reducible refine Sq.u ?_))); (case side4 => exact HC1_4.out); rintro e w22 ⟨rfl, hb⟩; refine ⟨_, rfl, ?_⟩; have n0_ := Sq.l (Sq.m (Sq.W BK161.out) hb); have n1_ := Sq.l (Sq.m (Sq.W BK162.out) hb); have n2_ := Sq.l (Sq.a4 (by repeat (first | (with_reducible first | exact HB.out | apply Sq.i | apply Sq.j | apply Sq.k | refine Sq.h ?_ GE161.out | refine Sq.h ?_ GE162.out) | exact HB.out)) hb); clear BK161 BK162 HB; have BK161 := n0_; have BK162 := n1_; have HB := n2_; clear n0_ n1_ n2_; (try clear hb); (try clear hb2); (try clear hk); (try clear hi)))
      go_ret
      exact ⟨by first | rfl | (simp [errW_none, errW_some] <;> rfl) | (simp [*, errW_none, errW_some] <;> rfl), by repeat (first | (with_reducible first | exact HB.out | apply Sq.i | apply Sq.j | apply Sq.k | refine Sq.h ?_ GE161.out | refine Sq.h ?_ GE162.out) | exact HB.out)⟩
    ·replace c8 := Bool.eq_false_iff.mpr c8
     subst c8
     rw [if_neg (show ¬ (false = true) by decide)] at H
     obtain rfl := Option.some.inj H
     go_enter Tryd.func30, Tryd.ntmps30
     go_wp2_with (first | ((with_reducible refine gate_dst (N := 2) rfl ?_); refine box_event ?hg (N := 2) ?hd (cs := #[.string a0_0, .string a0_1, .slice A0_2 l0_2.length c0_2, .slice A0_3 l0_3.length c0_3, .slice A0_4 l0_4.length c0_4]) (t := 26) ?hr ?_; (case hd => rfl); (case hg => rfl); (case hr => first | (go_simp; done) | (go_simp; rfl)); intro gb161 hg w23 hbox hb; have n0_ := Sq.l (Sq.a4 (by repeat (first | (with_reducible first | exact HB.out | apply Sq.i | apply Sq.j | apply Sq.k) | exact HB.out)) hb); have n1_ := Sq.l (hbox); have n2_ := Sq.l ((by rw [hg]; exact (Sq.a5 (by repeat (first | (with_reducible first | exact HB.out | apply Sq.i | apply Sq.j | apply Sq.k) | exact HB.out))) : w.heap.size ≤ gb161)); have n3_ := Sq.l ((by rw [hg]; exact (Sq.a5 (by repeat (first | (with_reducible first | exact HB.out | apply Sq.i | apply Sq.j | apply Sq.k) | exact HB.out))) : w.heap.size ≤ gb161)); clear HB; have HB := n0_; have BK161 := n1_; have GW161 := n2_; have GE161 := n3_; clear n0_ n1_ n2_ n3_; clear hb hbox hg) | ((with_reducible refine gate_dst (N := 3) rfl ?_); refine box_event ?hg (N := 3) ?hd (cs := #[.string a1_0, .string a1_1, .slice A1_2 l1_2.length c1_2, .slice A1_3 l1_3.length c1_3, .slice A1_4 l1_4.length c1_4]) (t := 26) ?hr ?_; (case hd => rfl); (case hg => rfl); (case hr => first | (go_simp; done) | (go_simp; rfl)); intro gb162 hg w24 hbox hb; have n0_ := Sq.l (Sq.m (Sq.W BK161.out) hb); have n1_ := Sq.l (Sq.a4 (by repeat (first | (with_reducible first | exact HB.out | apply Sq.i | apply Sq.j | apply Sq.k | refine Sq.h ?_ GE161.out) | exact HB.out)) hb); have n2_ := Sq.l (hbox); have n3_ := Sq.l ((by rw [hg]; exact (Sq.a5 (by repeat (first | (with_reducible first | exact HB.out | apply Sq.i | apply Sq.j | apply Sq.k | refine Sq.h ?_ GE161.out) | exact HB.out))) : w.heap.size ≤ gb162)); have n4_ := Sq.l ((by rw [hg]; exact (Sq.a5 (by repeat (first | (with_reducible first | exact HB.out | apply Sq.i | apply Sq.j | apply Sq.k | refine Sq.h ?_ GE161.out) | exact HB.out))) : w.heap.size ≤ gb162)); have n5_ := Sq.l ((by rw [hg]; exact Nat.ne_of_lt (blk_lt (Sq.W BK161.out)) : gb161 ≠ gb162)); have n6_ := Sq.l ((by rw [hg]; exact Nat.ne_of_gt (blk_lt (Sq.W BK161.out)) : gb162 ≠ gb161)); clear BK161 HB; have BK161 := n0_; have HB := n1_; have BK162 := n2_; have GW162 := n3_; have GE162 := n4_; have NB161_162 := n5_; have NB162_161 := n6_; clear n0_ n1_ n2_ n3_ n4_ n5_ n6_; clear hb hbox hg; have hnb25 := NB161_162.out; have hnc25 := NB162_161.out; obtain ⟨hcz26_0, hcz26_1, hcz26_2, hcz26_3, hcz26_4⟩ := Sq.C5 BK161.out; obtain ⟨hfz26_0, hfz26_1, hfz26_2, hfz26_3, hfz26_4⟩ := Sq.F5 BK161.out; obtain ⟨hcz27_0, hcz27_1, hcz27_2, hcz27_3, hcz27_4⟩ := Sq.C5 BK162.out; obtain ⟨hfz27_0, hfz27_1, hfz27_2, hfz27_3, hfz27_4⟩ := Sq.F5 BK162.out) | ((with_reducible refine gate_callee (f := 60) rfl ?_); refine goesL_ (some 19) rfl rfl Tryd.func60 (by kernel_rfl) rfl #[.slice A0_2 l0_2.length c0_2, .slice A1_2 l1_2.length c1_2] rfl (by (try simp only [List.map_toArray, List.map_cons, List.map_nil]); first | done | rfl | (simp only [List.length_drop, List.length_take]; rfl)) ?_; (with_reducible refine (laws_eqInt64S.calls k _ _ l0_2 _ _ l1_2 true _ ?side1 ?side2 ?side3 ?side4 A5.out).mono ?_); (case side1 => repeat (first | exact (Sq.a1 HR0_2.out HB.out) | (with_reducible refine Sq.s ?_ _) | (with_reducible refine Sq.t ?_ _) | (with_reducible refine Sq.u ?_))); (case side2 => exact HC0_2.out); (case side3 => repeat (first | exact (Sq.a1 HR1_2.out HB.out) | (with_reducible refine Sq.s ?_ _) | (with_reducible refine Sq.t ?_ _) | (with_reducible refine Sq.u ?_))); (case side4 => exact HC1_2.out); rintro e w' ⟨rfl, ⟨nd, rfl⟩⟩; refine ⟨_, rfl, ?_⟩) | ((with_reducible refine gate_callee (f := 61) rfl ?_); refine goesL_ (some 25) rfl rfl Tryd.func61 (by kernel_rfl) rfl #[.slice A0_3 l0_3.length c0_3, .slice A1_3 l1_3.length c1_3] rfl (by (try simp only [List.map_toArray, List.map_cons, List.map_nil]); first | done | rfl | (simp only [List.length_drop, List.length_take]; rfl)) ?_; (with_reducible refine (laws_eqStringS.calls k _ _ l0_3 _ _ l1_3 false _ ?side1 ?side2 ?side3 ?side4 A7.out).mono ?_); (case side1 => repeat (first | exact (Sq.a1 HR0_3.out (by repeat (first | (with_reducible first | exact HB.out | apply Sq.i | apply Sq.j | apply Sq.k | refine Sq.h ?_ GE161.out | refine Sq.h ?_ GE162.out) | exact HB.out))) | (with_reducible refine Sq.s ?_ _) | (with_reducible refine Sq.t ?_ _) | (with_reducible refine Sq.u ?_))); (case side2 => exact HC0_3.out); (case side3 => repeat (first | exact (Sq.a1 HR1_3.out (by repeat (first | (with_reducible first | exact HB.out | apply Sq.i | apply Sq.j | apply Sq.k | refine Sq.h ?_ GE161.out | refine Sq.h ?_ GE162.out) | exact HB.out))) | (with_reducible refine Sq.s ?_ _) | (with_reducible refine Sq.t ?_ _) | (with_reducible refine Sq.u ?_))); (case side4 => exact HC1_3.out); rintro e w' ⟨rfl, ⟨nd, rfl⟩⟩; refine ⟨_, rfl, ?_⟩))
     go_ret
     exact ⟨by first | rfl | (simp [errW_none, errW_some] <;> rfl) | (simp [*, errW_none, errW_some] <;> rfl), by repeat (first | (with_reducible first | exact HB.out | apply Sq.i | apply Sq.j | apply Sq.k | refine Sq.h ?_ GE161.out | refine Sq.h ?_ GE162.out) | exact HB.out)⟩
   ·replace c6 := Bool.eq_false_iff.mpr c6
    subst c6
    rw [if_neg (show ¬ (false = true) by decide)] at H
    obtain rfl := Option.some.inj H
    go_enter Tryd.func30, Tryd.ntmps30
    go_wp2_with (first | ((with_reducible refine gate_dst (N := 2) rfl ?_); refine box_event ?hg (N := 2) ?hd (cs := #[.string a0_0, .string a0_1, .slice A0_2 l0_2.length c0_2, .slice A0_3 l0_3.length c0_3, .slice A0_4 l0_4.length c0_4]) (t := 26) ?hr ?_; (case hd => rfl); (case hg => rfl); (case hr => first | (go_simp; done) | (go_simp; rfl)); intro gb161 hg w28 hbox hb; have n0_ := Sq.l (Sq.a4 (by repeat (first | (with_reducible first | exact HB.out | apply Sq.i | apply Sq.j | apply Sq.k) | exact HB.out)) hb); have n1_ := Sq.l (hbox); have n2_ := Sq.l ((by rw [hg]; exact (Sq.a5 (by repeat (first | (with_reducible first | exact HB.out | apply Sq.i | apply Sq.j | apply Sq.k) | exact HB.out))) : w.heap.size ≤ gb161)); have n3_ := Sq.l ((by rw [hg]; exact (Sq.a5 (by repeat (first | (with_reducible first | exact HB.out | apply Sq.i | apply Sq.j | apply Sq.k) | exact HB.out))) : w.heap.size ≤ gb161)); clear HB; have HB := n0_; have BK161 := n1_; have GW161 := n2_; have GE161 := n3_; clear n0_ n1_ n2_ n3_; clear hb hbox hg) | ((with_reducible refine gate_dst (N := 3) rfl ?_); refine box_event ?hg (N := 3) ?hd (cs := #[.string a1_0, .string a1_1, .slice A1_2 l1_2.length c1_2, .slice A1_3 l1_3.length c1_3, .slice A1_4 l1_4.length c1_4]) (t := 26) ?hr ?_; (case hd => rfl); (case hg => rfl); (case hr => first | (go_simp; done) | (go_simp; rfl)); intro gb162 hg w29 hbox hb; have n0_ := Sq.l (Sq.m (Sq.W BK161.out) hb); have n1_ := Sq.l (Sq.a4 (by repeat (first | (with_reducible first | exact HB.out | apply Sq.i | apply Sq.j | apply Sq.k | refine Sq.h ?_ GE161.out) | exact HB.out)) hb); have n2_ := Sq.l (hbox); have n3_ := Sq.l ((by rw [hg]; exact (Sq.a5 (by repeat (first | (with_reducible first | exact HB.out | apply Sq.i | apply Sq.j | apply Sq.k | refine Sq.h ?_ GE161.out) | exact HB.out))) : w.heap.size ≤ gb162)); have n4_ := Sq.l ((by rw [hg]; exact (Sq.a5 (by repeat (first | (with_reducible first | exact HB.out | apply Sq.i | apply Sq.j | apply Sq.k | refine Sq.h ?_ GE161.out) | exact HB.out))) : w.heap.size ≤ gb162)); have n5_ := Sq.l ((by rw [hg]; exact Nat.ne_of_lt (blk_lt (Sq.W BK161.out)) : gb161 ≠ gb162)); have n6_ := Sq.l ((by rw [hg]; exact Nat.ne_of_gt (blk_lt (Sq.W BK161.out)) : gb162 ≠ gb161)); clear BK161 HB; have BK161 := n0_; have HB := n1_; have BK162 := n2_; have GW162 := n3_; have GE162 := n4_; have NB161_162 := n5_; have NB162_161 := n6_; clear n0_ n1_ n2_ n3_ n4_ n5_ n6_; clear hb hbox hg; have hnb30 := NB161_162.out; have hnc30 := NB162_161.out; obtain ⟨hcz31_0, hcz31_1, hcz31_2, hcz31_3, hcz31_4⟩ := Sq.C5 BK161.out; obtain ⟨hfz31_0, hfz31_1, hfz31_2, hfz31_3, hfz31_4⟩ := Sq.F5 BK161.out; obtain ⟨hcz32_0, hcz32_1, hcz32_2, hcz32_3, hcz32_4⟩ := Sq.C5 BK162.out; obtain ⟨hfz32_0, hfz32_1, hfz32_2, hfz32_3, hfz32_4⟩ := Sq.F5 BK162.out) | ((with_reducible refine gate_callee (f := 60) rfl ?_); refine goesL_ (some 19) rfl rfl Tryd.func60 (by kernel_rfl) rfl #[.slice A0_2 l0_2.length c0_2, .slice A1_2 l1_2.length c1_2] rfl (by (try simp only [List.map_toArray, List.map_cons, List.map_nil]); first | done | rfl | (simp only [List.length_drop, List.length_take]; rfl)) ?_; (with_reducible refine (laws_eqInt64S.calls k _ _ l0_2 _ _ l1_2 false _ ?side1 ?side2 ?side3 ?side4 A5.out).mono ?_); (case side1 => repeat (first | exact (Sq.a1 HR0_2.out HB.out) | (with_reducible refine Sq.s ?_ _) | (with_reducible refine Sq.t ?_ _) | (with_reducible refine Sq.u ?_))); (case side2 => exact HC0_2.out); (case side3 => repeat (first | exact (Sq.a1 HR1_2.out HB.out) | (with_reducible refine Sq.s ?_ _) | (with_reducible refine Sq.t ?_ _) | (with_reducible refine Sq.u ?_))); (case side4 => exact HC1_2.out); rintro e w' ⟨rfl, ⟨nd, rfl⟩⟩; refine ⟨_, rfl, ?_⟩))
    go_ret
    exact ⟨by first | rfl | (simp [errW_none, errW_some] <;> rfl) | (simp [*, errW_none, errW_some] <;> rfl), by repeat (first | (with_reducible first | exact HB.out | apply Sq.i | apply Sq.j | apply Sq.k | refine Sq.h ?_ GE161.out | refine Sq.h ?_ GE162.out) | exact HB.out)⟩
  ·rw [if_neg c4] at H
   have c4b0 : (a0_1.toList == a1_1.toList) = false := beq_eq_false_iff_ne.mpr c4
   have c4b1 : (a0_1.toList != a1_1.toList) = true := bne_iff_ne.mpr c4
   obtain rfl := Option.some.inj H
   go_enter Tryd.func30, Tryd.ntmps30
   go_wp2_with (first | ((with_reducible refine gate_dst (N := 2) rfl ?_); refine box_event ?hg (N := 2) ?hd (cs := #[.string a0_0, .string a0_1, .slice A0_2 l0_2.length c0_2, .slice A0_3 l0_3.length c0_3, .slice A0_4 l0_4.length c0_4]) (t := 26) ?hr ?_; (case hd => rfl); (case hg => rfl); (case hr => first | (go_simp; done) | (go_simp; rfl)); intro gb161 hg w33 hbox hb; have n0_ := Sq.l (Sq.a4 (by repeat (first | (with_reducible first | exact HB.out | apply Sq.i | apply Sq.j | apply Sq.k) | exact HB.out)) hb); have n1_ := Sq.l (hbox); have n2_ := Sq.l ((by rw [hg]; exact (Sq.a5 (by repeat (first | (with_reducible first | exact HB.out | apply Sq.i | apply Sq.j | apply Sq.k) | exact HB.out))) : w.heap.size ≤ gb161)); have n3_ := Sq.l ((by rw [hg]; exact (Sq.a5 (by repeat (first | (with_reducible first | exact HB.out | apply Sq.i | apply Sq.j | apply Sq.k) | exact HB.out))) : w.heap.size ≤ gb161)); clear HB; have HB := n0_; have BK161 := n1_; have GW161 := n2_; have GE161 := n3_; clear n0_ n1_ n2_ n3_; clear hb hbox hg) | ((with_reducible refine gate_dst (N := 3) rfl ?_); refine box_event ?hg (N := 3) ?hd (cs := #[.string a1_0, .string a1_1, .slice A1_2 l1_2.length c1_2, .slice A1_3 l1_3.length c1_3, .slice A1_4 l1_4.length c1_4]) (t := 26) ?hr ?_; (case hd => rfl); (case hg => rfl); (case hr => first | (go_simp; done) | (go_simp; rfl)); intro gb162 hg w34 hbox hb; have n0_ := Sq.l (Sq.m (Sq.W BK161.out) hb); have n1_ := Sq.l (Sq.a4 (by repeat (first | (with_reducible first | exact HB.out | apply Sq.i | apply Sq.j | apply Sq.k | refine Sq.h ?_ GE161.out) | exact HB.out)) hb); have n2_ := Sq.l (hbox); have n3_ := Sq.l ((by rw [hg]; exact (Sq.a5 (by repeat (first | (with_reducible first | exact HB.out | apply Sq.i | apply Sq.j | apply Sq.k | refine Sq.h ?_ GE161.out) | exact HB.out))) : w.heap.size ≤ gb162)); have n4_ := Sq.l ((by rw [hg]; exact (Sq.a5 (by repeat (first | (with_reducible first | exact HB.out | apply Sq.i | apply Sq.j | apply Sq.k | refine Sq.h ?_ GE161.out) | exact HB.out))) : w.heap.size ≤ gb162)); have n5_ := Sq.l ((by rw [hg]; exact Nat.ne_of_lt (blk_lt (Sq.W BK161.out)) : gb161 ≠ gb162)); have n6_ := Sq.l ((by rw [hg]; exact Nat.ne_of_gt (blk_lt (Sq.W BK161.out)) : gb162 ≠ gb161)); clear BK161 HB; have BK161 := n0_; have HB := n1_; have BK162 := n2_; have GW162 := n3_; have GE162 := n4_; have NB161_162 := n5_; have NB162_161 := n6_; clear n0_ n1_ n2_ n3_ n4_ n5_ n6_; clear hb hbox hg; have hnb35 := NB161_162.out; have hnc35 := NB162_161.out; obtain ⟨hcz36_0, hcz36_1, hcz36_2, hcz36_3, hcz36_4⟩ := Sq.C5 BK161.out; obtain ⟨hfz36_0, hfz36_1, hfz36_2, hfz36_3, hfz36_4⟩ := Sq.F5 BK161.out; obtain ⟨hcz37_0, hcz37_1, hcz37_2, hcz37_3, hcz37_4⟩ := Sq.C5 BK162.out; obtain ⟨hfz37_0, hfz37_1, hfz37_2, hfz37_3, hfz37_4⟩ := Sq.F5 BK162.out))
   go_ret
   exact ⟨by first | rfl | (simp [errW_none, errW_some] <;> rfl) | (simp [*, errW_none, errW_some] <;> rfl), by repeat (first | (with_reducible first | exact HB.out | apply Sq.i | apply Sq.j | apply Sq.k | refine Sq.h ?_ GE161.out | refine Sq.h ?_ GE162.out) | exact HB.out)⟩
 ·rw [if_neg c3] at H
  have c3b0 : (a0_0.toList == a1_0.toList) = false := beq_eq_false_iff_ne.mpr c3
  have c3b1 : (a0_0.toList != a1_0.toList) = true := bne_iff_ne.mpr c3
  obtain rfl := Option.some.inj H
  go_enter Tryd.func30, Tryd.ntmps30
  go_wp2_with (first | ((with_reducible refine gate_dst (N := 2) rfl ?_); refine box_event ?hg (N := 2) ?hd (cs := #[.string a0_0, .string a0_1, .slice A0_2 l0_2.length c0_2, .slice A0_3 l0_3.length c0_3, .slice A0_4 l0_4.length c0_4]) (t := 26) ?hr ?_; (case hd => rfl); (case hg => rfl); (case hr => first | (go_simp; done) | (go_simp; rfl)); intro gb161 hg w38 hbox hb; have n0_ := Sq.l (Sq.a4 (by repeat (first | (with_reducible first | exact HB.out | apply Sq.i | apply Sq.j | apply Sq.k) | exact HB.out)) hb); have n1_ := Sq.l (hbox); have n2_ := Sq.l ((by rw [hg]; exact (Sq.a5 (by repeat (first | (with_reducible first | exact HB.out | apply Sq.i | apply Sq.j | apply Sq.k) | exact HB.out))) : w.heap.size ≤ gb161)); have n3_ := Sq.l ((by rw [hg]; exact (Sq.a5 (by repeat (first | (with_reducible first | exact HB.out | apply Sq.i | apply Sq.j | apply Sq.k) | exact HB.out))) : w.heap.size ≤ gb161)); clear HB; have HB := n0_; have BK161 := n1_; have GW161 := n2_; have GE161 := n3_; clear n0_ n1_ n2_ n3_; clear hb hbox hg) | ((with_reducible refine gate_dst (N := 3) rfl ?_); refine box_event ?hg (N := 3) ?hd (cs := #[.string a1_0, .string a1_1, .slice A1_2 l1_2.length c1_2, .slice A1_3 l1_3.length c1_3, .slice A1_4 l1_4.length c1_4]) (t := 26) ?hr ?_; (case hd => rfl); (case hg => rfl); (case hr => first | (go_simp; done) | (go_simp; rfl)); intro gb162 hg w39 hbox hb; have n0_ := Sq.l (Sq.m (Sq.W BK161.out) hb); have n1_ := Sq.l (Sq.a4 (by repeat (first | (with_reducible first | exact HB.out | apply Sq.i | apply Sq.j | apply Sq.k | refine Sq.h ?_ GE161.out) | exact HB.out)) hb); have n2_ := Sq.l (hbox); have n3_ := Sq.l ((by rw [hg]; exact (Sq.a5 (by repeat (first | (with_reducible first | exact HB.out | apply Sq.i | apply Sq.j | apply Sq.k | refine Sq.h ?_ GE161.out) | exact HB.out))) : w.heap.size ≤ gb162)); have n4_ := Sq.l ((by rw [hg]; exact (Sq.a5 (by repeat (first | (with_reducible first | exact HB.out | apply Sq.i | apply Sq.j | apply Sq.k | refine Sq.h ?_ GE161.out) | exact HB.out))) : w.heap.size ≤ gb162)); have n5_ := Sq.l ((by rw [hg]; exact Nat.ne_of_lt (blk_lt (Sq.W BK161.out)) : gb161 ≠ gb162)); have n6_ := Sq.l ((by rw [hg]; exact Nat.ne_of_gt (blk_lt (Sq.W BK161.out)) : gb162 ≠ gb161)); clear BK161 HB; have BK161 := n0_; have HB := n1_; have BK162 := n2_; have GW162 := n3_; have GE162 := n4_; have NB161_162 := n5_; have NB162_161 := n6_; clear n0_ n1_ n2_ n3_ n4_ n5_ n6_; clear hb hbox hg; have hnb40 := NB161_162.out; have hnc40 := NB162_161.out; obtain ⟨hcz41_0, hcz41_1, hcz41_2, hcz41_3, hcz41_4⟩ := Sq.C5 BK161.out; obtain ⟨hfz41_0, hfz41_1, hfz41_2, hfz41_3, hfz41_4⟩ := Sq.F5 BK161.out; obtain ⟨hcz42_0, hcz42_1, hcz42_2, hcz42_3, hcz42_4⟩ := Sq.C5 BK162.out; obtain ⟨hfz42_0, hfz42_1, hfz42_2, hfz42_3, hfz42_4⟩ := Sq.F5 BK162.out))
  go_ret
  exact ⟨by first | rfl | (simp [errW_none, errW_some] <;> rfl) | (simp [*, errW_none, errW_some] <;> rfl), by repeat (first | (with_reducible first | exact HB.out | apply Sq.i | apply Sq.j | apply Sq.k | refine Sq.h ?_ GE161.out | refine Sq.h ?_ GE162.out) | exact HB.out)⟩

end Go.Proofs.YtoifdnnjdohfmaaDoor.QFnExactUnpackImage
