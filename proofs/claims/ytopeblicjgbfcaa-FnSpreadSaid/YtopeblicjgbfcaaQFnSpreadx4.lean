-- Written for this claim by this session's own driver (wip/xprint.py).
import Derived.Test.YtopeblicjgbfcaaQFnSpreadx0
import Derived.Test.YtopeblicjgbfcaaQFnSpreadx3
namespace Go.Proofs.Ytopeblicjgbfcaa.QFnSpread
open Go.RowKit Go.Proofs.YtopeblicjgbfcaaW.PrintWords Go.Proofs.YtopeblicjgbfcaaW.PrintLast Go.Proofs.YtopeblicjgbfcaaW.PrintMore
attribute [local go_sem] max2_int min2_int max_two min_two max_three min_three max_four min_four   -- for this text's walks alone
set_option linter.unusedVariables false
set_option linter.unusedSimpArgs false

/-! ### spec_l10Bufs: function 16 -/
mutual
def spec_l10Bufs.j0 : Nat → ByteArray → List (S28) → Bool → Option (Bool)
  | 0, _, _, _ => none
  | k + 1, x0, x1, x13 => if x13 = true then (some false) else (spec_l10Bufs.l0 k x0 x1 0)
def spec_l10Bufs.l0 : Nat → ByteArray → List (S28) → Int → Option (Bool)
  | 0, _, _, _ => none
  | k + 1, x0, x1, x5 => if x5 < (x1.length : Int) then (if 0 ≤ x5 then ((spec_l10In.f x0 ((rd_T28 x1 x5).f0) ((rd_T28 x1 x5).f1)).bind fun t170 => (if t170 = true then (spec_l10Bufs.l0 k x0 x1 (wrap64 (x5 + 1))) else (some false))) else (none)) else (some true)
end
def spec_l10Bufs.f (k : Nat) (a0 : ByteArray) (l1 : List (S28)) : Option (Bool) := (spec_MemFault.f a0).bind fun t167 => (if t167 = 0 then (spec_l10Bufs.j0 k a0 l1 (decide ((l1.length : Int) > 1000))) else (spec_l10Bufs.j0 k a0 l1 true))
theorem spec_l10Bufs.mono_l : ∀ k, (∀ y0 y1 y2, LeO (spec_l10Bufs.j0 k y0 y1 y2) (spec_l10Bufs.j0 (k + 1) y0 y1 y2)) ∧ (∀ y0 y1 y2, LeO (spec_l10Bufs.l0 k y0 y1 y2) (spec_l10Bufs.l0 (k + 1) y0 y1 y2))
  | 0 => ⟨fun _ _ _ r h => by simp [spec_l10Bufs.j0] at h, fun _ _ _ r h => by simp [spec_l10Bufs.l0] at h⟩
  | k + 1 => by
    obtain ⟨ih0, ih1⟩ := spec_l10Bufs.mono_l k
    refine ⟨?_, ?_⟩
    · intro y0 y1 y2
      unfold spec_l10Bufs.j0
      repeat' first
      | (with_reducible exact ih0 _ _ _)
      | (with_reducible exact ih1 _ _ _)
      | (with_reducible exact LeO.refl _)
      | (with_reducible exact LeO.none _)
      | (with_reducible refine LeO.ite ?_ ?_)
      | (with_reducible refine LeO.bind ?_ (fun _ => ?_))
      | exact ih0 _ _ _
      | exact ih1 _ _ _
      | exact LeO.none _
      | refine LeO.ite ?_ ?_
      | refine LeO.bind ?_ (fun _ => ?_)
    · intro y0 y1 y2
      unfold spec_l10Bufs.l0
      repeat' first
      | (with_reducible exact ih0 _ _ _)
      | (with_reducible exact ih1 _ _ _)
      | (with_reducible exact LeO.refl _)
      | (with_reducible exact LeO.none _)
      | (with_reducible refine LeO.ite ?_ ?_)
      | (with_reducible refine LeO.bind ?_ (fun _ => ?_))
      | exact ih0 _ _ _
      | exact ih1 _ _ _
      | exact LeO.none _
      | refine LeO.ite ?_ ?_
      | refine LeO.bind ?_ (fun _ => ?_)
theorem spec_l10Bufs.mono : ∀ a0 a1 k, LeO (spec_l10Bufs.f k a0 a1) (spec_l10Bufs.f (k + 1) a0 a1) := by
  intro a0 a1 k
  obtain ⟨ih0, ih1⟩ := spec_l10Bufs.mono_l k
  unfold spec_l10Bufs.f
  repeat' first
      | (with_reducible exact ih0 _ _ _)
      | (with_reducible exact ih1 _ _ _)
      | (with_reducible exact LeO.refl _)
      | (with_reducible exact LeO.none _)
      | (with_reducible refine LeO.ite ?_ ?_)
      | (with_reducible refine LeO.bind ?_ (fun _ => ?_))
      | exact ih0 _ _ _
      | exact ih1 _ _ _
      | exact LeO.none _
      | refine LeO.ite ?_ ?_
      | refine LeO.bind ?_ (fun _ => ?_)
set_option maxHeartbeats 8000000 in
set_option maxRecDepth 100000 in
theorem spec_l10Bufs.calls (k : Nat) (a0 : ByteArray) (A1 : Option Addr) (c1 : Nat) (l1 : List (S28)) (r : Bool) (w : World) (hr1 : Kd.C k28 w A1 l1.length l1) (hc1 : l1.length ≤ c1) (h : spec_l10Bufs.f k a0 l1 = some r) :
    Calls Try.prog 16 #[.string a0, .slice A1 l1.length c1] w fun e w' => e = .returned (.bool r) ∧ Drawn0 w w' := by
  have HR1 := Aside0.mk hr1
  have HC1 := Aside0.mk hc1
  clear hr1 hc1
  have H : ((spec_MemFault.f a0).bind fun t167 => (if t167 = 0 then (spec_l10Bufs.j0 k a0 l1 (decide ((l1.length : Int) > 1000))) else (spec_l10Bufs.j0 k a0 l1 true))) = some r := h
  clear h
  have HC3 := Aside0.mk H
  clear H
  go_enter Try.func16, Try.ntmps16
  go_upto_region 1 with (fail)
  repeat (go_quiet (fail); go_upto_region 1 with (fail))
  go_cut [13] (fun v13 wc => ∃ (kq : Nat) (x13_2 : Bool), v13 = .bool x13_2 ∧ Aside0 (spec_l10Bufs.j0 kq a0 l1 x13_2 = some r) ∧ Aside0 (kq ≤ k) ∧ Drawn0 w wc)
  case first =>
    have H := HC3.out
    clear HC3
    replace H := Option.bind_eq_some_iff.mp H
    obtain ⟨t167, A40, H⟩ := H
    replace H : (if t167 = 0 then (spec_l10Bufs.j0 k a0 l1 (decide ((l1.length : Int) > 1000))) else (spec_l10Bufs.j0 k a0 l1 true)) = some r := H
    have A4 := Aside0.mk A40
    clear A40
    by_cases c5 : t167 = 0
    · rw [if_pos c5] at H
      have c5b0 : (t167 == 0) = true := beq_iff_eq.mpr c5
      have c5b1 : (t167 != 0) = false := bne_eq_false_iff_eq.mpr c5
      clear c5
      (first | rw [c5b0] | (simp only [i64_w, i32_w]; rw [c5b0]) | skip)
      have H' := Aside0.mk H
      clear H
      go_wp2_with (first | (go_at_call 22; (with_reducible refine (spec_MemFault.calls a0 t167 _ A4.out).mono ?_); rintro e w' ⟨rfl, ⟨nd, rfl⟩⟩; (try first | exact ⟨rfl, _, World.drewN_drewN _ _ _⟩ | exact ⟨rfl, _, Eq.trans (World.drewN_drewN _ _ _) (congrArg (World.drewN _) (Nat.add_assoc _ _ _))⟩)))
      repeat (go_quiet (first | (go_at_call 22; (with_reducible refine (spec_MemFault.calls a0 t167 _ A4.out).mono ?_); rintro e w' ⟨rfl, ⟨nd, rfl⟩⟩; (try first | exact ⟨rfl, _, World.drewN_drewN _ _ _⟩ | exact ⟨rfl, _, Eq.trans (World.drewN_drewN _ _ _) (congrArg (World.drewN _) (Nat.add_assoc _ _ _))⟩))); try go_wp2_with (first | (go_at_call 22; (with_reducible refine (spec_MemFault.calls a0 t167 _ A4.out).mono ?_); rintro e w' ⟨rfl, ⟨nd, rfl⟩⟩; (try first | exact ⟨rfl, _, World.drewN_drewN _ _ _⟩ | exact ⟨rfl, _, Eq.trans (World.drewN_drewN _ _ _) (congrArg (World.drewN _) (Nat.add_assoc _ _ _))⟩))))
      go_meet
      case rel => exact ⟨_, (decide ((l1.length : Int) > 1000)), (by first | rfl | (simp; done) | (simp [*]; done)), H', ⟨by first | omega | exact Nat.le_refl _⟩, by repeat (first | exact Drawn0.refl _ | apply Drawn0.step)⟩
    · rw [if_neg c5] at H
      have c5b0 : (t167 == 0) = false := beq_eq_false_iff_ne.mpr c5
      have c5b1 : (t167 != 0) = true := bne_iff_ne.mpr c5
      (first | rw [c5b0] | (simp only [i64_w, i32_w]; rw [c5b0]) | skip)
      have H' := Aside0.mk H
      clear H
      go_wp2_with (first | (go_at_call 22; (with_reducible refine (spec_MemFault.calls a0 t167 _ A4.out).mono ?_); rintro e w' ⟨rfl, ⟨nd, rfl⟩⟩; (try first | exact ⟨rfl, _, World.drewN_drewN _ _ _⟩ | exact ⟨rfl, _, Eq.trans (World.drewN_drewN _ _ _) (congrArg (World.drewN _) (Nat.add_assoc _ _ _))⟩)))
      repeat (go_quiet (first | (go_at_call 22; (with_reducible refine (spec_MemFault.calls a0 t167 _ A4.out).mono ?_); rintro e w' ⟨rfl, ⟨nd, rfl⟩⟩; (try first | exact ⟨rfl, _, World.drewN_drewN _ _ _⟩ | exact ⟨rfl, _, Eq.trans (World.drewN_drewN _ _ _) (congrArg (World.drewN _) (Nat.add_assoc _ _ _))⟩))); try go_wp2_with (first | (go_at_call 22; (with_reducible refine (spec_MemFault.calls a0 t167 _ A4.out).mono ?_); rintro e w' ⟨rfl, ⟨nd, rfl⟩⟩; (try first | exact ⟨rfl, _, World.drewN_drewN _ _ _⟩ | exact ⟨rfl, _, Eq.trans (World.drewN_drewN _ _ _) (congrArg (World.drewN _) (Nat.add_assoc _ _ _))⟩))))
      go_meet
      case rel => exact ⟨_, (true), (by first | rfl | (simp; done) | (simp [*]; done)), H', ⟨by first | omega | exact Nat.le_refl _⟩, by repeat (first | exact Drawn0.refl _ | apply Drawn0.step)⟩
  case rest =>
    clear HC3
    try clear c1
    try clear p2
    try clear c5
    try clear c5b0
    try clear c5b1
    obtain ⟨kq, x13_2, rfl, HA, HJ2, ⟨mc2, rfl⟩⟩ := hcut
    cases kq with
    | zero => exact absurd HA.out (by simp [spec_l10Bufs.j0])
    | succ kj2 =>
      have H := HA.out
      clear HA
      simp only [spec_l10Bufs.j0] at H
      by_cases c6 : x13_2 = true
      · subst c6
        have H1 : (some false) = some r := by rw [if_pos rfl] at H; exact H
        clear H
        have H := H1
        clear H1
        obtain rfl := Option.some.inj H
        go_wp2
        repeat (go_quiet (fail); try go_wp2)
        go_ret
        exact ⟨by first | rfl | (simp; done) | (simp [*]; done), by repeat (first | exact Drawn0.refl _ | apply Drawn0.step)⟩
      · replace c6 := Bool.eq_false_iff.mpr c6
        subst c6
        have H1 : (spec_l10Bufs.l0 kj2 a0 l1 0) = some r := by rw [if_neg (show ¬ (false = true) by decide)] at H; exact H
        clear H
        have H := H1
        clear H1
        have H' := Aside0.mk H
        clear H
        go_wp2
        repeat (go_quiet (fail); try go_wp2)
        go_loopg [5] kj2 (fun kq v5 w' => ∃ (x5_2 : Int), v5 = .int .i64 x5_2 ∧ Aside0 (spec_l10Bufs.l0 kq a0 l1 x5_2 = some r) ∧ Aside0 (kq ≤ kj2) ∧ Drawn0 w w')
        case atStart => exact ⟨(0), (by first | rfl | (simp; done) | (simp [*]; done)), H', ⟨Nat.le_refl _⟩, by repeat (first | exact Drawn0.refl _ | apply Drawn0.step)⟩
        case round =>
          clear H'
          try clear c1
          try clear c2
          try clear p2
          try clear c5
          try clear c5b0
          try clear c5b1
          try clear c6
          try clear p2
          obtain ⟨x5_2, rfl, HA, HK2, ⟨m2, rfl⟩⟩ := hrel
          cases gk with
          | zero => exact absurd HA.out (by simp [spec_l10Bufs.l0])
          | succ k2 =>
            have H := HA.out
            clear HA
            simp only [spec_l10Bufs.l0] at H
            by_cases c7 : x5_2 < (l1.length : Int)
            · rw [if_pos c7] at H
              have c7b0 : decide (x5_2 < (l1.length : Int)) = true := decide_eq_true c7
              clear c7
              by_cases c8 : 0 ≤ x5_2
              · rw [if_pos c8] at H
                have c8b0 : decide (0 ≤ x5_2) = true := decide_eq_true c8
                clear c8
                replace H := Option.bind_eq_some_iff.mp H
                obtain ⟨t170, A90, H⟩ := H
                replace H : (if t170 = true then (spec_l10Bufs.l0 k2 a0 l1 (wrap64 (x5_2 + 1))) else (some false)) = some r := H
                have A9 := Aside0.mk A90
                clear A90
                by_cases c10 : t170 = true
                · subst c10
                  have H1 : (spec_l10Bufs.l0 k2 a0 l1 (wrap64 (x5_2 + 1))) = some r := by rw [if_pos rfl] at H; exact H
                  clear H
                  have H := H1
                  clear H1
                  have H' := Aside0.mk H
                  clear H
                  have p168 : 0 ≤ (x5_2 : Int) := of_decide_eq_true (by first | (with_reducible assumption) | assumption)
                  have q168 : x5_2 < (l1.length : Int) := of_decide_eq_true (by first | (with_reducible assumption) | assumption)
                  obtain ⟨ad168, e168, hx168_0, hx168_1, hx168_2⟩ := at_T28 HR1.out x5_2 p168 q168
                  cases e168
                  replace p168 := eq_true p168
                  replace q168 := eq_true q168
                  have p169 : 0 ≤ (x5_2 : Int) := of_decide_eq_true (by first | (with_reducible assumption) | assumption)
                  have q169 : x5_2 < (l1.length : Int) := of_decide_eq_true (by first | (with_reducible assumption) | assumption)
                  obtain ⟨ad169, e169, hx169_0, hx169_1, hx169_2⟩ := at_T28 HR1.out x5_2 p169 q169
                  obtain rfl : ad168 = ad169 := (by injection e169)
                  replace p169 := eq_true p169
                  replace q169 := eq_true q169
                  go_wp2_with (first | (go_at_call 23; (with_reducible refine (spec_l10In.calls a0 ((rd_T28 l1 x5_2).f0) ((rd_T28 l1 x5_2).f1) true _ A9.out).mono ?_); rintro e w' ⟨rfl, ⟨nd, rfl⟩⟩; (try first | exact ⟨rfl, _, World.drewN_drewN _ _ _⟩ | exact ⟨rfl, _, Eq.trans (World.drewN_drewN _ _ _) (congrArg (World.drewN _) (Nat.add_assoc _ _ _))⟩)))
                  repeat (go_quiet (first | (go_at_call 23; (with_reducible refine (spec_l10In.calls a0 ((rd_T28 l1 x5_2).f0) ((rd_T28 l1 x5_2).f1) true _ A9.out).mono ?_); rintro e w' ⟨rfl, ⟨nd, rfl⟩⟩; (try first | exact ⟨rfl, _, World.drewN_drewN _ _ _⟩ | exact ⟨rfl, _, Eq.trans (World.drewN_drewN _ _ _) (congrArg (World.drewN _) (Nat.add_assoc _ _ _))⟩))); try go_wp2_with (first | (go_at_call 23; (with_reducible refine (spec_l10In.calls a0 ((rd_T28 l1 x5_2).f0) ((rd_T28 l1 x5_2).f1) true _ A9.out).mono ?_); rintro e w' ⟨rfl, ⟨nd, rfl⟩⟩; (try first | exact ⟨rfl, _, World.drewN_drewN _ _ _⟩ | exact ⟨rfl, _, Eq.trans (World.drewN_drewN _ _ _) (congrArg (World.drewN _) (Nat.add_assoc _ _ _))⟩))))
                  go_roundg k2
                  case measure => have := HJ2.out; have := HK2.out; omega
                  case rel => exact ⟨(wrap64 (x5_2 + 1)), (by first | rfl | (simp; done) | (simp [*]; done)), H', ⟨by have := HJ2.out; have := HK2.out; omega⟩, by repeat (first | exact Drawn0.refl _ | apply Drawn0.step)⟩
                · replace c10 := Bool.eq_false_iff.mpr c10
                  subst c10
                  have H1 : (some false) = some r := by rw [if_neg (show ¬ (false = true) by decide)] at H; exact H
                  clear H
                  have H := H1
                  clear H1
                  obtain rfl := Option.some.inj H
                  have p168 : 0 ≤ (x5_2 : Int) := of_decide_eq_true (by first | (with_reducible assumption) | assumption)
                  have q168 : x5_2 < (l1.length : Int) := of_decide_eq_true (by first | (with_reducible assumption) | assumption)
                  obtain ⟨ad168, e168, hx168_0, hx168_1, hx168_2⟩ := at_T28 HR1.out x5_2 p168 q168
                  cases e168
                  replace p168 := eq_true p168
                  replace q168 := eq_true q168
                  have p169 : 0 ≤ (x5_2 : Int) := of_decide_eq_true (by first | (with_reducible assumption) | assumption)
                  have q169 : x5_2 < (l1.length : Int) := of_decide_eq_true (by first | (with_reducible assumption) | assumption)
                  obtain ⟨ad169, e169, hx169_0, hx169_1, hx169_2⟩ := at_T28 HR1.out x5_2 p169 q169
                  obtain rfl : ad168 = ad169 := (by injection e169)
                  replace p169 := eq_true p169
                  replace q169 := eq_true q169
                  go_wp2_with (first | (go_at_call 23; (with_reducible refine (spec_l10In.calls a0 ((rd_T28 l1 x5_2).f0) ((rd_T28 l1 x5_2).f1) false _ A9.out).mono ?_); rintro e w' ⟨rfl, ⟨nd, rfl⟩⟩; (try first | exact ⟨rfl, _, World.drewN_drewN _ _ _⟩ | exact ⟨rfl, _, Eq.trans (World.drewN_drewN _ _ _) (congrArg (World.drewN _) (Nat.add_assoc _ _ _))⟩)))
                  repeat (go_quiet (first | (go_at_call 23; (with_reducible refine (spec_l10In.calls a0 ((rd_T28 l1 x5_2).f0) ((rd_T28 l1 x5_2).f1) false _ A9.out).mono ?_); rintro e w' ⟨rfl, ⟨nd, rfl⟩⟩; (try first | exact ⟨rfl, _, World.drewN_drewN _ _ _⟩ | exact ⟨rfl, _, Eq.trans (World.drewN_drewN _ _ _) (congrArg (World.drewN _) (Nat.add_assoc _ _ _))⟩))); try go_wp2_with (first | (go_at_call 23; (with_reducible refine (spec_l10In.calls a0 ((rd_T28 l1 x5_2).f0) ((rd_T28 l1 x5_2).f1) false _ A9.out).mono ?_); rintro e w' ⟨rfl, ⟨nd, rfl⟩⟩; (try first | exact ⟨rfl, _, World.drewN_drewN _ _ _⟩ | exact ⟨rfl, _, Eq.trans (World.drewN_drewN _ _ _) (congrArg (World.drewN _) (Nat.add_assoc _ _ _))⟩))))
                  go_ret
                  exact ⟨by first | rfl | (simp; done) | (simp [*]; done), by repeat (first | exact Drawn0.refl _ | apply Drawn0.step)⟩
              · rw [if_neg c8] at H
                exact absurd H (by simp)
            · rw [if_neg c7] at H
              have c7b0 : decide (x5_2 < (l1.length : Int)) = false := decide_eq_false c7
              clear c7
              obtain rfl := Option.some.inj H
              go_wp2
              repeat (go_quiet (fail); try go_wp2)
              go_ret
              exact ⟨by first | rfl | (simp; done) | (simp [*]; done), by repeat (first | exact Drawn0.refl _ | apply Drawn0.step)⟩

/-! ### spec_l01Min: function 17 -/
def spec_l01Min.f (a0 : Int) (a1 : Int) : Option (Int) := if a0 < a1 then (some a0) else (some a1)
set_option maxHeartbeats 8000000 in
set_option maxRecDepth 100000 in
theorem spec_l01Min.calls (a0 : Int) (a1 : Int) (r : Int) (w : World) (h : spec_l01Min.f a0 a1 = some r) :
    Calls Try.prog 17 #[.int .i64 a0, .int .i64 a1] w fun e w' => e = .returned (.int .i64 r) ∧ Drawn0 w w' := by
  have H : (if a0 < a1 then (some a0) else (some a1)) = some r := h
  clear h
  by_cases c3 : a0 < a1
  · rw [if_pos c3] at H
    have c3b0 : decide (a0 < a1) = true := decide_eq_true c3
    clear c3
    obtain rfl := Option.some.inj H
    go_enter Try.func17, Try.ntmps17
    go_wp2
    go_ret
    exact ⟨by first | rfl | (simp; done) | (simp [*]; done), by repeat (first | exact Drawn0.refl _ | apply Drawn0.step)⟩
  · rw [if_neg c3] at H
    have c3b0 : decide (a0 < a1) = false := decide_eq_false c3
    clear c3
    obtain rfl := Option.some.inj H
    go_enter Try.func17, Try.ntmps17
    go_wp2
    go_ret
    exact ⟨by first | rfl | (simp; done) | (simp [*]; done), by repeat (first | exact Drawn0.refl _ | apply Drawn0.step)⟩

/-! ### spec_SpreadBufs: function 6 -/
mutual
def spec_SpreadBufs.j0 : Nat → ByteArray → List (S28) → ByteArray → Bool → Option (ByteArray)
 | 0, _, _, _, _ => none
 | k + 1, x0, x1, x2, x17 => if x17 = true then (some (⟨#[]⟩ : ByteArray)) else (spec_SpreadBufs.l0 k x0 x1 x2 0)
def spec_SpreadBufs.l0 : Nat → ByteArray → List (S28) → ByteArray → Int → Option (ByteArray)
 | 0, _, _, _, _ => none
 | k + 1, x0, x1, x2, x7 => if x7 < (x1.length : Int) then (if 0 ≤ x7 then (if ((rd_T28 x1 x7).f2 = true) then ((spec_l01Min.f ((rd_T28 x1 x7).f1) (x2.size : Int)).bind fun t174 => (if 0 ≤ ((rd_T28 x1 x7).f0) then (if ((rd_T28 x1 x7).f0) ≤ (x0.size : Int) then (if 0 ≤ t174 then (if t174 ≤ (x2.size : Int) then (if (x0.extract 0 (((rd_T28 x1 x7).f0) : Int).toNat).size + (x2.extract 0 (t174 : Int).toNat).size ≤ 9223372036854775807 then (if 0 ≤ (wrap64 (((rd_T28 x1 x7).f0) + t174)) then (if (wrap64 (((rd_T28 x1 x7).f0) + t174)) ≤ (x0.size : Int) then (if ((x0.extract 0 (((rd_T28 x1 x7).f0) : Int).toNat) ++ (x2.extract 0 (t174 : Int).toNat)).size + (x0.extract ((wrap64 (((rd_T28 x1 x7).f0) + t174)) : Int).toNat x0.size).size ≤ 9223372036854775807 then (spec_SpreadBufs.l0 k (((x0.extract 0 (((rd_T28 x1 x7).f0) : Int).toNat) ++ (x2.extract 0 (t174 : Int).toNat)) ++ (x0.extract ((wrap64 (((rd_T28 x1 x7).f0) + t174)) : Int).toNat x0.size)) x1 (x2.extract (t174 : Int).toNat x2.size) (wrap64 (x7 + 1))) else (none)) else (none)) else (none)) else (none)) else (none)) else (none)) else (none)) else (none))) else (spec_SpreadBufs.l0 k x0 x1 x2 (wrap64 (x7 + 1)))) else (none)) else (some x0)
end
def spec_SpreadBufs.f (k : Nat) (a0 : ByteArray) (l1 : List (S28)) (a2 : ByteArray) : Option (ByteArray) := if (a2.size : Int) > 65536 then (spec_SpreadBufs.j0 k a0 l1 a2 true) else ((spec_l10Bufs.f k a0 l1).bind fun t171 => (spec_SpreadBufs.j0 k a0 l1 a2 (!t171)))
theorem spec_SpreadBufs.mono_l : ∀ k, (∀ y0 y1 y2 y3, LeO (spec_SpreadBufs.j0 k y0 y1 y2 y3) (spec_SpreadBufs.j0 (k + 1) y0 y1 y2 y3)) ∧ (∀ y0 y1 y2 y3, LeO (spec_SpreadBufs.l0 k y0 y1 y2 y3) (spec_SpreadBufs.l0 (k + 1) y0 y1 y2 y3))
 | 0 => ⟨fun _ _ _ _ r h => by simp [spec_SpreadBufs.j0] at h, fun _ _ _ _ r h => by simp [spec_SpreadBufs.l0] at h⟩
 | k + 1 => by
  obtain ⟨ih0, ih1⟩ := spec_SpreadBufs.mono_l k
  refine ⟨?_, ?_⟩
  ·intro y0 y1 y2 y3
   unfold spec_SpreadBufs.j0
   repeat' first
   | (with_reducible exact ih0 _ _ _ _)
   | (with_reducible exact ih1 _ _ _ _)
   | (with_reducible exact spec_l10Bufs.mono _ _ _)
   | (with_reducible exact LeO.refl _)
   | (with_reducible exact LeO.none _)
   | (with_reducible refine LeO.ite ?_ ?_)
   | (with_reducible refine LeO.bind ?_ (fun _ => ?_))
   | exact ih0 _ _ _ _
   | exact ih1 _ _ _ _
   | exact spec_l10Bufs.mono _ _ _
   | exact LeO.none _
   | refine LeO.ite ?_ ?_
   | refine LeO.bind ?_ (fun _ => ?_)
  ·intro y0 y1 y2 y3
   unfold spec_SpreadBufs.l0
   repeat' first
   | (with_reducible exact ih0 _ _ _ _)
   | (with_reducible exact ih1 _ _ _ _)
   | (with_reducible exact spec_l10Bufs.mono _ _ _)
   | (with_reducible exact LeO.refl _)
   | (with_reducible exact LeO.none _)
   | (with_reducible refine LeO.ite ?_ ?_)
   | (with_reducible refine LeO.bind ?_ (fun _ => ?_))
   | exact ih0 _ _ _ _
   | exact ih1 _ _ _ _
   | exact spec_l10Bufs.mono _ _ _
   | exact LeO.none _
   | refine LeO.ite ?_ ?_
   | refine LeO.bind ?_ (fun _ => ?_)
theorem spec_SpreadBufs.mono : ∀ a0 a1 a2 k, LeO (spec_SpreadBufs.f k a0 a1 a2) (spec_SpreadBufs.f (k + 1) a0 a1 a2) := by
 intro a0 a1 a2 k
 obtain ⟨ih0, ih1⟩ := spec_SpreadBufs.mono_l k
 unfold spec_SpreadBufs.f
 repeat' first
   | (with_reducible exact ih0 _ _ _ _)
   | (with_reducible exact ih1 _ _ _ _)
   | (with_reducible exact spec_l10Bufs.mono _ _ _)
   | (with_reducible exact LeO.refl _)
   | (with_reducible exact LeO.none _)
   | (with_reducible refine LeO.ite ?_ ?_)
   | (with_reducible refine LeO.bind ?_ (fun _ => ?_))
   | exact ih0 _ _ _ _
   | exact ih1 _ _ _ _
   | exact spec_l10Bufs.mono _ _ _
   | exact LeO.none _
   | refine LeO.ite ?_ ?_
   | refine LeO.bind ?_ (fun _ => ?_)
set_option maxHeartbeats 8000000 in
set_option maxRecDepth 100000 in
theorem spec_SpreadBufs.calls (k : Nat) (a0 : ByteArray) (A1 : Option Addr) (c1 : Nat) (l1 : List (S28)) (a2 : ByteArray) (r : ByteArray) (w : World) (hr1 : Kd.C k28 w A1 l1.length l1) (hc1 : l1.length ≤ c1) (h : spec_SpreadBufs.f k a0 l1 a2 = some r) :
  Calls Try.prog 6 #[.string a0, .slice A1 l1.length c1, .string a2] w fun e w' => e = .returned (.string r) ∧ Drawn0 w w' := by
 have HR1 := Sq.l hr1
 have HC1 := Sq.l hc1
 clear hr1 hc1
 have H : (if (a2.size : Int) > 65536 then (spec_SpreadBufs.j0 k a0 l1 a2 true) else ((spec_l10Bufs.f k a0 l1).bind fun t171 => (spec_SpreadBufs.j0 k a0 l1 a2 (!t171)))) = some r := h
 clear h
 have HC4 := Sq.l H
 clear H
 go_enter Try.func6, Try.ntmps6
 go_upto_region 1 with (fail)
 repeat (go_quiet (fail); go_upto_region 1 with (fail))
 go_cut [17] (fun v17 wc => ∃ (kq : Nat) (x17_3 : Bool), v17 = .bool x17_3 ∧ Aside0 (spec_SpreadBufs.j0 kq a0 l1 a2 x17_3 = some r) ∧ Aside0 (kq ≤ k) ∧ Drawn0 w wc)
 case first =>
  have H := HC4.out
  clear HC4
  by_cases c5 : (a2.size : Int) > 65536
  ·rw [if_pos c5] at H
   have c5b0 : decide (65536 < (a2.size : Int)) = true := decide_eq_true c5
   have c5b1 : decide (65536 < a2.size) = true := decide_eq_true (by omega)
   clear c5
   (first | rw [c5b0] | (simp only [i64_w, i32_w]; rw [c5b0]) | skip)
   have H' := Sq.l H
   clear H
   go_wp2
   repeat (go_quiet (fail); try go_wp2)
   go_meet
   case rel => exact ⟨_, (true), (by first | rfl | (simp; done) | (simp [*]; done)), H', ⟨by first | omega | exact Nat.le_refl _⟩, by repeat (first | exact Drawn0.refl _ | apply Drawn0.step)⟩
  ·rw [if_neg c5] at H
   have c5b0 : decide (65536 < (a2.size : Int)) = false := decide_eq_false c5
   have c5b1 : decide (65536 < a2.size) = false := decide_eq_false (by omega)
   clear c5
   (first | rw [c5b0] | (simp only [i64_w, i32_w]; rw [c5b0]) | skip)
   replace H := Option.bind_eq_some_iff.mp H
   obtain ⟨t171, A60, H⟩ := H
   (try dsimp only at H)
   have A6 := Sq.l A60
   clear A60
   have H' := Sq.l H
   clear H
   go_wp2_with (first | (go_at_call 16; (with_reducible refine (spec_l10Bufs.calls k a0 _ _ l1 t171 _ ?side1 ?side2 A6.out).mono ?_); (case side1 => repeat (first | exact HR1.out | (with_reducible refine Sq.s ?_ _) | (with_reducible refine Sq.t ?_ _) | (with_reducible refine Sq.u ?_))); (case side2 => exact HC1.out); rintro e w' ⟨rfl, ⟨nd, rfl⟩⟩; (try first | exact ⟨rfl, _, World.drewN_drewN _ _ _⟩ | exact ⟨rfl, _, Eq.trans (World.drewN_drewN _ _ _) (congrArg (World.drewN _) (Nat.add_assoc _ _ _))⟩)))
   repeat (go_quiet (first | (go_at_call 16; (with_reducible refine (spec_l10Bufs.calls k a0 _ _ l1 t171 _ ?side1 ?side2 A6.out).mono ?_); (case side1 => repeat (first | exact HR1.out | (with_reducible refine Sq.s ?_ _) | (with_reducible refine Sq.t ?_ _) | (with_reducible refine Sq.u ?_))); (case side2 => exact HC1.out); rintro e w' ⟨rfl, ⟨nd, rfl⟩⟩; (try first | exact ⟨rfl, _, World.drewN_drewN _ _ _⟩ | exact ⟨rfl, _, Eq.trans (World.drewN_drewN _ _ _) (congrArg (World.drewN _) (Nat.add_assoc _ _ _))⟩))); try go_wp2_with (first | (go_at_call 16; (with_reducible refine (spec_l10Bufs.calls k a0 _ _ l1 t171 _ ?side1 ?side2 A6.out).mono ?_); (case side1 => repeat (first | exact HR1.out | (with_reducible refine Sq.s ?_ _) | (with_reducible refine Sq.t ?_ _) | (with_reducible refine Sq.u ?_))); (case side2 => exact HC1.out); rintro e w' ⟨rfl, ⟨nd, rfl⟩⟩; (try first | exact ⟨rfl, _, World.drewN_drewN _ _ _⟩ | exact ⟨rfl, _, Eq.trans (World.drewN_drewN _ _ _) (congrArg (World.drewN _) (Nat.add_assoc _ _ _))⟩))))
   go_meet
   case rel => exact ⟨_, (!t171), (by first | rfl | (simp; done) | (simp [*]; done)), H', ⟨by first | omega | exact Nat.le_refl _⟩, by repeat (first | exact Drawn0.refl _ | apply Drawn0.step)⟩
 case rest =>
  clear HC4; try clear c1; try clear p2; try clear c5; try clear c5b0; try clear c5b1; try clear c6
  obtain ⟨kq, x17_3, rfl, HA, HJ3, ⟨mc3, rfl⟩⟩ := hcut
  cases kq with
  | zero => exact absurd HA.out (by simp [spec_SpreadBufs.j0])
  | succ kj3 =>
   have H := HA.out
   clear HA
   simp only [spec_SpreadBufs.j0] at H
   by_cases c7 : x17_3 = true
   ·subst c7
    rw [if_pos rfl] at H
    obtain rfl := Option.some.inj H
    go_wp2
    repeat (go_quiet (fail); try go_wp2)
    go_ret
    exact ⟨by first | rfl | (simp; done) | (simp [*]; done), by repeat (first | exact Drawn0.refl _ | apply Drawn0.step)⟩
   ·replace c7 := Bool.eq_false_iff.mpr c7
    subst c7
    rw [if_neg (show ¬ (false = true) by decide)] at H
    have H' := Sq.l H
    clear H
    go_wp2
    repeat (go_quiet (fail); try go_wp2)
    go_loopg [0, 2, 7] kj3 (fun kq v0 v2 v7 w' => ∃ (x0_2 : ByteArray) (x2_2 : ByteArray) (x7_2 : Int), v0 = .string x0_2 ∧ v2 = .string x2_2 ∧ v7 = .int .i64 x7_2 ∧ Aside0 (spec_SpreadBufs.l0 kq x0_2 l1 x2_2 x7_2 = some r) ∧ Aside0 (kq ≤ kj3) ∧ Drawn0 w w')
    case atStart => exact ⟨(a0), (a2), (0), (by first | rfl | (simp; done) | (simp [*]; done)), (by first | rfl | (simp; done) | (simp [*]; done)), (by first | rfl | (simp; done) | (simp [*]; done)), H', ⟨Nat.le_refl _⟩, by repeat (first | exact Drawn0.refl _ | apply Drawn0.step)⟩
    case round =>
     clear H'
     try clear c1; try clear p2; try clear c3; try clear c5; try clear c5b0; try clear c5b1; try clear c6; try clear c7; try clear p2
     obtain ⟨x0_2, x2_2, x7_2, rfl, rfl, rfl, HA, HK2, ⟨m2, rfl⟩⟩ := hrel
     cases gk with
     | zero => exact absurd HA.out (by simp [spec_SpreadBufs.l0])
     | succ k2 =>
      have H := HA.out
      clear HA
      simp only [spec_SpreadBufs.l0] at H
      by_cases c8 : x7_2 < (l1.length : Int)
      ·rw [if_pos c8] at H
       have c8b0 : decide (x7_2 < (l1.length : Int)) = true := decide_eq_true c8
       clear c8
       by_cases c9 : 0 ≤ x7_2
       ·rw [if_pos c9] at H
        have c9b0 : decide (0 ≤ x7_2) = true := decide_eq_true c9
        clear c9
        obtain ⟨bq10, hbq10⟩ : ∃ b_ : Bool, b_ = ((rd_T28 l1 x7_2).f2) := ⟨_, rfl⟩
        replace H : (if (bq10 = true) then ((spec_l01Min.f ((rd_T28 l1 x7_2).f1) (x2_2.size : Int)).bind fun t174 => (if 0 ≤ ((rd_T28 l1 x7_2).f0) then (if ((rd_T28 l1 x7_2).f0) ≤ (x0_2.size : Int) then (if 0 ≤ t174 then (if t174 ≤ (x2_2.size : Int) then (if (x0_2.extract 0 (((rd_T28 l1 x7_2).f0) : Int).toNat).size + (x2_2.extract 0 (t174 : Int).toNat).size ≤ 9223372036854775807 then (if 0 ≤ (wrap64 (((rd_T28 l1 x7_2).f0) + t174)) then (if (wrap64 (((rd_T28 l1 x7_2).f0) + t174)) ≤ (x0_2.size : Int) then (if ((x0_2.extract 0 (((rd_T28 l1 x7_2).f0) : Int).toNat) ++ (x2_2.extract 0 (t174 : Int).toNat)).size + (x0_2.extract ((wrap64 (((rd_T28 l1 x7_2).f0) + t174)) : Int).toNat x0_2.size).size ≤ 9223372036854775807 then (spec_SpreadBufs.l0 k2 (((x0_2.extract 0 (((rd_T28 l1 x7_2).f0) : Int).toNat) ++ (x2_2.extract 0 (t174 : Int).toNat)) ++ (x0_2.extract ((wrap64 (((rd_T28 l1 x7_2).f0) + t174)) : Int).toNat x0_2.size)) l1 (x2_2.extract (t174 : Int).toNat x2_2.size) (wrap64 (x7_2 + 1))) else (none)) else (none)) else (none)) else (none)) else (none)) else (none)) else (none)) else (none))) else (spec_SpreadBufs.l0 k2 x0_2 l1 x2_2 (wrap64 (x7_2 + 1)))) = some r := by rw [← hbq10] at H; exact H
        have Nbq10 := Sq.l hbq10
        clear hbq10
        by_cases c11 : (bq10 = true)
        ·subst c11
         rw [if_pos rfl] at H
         replace H := Option.bind_eq_some_iff.mp H
         obtain ⟨t174, A120, H⟩ := H
         (try dsimp only at H)
         have A12 := Sq.l A120
         clear A120
         by_cases c13 : 0 ≤ ((rd_T28 l1 x7_2).f0)
         ·rw [if_pos c13] at H
          have c13b0 := eq_true c13
          have c13b1 : decide (0 ≤ ((rd_T28 l1 x7_2).f0)) = true := decide_eq_true c13
          clear c13
          by_cases c14 : ((rd_T28 l1 x7_2).f0) ≤ (x0_2.size : Int)
          ·rw [if_pos c14] at H
           have c14b0 := eq_true c14
           have c14b1 : decide (((rd_T28 l1 x7_2).f0) ≤ (x0_2.size : Int)) = true := decide_eq_true c14
           clear c14
           by_cases c15 : 0 ≤ t174
           ·rw [if_pos c15] at H
            have c15b0 := eq_true c15
            have c15b1 : decide (0 ≤ t174) = true := decide_eq_true c15
            clear c15
            by_cases c16 : t174 ≤ (x2_2.size : Int)
            ·rw [if_pos c16] at H
             have c16b0 := eq_true c16
             have c16b1 : decide (t174 ≤ (x2_2.size : Int)) = true := decide_eq_true c16
             clear c16
             by_cases c17 : (x0_2.extract 0 (((rd_T28 l1 x7_2).f0) : Int).toNat).size + (x2_2.extract 0 (t174 : Int).toNat).size ≤ 9223372036854775807
             ·rw [if_pos c17] at H
              have c17b0 := eq_true c17
              have c17b1 : decide ((x0_2.extract 0 (((rd_T28 l1 x7_2).f0) : Int).toNat).size + (x2_2.extract 0 (t174 : Int).toNat).size ≤ 9223372036854775807) = true := decide_eq_true c17
              try have c17b2 : (9223372036854775807 < (x0_2.extract 0 (((rd_T28 l1 x7_2).f0) : Int).toNat).size + (x2_2.extract 0 (t174 : Int).toNat).size) = False := eq_false (Nat.not_lt.2 c17)
              obtain ⟨ji18, hji18⟩ : ∃ j_ : Int, (wrap64 (((rd_T28 l1 x7_2).f0) + t174)) = j_ := ⟨_, rfl⟩
              replace H : (if 0 ≤ (ji18) then (if (ji18) ≤ (x0_2.size : Int) then (if ((x0_2.extract 0 (((rd_T28 l1 x7_2).f0) : Int).toNat) ++ (x2_2.extract 0 (t174 : Int).toNat)).size + (x0_2.extract ((ji18) : Int).toNat x0_2.size).size ≤ 9223372036854775807 then (spec_SpreadBufs.l0 k2 (((x0_2.extract 0 (((rd_T28 l1 x7_2).f0) : Int).toNat) ++ (x2_2.extract 0 (t174 : Int).toNat)) ++ (x0_2.extract ((ji18) : Int).toNat x0_2.size)) l1 (x2_2.extract (t174 : Int).toNat x2_2.size) (wrap64 (x7_2 + 1))) else (none)) else (none)) else (none)) = some r := by first | (rw [hji18] at H; exact H) | (simp only [hji18] at H ⊢; exact H)
              (try rw [hji18] at A12)
              have hji18w : (IntKind.i64.wrap (((rd_T28 l1 x7_2).f0) + t174)) = ji18 := (i64_w _).trans hji18
              by_cases c19 : 0 ≤ (ji18)
              ·rw [if_pos c19] at H
               have c19b0 := eq_true c19
               have c19b1 : decide (0 ≤ (ji18)) = true := decide_eq_true c19
               clear c19
               by_cases c20 : (ji18) ≤ (x0_2.size : Int)
               ·rw [if_pos c20] at H
                have c20b0 := eq_true c20
                have c20b1 : decide ((ji18) ≤ (x0_2.size : Int)) = true := decide_eq_true c20
                clear c20
                by_cases c21 : ((x0_2.extract 0 (((rd_T28 l1 x7_2).f0) : Int).toNat) ++ (x2_2.extract 0 (t174 : Int).toNat)).size + (x0_2.extract ((ji18) : Int).toNat x0_2.size).size ≤ 9223372036854775807
                ·rw [if_pos c21] at H
                 have c21b0 := eq_true c21
                 have c21b1 : decide (((x0_2.extract 0 (((rd_T28 l1 x7_2).f0) : Int).toNat) ++ (x2_2.extract 0 (t174 : Int).toNat)).size + (x0_2.extract ((ji18) : Int).toNat x0_2.size).size ≤ 9223372036854775807) = true := decide_eq_true c21
                 try have c21b2 : (9223372036854775807 < ((x0_2.extract 0 (((rd_T28 l1 x7_2).f0) : Int).toNat) ++ (x2_2.extract 0 (t174 : Int).toNat)).size + (x0_2.extract ((ji18) : Int).toNat x0_2.size).size) = False := eq_false (Nat.not_lt.2 c21)
                 have c22b0 := eq_true (of_decide_eq_true (by first | (with_reducible assumption) | assumption) : 0 ≤ t174)
                 have c23b0 := eq_true (of_decide_eq_true (by first | (with_reducible assumption) | assumption) : t174 ≤ (x2_2.size : Int))
                 have H' := Sq.l H
                 clear H
                 have p172 : 0 ≤ (x7_2 : Int) := of_decide_eq_true (by first | (with_reducible assumption) | assumption)
                 have q172 : x7_2 < (l1.length : Int) := of_decide_eq_true (by first | (with_reducible assumption) | assumption)
                 obtain ⟨ad172, e172, hx172_0, hx172_1, hx172_2⟩ := at_T28 HR1.out x7_2 p172 q172
                 (try rw [← Nbq10.out] at hx172_2)
                 cases e172
                 replace p172 := eq_true p172; replace q172 := eq_true q172
                 have p173 : 0 ≤ (x7_2 : Int) := of_decide_eq_true (by first | (with_reducible assumption) | assumption)
                 have q173 : x7_2 < (l1.length : Int) := of_decide_eq_true (by first | (with_reducible assumption) | assumption)
                 obtain ⟨ad173, e173, hx173_0, hx173_1, hx173_2⟩ := at_T28 HR1.out x7_2 p173 q173
                 (try rw [← Nbq10.out] at hx173_2)
                 obtain rfl : ad172 = ad173 := (by injection e173)
                 replace p173 := eq_true p173; replace q173 := eq_true q173
                 go_wp2_with (first | (go_at_call 17; (with_reducible refine (spec_l01Min.calls ((rd_T28 l1 x7_2).f1) (x2_2.size : Int) t174 _ A12.out).mono ?_); rintro e w' ⟨rfl, ⟨nd, rfl⟩⟩; (try first | exact ⟨rfl, _, World.drewN_drewN _ _ _⟩ | exact ⟨rfl, _, Eq.trans (World.drewN_drewN _ _ _) (congrArg (World.drewN _) (Nat.add_assoc _ _ _))⟩); have p175 : 0 ≤ (x7_2 : Int) := of_decide_eq_true (by first | (with_reducible assumption) | assumption); have q175 : x7_2 < (l1.length : Int) := of_decide_eq_true (by first | (with_reducible assumption) | assumption); obtain ⟨ad175, e175, hx175_0, hx175_1, hx175_2⟩ := at_T28 HR1.out x7_2 p175 q175; (try rw [← Nbq10.out] at hx175_2); obtain rfl : ad172 = ad175 := (by injection e175); replace p175 := eq_true p175; replace q175 := eq_true q175; have p176 : 0 ≤ (x7_2 : Int) := of_decide_eq_true (by first | (with_reducible assumption) | assumption); have q176 : x7_2 < (l1.length : Int) := of_decide_eq_true (by first | (with_reducible assumption) | assumption); obtain ⟨ad176, e176, hx176_0, hx176_1, hx176_2⟩ := at_T28 HR1.out x7_2 p176 q176; (try rw [← Nbq10.out] at hx176_2); obtain rfl : ad172 = ad176 := (by injection e176); replace p176 := eq_true p176; replace q176 := eq_true q176))
                 repeat (go_quiet (first | (go_at_call 17; (with_reducible refine (spec_l01Min.calls ((rd_T28 l1 x7_2).f1) (x2_2.size : Int) t174 _ A12.out).mono ?_); rintro e w' ⟨rfl, ⟨nd, rfl⟩⟩; (try first | exact ⟨rfl, _, World.drewN_drewN _ _ _⟩ | exact ⟨rfl, _, Eq.trans (World.drewN_drewN _ _ _) (congrArg (World.drewN _) (Nat.add_assoc _ _ _))⟩); have p175 : 0 ≤ (x7_2 : Int) := of_decide_eq_true (by first | (with_reducible assumption) | assumption); have q175 : x7_2 < (l1.length : Int) := of_decide_eq_true (by first | (with_reducible assumption) | assumption); obtain ⟨ad175, e175, hx175_0, hx175_1, hx175_2⟩ := at_T28 HR1.out x7_2 p175 q175; (try rw [← Nbq10.out] at hx175_2); obtain rfl : ad172 = ad175 := (by injection e175); replace p175 := eq_true p175; replace q175 := eq_true q175; have p176 : 0 ≤ (x7_2 : Int) := of_decide_eq_true (by first | (with_reducible assumption) | assumption); have q176 : x7_2 < (l1.length : Int) := of_decide_eq_true (by first | (with_reducible assumption) | assumption); obtain ⟨ad176, e176, hx176_0, hx176_1, hx176_2⟩ := at_T28 HR1.out x7_2 p176 q176; (try rw [← Nbq10.out] at hx176_2); obtain rfl : ad172 = ad176 := (by injection e176); replace p176 := eq_true p176; replace q176 := eq_true q176)); try go_wp2_with (first | (go_at_call 17; (with_reducible refine (spec_l01Min.calls ((rd_T28 l1 x7_2).f1) (x2_2.size : Int) t174 _ A12.out).mono ?_); rintro e w' ⟨rfl, ⟨nd, rfl⟩⟩; (try first | exact ⟨rfl, _, World.drewN_drewN _ _ _⟩ | exact ⟨rfl, _, Eq.trans (World.drewN_drewN _ _ _) (congrArg (World.drewN _) (Nat.add_assoc _ _ _))⟩); have p175 : 0 ≤ (x7_2 : Int) := of_decide_eq_true (by first | (with_reducible assumption) | assumption); have q175 : x7_2 < (l1.length : Int) := of_decide_eq_true (by first | (with_reducible assumption) | assumption); obtain ⟨ad175, e175, hx175_0, hx175_1, hx175_2⟩ := at_T28 HR1.out x7_2 p175 q175; (try rw [← Nbq10.out] at hx175_2); obtain rfl : ad172 = ad175 := (by injection e175); replace p175 := eq_true p175; replace q175 := eq_true q175; have p176 : 0 ≤ (x7_2 : Int) := of_decide_eq_true (by first | (with_reducible assumption) | assumption); have q176 : x7_2 < (l1.length : Int) := of_decide_eq_true (by first | (with_reducible assumption) | assumption); obtain ⟨ad176, e176, hx176_0, hx176_1, hx176_2⟩ := at_T28 HR1.out x7_2 p176 q176; (try rw [← Nbq10.out] at hx176_2); obtain rfl : ad172 = ad176 := (by injection e176); replace p176 := eq_true p176; replace q176 := eq_true q176)))
                 go_roundg k2
                 case measure => have := HJ3.out; have := HK2.out; omega
                 case rel => exact ⟨(((x0_2.extract 0 (((rd_T28 l1 x7_2).f0) : Int).toNat) ++ (x2_2.extract 0 (t174 : Int).toNat)) ++ (x0_2.extract ((ji18) : Int).toNat x0_2.size)), (x2_2.extract (t174 : Int).toNat x2_2.size), (wrap64 (x7_2 + 1)), (by first | rfl | (simp; done) | (simp only [← hji18] <;> (first | rfl | simp)) | (simp [*]; done)), (by first | rfl | (simp; done) | (simp [*]; done)), (by first | rfl | (simp; done) | (simp [*]; done)), H', ⟨by have := HJ3.out; have := HK2.out; omega⟩, by repeat (first | exact Drawn0.refl _ | apply Drawn0.step)⟩
                ·rw [if_neg c21] at H
                 exact absurd H (by simp)
               ·rw [if_neg c20] at H
                exact absurd H (by simp)
              ·rw [if_neg c19] at H
               exact absurd H (by simp)
             ·rw [if_neg c17] at H
              exact absurd H (by simp)
            ·rw [if_neg c16] at H
             exact absurd H (by simp)
           ·rw [if_neg c15] at H
            exact absurd H (by simp)
          ·rw [if_neg c14] at H
           exact absurd H (by simp)
         ·rw [if_neg c13] at H
          exact absurd H (by simp)
        ·replace c11 := Bool.eq_false_iff.mpr c11
         subst c11
         rw [if_neg (show ¬ (false = true) by decide)] at H
         have H' := Sq.l H
         clear H
         have p172 : 0 ≤ (x7_2 : Int) := of_decide_eq_true (by first | (with_reducible assumption) | assumption)
         have q172 : x7_2 < (l1.length : Int) := of_decide_eq_true (by first | (with_reducible assumption) | assumption)
         obtain ⟨ad172, e172, hx172_0, hx172_1, hx172_2⟩ := at_T28 HR1.out x7_2 p172 q172
         (try rw [← Nbq10.out] at hx172_2)
         cases e172
         replace p172 := eq_true p172; replace q172 := eq_true q172
         go_wp2
         repeat (go_quiet (fail); try go_wp2)
         go_roundg k2
         case measure => have := HJ3.out; have := HK2.out; omega
         case rel => exact ⟨(x0_2), (x2_2), (wrap64 (x7_2 + 1)), (by first | rfl | (simp; done) | (simp [*]; done)), (by first | rfl | (simp; done) | (simp [*]; done)), (by first | rfl | (simp; done) | (simp [*]; done)), H', ⟨by have := HJ3.out; have := HK2.out; omega⟩, by repeat (first | exact Drawn0.refl _ | apply Drawn0.step)⟩
       ·rw [if_neg c9] at H
        exact absurd H (by simp)
      ·rw [if_neg c8] at H
       have c8b0 : decide (x7_2 < (l1.length : Int)) = false := decide_eq_false c8
       clear c8
       obtain rfl := Option.some.inj H
       go_wp2
       repeat (go_quiet (fail); try go_wp2)
       go_ret
       exact ⟨by first | rfl | (simp; done) | (simp [*]; done), by repeat (first | exact Drawn0.refl _ | apply Drawn0.step)⟩

end Go.Proofs.Ytopeblicjgbfcaa.QFnSpread
