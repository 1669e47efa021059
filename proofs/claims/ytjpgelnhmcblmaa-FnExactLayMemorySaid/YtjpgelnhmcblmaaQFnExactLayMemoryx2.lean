-- Written for this claim by this session's own driver (wip/xprint.py).
import Derived.Test.YtjpgelnhmcblmaaQFnExactLayMemoryx0
import Derived.Test.YtjpgelnhmcblmaaQFnExactLayMemoryx1
namespace Go.Proofs.Ytjpgelnhmcblmaa.QFnExactLayMemory
open Go.RowKit Go.Proofs.YtjpgelnhmcblmaaW.PrintWords Go.Proofs.YtjpgelnhmcblmaaW.PrintLast Go.Proofs.YtjpgelnhmcblmaaW.PrintMore
attribute [local go_sem] max2_int min2_int max_two min_two max_three min_three max_four min_four   -- for this text's walks alone
set_option linter.unusedVariables false
set_option linter.unusedSimpArgs false

/-! ### spec_LayMemory: function 19 -/
def spec_LayMemory.l0 : Nat → ByteArray → List Int → ByteArray → Int → Option (ByteArray)
  | 0, _, _, _, _ => none
  | k + 1, x0, x1, x2, x7 => if x7 < (x1.length : Int) then (if 0 ≤ x7 then ((spec_l06Frame.f x0 x7).bind fun t119 => ((spec_l06SetFrame.f x2 (rd x1 x7) t119).bind fun t120 => (spec_LayMemory.l0 k x0 x1 t120 (wrap64 (x7 + 1))))) else (none)) else (some x2)
def spec_LayMemory.f (k : Nat) (a0 : ByteArray) (l1 : List Int) (a2 : ByteArray) : Option (ByteArray) := (spec_PlaceFault.f k a0 l1 a2).bind fun t117 => (if t117 = 0 then (spec_LayMemory.l0 k a0 l1 a2 0) else (some (⟨#[]⟩ : ByteArray)))
theorem spec_LayMemory.mono_l : ∀ k, (∀ y0 y1 y2 y3, LeO (spec_LayMemory.l0 k y0 y1 y2 y3) (spec_LayMemory.l0 (k + 1) y0 y1 y2 y3))
  | 0 => fun _ _ _ _ r h => by simp [spec_LayMemory.l0] at h
  | k + 1 => by
    have ih0 := spec_LayMemory.mono_l k
    · intro y0 y1 y2 y3
      unfold spec_LayMemory.l0
      repeat' first
      | (with_reducible exact ih0 _ _ _ _)
      | (with_reducible exact spec_PlaceFault.mono _ _ _ _)
      | (with_reducible exact LeO.refl _)
      | (with_reducible exact LeO.none _)
      | (with_reducible refine LeO.ite ?_ ?_)
      | (with_reducible refine LeO.bind ?_ (fun _ => ?_))
      | exact ih0 _ _ _ _
      | exact spec_PlaceFault.mono _ _ _ _
      | exact LeO.none _
      | refine LeO.ite ?_ ?_
      | refine LeO.bind ?_ (fun _ => ?_)
theorem spec_LayMemory.mono : ∀ a0 a1 a2 k, LeO (spec_LayMemory.f k a0 a1 a2) (spec_LayMemory.f (k + 1) a0 a1 a2) := by
  intro a0 a1 a2 k
  have ih0 := spec_LayMemory.mono_l k
  unfold spec_LayMemory.f
  repeat' first
      | (with_reducible exact ih0 _ _ _ _)
      | (with_reducible exact spec_PlaceFault.mono _ _ _ _)
      | (with_reducible exact LeO.refl _)
      | (with_reducible exact LeO.none _)
      | (with_reducible refine LeO.ite ?_ ?_)
      | (with_reducible refine LeO.bind ?_ (fun _ => ?_))
      | exact ih0 _ _ _ _
      | exact spec_PlaceFault.mono _ _ _ _
      | exact LeO.none _
      | refine LeO.ite ?_ ?_
      | refine LeO.bind ?_ (fun _ => ?_)
set_option maxHeartbeats 8000000 in
set_option maxRecDepth 100000 in
theorem spec_LayMemory.calls (k : Nat) (a0 : ByteArray) (A1 : Option Addr) (c1 : Nat) (l1 : List Int) (a2 : ByteArray) (r : ByteArray) (w : World) (hr1 : Kd.C (Kd.int .i64) w A1 l1.length l1) (hc1 : l1.length ≤ c1) (h : spec_LayMemory.f k a0 l1 a2 = some r) :
    Calls Try.prog 19 #[.string a0, .slice A1 l1.length c1, .string a2] w fun e w' => e = .returned (.string r) ∧ Drawn0 w w' := by
  have HR1 := Aside0.mk hr1
  have HC1 := Aside0.mk hc1
  clear hr1 hc1
  have H : ((spec_PlaceFault.f k a0 l1 a2).bind fun t117 => (if t117 = 0 then (spec_LayMemory.l0 k a0 l1 a2 0) else (some (⟨#[]⟩ : ByteArray)))) = some r := h
  clear h
  replace H := Option.bind_eq_some_iff.mp H
  obtain ⟨t117, A40, H⟩ := H
  replace H : (if t117 = 0 then (spec_LayMemory.l0 k a0 l1 a2 0) else (some (⟨#[]⟩ : ByteArray))) = some r := H
  have A4 := Aside0.mk A40
  clear A40
  by_cases c5 : t117 = 0
  · rw [if_pos c5] at H
    have c5b0 : (t117 == 0) = true := beq_iff_eq.mpr c5
    have c5b1 : (t117 != 0) = false := bne_eq_false_iff_eq.mpr c5
    clear c5
    have H' := Aside0.mk H
    clear H
    go_enter Try.func19, Try.ntmps19
    go_wp2_with (first | (go_at_call 67; (with_reducible refine (spec_PlaceFault.calls k a0 _ _ l1 a2 t117 _ ?side1 ?side2 A4.out).mono ?_); (case side1 => repeat (first | exact HR1.out | (with_reducible refine Kd.C_alloc ?_ _) | (with_reducible refine Kd.C_drewN ?_ _) | (with_reducible refine Kd.C_drew ?_))); (case side2 => exact HC1.out); rintro e w' ⟨rfl, ⟨nd, rfl⟩⟩; (try first | exact ⟨rfl, _, World.drewN_drewN _ _ _⟩ | exact ⟨rfl, _, Eq.trans (World.drewN_drewN _ _ _) (congrArg (World.drewN _) (Nat.add_assoc _ _ _))⟩)))
    repeat (go_quiet (first | (go_at_call 67; (with_reducible refine (spec_PlaceFault.calls k a0 _ _ l1 a2 t117 _ ?side1 ?side2 A4.out).mono ?_); (case side1 => repeat (first | exact HR1.out | (with_reducible refine Kd.C_alloc ?_ _) | (with_reducible refine Kd.C_drewN ?_ _) | (with_reducible refine Kd.C_drew ?_))); (case side2 => exact HC1.out); rintro e w' ⟨rfl, ⟨nd, rfl⟩⟩; (try first | exact ⟨rfl, _, World.drewN_drewN _ _ _⟩ | exact ⟨rfl, _, Eq.trans (World.drewN_drewN _ _ _) (congrArg (World.drewN _) (Nat.add_assoc _ _ _))⟩))); try go_wp2_with (first | (go_at_call 67; (with_reducible refine (spec_PlaceFault.calls k a0 _ _ l1 a2 t117 _ ?side1 ?side2 A4.out).mono ?_); (case side1 => repeat (first | exact HR1.out | (with_reducible refine Kd.C_alloc ?_ _) | (with_reducible refine Kd.C_drewN ?_ _) | (with_reducible refine Kd.C_drew ?_))); (case side2 => exact HC1.out); rintro e w' ⟨rfl, ⟨nd, rfl⟩⟩; (try first | exact ⟨rfl, _, World.drewN_drewN _ _ _⟩ | exact ⟨rfl, _, Eq.trans (World.drewN_drewN _ _ _) (congrArg (World.drewN _) (Nat.add_assoc _ _ _))⟩))))
    go_loopg [2, 7] k (fun kq v2 v7 w' => ∃ (x2_1 : ByteArray) (x7_1 : Int), v2 = .string x2_1 ∧ v7 = .int .i64 x7_1 ∧ Aside0 (spec_LayMemory.l0 kq a0 l1 x2_1 x7_1 = some r) ∧ Aside0 (kq ≤ k) ∧ Drawn0 w w')
    case atStart => exact ⟨(a2), (0), (by first | rfl | (simp; done) | (simp [*]; done)), (by first | rfl | (simp; done) | (simp [*]; done)), H', ⟨Nat.le_refl _⟩, by repeat (first | exact Drawn0.refl _ | apply Drawn0.step)⟩
    case round =>
      clear H'
      try clear c1
      try clear p2
      try clear c5
      try clear c5b0
      try clear c5b1
      obtain ⟨x2_1, x7_1, rfl, rfl, HA, HK1, ⟨m1, rfl⟩⟩ := hrel
      cases gk with
      | zero => exact absurd HA.out (by simp [spec_LayMemory.l0])
      | succ k1 =>
        have H := HA.out
        clear HA
        simp only [spec_LayMemory.l0] at H
        by_cases c6 : x7_1 < (l1.length : Int)
        · rw [if_pos c6] at H
          have c6b0 : decide (x7_1 < (l1.length : Int)) = true := decide_eq_true c6
          clear c6
          by_cases c7 : 0 ≤ x7_1
          · rw [if_pos c7] at H
            have c7b0 : decide (0 ≤ x7_1) = true := decide_eq_true c7
            clear c7
            replace H := Option.bind_eq_some_iff.mp H
            obtain ⟨t119, A80, H⟩ := H
            replace H : ((spec_l06SetFrame.f x2_1 (rd l1 x7_1) t119).bind fun t120 => (spec_LayMemory.l0 k1 a0 l1 t120 (wrap64 (x7_1 + 1)))) = some r := H
            have A8 := Aside0.mk A80
            clear A80
            replace H := Option.bind_eq_some_iff.mp H
            obtain ⟨t120, A90, H⟩ := H
            replace H : (spec_LayMemory.l0 k1 a0 l1 t120 (wrap64 (x7_1 + 1))) = some r := H
            have A9 := Aside0.mk A90
            clear A90
            have H' := Aside0.mk H
            clear H
            have p118 : 0 ≤ (x7_1 : Int) := of_decide_eq_true (by first | (with_reducible assumption) | assumption)
            have q118 : x7_1 < (l1.length : Int) := of_decide_eq_true (by first | (with_reducible assumption) | assumption)
            obtain ⟨ad118, e118, hx118_0⟩ := Kd.at_int HR1.out x7_1 p118 q118
            cases e118
            replace p118 := eq_true p118
            replace q118 := eq_true q118
            go_wp2_with (first | (go_at_call 65; (with_reducible refine (spec_l06Frame.calls a0 x7_1 t119 _ A8.out).mono ?_); rintro e w' ⟨rfl, ⟨nd, rfl⟩⟩; (try first | exact ⟨rfl, _, World.drewN_drewN _ _ _⟩ | exact ⟨rfl, _, Eq.trans (World.drewN_drewN _ _ _) (congrArg (World.drewN _) (Nat.add_assoc _ _ _))⟩)) | (go_at_call 68; (with_reducible refine (spec_l06SetFrame.calls x2_1 (rd l1 x7_1) t119 t120 _ A9.out).mono ?_); rintro e w' ⟨rfl, ⟨nd, rfl⟩⟩; (try first | exact ⟨rfl, _, World.drewN_drewN _ _ _⟩ | exact ⟨rfl, _, Eq.trans (World.drewN_drewN _ _ _) (congrArg (World.drewN _) (Nat.add_assoc _ _ _))⟩)))
            repeat (go_quiet (first | (go_at_call 65; (with_reducible refine (spec_l06Frame.calls a0 x7_1 t119 _ A8.out).mono ?_); rintro e w' ⟨rfl, ⟨nd, rfl⟩⟩; (try first | exact ⟨rfl, _, World.drewN_drewN _ _ _⟩ | exact ⟨rfl, _, Eq.trans (World.drewN_drewN _ _ _) (congrArg (World.drewN _) (Nat.add_assoc _ _ _))⟩)) | (go_at_call 68; (with_reducible refine (spec_l06SetFrame.calls x2_1 (rd l1 x7_1) t119 t120 _ A9.out).mono ?_); rintro e w' ⟨rfl, ⟨nd, rfl⟩⟩; (try first | exact ⟨rfl, _, World.drewN_drewN _ _ _⟩ | exact ⟨rfl, _, Eq.trans (World.drewN_drewN _ _ _) (congrArg (World.drewN _) (Nat.add_assoc _ _ _))⟩))); try go_wp2_with (first | (go_at_call 65; (with_reducible refine (spec_l06Frame.calls a0 x7_1 t119 _ A8.out).mono ?_); rintro e w' ⟨rfl, ⟨nd, rfl⟩⟩; (try first | exact ⟨rfl, _, World.drewN_drewN _ _ _⟩ | exact ⟨rfl, _, Eq.trans (World.drewN_drewN _ _ _) (congrArg (World.drewN _) (Nat.add_assoc _ _ _))⟩)) | (go_at_call 68; (with_reducible refine (spec_l06SetFrame.calls x2_1 (rd l1 x7_1) t119 t120 _ A9.out).mono ?_); rintro e w' ⟨rfl, ⟨nd, rfl⟩⟩; (try first | exact ⟨rfl, _, World.drewN_drewN _ _ _⟩ | exact ⟨rfl, _, Eq.trans (World.drewN_drewN _ _ _) (congrArg (World.drewN _) (Nat.add_assoc _ _ _))⟩))))
            go_roundg k1
            case measure => have := HK1.out; omega
            case rel => exact ⟨(t120), (wrap64 (x7_1 + 1)), (by first | rfl | (simp; done) | (simp [*]; done)), (by first | rfl | (simp; done) | (simp [*]; done)), H', ⟨by have := HK1.out; omega⟩, by repeat (first | exact Drawn0.refl _ | apply Drawn0.step)⟩
          · rw [if_neg c7] at H
            exact absurd H (by simp)
        · rw [if_neg c6] at H
          have c6b0 : decide (x7_1 < (l1.length : Int)) = false := decide_eq_false c6
          clear c6
          obtain rfl := Option.some.inj H
          go_wp2
          repeat (go_quiet (fail); try go_wp2)
          go_ret
          exact ⟨by first | rfl | (simp; done) | (simp [*]; done), by repeat (first | exact Drawn0.refl _ | apply Drawn0.step)⟩
  · rw [if_neg c5] at H
    have c5b0 : (t117 == 0) = false := beq_eq_false_iff_ne.mpr c5
    have c5b1 : (t117 != 0) = true := bne_iff_ne.mpr c5
    obtain rfl := Option.some.inj H
    go_enter Try.func19, Try.ntmps19
    go_wp2_with (first | (go_at_call 67; (with_reducible refine (spec_PlaceFault.calls k a0 _ _ l1 a2 t117 _ ?side1 ?side2 A4.out).mono ?_); (case side1 => repeat (first | exact HR1.out | (with_reducible refine Kd.C_alloc ?_ _) | (with_reducible refine Kd.C_drewN ?_ _) | (with_reducible refine Kd.C_drew ?_))); (case side2 => exact HC1.out); rintro e w' ⟨rfl, ⟨nd, rfl⟩⟩; (try first | exact ⟨rfl, _, World.drewN_drewN _ _ _⟩ | exact ⟨rfl, _, Eq.trans (World.drewN_drewN _ _ _) (congrArg (World.drewN _) (Nat.add_assoc _ _ _))⟩)))
    repeat (go_quiet (first | (go_at_call 67; (with_reducible refine (spec_PlaceFault.calls k a0 _ _ l1 a2 t117 _ ?side1 ?side2 A4.out).mono ?_); (case side1 => repeat (first | exact HR1.out | (with_reducible refine Kd.C_alloc ?_ _) | (with_reducible refine Kd.C_drewN ?_ _) | (with_reducible refine Kd.C_drew ?_))); (case side2 => exact HC1.out); rintro e w' ⟨rfl, ⟨nd, rfl⟩⟩; (try first | exact ⟨rfl, _, World.drewN_drewN _ _ _⟩ | exact ⟨rfl, _, Eq.trans (World.drewN_drewN _ _ _) (congrArg (World.drewN _) (Nat.add_assoc _ _ _))⟩))); try go_wp2_with (first | (go_at_call 67; (with_reducible refine (spec_PlaceFault.calls k a0 _ _ l1 a2 t117 _ ?side1 ?side2 A4.out).mono ?_); (case side1 => repeat (first | exact HR1.out | (with_reducible refine Kd.C_alloc ?_ _) | (with_reducible refine Kd.C_drewN ?_ _) | (with_reducible refine Kd.C_drew ?_))); (case side2 => exact HC1.out); rintro e w' ⟨rfl, ⟨nd, rfl⟩⟩; (try first | exact ⟨rfl, _, World.drewN_drewN _ _ _⟩ | exact ⟨rfl, _, Eq.trans (World.drewN_drewN _ _ _) (congrArg (World.drewN _) (Nat.add_assoc _ _ _))⟩))))
    go_ret
    exact ⟨by first | rfl | (simp; done) | (simp [*]; done), by repeat (first | exact Drawn0.refl _ | apply Drawn0.step)⟩

/-! ### impl_yin: function 74 -/
def impl_yin.f (a0 : Int) (a1 : Int) (a2 : Int) : Option (Bool) := if a0 ≥ a1 then (some (decide (a0 ≤ a2))) else (some false)
set_option maxHeartbeats 8000000 in
set_option maxRecDepth 100000 in
theorem impl_yin.calls (a0 : Int) (a1 : Int) (a2 : Int) (r : Bool) (w : World) (h : impl_yin.f a0 a1 a2 = some r) :
    Calls Try.prog 74 #[.int .i64 a0, .int .i64 a1, .int .i64 a2] w fun e w' => e = .returned (.bool r) ∧ Drawn0 w w' := by
  have H : (if a0 ≥ a1 then (some (decide (a0 ≤ a2))) else (some false)) = some r := h
  clear h
  by_cases c4 : a0 ≥ a1
  · rw [if_pos c4] at H
    have c4b0 : decide (a1 ≤ a0) = true := decide_eq_true c4
    clear c4
    obtain rfl := Option.some.inj H
    go_enter Try.func74, Try.ntmps74
    go_wp2
    go_ret
    exact ⟨by first | rfl | (simp; done) | (simp [*]; done), by repeat (first | exact Drawn0.refl _ | apply Drawn0.step)⟩
  · rw [if_neg c4] at H
    have c4b0 : decide (a1 ≤ a0) = false := decide_eq_false c4
    clear c4
    obtain rfl := Option.some.inj H
    go_enter Try.func74, Try.ntmps74
    go_wp2
    go_ret
    exact ⟨by first | rfl | (simp; done) | (simp [*]; done), by repeat (first | exact Drawn0.refl _ | apply Drawn0.step)⟩

/-! ### impl_ymemOk: function 90 -/
def impl_ymemOk.f (a0 : ByteArray) : Option (Bool) := if (a0.size : Int) ≥ 256 then (if (a0.size : Int) ≤ 65536 then (some (((a0.size : Int) % 256) == 0)) else (some false)) else (some false)
set_option maxHeartbeats 8000000 in
set_option maxRecDepth 100000 in
theorem impl_ymemOk.calls (a0 : ByteArray) (r : Bool) (w : World) (h : impl_ymemOk.f a0 = some r) :
    Calls Try.prog 90 #[.string a0] w fun e w' => e = .returned (.bool r) ∧ Drawn0 w w' := by
  have H : (if (a0.size : Int) ≥ 256 then (if (a0.size : Int) ≤ 65536 then (some (((a0.size : Int) % 256) == 0)) else (some false)) else (some false)) = some r := h
  clear h
  by_cases c2 : (a0.size : Int) ≥ 256
  · rw [if_pos c2] at H
    have c2b0 : decide (256 ≤ (a0.size : Int)) = true := decide_eq_true c2
    have c2b1 : decide (256 ≤ a0.size) = true := decide_eq_true (by omega)
    clear c2
    by_cases c3 : (a0.size : Int) ≤ 65536
    · rw [if_pos c3] at H
      have c3b0 : decide ((a0.size : Int) ≤ 65536) = true := decide_eq_true c3
      have c3b1 : decide (a0.size ≤ 65536) = true := decide_eq_true (by omega)
      clear c3
      obtain rfl := Option.some.inj H
      go_enter Try.func90, Try.ntmps90
      go_wp2
      go_ret
      exact ⟨by first | rfl | (simp; done) | (simp [*]; done), by repeat (first | exact Drawn0.refl _ | apply Drawn0.step)⟩
    · rw [if_neg c3] at H
      have c3b0 : decide ((a0.size : Int) ≤ 65536) = false := decide_eq_false c3
      have c3b1 : decide (a0.size ≤ 65536) = false := decide_eq_false (by omega)
      clear c3
      obtain rfl := Option.some.inj H
      go_enter Try.func90, Try.ntmps90
      go_wp2
      go_ret
      exact ⟨by first | rfl | (simp; done) | (simp [*]; done), by repeat (first | exact Drawn0.refl _ | apply Drawn0.step)⟩
  · rw [if_neg c2] at H
    have c2b0 : decide (256 ≤ (a0.size : Int)) = false := decide_eq_false c2
    have c2b1 : decide (256 ≤ a0.size) = false := decide_eq_false (by omega)
    clear c2
    obtain rfl := Option.some.inj H
    go_enter Try.func90, Try.ntmps90
    go_wp2
    go_ret
    exact ⟨by first | rfl | (simp; done) | (simp [*]; done), by repeat (first | exact Drawn0.refl _ | apply Drawn0.step)⟩

/-! ### impl_yplaceOk: function 66 -/
def placeGood (n : Int) (l : List Int) (k : Nat) : Bool := decide (0 ≤ rd l k) && (decide (rd l k ≤ n - 1) && !decide (rd l k ∈ l.take k))
def impl_yplaceOk.f (l0 : List Int) (a1 : ByteArray) : Option (Bool) :=
  (impl_ymemOk.f a1).bind fun t => if t = true then (if (l0.length : Int) < 1 then some false else if (l0.length : Int) > 256 then some false else some ((List.range l0.length).all (placeGood ((a1.size : Int) / 256) l0))) else some false
theorem placeAll_false (n : Int) (l : List Int) (j : Nat) (hj : j < l.length) (h : placeGood n l j = false) : (List.range l.length).all (placeGood n l) = false :=
  List.all_eq_false.mpr ⟨j, List.mem_range.mpr hj, by rw [h]; simp⟩
theorem placeAll_true (n : Int) (l : List Int) (h : ∀ j, j < l.length → placeGood n l j = true) : (List.range l.length).all (placeGood n l) = true :=
  List.all_eq_true.mpr (fun j hj => h j (List.mem_range.mp hj))
theorem placeZeros : Try.zeroCells161 = Array.replicate 256 (.bool false) := by kernel_rfl
set_option maxHeartbeats 4000000 in
set_option maxRecDepth 100000 in
theorem impl_yplaceOk.calls (A0 : Option Addr) (c0 : Nat) (l0 : List Int) (a1 : ByteArray) (r : Bool) (w : World) (hr0 : Kd.C (Kd.int .i64) w A0 l0.length l0) (hc0 : l0.length ≤ c0) (h : impl_yplaceOk.f l0 a1 = some r) :
    Calls Try.prog 66 #[.slice A0 l0.length c0, .string a1] w fun e w' => e = .returned (.bool r) ∧ Below w.heap.size w w' := by
  unfold impl_yplaceOk.f at h
  have HR := Aside0.mk hr0
  clear hr0
  cases ht : impl_ymemOk.f a1 with
  | none => rw [ht] at h; exact absurd h (by simp)
  | some t =>
    rw [ht] at h
    simp only [Option.bind_some] at h
    have hmem := fun W => impl_ymemOk.calls a1 t W ht
    have HT := Aside0.mk ht
    clear ht
    cases t with
    | false =>
      obtain rfl : false = r := by simpa using h
      clear h
      go_enter Try.func66, Try.ntmps66
      go_wp2_with (go_at_call 90; refine (hmem _).mono ?_; rintro e w' ⟨rfl, ⟨m1, rfl⟩⟩)
      go_ret
      exact ⟨rfl, pw_below_drewN (Below.refl _ _) _⟩
    | true =>
      rw [if_pos rfl] at h
      by_cases c1 : (l0.length : Int) < 1
      · rw [if_pos c1] at h
        obtain rfl := Option.some.inj h
        have c1b : decide ((l0.length : Int) < 1) = true := decide_eq_true c1
        have c1c : decide (l0.length < 1) = true := decide_eq_true (by omega)
        clear h
        go_enter Try.func66, Try.ntmps66
        go_wp2_with (go_at_call 90; refine (hmem _).mono ?_; rintro e w' ⟨rfl, ⟨m1, rfl⟩⟩)
        go_ret
        exact ⟨rfl, pw_below_drewN (Below.refl _ _) _⟩
      · rw [if_neg c1] at h
        have c1b : decide ((l0.length : Int) < 1) = false := decide_eq_false c1
        have c1c : decide (l0.length < 1) = false := decide_eq_false (by omega)
        by_cases c2 : (l0.length : Int) > 256
        · rw [if_pos c2] at h
          obtain rfl := Option.some.inj h
          have c2b : decide (256 < (l0.length : Int)) = true := decide_eq_true c2
          have c2c : decide (256 < l0.length) = true := decide_eq_true (by omega)
          clear h
          go_enter Try.func66, Try.ntmps66
          go_wp2_with (go_at_call 90; refine (hmem _).mono ?_; rintro e w' ⟨rfl, ⟨m1, rfl⟩⟩)
          go_ret
          exact ⟨rfl, pw_below_drewN (Below.refl _ _) _⟩
        · rw [if_neg c2] at h
          have c2b : decide (256 < (l0.length : Int)) = false := decide_eq_false c2
          have c2c : decide (256 < l0.length) = false := decide_eq_false (by omega)
          obtain rfl := Option.some.inj h
          clear h
          have hsz : a1.size ≤ 65536 := by
            have := HT.out
            unfold impl_ymemOk.f at this
            split at this
            · split at this
              · omega
              · exact absurd this (by simp)
            · exact absurd this (by simp)
          go_enter Try.func66, Try.ntmps66
          go_wp2_with (go_at_call 90; refine (hmem _).mono ?_; rintro e w' ⟨rfl, ⟨m1, rfl⟩⟩)
          go_loopg [23] l0.length (fun gq v23 wr => ∃ j : Nat, v23 = .int .i64 j ∧ Aside0 (j ≤ l0.length) ∧ Aside0 (l0.length - j ≤ gq) ∧ Aside0 (∃ cs, wr.heap[w.heap.size]? = some (.cells cs 161 (0, 0)) ∧ cs.size = 256 ∧ ∀ i : Nat, i < 256 → cs[i]? = some (.bool (decide ((i : Int) ∈ l0.take j)))) ∧ Aside0 (Below w.heap.size w wr) ∧ Aside0 (∀ i, i < j → placeGood ((a1.size : Int) / 256) l0 i = true))
          case atStart =>
            refine ⟨0, rfl, ⟨Nat.zero_le _⟩, ⟨by omega⟩, ⟨_, blk_new _ _, by rw [placeZeros]; rfl, fun i hi => ?_⟩, ⟨below_alloc (pw_below_drewN (Below.refl _ _) _) _⟩, ⟨fun i hi => absurd hi (Nat.not_lt_zero _)⟩⟩
            rw [placeZeros, Array.getElem?_replicate, if_pos hi]; simp
          case round =>
            obtain ⟨j, rfl, hj, hg, HC, HB, HG⟩ := hrel
            by_cases hlt : j < l0.length
            · have hltz : (j : Int) < (l0.length : Int) := by omega
              obtain ⟨ad, e_, hx⟩ := Kd.at_int HR.out (j : Int) (by omega) hltz
              cases e_
              replace hx := pw_cell_below HB.out hx
              rw [Int.toNat_natCast] at hx
              obtain ⟨x, hxx⟩ : ∃ x, rd l0 j = x := ⟨_, rfl⟩
              have HX := Aside0.mk hxx
              rw [hxx] at hx
              clear hxx
              obtain ⟨n, hnn⟩ : ∃ n : Int, (a1.size : Int) / 256 = n := ⟨_, rfl⟩
              have HN := Aside0.mk hnn
              have hn1 : n ≤ 256 := by omega
              have hn0 : 0 ≤ n := by omega
              by_cases c5 : x ≥ 0
              · have hy : impl_yin.f x 0 (n - 1) = some (decide (x ≤ n - 1)) := by unfold impl_yin.f; rw [if_pos c5]
                by_cases c6 : x ≤ n - 1
                · rw [decide_eq_true c6] at hy
                  have hyc := fun W => impl_yin.calls x 0 (n - 1) true W hy
                  obtain ⟨X, rfl⟩ := Int.eq_ofNat_of_zero_le c5
                  have hX : X < 256 := by omega
                  obtain ⟨cs, hcs, hsz2, hcell⟩ := HC.out
                  have hm : wr.cell? ⟨w.heap.size, X, none⟩ = some (.bool (decide ((X : Int) ∈ l0.take j))) := (blk_cell hcs X).trans (hcell X hX)
                  have hf : wr.frozen? ⟨w.heap.size, X, none⟩ = false := blk_frozen hcs X
                  have hXi : ((X : Int) < 256) := by omega
                  cases hb : decide ((X : Int) ∈ l0.take j) with
                  | true =>
                    rw [hb] at hm
                    have HBB := Aside0.mk hb
                    clear hb hy hcs hsz2 hcell c6 c5
                    go_wp2_with (go_at_call 74; refine (hyc _).mono ?_; rintro e w' ⟨rfl, ⟨m1, rfl⟩⟩)
                    go_ret
                    refine ⟨?_, pw_below_drewN HB.out _⟩
                    rw [placeAll_false _ _ _ hlt (by unfold placeGood; rw [HX.out, HBB.out]; simp)]
                    rfl
                  | false =>
                    rw [hb] at hm
                    have HBB := Aside0.mk hb
                    have HCS := Aside0.mk hcs
                    have HCE := Aside0.mk hcell
                    have HSZ := Aside0.mk hsz2
                    have HC6 := Aside0.mk c6
                    clear hb hy hcs hsz2 hcell c6 c5
                    go_wp2_with (go_at_call 74; refine (hyc _).mono ?_; rintro e w' ⟨rfl, ⟨m1, rfl⟩⟩)
                    go_roundg (l0.length - (j + 1))
                    case measure => have := hg.out; omega
                    case rel =>
                      have htk : l0.take (j + 1) = l0.take j ++ [(X : Int)] := by
                        rw [List.take_add_one, List.getElem?_eq_getElem hlt]
                        have := HX.out
                        unfold rd at this
                        rw [Int.toNat_natCast, List.getD_eq_getElem?_getD, List.getElem?_eq_getElem hlt] at this
                        simp only [Option.getD_some] at this
                        rw [this]; rfl
                      refine ⟨j + 1, by go_num, ⟨hlt⟩, ⟨by omega⟩, ⟨_, blk_set (blk_drewN HCS.out _) X _, by simp [HSZ.out], fun i hi => ?_⟩, ⟨below_set (pw_below_drewN HB.out _) (Nat.le_refl _)⟩, ⟨fun i hi => ?_⟩⟩
                      · rw [htk]
                        by_cases e : X = i
                        · subst e
                          rw [Array.getElem?_setIfInBounds_self_of_lt (by rw [HSZ.out]; exact hi)]
                          simp
                        · rw [Array.getElem?_setIfInBounds_ne e, HCE.out i hi]
                          have : ¬ ((i : Int) = (X : Int)) := by omega
                          simp [this]
                      · by_cases e : i = j
                        · subst e
                          unfold placeGood
                          rw [HX.out, HBB.out, HN.out, decide_eq_true HC6.out]
                          simp
                        · exact HG.out i (by omega)
                · rw [decide_eq_false c6] at hy
                  have hyc := fun W => impl_yin.calls x 0 (n - 1) false W hy
                  have HC6 := Aside0.mk c6
                  clear hy c6 c5
                  go_wp2_with (go_at_call 74; refine (hyc _).mono ?_; rintro e w' ⟨rfl, ⟨m1, rfl⟩⟩)
                  go_ret
                  refine ⟨?_, pw_below_drewN HB.out _⟩
                  rw [placeAll_false _ _ _ hlt (by unfold placeGood; rw [HX.out, HN.out, decide_eq_false (show ¬ x ≤ n - 1 from fun h => by have := HC6.out; omega)]; simp)]
                  rfl
              · have hy : impl_yin.f x 0 (n - 1) = some false := by unfold impl_yin.f; rw [if_neg c5]
                have hyc := fun W => impl_yin.calls x 0 (n - 1) false W hy
                have HC5 := Aside0.mk c5
                clear hy c5
                go_wp2_with (go_at_call 74; refine (hyc _).mono ?_; rintro e w' ⟨rfl, ⟨m1, rfl⟩⟩)
                go_ret
                refine ⟨?_, pw_below_drewN HB.out _⟩
                rw [placeAll_false _ _ _ hlt (by unfold placeGood; rw [HX.out, decide_eq_false (show ¬ (0:Int) ≤ x from fun h => by have := HC5.out; omega)]; rfl)]
                rfl
            · have hltz : ¬ (j : Int) < (l0.length : Int) := by omega
              have hjn : j = l0.length := by have := hj.out; omega
              have HJ := Aside0.mk hjn
              clear hjn
              go_wp2
              go_ret
              refine ⟨?_, HB.out⟩
              rw [placeAll_true _ _ (fun i hi => HG.out i (by rw [HJ.out]; exact hi))]
              rfl

/-! ### impl_PlaceFault: function 69 -/
def impl_PlaceFault.f (a0 : ByteArray) (l1 : List Int) (a2 : ByteArray) : Option (Int) := (impl_ymemOk.f a0).bind fun t121 => (if t121 = true then ((impl_yplaceOk.f l1 a2).bind fun t122 => (if t122 = true then (if (l1.length : Int) = (wrap64 ((a0.size : Int) / 256)) then (some 0) else (some 1)) else (some 1))) else (some 1))
set_option maxHeartbeats 8000000 in
set_option maxRecDepth 100000 in
theorem impl_PlaceFault.calls (a0 : ByteArray) (A1 : Option Addr) (c1 : Nat) (l1 : List Int) (a2 : ByteArray) (r : Int) (w : World) (hr1 : Kd.C (Kd.int .i64) w A1 l1.length l1) (hc1 : l1.length ≤ c1) (h : impl_PlaceFault.f a0 l1 a2 = some r) :
    Calls Try.prog 69 #[.string a0, .slice A1 l1.length c1, .string a2] w fun e w' => e = .returned (.int .i64 r) ∧ Below w.heap.size w w' := by
  have HR1 := Aside0.mk hr1
  have HC1 := Aside0.mk hc1
  clear hr1 hc1
  have HB := Aside0.mk (Below.refl w.heap.size w)
  have H : ((impl_ymemOk.f a0).bind fun t121 => (if t121 = true then ((impl_yplaceOk.f l1 a2).bind fun t122 => (if t122 = true then (if (l1.length : Int) = (wrap64 ((a0.size : Int) / 256)) then (some 0) else (some 1)) else (some 1))) else (some 1))) = some r := h
  clear h
  replace H := Option.bind_eq_some_iff.mp H
  obtain ⟨t121, A40, H⟩ := H
  replace H : (if t121 = true then ((impl_yplaceOk.f l1 a2).bind fun t122 => (if t122 = true then (if (l1.length : Int) = (wrap64 ((a0.size : Int) / 256)) then (some 0) else (some 1)) else (some 1))) else (some 1)) = some r := H
  have A4 := Aside0.mk A40
  clear A40
  by_cases c5 : t121 = true
  · subst c5
    have H1 : ((impl_yplaceOk.f l1 a2).bind fun t122 => (if t122 = true then (if (l1.length : Int) = (wrap64 ((a0.size : Int) / 256)) then (some 0) else (some 1)) else (some 1))) = some r := by rw [if_pos rfl] at H; exact H
    clear H
    have H := H1
    clear H1
    replace H := Option.bind_eq_some_iff.mp H
    obtain ⟨t122, A60, H⟩ := H
    replace H : (if t122 = true then (if (l1.length : Int) = (wrap64 ((a0.size : Int) / 256)) then (some 0) else (some 1)) else (some 1)) = some r := H
    have A6 := Aside0.mk A60
    clear A60
    by_cases c7 : t122 = true
    · subst c7
      have H1 : (if (l1.length : Int) = (wrap64 ((a0.size : Int) / 256)) then (some 0) else (some 1)) = some r := by rw [if_pos rfl] at H; exact H
      clear H
      have H := H1
      clear H1
      by_cases c8 : (l1.length : Int) = (wrap64 ((a0.size : Int) / 256))
      · rw [if_pos c8] at H
        have c8b0 : ((l1.length : Int) == (wrap64 ((a0.size : Int) / 256))) = true := beq_iff_eq.mpr c8
        have c8b1 : ((l1.length : Int) != (wrap64 ((a0.size : Int) / 256))) = false := bne_eq_false_iff_eq.mpr c8
        clear c8
        obtain rfl := Option.some.inj H
        go_enter Try.func69, Try.ntmps69
        go_wp2_with (first | ((with_reducible refine gate_callee (f := 90) rfl ?_); refine goesL_ (some 8) rfl rfl Try.func90 (by kernel_rfl) rfl #[.string a0] rfl (by (try simp only [List.map_toArray, List.map_cons, List.map_nil]); first | done | rfl | (simp only [List.length_drop, List.length_take]; rfl)) ?_; (with_reducible refine (impl_ymemOk.calls a0 true _ A4.out).mono ?_); rintro e w' ⟨rfl, ⟨nd, rfl⟩⟩; refine ⟨_, rfl, ?_⟩) | (go_at_call 66; (with_reducible refine (impl_yplaceOk.calls _ _ l1 a2 true _ ?side1 ?side2 A6.out).mono ?_); (case side1 => repeat (first | exact HR1.out | (with_reducible refine Kd.C_alloc ?_ _) | (with_reducible refine Kd.C_drewN ?_ _) | (with_reducible refine Kd.C_drew ?_))); (case side2 => exact HC1.out); rintro e w9 ⟨rfl, hb⟩; have n0_ := Aside0.mk (below_step (by repeat (first | (with_reducible first | exact HB.out | apply below_alloc | apply pw_below_drewN | apply below_drew1) | exact HB.out)) hb); clear HB; have HB := n0_; clear n0_; (try clear hb); (try clear hb2); (try clear hk); (try clear hi)))
        go_ret
        exact ⟨by first | rfl | (simp [errW_none, errW_some] <;> rfl) | (simp [*, errW_none, errW_some] <;> rfl), by repeat (first | (with_reducible first | exact HB.out | apply below_alloc | apply pw_below_drewN | apply below_drew1) | exact HB.out)⟩
      · rw [if_neg c8] at H
        have c8b0 : ((l1.length : Int) == (wrap64 ((a0.size : Int) / 256))) = false := beq_eq_false_iff_ne.mpr c8
        have c8b1 : ((l1.length : Int) != (wrap64 ((a0.size : Int) / 256))) = true := bne_iff_ne.mpr c8
        obtain rfl := Option.some.inj H
        go_enter Try.func69, Try.ntmps69
        go_wp2_with (first | ((with_reducible refine gate_callee (f := 90) rfl ?_); refine goesL_ (some 8) rfl rfl Try.func90 (by kernel_rfl) rfl #[.string a0] rfl (by (try simp only [List.map_toArray, List.map_cons, List.map_nil]); first | done | rfl | (simp only [List.length_drop, List.length_take]; rfl)) ?_; (with_reducible refine (impl_ymemOk.calls a0 true _ A4.out).mono ?_); rintro e w' ⟨rfl, ⟨nd, rfl⟩⟩; refine ⟨_, rfl, ?_⟩) | (go_at_call 66; (with_reducible refine (impl_yplaceOk.calls _ _ l1 a2 true _ ?side1 ?side2 A6.out).mono ?_); (case side1 => repeat (first | exact HR1.out | (with_reducible refine Kd.C_alloc ?_ _) | (with_reducible refine Kd.C_drewN ?_ _) | (with_reducible refine Kd.C_drew ?_))); (case side2 => exact HC1.out); rintro e w10 ⟨rfl, hb⟩; have n0_ := Aside0.mk (below_step (by repeat (first | (with_reducible first | exact HB.out | apply below_alloc | apply pw_below_drewN | apply below_drew1) | exact HB.out)) hb); clear HB; have HB := n0_; clear n0_; (try clear hb); (try clear hb2); (try clear hk); (try clear hi)))
        go_ret
        exact ⟨by first | rfl | (simp [errW_none, errW_some] <;> rfl) | (simp [*, errW_none, errW_some] <;> rfl), by repeat (first | (with_reducible first | exact HB.out | apply below_alloc | apply pw_below_drewN | apply below_drew1) | exact HB.out)⟩
    · replace c7 := Bool.eq_false_iff.mpr c7
      subst c7
      have H1 : (some 1) = some r := by rw [if_neg (show ¬ (false = true) by decide)] at H; exact H
      clear H
      have H := H1
      clear H1
      obtain rfl := Option.some.inj H
      go_enter Try.func69, Try.ntmps69
      go_wp2_with (first | ((with_reducible refine gate_callee (f := 90) rfl ?_); refine goesL_ (some 8) rfl rfl Try.func90 (by kernel_rfl) rfl #[.string a0] rfl (by (try simp only [List.map_toArray, List.map_cons, List.map_nil]); first | done | rfl | (simp only [List.length_drop, List.length_take]; rfl)) ?_; (with_reducible refine (impl_ymemOk.calls a0 true _ A4.out).mono ?_); rintro e w' ⟨rfl, ⟨nd, rfl⟩⟩; refine ⟨_, rfl, ?_⟩) | (go_at_call 66; (with_reducible refine (impl_yplaceOk.calls _ _ l1 a2 false _ ?side1 ?side2 A6.out).mono ?_); (case side1 => repeat (first | exact HR1.out | (with_reducible refine Kd.C_alloc ?_ _) | (with_reducible refine Kd.C_drewN ?_ _) | (with_reducible refine Kd.C_drew ?_))); (case side2 => exact HC1.out); rintro e w11 ⟨rfl, hb⟩; have n0_ := Aside0.mk (below_step (by repeat (first | (with_reducible first | exact HB.out | apply below_alloc | apply pw_below_drewN | apply below_drew1) | exact HB.out)) hb); clear HB; have HB := n0_; clear n0_; (try clear hb); (try clear hb2); (try clear hk); (try clear hi)))
      go_ret
      exact ⟨by first | rfl | (simp [errW_none, errW_some] <;> rfl) | (simp [*, errW_none, errW_some] <;> rfl), by repeat (first | (with_reducible first | exact HB.out | apply below_alloc | apply pw_below_drewN | apply below_drew1) | exact HB.out)⟩
  · replace c5 := Bool.eq_false_iff.mpr c5
    subst c5
    have H1 : (some 1) = some r := by rw [if_neg (show ¬ (false = true) by decide)] at H; exact H
    clear H
    have H := H1
    clear H1
    obtain rfl := Option.some.inj H
    go_enter Try.func69, Try.ntmps69
    go_wp2_with (first | ((with_reducible refine gate_callee (f := 90) rfl ?_); refine goesL_ (some 8) rfl rfl Try.func90 (by kernel_rfl) rfl #[.string a0] rfl (by (try simp only [List.map_toArray, List.map_cons, List.map_nil]); first | done | rfl | (simp only [List.length_drop, List.length_take]; rfl)) ?_; (with_reducible refine (impl_ymemOk.calls a0 false _ A4.out).mono ?_); rintro e w' ⟨rfl, ⟨nd, rfl⟩⟩; refine ⟨_, rfl, ?_⟩))
    go_ret
    exact ⟨by first | rfl | (simp [errW_none, errW_some] <;> rfl) | (simp [*, errW_none, errW_some] <;> rfl), by repeat (first | (with_reducible first | exact HB.out | apply below_alloc | apply pw_below_drewN | apply below_drew1) | exact HB.out)⟩

/-! ### impl_ylay: function 70 -/
def layL (mem : List UInt8) : List Int → Nat → List UInt8 → List UInt8
  | [], _, h => h
  | f :: fs, n, h => layL mem fs (n + 1) (Go.Proofs.Ytjpgelnhmcblmaa.By.putAt h (f.toNat * 256) ((mem.drop (n * 256)).take 256))
theorem layL_snoc (mem : List UInt8) (fs : List Int) (f : Int) (n : Nat) (h : List UInt8) : layL mem (fs ++ [f]) n h = Go.Proofs.Ytjpgelnhmcblmaa.By.putAt (layL mem fs n h) (f.toNat * 256) ((mem.drop ((n + fs.length) * 256)).take 256) := by
  induction fs generalizing n h with
  | nil => simp [layL]
  | cons g gs ih => simp only [List.cons_append, layL, ih, List.length_cons]; rw [show n + 1 + gs.length = n + (gs.length + 1) from by omega]
def layOk (m : Int) (x : Int) : Bool := decide (0 ≤ x) && decide ((x + 1) * 256 ≤ m)
def impl_ylay.f (a0 : ByteArray) (l1 : List Int) (a2 : ByteArray) : Option (ByteArray) :=
  if (a0.size : Int) ≤ 65536 ∧ (a2.size : Int) ≤ 65536 ∧ (l1.length : Int) * 256 ≤ (a0.size : Int) ∧ l1.all (layOk (a2.size : Int)) = true then some ⟨(layL a0.data.toList l1 0 a2.data.toList).toArray⟩ else none
theorem layL_length (mem : List UInt8) (m : Int) (fs : List Int) (n : Nat) (h : List UInt8) (hm : (h.length : Int) = m) (hf : fs.all (layOk m) = true) : ((layL mem fs n h).length : Int) = m := by
  induction fs generalizing n h with
  | nil => exact hm
  | cons f fs ih =>
    rw [List.all_cons, Bool.and_eq_true] at hf
    have hk := hf.1
    unfold layOk at hk
    rw [Bool.and_eq_true] at hk
    have k0 := of_decide_eq_true hk.1; have k1 := of_decide_eq_true hk.2
    refine ih _ _ ?_ hf.2
    rw [Go.Proofs.Ytjpgelnhmcblmaa.By.putAt_length _ _ _ (by rw [List.length_take]; omega)]
    exact hm
set_option maxHeartbeats 4000000 in
set_option maxRecDepth 100000 in
theorem impl_ylay.calls (a0 : ByteArray) (A1 : Option Addr) (c1 : Nat) (l1 : List Int) (a2 : ByteArray) (r : ByteArray) (w : World) (hr1 : Kd.C (Kd.int .i64) w A1 l1.length l1) (hc1 : l1.length ≤ c1) (h : impl_ylay.f a0 l1 a2 = some r) :
    Calls Try.prog 70 #[.string a0, .slice A1 l1.length c1, .string a2] w fun e w' => e = .returned (.string r) ∧ Below w.heap.size w w' := by
  unfold impl_ylay.f at h
  by_cases hc : (a0.size : Int) ≤ 65536 ∧ (a2.size : Int) ≤ 65536 ∧ (l1.length : Int) * 256 ≤ (a0.size : Int) ∧ l1.all (layOk (a2.size : Int)) = true
  · rw [if_pos hc] at h
    obtain rfl := Option.some.inj h
    obtain ⟨q0, q2, q1, qa⟩ := hc
    have HR := Aside0.mk hr1
    have HC := Aside0.mk hc1
    have H0 := Aside0.mk q0
    have H1 := Aside0.mk q1
    have H2 := Aside0.mk q2
    have HA := Aside0.mk qa
    clear hr1 hc1 h q0 q1 q2 qa
    have kb := fun W => print_bytes (P := Try.prog) 9 76 5 Try.underlying9 Try.underlying76 Try.underlying5 a2 W
    go_enter Try.func70, Try.ntmps70
    go_wp2
    have hsz : a2.size ≤ 9223372036854775807 := by have := H2.out; omega
    have R0 := Go.Proofs.Ytjpgelnhmcblmaa.By.BRow.conv w 5 a2 hsz
    have B0 : Below w.heap.size w (Lib.bytesWorld w 5 a2) := bytes_below (Below.refl _ _) (Nat.le_refl _) _ _
    have L0 : a2.data.toList.length = a2.size := by rw [Array.length_toList]; rfl
    generalize Lib.bytesWorld w 5 a2 = W1 at R0 B0
    generalize grownCap w a2.size 0 5 = cap at R0
    have RA := Aside0.mk R0
    have BA := Aside0.mk B0
    have LA := Aside0.mk L0
    clear R0 B0 hsz L0
    go_loopg [8, 9, 14] l1.length (fun gg _ _ s14 wr => ∃ kk : Nat, s14 = .int .i64 kk ∧ Aside0 (kk ≤ l1.length) ∧ Aside0 (l1.length - kk ≤ gg) ∧ Aside0 (Below w.heap.size w wr) ∧ Aside0 (Go.Proofs.Ytjpgelnhmcblmaa.By.BRow wr w.heap.size cap (layL a0.data.toList (l1.take kk) 0 a2.data.toList)))
    case atStart => exact ⟨0, rfl, ⟨Nat.zero_le _⟩, ⟨by omega⟩, BA, RA⟩
    case round =>
      obtain ⟨kk, rfl, hkk, hg, BW, RW⟩ := hrel
      by_cases hlt : kk < l1.length
      · have hltz : (kk : Int) < (l1.length : Int) := by omega
        obtain ⟨ad, e_, hx⟩ := Kd.at_int HR.out (kk : Int) (by omega) (by omega)
        cases e_
        replace hx := pw_cell_below BW.out hx
        rw [Int.toNat_natCast] at hx
        have hxe : rd l1 (kk : Int) = l1[kk] := by unfold rd; rw [Int.toNat_natCast, List.getD_eq_getElem?_getD, List.getElem?_eq_getElem hlt, Option.getD_some]
        have hok : layOk (a2.size : Int) l1[kk] = true := List.all_eq_true.mp HA.out _ (List.getElem_mem hlt)
        have hsnoc := layL_snoc a0.data.toList (l1.take kk) l1[kk] 0 a2.data.toList
        rw [← List.take_succ_eq_append_getElem hlt, List.length_take, Nat.min_eq_left (by omega), Nat.zero_add] at hsnoc
        rw [hxe] at hx
        clear hxe
        generalize l1[kk] = f at hx hok hsnoc
        unfold layOk at hok
        rw [Bool.and_eq_true] at hok
        have f0 := of_decide_eq_true hok.1
        have f1 := of_decide_eq_true hok.2
        clear hok
        obtain ⟨p, rfl⟩ : ∃ p : Nat, f = (p : Int) := ⟨f.toNat, by omega⟩
        have hcapP := H2.out
        have hmemP := H0.out
        have hcnt := H1.out
        have hlenk : (layL a0.data.toList (l1.take kk) 0 a2.data.toList).length = a2.size := by
          have := layL_length a0.data.toList (a2.size : Int) (l1.take kk) 0 a2.data.toList (by rw [LA.out]) (List.all_eq_true.mpr fun x hx => List.all_eq_true.mp HA.out x (List.mem_of_mem_take hx))
          omega
        have hcap : a2.size ≤ cap := by rw [← hlenk]; exact RW.out.1
        obtain ⟨o, ho⟩ : ∃ o : Nat, p * 256 = o := ⟨_, rfl⟩
        obtain ⟨z, hz⟩ : ∃ z : Nat, o + 256 = z := ⟨_, rfl⟩
        obtain ⟨m, hm⟩ : ∃ m : Nat, kk * 256 = m := ⟨_, rfl⟩
        have e1 : IntKind.i64.wrap ((p : Int) * 256) = (o : Int) := by rw [show (p : Int) * 256 = (o : Int) from by omega]; rw [Go.Proofs.Ytjpgelnhmcblmaa.Pl.i64w, Go.Proofs.Ytjpgelnhmcblmaa.Pl.w64 (by omega) (by omega)]
        have e2 : IntKind.i64.wrap (IntKind.i64.wrap ((p : Int) + 1) * 256) = (z : Int) := by
          rw [Go.Proofs.Ytjpgelnhmcblmaa.Pl.i64w (a := (p : Int) + 1), Go.Proofs.Ytjpgelnhmcblmaa.Pl.w64 (a := (p : Int) + 1) (by omega) (by omega), show ((p : Int) + 1) * 256 = (z : Int) from by omega]; rw [Go.Proofs.Ytjpgelnhmcblmaa.Pl.i64w, Go.Proofs.Ytjpgelnhmcblmaa.Pl.w64 (by omega) (by omega)]
        have e3 : IntKind.i64.wrap ((kk : Int) * 256) = (m : Int) := by rw [show (kk : Int) * 256 = (m : Int) from by omega]; rw [Go.Proofs.Ytjpgelnhmcblmaa.Pl.i64w, Go.Proofs.Ytjpgelnhmcblmaa.Pl.w64 (by omega) (by omega)]
        have g1 : z ≤ cap := by omega
        have g2 : o ≤ z := by omega
        have g3 : ¬ cap = o := by omega
        have g4 : z - o = 256 := by omega
        have g5 : m ≤ a0.size := by omega
        have HG := Aside0.mk (show o + 256 = z ∧ z ≤ cap ∧ o + 256 ≤ a2.size from by omega)
        have hz5 := Go.Proofs.Ytjpgelnhmcblmaa.By.size_one (P := Try.prog) (e := 5) (z := .int .u8 0) (bytes := 1) (by kernel_rfl)
        have hroom : ∀ j, j < 256 → (wr.cell? ⟨w.heap.size, o + j, none⟩).isSome = true := fun j hj => RW.out.room (o + j) (by omega)
        have hfroz : ∀ j, j < 256 → wr.frozen? ⟨w.heap.size, o + j, none⟩ = false := fun j hj => RW.out.frozen (o + j) (by omega)
        have HZ := Aside0.mk hz5
        have HRo := Aside0.mk hroom
        have HFr := Aside0.mk hfroz
        clear hz5 hroom hfroz hcap hlenk hmemP hcnt f0 f1 hcapP
        have HO := Aside0.mk ho
        have HM := Aside0.mk hm
        have HS := Aside0.mk hsnoc
        clear ho hz hm hsnoc
        go_wp2
        go_region_law (refine Go.Proofs.Ytjpgelnhmcblmaa.By.step_copy_str rfl (.tmp 25) (.tmp 29) 76 9 rfl 5 Try.underlying76 HZ.out w.heap.size o 256 (cap - o) (by simp [Act.eval, Act.put]) (a0.extract m a0.size) (by simp [Act.eval, Act.put]) HRo.out HFr.out ?_)
        all_goals
          have hl9 : List.take 256 (List.take (a0.size - m) (List.drop m a0.data.toList)) = List.take 256 (List.drop m a0.data.toList) := by
            rw [List.take_of_length_le (l := List.drop m a0.data.toList)]
            rw [List.length_drop, Array.length_toList]; exact Nat.le_refl _
          obtain ⟨y1, y2, y3⟩ := HG.out
          have hlk : (layL a0.data.toList (l1.take kk) 0 a2.data.toList).length = a2.size := by
            have := layL_length a0.data.toList (a2.size : Int) (l1.take kk) 0 a2.data.toList (by rw [LA.out]) (List.all_eq_true.mpr fun x hx => List.all_eq_true.mp HA.out x (List.mem_of_mem_take hx))
            omega
          have hdr : Go.Proofs.Ytjpgelnhmcblmaa.By.BRow wr.drew w.heap.size cap (layL a0.data.toList (l1.take kk) 0 a2.data.toList) := RW.out
          have hle9 : (List.take 256 (List.drop m a0.data.toList)).length ≤ 256 := by rw [List.length_take]; omega
          have hR2 := Go.Proofs.Ytjpgelnhmcblmaa.By.BRow.sets (List.take 256 (List.drop m a0.data.toList)) o hdr (by omega) (by omega)
          have hB2 : Below w.heap.size w (wr.drew.setCells w.heap.size o (Go.Proofs.Ytjpgelnhmcblmaa.By.cellsOf (List.take 256 (List.drop m a0.data.toList)))) := below_setCells (Nat.le_refl _) _ _ _ BW.out.drew
          have hs9 := HS.out
          rw [Int.toNat_natCast, HO.out, HM.out] at hs9
          rw [← hs9] at hR2
          rw [hl9]
          generalize wr.drew.setCells w.heap.size o (Go.Proofs.Ytjpgelnhmcblmaa.By.cellsOf (List.take 256 (List.drop m a0.data.toList))) = W2 at hR2 hB2
          have HR2 := Aside0.mk hR2
          have HB2 := Aside0.mk hB2
          clear hl9 hlk hdr hle9 hR2 hB2 hs9 y1 y2 y3
          go_wp2
          go_roundg (l1.length - (kk + 1))
          case measure => have := hg.out; omega
          have hb9 : l1.length ≤ 9223372036854775807 := HR.out.2.1
          have e9 : wrap64 ((kk : Int) + 1) = ((kk + 1 : Nat) : Int) := by rw [Go.Proofs.Ytjpgelnhmcblmaa.Pl.w64 (by omega) (by omega)]; omega
          case rel => exact ⟨kk + 1, by first | (rw [e9]; done) | (rw [Go.Proofs.Ytjpgelnhmcblmaa.Pl.i64w, e9]; done) | (simp only [e9]; done) | (trace_state; simp [e9]), ⟨hlt⟩, ⟨by omega⟩, HB2, HR2⟩
      · have hltz : ¬ (kk : Int) < (l1.length : Int) := by omega
        have hkn : kk = l1.length := by have := hkk.out; omega
        subst hkn
        have RF := RW.out
        rw [List.take_length] at RF
        have hlen := layL_length a0.data.toList (a2.size : Int) l1 0 a2.data.toList (by rw [LA.out]) HA.out
        have kc := fun c => Go.Proofs.Ytjpgelnhmcblmaa.By.BRow.back (P := Try.prog) RF 76 9 5 Try.underlying76 Try.underlying5 Try.underlying9 c a2.size (by omega)
        clear RF hlen
        go_wp2
        go_ret
        exact ⟨rfl, BW.out⟩
  · rw [if_neg hc] at h; exact absurd h (by simp)

/-! ### impl_LayMemory: function 20 -/
def impl_LayMemory.f (a0 : ByteArray) (l1 : List Int) (a2 : ByteArray) : Option (ByteArray) := (impl_PlaceFault.f a0 l1 a2).bind fun t123 => (if t123 = 0 then ((impl_ylay.f a0 l1 a2).bind fun t124 => (some t124)) else (some (⟨#[]⟩ : ByteArray)))
set_option maxHeartbeats 8000000 in
set_option maxRecDepth 100000 in
theorem impl_LayMemory.calls (a0 : ByteArray) (A1 : Option Addr) (c1 : Nat) (l1 : List Int) (a2 : ByteArray) (r : ByteArray) (w : World) (hr1 : Kd.C (Kd.int .i64) w A1 l1.length l1) (hc1 : l1.length ≤ c1) (h : impl_LayMemory.f a0 l1 a2 = some r) :
    Calls Try.prog 20 #[.string a0, .slice A1 l1.length c1, .string a2] w fun e w' => e = .returned (.string r) ∧ Below w.heap.size w w' := by
  have HR1 := Aside0.mk hr1
  have HC1 := Aside0.mk hc1
  clear hr1 hc1
  have HB := Aside0.mk (Below.refl w.heap.size w)
  have H : ((impl_PlaceFault.f a0 l1 a2).bind fun t123 => (if t123 = 0 then ((impl_ylay.f a0 l1 a2).bind fun t124 => (some t124)) else (some (⟨#[]⟩ : ByteArray)))) = some r := h
  clear h
  replace H := Option.bind_eq_some_iff.mp H
  obtain ⟨t123, A40, H⟩ := H
  replace H : (if t123 = 0 then ((impl_ylay.f a0 l1 a2).bind fun t124 => (some t124)) else (some (⟨#[]⟩ : ByteArray))) = some r := H
  have A4 := Aside0.mk A40
  clear A40
  by_cases c5 : t123 = 0
  · rw [if_pos c5] at H
    have c5b0 : (t123 == 0) = true := beq_iff_eq.mpr c5
    have c5b1 : (t123 != 0) = false := bne_eq_false_iff_eq.mpr c5
    clear c5
    replace H := Option.bind_eq_some_iff.mp H
    obtain ⟨t124, A60, H⟩ := H
    replace H : (some t124) = some r := H
    have A6 := Aside0.mk A60
    clear A60
    obtain rfl := Option.some.inj H
    go_enter Try.func20, Try.ntmps20
    go_wp2_with (first | ((with_reducible refine gate_callee (f := 69) rfl ?_); refine goesL_ (some 10) rfl rfl Try.func69 (by kernel_rfl) rfl #[.string a0, .slice A1 l1.length c1, .string a2] rfl (by (try simp only [List.map_toArray, List.map_cons, List.map_nil]); first | done | rfl | (simp only [List.length_drop, List.length_take]; rfl)) ?_; (with_reducible refine (impl_PlaceFault.calls a0 _ _ l1 a2 t123 _ ?side1 ?side2 A4.out).mono ?_); (case side1 => repeat (first | exact HR1.out | (with_reducible refine Kd.C_alloc ?_ _) | (with_reducible refine Kd.C_drewN ?_ _) | (with_reducible refine Kd.C_drew ?_))); (case side2 => exact HC1.out); rintro e w7 ⟨rfl, hb⟩; refine ⟨_, rfl, ?_⟩; have n0_ := Aside0.mk (below_step (by repeat (first | (with_reducible first | exact HB.out | apply below_alloc | apply pw_below_drewN | apply below_drew1) | exact HB.out)) hb); clear HB; have HB := n0_; clear n0_; (try clear hb); (try clear hb2); (try clear hk); (try clear hi)) | ((with_reducible refine gate_callee (f := 70) rfl ?_); refine goesL_ (some 15) rfl rfl Try.func70 (by kernel_rfl) rfl #[.string a0, .slice A1 l1.length c1, .string a2] rfl (by (try simp only [List.map_toArray, List.map_cons, List.map_nil]); first | done | rfl | (simp only [List.length_drop, List.length_take]; rfl)) ?_; (with_reducible refine (impl_ylay.calls a0 _ _ l1 a2 t124 _ ?side1 ?side2 A6.out).mono ?_); (case side1 => repeat (first | exact (Kd.C_below HR1.out HB.out) | (with_reducible refine Kd.C_alloc ?_ _) | (with_reducible refine Kd.C_drewN ?_ _) | (with_reducible refine Kd.C_drew ?_))); (case side2 => exact HC1.out); rintro e w8 ⟨rfl, hb⟩; refine ⟨_, rfl, ?_⟩; have n0_ := Aside0.mk (below_step (by repeat (first | (with_reducible first | exact HB.out | apply below_alloc | apply pw_below_drewN | apply below_drew1) | exact HB.out)) hb); clear HB; have HB := n0_; clear n0_; (try clear hb); (try clear hb2); (try clear hk); (try clear hi)))
    go_ret
    exact ⟨by first | rfl | (simp [errW_none, errW_some] <;> rfl) | (simp [*, errW_none, errW_some] <;> rfl), by repeat (first | (with_reducible first | exact HB.out | apply below_alloc | apply pw_below_drewN | apply below_drew1) | exact HB.out)⟩
  · rw [if_neg c5] at H
    have c5b0 : (t123 == 0) = false := beq_eq_false_iff_ne.mpr c5
    have c5b1 : (t123 != 0) = true := bne_iff_ne.mpr c5
    obtain rfl := Option.some.inj H
    go_enter Try.func20, Try.ntmps20
    go_wp2_with (first | ((with_reducible refine gate_callee (f := 69) rfl ?_); refine goesL_ (some 10) rfl rfl Try.func69 (by kernel_rfl) rfl #[.string a0, .slice A1 l1.length c1, .string a2] rfl (by (try simp only [List.map_toArray, List.map_cons, List.map_nil]); first | done | rfl | (simp only [List.length_drop, List.length_take]; rfl)) ?_; (with_reducible refine (impl_PlaceFault.calls a0 _ _ l1 a2 t123 _ ?side1 ?side2 A4.out).mono ?_); (case side1 => repeat (first | exact HR1.out | (with_reducible refine Kd.C_alloc ?_ _) | (with_reducible refine Kd.C_drewN ?_ _) | (with_reducible refine Kd.C_drew ?_))); (case side2 => exact HC1.out); rintro e w9 ⟨rfl, hb⟩; refine ⟨_, rfl, ?_⟩; have n0_ := Aside0.mk (below_step (by repeat (first | (with_reducible first | exact HB.out | apply below_alloc | apply pw_below_drewN | apply below_drew1) | exact HB.out)) hb); clear HB; have HB := n0_; clear n0_; (try clear hb); (try clear hb2); (try clear hk); (try clear hi)))
    go_ret
    exact ⟨by first | rfl | (simp [errW_none, errW_some] <;> rfl) | (simp [*, errW_none, errW_some] <;> rfl), by repeat (first | (with_reducible first | exact HB.out | apply below_alloc | apply pw_below_drewN | apply below_drew1) | exact HB.out)⟩

/-! ### laws_FnExactLayMemory: function 4 -/
def laws_FnExactLayMemory.f (k : Nat) (a0 : ByteArray) (l1 : List Int) (a2 : ByteArray) : Option (Bool) := if (a0.size : Int) > 1048576 then (some true) else (if (l1.length : Int) > 1048576 then (some true) else (if (a2.size : Int) > 1048576 then (some true) else ((laws_toInt64S.f k l1).bind fun t125 => ((spec_LayMemory.f k a0 t125 a2).bind fun t128 => ((laws_toInt64S.f k l1).bind fun t129 => ((impl_LayMemory.f a0 t129 a2).bind fun t132 => (if t132.toList = t128.toList then ((laws_toInt64S.f k l1).bind fun t133 => ((laws_eqInt64S.f k t129 t133).bind fun t136 => (if t136 = true then (some true) else (some false)))) else (some false))))))))
theorem laws_FnExactLayMemory.mono : ∀ a0 a1 a2 k, LeO (laws_FnExactLayMemory.f k a0 a1 a2) (laws_FnExactLayMemory.f (k + 1) a0 a1 a2) := by
  intro a0 a1 a2 k
  unfold laws_FnExactLayMemory.f
  repeat' first
      | (with_reducible exact laws_eqInt64S.mono _ _ _)
      | (with_reducible exact laws_toInt64S.mono _ _)
      | (with_reducible exact spec_LayMemory.mono _ _ _ _)
      | (with_reducible exact LeO.refl _)
      | (with_reducible exact LeO.none _)
      | (with_reducible refine LeO.ite ?_ ?_)
      | (with_reducible refine LeO.bind ?_ (fun _ => ?_))
      | exact laws_eqInt64S.mono _ _ _
      | exact laws_toInt64S.mono _ _
      | exact spec_LayMemory.mono _ _ _ _
      | exact LeO.none _
      | refine LeO.ite ?_ ?_
      | refine LeO.bind ?_ (fun _ => ?_)
set_option maxHeartbeats 8000000 in
set_option maxRecDepth 100000 in
theorem laws_FnExactLayMemory.calls (k : Nat) (a0 : ByteArray) (A1 : Option Addr) (c1 : Nat) (l1 : List Int) (a2 : ByteArray) (r : Bool) (w : World) (hr1 : Kd.C (Kd.int .i64) w A1 l1.length l1) (hc1 : l1.length ≤ c1) (h : laws_FnExactLayMemory.f k a0 l1 a2 = some r) :
    Calls Try.prog 4 #[.string a0, .slice A1 l1.length c1, .string a2] w fun e w' => e = .returned (.bool r) ∧ Below w.heap.size w w' := by
  have HR1 := Aside0.mk hr1
  have HC1 := Aside0.mk hc1
  clear hr1 hc1
  have HB := Aside0.mk (Below.refl w.heap.size w)
  have H : (if (a0.size : Int) > 1048576 then (some true) else (if (l1.length : Int) > 1048576 then (some true) else (if (a2.size : Int) > 1048576 then (some true) else ((laws_toInt64S.f k l1).bind fun t125 => ((spec_LayMemory.f k a0 t125 a2).bind fun t128 => ((laws_toInt64S.f k l1).bind fun t129 => ((impl_LayMemory.f a0 t129 a2).bind fun t132 => (if t132.toList = t128.toList then ((laws_toInt64S.f k l1).bind fun t133 => ((laws_eqInt64S.f k t129 t133).bind fun t136 => (if t136 = true then (some true) else (some false)))) else (some false))))))))) = some r := h
  clear h
  by_cases c4 : (a0.size : Int) > 1048576
  · rw [if_pos c4] at H
    have c4b0 : decide (1048576 < (a0.size : Int)) = true := decide_eq_true c4
    have c4b1 : decide (1048576 < a0.size) = true := decide_eq_true (by omega)
    clear c4
    obtain rfl := Option.some.inj H
    go_enter Try.func4, Try.ntmps4
    go_wp2
    go_ret
    exact ⟨by first | rfl | (simp [errW_none, errW_some] <;> rfl) | (simp [*, errW_none, errW_some] <;> rfl), by repeat (first | (with_reducible first | exact HB.out | apply below_alloc | apply pw_below_drewN | apply below_drew1) | exact HB.out)⟩
  · rw [if_neg c4] at H
    have c4b0 : decide (1048576 < (a0.size : Int)) = false := decide_eq_false c4
    have c4b1 : decide (1048576 < a0.size) = false := decide_eq_false (by omega)
    clear c4
    by_cases c5 : (l1.length : Int) > 1048576
    · rw [if_pos c5] at H
      have c5b0 : decide (1048576 < (l1.length : Int)) = true := decide_eq_true c5
      have c5b1 : decide (1048576 < l1.length) = true := decide_eq_true (by omega)
      clear c5
      obtain rfl := Option.some.inj H
      go_enter Try.func4, Try.ntmps4
      go_wp2
      go_ret
      exact ⟨by first | rfl | (simp [errW_none, errW_some] <;> rfl) | (simp [*, errW_none, errW_some] <;> rfl), by repeat (first | (with_reducible first | exact HB.out | apply below_alloc | apply pw_below_drewN | apply below_drew1) | exact HB.out)⟩
    · rw [if_neg c5] at H
      have c5b0 : decide (1048576 < (l1.length : Int)) = false := decide_eq_false c5
      have c5b1 : decide (1048576 < l1.length) = false := decide_eq_false (by omega)
      clear c5
      by_cases c6 : (a2.size : Int) > 1048576
      · rw [if_pos c6] at H
        have c6b0 : decide (1048576 < (a2.size : Int)) = true := decide_eq_true c6
        have c6b1 : decide (1048576 < a2.size) = true := decide_eq_true (by omega)
        clear c6
        obtain rfl := Option.some.inj H
        go_enter Try.func4, Try.ntmps4
        go_wp2
        go_ret
        exact ⟨by first | rfl | (simp [errW_none, errW_some] <;> rfl) | (simp [*, errW_none, errW_some] <;> rfl), by repeat (first | (with_reducible first | exact HB.out | apply below_alloc | apply pw_below_drewN | apply below_drew1) | exact HB.out)⟩
      · rw [if_neg c6] at H
        have c6b0 : decide (1048576 < (a2.size : Int)) = false := decide_eq_false c6
        have c6b1 : decide (1048576 < a2.size) = false := decide_eq_false (by omega)
        clear c6
        replace H := Option.bind_eq_some_iff.mp H
        obtain ⟨t125, A70, H⟩ := H
        replace H : ((spec_LayMemory.f k a0 t125 a2).bind fun t128 => ((laws_toInt64S.f k l1).bind fun t129 => ((impl_LayMemory.f a0 t129 a2).bind fun t132 => (if t132.toList = t128.toList then ((laws_toInt64S.f k l1).bind fun t133 => ((laws_eqInt64S.f k t129 t133).bind fun t136 => (if t136 = true then (some true) else (some false)))) else (some false))))) = some r := H
        have A7 := Aside0.mk A70
        clear A70
        replace H := Option.bind_eq_some_iff.mp H
        obtain ⟨t128, A80, H⟩ := H
        replace H : ((laws_toInt64S.f k l1).bind fun t129 => ((impl_LayMemory.f a0 t129 a2).bind fun t132 => (if t132.toList = t128.toList then ((laws_toInt64S.f k l1).bind fun t133 => ((laws_eqInt64S.f k t129 t133).bind fun t136 => (if t136 = true then (some true) else (some false)))) else (some false)))) = some r := H
        have A8 := Aside0.mk A80
        clear A80
        replace H := Option.bind_eq_some_iff.mp H
        obtain ⟨t129, A90, H⟩ := H
        replace H : ((impl_LayMemory.f a0 t129 a2).bind fun t132 => (if t132.toList = t128.toList then ((laws_toInt64S.f k l1).bind fun t133 => ((laws_eqInt64S.f k t129 t133).bind fun t136 => (if t136 = true then (some true) else (some false)))) else (some false))) = some r := H
        have A9 := Aside0.mk A90
        clear A90
        replace H := Option.bind_eq_some_iff.mp H
        obtain ⟨t132, A100, H⟩ := H
        replace H : (if t132.toList = t128.toList then ((laws_toInt64S.f k l1).bind fun t133 => ((laws_eqInt64S.f k t129 t133).bind fun t136 => (if t136 = true then (some true) else (some false)))) else (some false)) = some r := H
        have A10 := Aside0.mk A100
        clear A100
        by_cases c11 : t132.toList = t128.toList
        · rw [if_pos c11] at H
          have c11b0 : (t132.toList == t128.toList) = true := beq_iff_eq.mpr c11
          have c11b1 : (t132.toList != t128.toList) = false := bne_eq_false_iff_eq.mpr c11
          clear c11
          replace H := Option.bind_eq_some_iff.mp H
          obtain ⟨t133, A120, H⟩ := H
          replace H : ((laws_eqInt64S.f k t129 t133).bind fun t136 => (if t136 = true then (some true) else (some false))) = some r := H
          have A12 := Aside0.mk A120
          clear A120
          replace H := Option.bind_eq_some_iff.mp H
          obtain ⟨t136, A130, H⟩ := H
          replace H : (if t136 = true then (some true) else (some false)) = some r := H
          have A13 := Aside0.mk A130
          clear A130
          by_cases c14 : t136 = true
          · subst c14
            have H1 : (some true) = some r := by rw [if_pos rfl] at H; exact H
            clear H
            have H := H1
            clear H1
            obtain rfl := Option.some.inj H
            go_enter Try.func4, Try.ntmps4
            go_wp2_with (first | ((with_reducible refine gate_callee (f := 16) rfl ?_); refine goesL_ (some 21) rfl rfl Try.func16 (by kernel_rfl) rfl #[.slice A1 l1.length c1] rfl (by (try simp only [List.map_toArray, List.map_cons, List.map_nil]); first | done | rfl | (simp only [List.length_drop, List.length_take]; rfl)) ?_; (with_reducible refine (laws_toInt64S.calls k _ _ l1 t125 _ ?side1 ?side2 A7.out).mono ?_); (case side1 => repeat (first | exact HR1.out | (with_reducible refine Kd.C_alloc ?_ _) | (with_reducible refine Kd.C_drewN ?_ _) | (with_reducible refine Kd.C_drew ?_))); (case side2 => exact HC1.out); rintro e w15 ⟨v126, rfl, ho0, hb⟩; refine ⟨_, rfl, ?_⟩; have n0_ := Aside0.mk (Kd.R_lower ho0 (below_size (by repeat (first | (with_reducible first | exact HB.out | apply below_alloc | apply pw_below_drewN | apply below_drew1) | exact HB.out)))); have n1_ := Aside0.mk (below_step (by repeat (first | (with_reducible first | exact HB.out | apply below_alloc | apply pw_below_drewN | apply below_drew1) | exact HB.out)) hb); clear HB; have HO127 := n0_; have HB := n1_; clear n0_ n1_; (try clear hb); (try clear hb2); (try clear hk); (try clear hi); (try clear ho0); obtain ⟨Ao16, co16, eo16⟩ := Kd.R_slice HO127.out; subst eo16) | ((with_reducible refine gate_callee (f := 19) rfl ?_); refine goesL_ (some 23) rfl rfl Try.func19 (by kernel_rfl) rfl #[.string a0, .slice Ao16 t125.length co16, .string a2] rfl (by (try simp only [List.map_toArray, List.map_cons, List.map_nil]); first | done | rfl | (simp only [List.length_drop, List.length_take]; rfl)) ?_; (with_reducible refine (spec_LayMemory.calls k a0 _ _ t125 a2 t128 _ ?side1 ?side2 A8.out).mono ?_); (case side1 => repeat (first | exact (Kd.R_reads' HO127.out).2.2 | (with_reducible refine Kd.C_alloc ?_ _) | (with_reducible refine Kd.C_drewN ?_ _) | (with_reducible refine Kd.C_drew ?_))); (case side2 => exact (Kd.R_reads' HO127.out).2.1); rintro e w' ⟨rfl, ⟨nd, rfl⟩⟩; refine ⟨_, rfl, ?_⟩) | ((with_reducible refine gate_callee (f := 16) rfl ?_); refine goesL_ (some 25) rfl rfl Try.func16 (by kernel_rfl) rfl #[.slice A1 l1.length c1] rfl (by (try simp only [List.map_toArray, List.map_cons, List.map_nil]); first | done | rfl | (simp only [List.length_drop, List.length_take]; rfl)) ?_; (with_reducible refine (laws_toInt64S.calls k _ _ l1 t129 _ ?side1 ?side2 A9.out).mono ?_); (case side1 => repeat (first | exact (Kd.C_below HR1.out (by repeat (first | (with_reducible first | exact HB.out | apply below_alloc | apply pw_below_drewN | apply below_drew1) | exact HB.out))) | (with_reducible refine Kd.C_alloc ?_ _) | (with_reducible refine Kd.C_drewN ?_ _) | (with_reducible refine Kd.C_drew ?_))); (case side2 => exact HC1.out); rintro e w17 ⟨v130, rfl, ho0, hb⟩; refine ⟨_, rfl, ?_⟩; have n0_ := Aside0.mk (Kd.R_elder' (by (with_reducible repeat (first | apply Kd.R_alloc | apply Kd.R_drewN | apply Kd.R_drew)); exact HO127.out) (Kd.R_base ho0) hb); have n1_ := Aside0.mk (Kd.R_lower (Kd.R_new' ho0 (Kd.R_lt (by (with_reducible repeat (first | apply Kd.R_alloc | apply Kd.R_drewN | apply Kd.R_drew)); exact HO127.out))) (below_size (by repeat (first | (with_reducible first | exact HB.out | apply below_alloc | apply pw_below_drewN | apply below_drew1) | exact HB.out)))); have n2_ := Aside0.mk (below_step (by repeat (first | (with_reducible first | exact HB.out | apply below_alloc | apply pw_below_drewN | apply below_drew1) | exact HB.out)) hb); clear HO127; clear HB; have HO127 := n0_; have HO131 := n1_; have HB := n2_; clear n0_ n1_ n2_; (try clear hb); (try clear hb2); (try clear hk); (try clear hi); (try clear ho0); obtain ⟨Ao18, co18, eo18⟩ := Kd.R_slice HO131.out; subst eo18) | ((with_reducible refine gate_callee (f := 20) rfl ?_); refine goesL_ (some 29) rfl rfl Try.func20 (by kernel_rfl) rfl #[.string a0, .slice Ao18 t129.length co18, .string a2] rfl (by (try simp only [List.map_toArray, List.map_cons, List.map_nil]); first | done | rfl | (simp only [List.length_drop, List.length_take]; rfl)) ?_; (with_reducible refine (impl_LayMemory.calls a0 _ _ t129 a2 t132 _ ?side1 ?side2 A10.out).mono ?_); (case side1 => repeat (first | exact (Kd.R_reads' HO131.out).2.2 | (with_reducible refine Kd.C_alloc ?_ _) | (with_reducible refine Kd.C_drewN ?_ _) | (with_reducible refine Kd.C_drew ?_))); (case side2 => exact (Kd.R_reads' HO131.out).2.1); rintro e w19 ⟨rfl, hb⟩; refine ⟨_, rfl, ?_⟩; have n0_ := Aside0.mk (Kd.R_below (by (with_reducible repeat (first | apply Kd.R_alloc | apply Kd.R_drewN | apply Kd.R_drew)); exact HO127.out) hb); have n1_ := Aside0.mk (Kd.R_below (by (with_reducible repeat (first | apply Kd.R_alloc | apply Kd.R_drewN | apply Kd.R_drew)); exact HO131.out) hb); have n2_ := Aside0.mk (below_step (by repeat (first | (with_reducible first | exact HB.out | apply below_alloc | apply pw_below_drewN | apply below_drew1) | exact HB.out)) hb); clear HO127; clear HO131; clear HB; have HO127 := n0_; have HO131 := n1_; have HB := n2_; clear n0_ n1_ n2_; (try clear hb); (try clear hb2); (try clear hk); (try clear hi)) | ((with_reducible refine gate_callee (f := 16) rfl ?_); refine goesL_ (some 35) rfl rfl Try.func16 (by kernel_rfl) rfl #[.slice A1 l1.length c1] rfl (by (try simp only [List.map_toArray, List.map_cons, List.map_nil]); first | done | rfl | (simp only [List.length_drop, List.length_take]; rfl)) ?_; (with_reducible refine (laws_toInt64S.calls k _ _ l1 t133 _ ?side1 ?side2 A12.out).mono ?_); (case side1 => repeat (first | exact (Kd.C_below HR1.out HB.out) | (with_reducible refine Kd.C_alloc ?_ _) | (with_reducible refine Kd.C_drewN ?_ _) | (with_reducible refine Kd.C_drew ?_))); (case side2 => exact HC1.out); rintro e w20 ⟨v134, rfl, ho0, hb⟩; refine ⟨_, rfl, ?_⟩; have n0_ := Aside0.mk (Kd.R_elder' (by (with_reducible repeat (first | apply Kd.R_alloc | apply Kd.R_drewN | apply Kd.R_drew)); exact HO127.out) (Kd.R_base ho0) hb); have n1_ := Aside0.mk (Kd.R_elder' (by (with_reducible repeat (first | apply Kd.R_alloc | apply Kd.R_drewN | apply Kd.R_drew)); exact HO131.out) (Kd.R_base ho0) hb); have n2_ := Aside0.mk (Kd.R_lower (Kd.R_new' (Kd.R_new' ho0 (Kd.R_lt (by (with_reducible repeat (first | apply Kd.R_alloc | apply Kd.R_drewN | apply Kd.R_drew)); exact HO127.out))) (Kd.R_lt (by (with_reducible repeat (first | apply Kd.R_alloc | apply Kd.R_drewN | apply Kd.R_drew)); exact HO131.out))) (below_size (by repeat (first | (with_reducible first | exact HB.out | apply below_alloc | apply pw_below_drewN | apply below_drew1) | exact HB.out)))); have n3_ := Aside0.mk (below_step (by repeat (first | (with_reducible first | exact HB.out | apply below_alloc | apply pw_below_drewN | apply below_drew1) | exact HB.out)) hb); clear HO127; clear HO131; clear HB; have HO127 := n0_; have HO131 := n1_; have HO135 := n2_; have HB := n3_; clear n0_ n1_ n2_ n3_; (try clear hb); (try clear hb2); (try clear hk); (try clear hi); (try clear ho0); obtain ⟨Ao21, co21, eo21⟩ := Kd.R_slice HO135.out; subst eo21) | ((with_reducible refine gate_callee (f := 18) rfl ?_); refine goesL_ (some 36) rfl rfl Try.func18 (by kernel_rfl) rfl #[.slice Ao18 t129.length co18, .slice Ao21 t133.length co21] rfl (by (try simp only [List.map_toArray, List.map_cons, List.map_nil]); first | done | rfl | (simp only [List.length_drop, List.length_take]; rfl)) ?_; (with_reducible refine (laws_eqInt64S.calls k _ _ t129 _ _ t133 true _ ?side1 ?side2 ?side3 ?side4 A13.out).mono ?_); (case side1 => repeat (first | exact (Kd.R_reads' HO131.out).2.2 | (with_reducible refine Kd.C_alloc ?_ _) | (with_reducible refine Kd.C_drewN ?_ _) | (with_reducible refine Kd.C_drew ?_))); (case side2 => exact (Kd.R_reads' HO131.out).2.1); (case side3 => repeat (first | exact (Kd.R_reads' HO135.out).2.2 | (with_reducible refine Kd.C_alloc ?_ _) | (with_reducible refine Kd.C_drewN ?_ _) | (with_reducible refine Kd.C_drew ?_))); (case side4 => exact (Kd.R_reads' HO135.out).2.1); rintro e w' ⟨rfl, ⟨nd, rfl⟩⟩; refine ⟨_, rfl, ?_⟩))
            go_ret
            exact ⟨by first | rfl | (simp [errW_none, errW_some] <;> rfl) | (simp [*, errW_none, errW_some] <;> rfl), by repeat (first | (with_reducible first | exact HB.out | apply below_alloc | apply pw_below_drewN | apply below_drew1) | exact HB.out)⟩
          · replace c14 := Bool.eq_false_iff.mpr c14
            subst c14
            have H1 : (some false) = some r := by rw [if_neg (show ¬ (false = true) by decide)] at H; exact H
            clear H
            have H := H1
            clear H1
            obtain rfl := Option.some.inj H
            go_enter Try.func4, Try.ntmps4
            go_wp2_with (first | ((with_reducible refine gate_callee (f := 16) rfl ?_); refine goesL_ (some 21) rfl rfl Try.func16 (by kernel_rfl) rfl #[.slice A1 l1.length c1] rfl (by (try simp only [List.map_toArray, List.map_cons, List.map_nil]); first | done | rfl | (simp only [List.length_drop, List.length_take]; rfl)) ?_; (with_reducible refine (laws_toInt64S.calls k _ _ l1 t125 _ ?side1 ?side2 A7.out).mono ?_); (case side1 => repeat (first | exact HR1.out | (with_reducible refine Kd.C_alloc ?_ _) | (with_reducible refine Kd.C_drewN ?_ _) | (with_reducible refine Kd.C_drew ?_))); (case side2 => exact HC1.out); rintro e w22 ⟨v126, rfl, ho0, hb⟩; refine ⟨_, rfl, ?_⟩; have n0_ := Aside0.mk (Kd.R_lower ho0 (below_size (by repeat (first | (with_reducible first | exact HB.out | apply below_alloc | apply pw_below_drewN | apply below_drew1) | exact HB.out)))); have n1_ := Aside0.mk (below_step (by repeat (first | (with_reducible first | exact HB.out | apply below_alloc | apply pw_below_drewN | apply below_drew1) | exact HB.out)) hb); clear HB; have HO127 := n0_; have HB := n1_; clear n0_ n1_; (try clear hb); (try clear hb2); (try clear hk); (try clear hi); (try clear ho0); obtain ⟨Ao23, co23, eo23⟩ := Kd.R_slice HO127.out; subst eo23) | ((with_reducible refine gate_callee (f := 19) rfl ?_); refine goesL_ (some 23) rfl rfl Try.func19 (by kernel_rfl) rfl #[.string a0, .slice Ao23 t125.length co23, .string a2] rfl (by (try simp only [List.map_toArray, List.map_cons, List.map_nil]); first | done | rfl | (simp only [List.length_drop, List.length_take]; rfl)) ?_; (with_reducible refine (spec_LayMemory.calls k a0 _ _ t125 a2 t128 _ ?side1 ?side2 A8.out).mono ?_); (case side1 => repeat (first | exact (Kd.R_reads' HO127.out).2.2 | (with_reducible refine Kd.C_alloc ?_ _) | (with_reducible refine Kd.C_drewN ?_ _) | (with_reducible refine Kd.C_drew ?_))); (case side2 => exact (Kd.R_reads' HO127.out).2.1); rintro e w' ⟨rfl, ⟨nd, rfl⟩⟩; refine ⟨_, rfl, ?_⟩) | ((with_reducible refine gate_callee (f := 16) rfl ?_); refine goesL_ (some 25) rfl rfl Try.func16 (by kernel_rfl) rfl #[.slice A1 l1.length c1] rfl (by (try simp only [List.map_toArray, List.map_cons, List.map_nil]); first | done | rfl | (simp only [List.length_drop, List.length_take]; rfl)) ?_; (with_reducible refine (laws_toInt64S.calls k _ _ l1 t129 _ ?side1 ?side2 A9.out).mono ?_); (case side1 => repeat (first | exact (Kd.C_below HR1.out (by repeat (first | (with_reducible first | exact HB.out | apply below_alloc | apply pw_below_drewN | apply below_drew1) | exact HB.out))) | (with_reducible refine Kd.C_alloc ?_ _) | (with_reducible refine Kd.C_drewN ?_ _) | (with_reducible refine Kd.C_drew ?_))); (case side2 => exact HC1.out); rintro e w24 ⟨v130, rfl, ho0, hb⟩; refine ⟨_, rfl, ?_⟩; have n0_ := Aside0.mk (Kd.R_elder' (by (with_reducible repeat (first | apply Kd.R_alloc | apply Kd.R_drewN | apply Kd.R_drew)); exact HO127.out) (Kd.R_base ho0) hb); have n1_ := Aside0.mk (Kd.R_lower (Kd.R_new' ho0 (Kd.R_lt (by (with_reducible repeat (first | apply Kd.R_alloc | apply Kd.R_drewN | apply Kd.R_drew)); exact HO127.out))) (below_size (by repeat (first | (with_reducible first | exact HB.out | apply below_alloc | apply pw_below_drewN | apply below_drew1) | exact HB.out)))); have n2_ := Aside0.mk (below_step (by repeat (first | (with_reducible first | exact HB.out | apply below_alloc | apply pw_below_drewN | apply below_drew1) | exact HB.out)) hb); clear HO127; clear HB; have HO127 := n0_; have HO131 := n1_; have HB := n2_; clear n0_ n1_ n2_; (try clear hb); (try clear hb2); (try clear hk); (try clear hi); (try clear ho0); obtain ⟨Ao25, co25, eo25⟩ := Kd.R_slice HO131.out; subst eo25) | ((with_reducible refine gate_callee (f := 20) rfl ?_); refine goesL_ (some 29) rfl rfl Try.func20 (by kernel_rfl) rfl #[.string a0, .slice Ao25 t129.length co25, .string a2] rfl (by (try simp only [List.map_toArray, List.map_cons, List.map_nil]); first | done | rfl | (simp only [List.length_drop, List.length_take]; rfl)) ?_; (with_reducible refine (impl_LayMemory.calls a0 _ _ t129 a2 t132 _ ?side1 ?side2 A10.out).mono ?_); (case side1 => repeat (first | exact (Kd.R_reads' HO131.out).2.2 | (with_reducible refine Kd.C_alloc ?_ _) | (with_reducible refine Kd.C_drewN ?_ _) | (with_reducible refine Kd.C_drew ?_))); (case side2 => exact (Kd.R_reads' HO131.out).2.1); rintro e w26 ⟨rfl, hb⟩; refine ⟨_, rfl, ?_⟩; have n0_ := Aside0.mk (Kd.R_below (by (with_reducible repeat (first | apply Kd.R_alloc | apply Kd.R_drewN | apply Kd.R_drew)); exact HO127.out) hb); have n1_ := Aside0.mk (Kd.R_below (by (with_reducible repeat (first | apply Kd.R_alloc | apply Kd.R_drewN | apply Kd.R_drew)); exact HO131.out) hb); have n2_ := Aside0.mk (below_step (by repeat (first | (with_reducible first | exact HB.out | apply below_alloc | apply pw_below_drewN | apply below_drew1) | exact HB.out)) hb); clear HO127; clear HO131; clear HB; have HO127 := n0_; have HO131 := n1_; have HB := n2_; clear n0_ n1_ n2_; (try clear hb); (try clear hb2); (try clear hk); (try clear hi)) | ((with_reducible refine gate_callee (f := 16) rfl ?_); refine goesL_ (some 35) rfl rfl Try.func16 (by kernel_rfl) rfl #[.slice A1 l1.length c1] rfl (by (try simp only [List.map_toArray, List.map_cons, List.map_nil]); first | done | rfl | (simp only [List.length_drop, List.length_take]; rfl)) ?_; (with_reducible refine (laws_toInt64S.calls k _ _ l1 t133 _ ?side1 ?side2 A12.out).mono ?_); (case side1 => repeat (first | exact (Kd.C_below HR1.out HB.out) | (with_reducible refine Kd.C_alloc ?_ _) | (with_reducible refine Kd.C_drewN ?_ _) | (with_reducible refine Kd.C_drew ?_))); (case side2 => exact HC1.out); rintro e w27 ⟨v134, rfl, ho0, hb⟩; refine ⟨_, rfl, ?_⟩; have n0_ := Aside0.mk (Kd.R_elder' (by (with_reducible repeat (first | apply Kd.R_alloc | apply Kd.R_drewN | apply Kd.R_drew)); exact HO127.out) (Kd.R_base ho0) hb); have n1_ := Aside0.mk (Kd.R_elder' (by (with_reducible repeat (first | apply Kd.R_alloc | apply Kd.R_drewN | apply Kd.R_drew)); exact HO131.out) (Kd.R_base ho0) hb); have n2_ := Aside0.mk (Kd.R_lower (Kd.R_new' (Kd.R_new' ho0 (Kd.R_lt (by (with_reducible repeat (first | apply Kd.R_alloc | apply Kd.R_drewN | apply Kd.R_drew)); exact HO127.out))) (Kd.R_lt (by (with_reducible repeat (first | apply Kd.R_alloc | apply Kd.R_drewN | apply Kd.R_drew)); exact HO131.out))) (below_size (by repeat (first | (with_reducible first | exact HB.out | apply below_alloc | apply pw_below_drewN | apply below_drew1) | exact HB.out)))); have n3_ := Aside0.mk (below_step (by repeat (first | (with_reducible first | exact HB.out | apply below_alloc | apply pw_below_drewN | apply below_drew1) | exact HB.out)) hb); clear HO127; clear HO131; clear HB; have HO127 := n0_; have HO131 := n1_; have HO135 := n2_; have HB := n3_; clear n0_ n1_ n2_ n3_; (try clear hb); (try clear hb2); (try clear hk); (try clear hi); (try clear ho0); obtain ⟨Ao28, co28, eo28⟩ := Kd.R_slice HO135.out; subst eo28) | ((with_reducible refine gate_callee (f := 18) rfl ?_); refine goesL_ (some 36) rfl rfl Try.func18 (by kernel_rfl) rfl #[.slice Ao25 t129.length co25, .slice Ao28 t133.length co28] rfl (by (try simp only [List.map_toArray, List.map_cons, List.map_nil]); first | done | rfl | (simp only [List.length_drop, List.length_take]; rfl)) ?_; (with_reducible refine (laws_eqInt64S.calls k _ _ t129 _ _ t133 false _ ?side1 ?side2 ?side3 ?side4 A13.out).mono ?_); (case side1 => repeat (first | exact (Kd.R_reads' HO131.out).2.2 | (with_reducible refine Kd.C_alloc ?_ _) | (with_reducible refine Kd.C_drewN ?_ _) | (with_reducible refine Kd.C_drew ?_))); (case side2 => exact (Kd.R_reads' HO131.out).2.1); (case side3 => repeat (first | exact (Kd.R_reads' HO135.out).2.2 | (with_reducible refine Kd.C_alloc ?_ _) | (with_reducible refine Kd.C_drewN ?_ _) | (with_reducible refine Kd.C_drew ?_))); (case side4 => exact (Kd.R_reads' HO135.out).2.1); rintro e w' ⟨rfl, ⟨nd, rfl⟩⟩; refine ⟨_, rfl, ?_⟩))
            go_ret
            exact ⟨by first | rfl | (simp [errW_none, errW_some] <;> rfl) | (simp [*, errW_none, errW_some] <;> rfl), by repeat (first | (with_reducible first | exact HB.out | apply below_alloc | apply pw_below_drewN | apply below_drew1) | exact HB.out)⟩
        · rw [if_neg c11] at H
          have c11b0 : (t132.toList == t128.toList) = false := beq_eq_false_iff_ne.mpr c11
          have c11b1 : (t132.toList != t128.toList) = true := bne_iff_ne.mpr c11
          obtain rfl := Option.some.inj H
          go_enter Try.func4, Try.ntmps4
          go_wp2_with (first | ((with_reducible refine gate_callee (f := 16) rfl ?_); refine goesL_ (some 21) rfl rfl Try.func16 (by kernel_rfl) rfl #[.slice A1 l1.length c1] rfl (by (try simp only [List.map_toArray, List.map_cons, List.map_nil]); first | done | rfl | (simp only [List.length_drop, List.length_take]; rfl)) ?_; (with_reducible refine (laws_toInt64S.calls k _ _ l1 t125 _ ?side1 ?side2 A7.out).mono ?_); (case side1 => repeat (first | exact HR1.out | (with_reducible refine Kd.C_alloc ?_ _) | (with_reducible refine Kd.C_drewN ?_ _) | (with_reducible refine Kd.C_drew ?_))); (case side2 => exact HC1.out); rintro e w29 ⟨v126, rfl, ho0, hb⟩; refine ⟨_, rfl, ?_⟩; have n0_ := Aside0.mk (Kd.R_lower ho0 (below_size (by repeat (first | (with_reducible first | exact HB.out | apply below_alloc | apply pw_below_drewN | apply below_drew1) | exact HB.out)))); have n1_ := Aside0.mk (below_step (by repeat (first | (with_reducible first | exact HB.out | apply below_alloc | apply pw_below_drewN | apply below_drew1) | exact HB.out)) hb); clear HB; have HO127 := n0_; have HB := n1_; clear n0_ n1_; (try clear hb); (try clear hb2); (try clear hk); (try clear hi); (try clear ho0); obtain ⟨Ao30, co30, eo30⟩ := Kd.R_slice HO127.out; subst eo30) | ((with_reducible refine gate_callee (f := 19) rfl ?_); refine goesL_ (some 23) rfl rfl Try.func19 (by kernel_rfl) rfl #[.string a0, .slice Ao30 t125.length co30, .string a2] rfl (by (try simp only [List.map_toArray, List.map_cons, List.map_nil]); first | done | rfl | (simp only [List.length_drop, List.length_take]; rfl)) ?_; (with_reducible refine (spec_LayMemory.calls k a0 _ _ t125 a2 t128 _ ?side1 ?side2 A8.out).mono ?_); (case side1 => repeat (first | exact (Kd.R_reads' HO127.out).2.2 | (with_reducible refine Kd.C_alloc ?_ _) | (with_reducible refine Kd.C_drewN ?_ _) | (with_reducible refine Kd.C_drew ?_))); (case side2 => exact (Kd.R_reads' HO127.out).2.1); rintro e w' ⟨rfl, ⟨nd, rfl⟩⟩; refine ⟨_, rfl, ?_⟩) | ((with_reducible refine gate_callee (f := 16) rfl ?_); refine goesL_ (some 25) rfl rfl Try.func16 (by kernel_rfl) rfl #[.slice A1 l1.length c1] rfl (by (try simp only [List.map_toArray, List.map_cons, List.map_nil]); first | done | rfl | (simp only [List.length_drop, List.length_take]; rfl)) ?_; (with_reducible refine (laws_toInt64S.calls k _ _ l1 t129 _ ?side1 ?side2 A9.out).mono ?_); (case side1 => repeat (first | exact (Kd.C_below HR1.out (by repeat (first | (with_reducible first | exact HB.out | apply below_alloc | apply pw_below_drewN | apply below_drew1) | exact HB.out))) | (with_reducible refine Kd.C_alloc ?_ _) | (with_reducible refine Kd.C_drewN ?_ _) | (with_reducible refine Kd.C_drew ?_))); (case side2 => exact HC1.out); rintro e w31 ⟨v130, rfl, ho0, hb⟩; refine ⟨_, rfl, ?_⟩; have n0_ := Aside0.mk (Kd.R_elder' (by (with_reducible repeat (first | apply Kd.R_alloc | apply Kd.R_drewN | apply Kd.R_drew)); exact HO127.out) (Kd.R_base ho0) hb); have n1_ := Aside0.mk (Kd.R_lower (Kd.R_new' ho0 (Kd.R_lt (by (with_reducible repeat (first | apply Kd.R_alloc | apply Kd.R_drewN | apply Kd.R_drew)); exact HO127.out))) (below_size (by repeat (first | (with_reducible first | exact HB.out | apply below_alloc | apply pw_below_drewN | apply below_drew1) | exact HB.out)))); have n2_ := Aside0.mk (below_step (by repeat (first | (with_reducible first | exact HB.out | apply below_alloc | apply pw_below_drewN | apply below_drew1) | exact HB.out)) hb); clear HO127; clear HB; have HO127 := n0_; have HO131 := n1_; have HB := n2_; clear n0_ n1_ n2_; (try clear hb); (try clear hb2); (try clear hk); (try clear hi); (try clear ho0); obtain ⟨Ao32, co32, eo32⟩ := Kd.R_slice HO131.out; subst eo32) | ((with_reducible refine gate_callee (f := 20) rfl ?_); refine goesL_ (some 29) rfl rfl Try.func20 (by kernel_rfl) rfl #[.string a0, .slice Ao32 t129.length co32, .string a2] rfl (by (try simp only [List.map_toArray, List.map_cons, List.map_nil]); first | done | rfl | (simp only [List.length_drop, List.length_take]; rfl)) ?_; (with_reducible refine (impl_LayMemory.calls a0 _ _ t129 a2 t132 _ ?side1 ?side2 A10.out).mono ?_); (case side1 => repeat (first | exact (Kd.R_reads' HO131.out).2.2 | (with_reducible refine Kd.C_alloc ?_ _) | (with_reducible refine Kd.C_drewN ?_ _) | (with_reducible refine Kd.C_drew ?_))); (case side2 => exact (Kd.R_reads' HO131.out).2.1); rintro e w33 ⟨rfl, hb⟩; refine ⟨_, rfl, ?_⟩; have n0_ := Aside0.mk (Kd.R_below (by (with_reducible repeat (first | apply Kd.R_alloc | apply Kd.R_drewN | apply Kd.R_drew)); exact HO127.out) hb); have n1_ := Aside0.mk (Kd.R_below (by (with_reducible repeat (first | apply Kd.R_alloc | apply Kd.R_drewN | apply Kd.R_drew)); exact HO131.out) hb); have n2_ := Aside0.mk (below_step (by repeat (first | (with_reducible first | exact HB.out | apply below_alloc | apply pw_below_drewN | apply below_drew1) | exact HB.out)) hb); clear HO127; clear HO131; clear HB; have HO127 := n0_; have HO131 := n1_; have HB := n2_; clear n0_ n1_ n2_; (try clear hb); (try clear hb2); (try clear hk); (try clear hi)))
          go_ret
          exact ⟨by first | rfl | (simp [errW_none, errW_some] <;> rfl) | (simp [*, errW_none, errW_some] <;> rfl), by repeat (first | (with_reducible first | exact HB.out | apply below_alloc | apply pw_below_drewN | apply below_drew1) | exact HB.out)⟩

/-- THE ONE PURE STATEMENT of laws_FnExactLayMemory: yours. -/
def laws_FnExactLayMemory.Pure : Prop := ∀ (a0 : ByteArray) (l1 : List Int) (a2 : ByteArray), a0.size ≤ 140737488351232 → l1.length ≤ maxLen → l1.length * 8 ≤ 140737488351232 → (∀ x ∈ l1, (Lit.int .i64 x).wf = true) → a2.size ≤ 140737488351232 → ∃ k, laws_FnExactLayMemory.f k a0 l1 a2 = some true
theorem laws_FnExactLayMemory.walk (P : laws_FnExactLayMemory.Pure) (a0 : ByteArray) (a1 : Option Addr) (len1 cap1 : Nat) (z1 : List Int) (a2 : ByteArray) (w : World) (w0 : a0.size ≤ 140737488351232) (w1 : (a1 = none ∧ len1 = 0 ∧ cap1 = 0 ∧ z1 = []) ∨ ∃ x, a1 = some x ∧ len1 ≤ cap1 ∧ cap1 ≤ maxLen ∧ z1.length = cap1 ∧ (∀ i, i < z1.length → w.cell? (x.add i) = some (.int .i64 (z1.getD i 0))) ∧ ∀ n ∈ z1, (Lit.int .i64 n).wf = true) (y1 : len1 * 8 ≤ 140737488351232) (w2 : a2.size ≤ 140737488351232) :
    Calls Try.prog 4 #[.string a0, .slice a1 len1 cap1, .string a2] w fun e w' => e = .returned (.bool true) ∧ Below w.heap.size w w' := by
  obtain ⟨l1, rfl, hr1, hm1, hw1, hc1⟩ := ReadsInt.ofRowC w1
  obtain ⟨k, h⟩ := P a0 l1 a2 w0 hm1 y1 hw1 w2
  refine (laws_FnExactLayMemory.calls k a0 _ _ l1 a2 true w (Kd.C_of_reads (d := (0 : Int)) (h1 := fun _ => rfl) hr1) hc1 h).mono ?_
  rintro e w' ⟨rfl, hd⟩
  exact ⟨rfl, hd⟩

end Go.Proofs.Ytjpgelnhmcblmaa.QFnExactLayMemory
