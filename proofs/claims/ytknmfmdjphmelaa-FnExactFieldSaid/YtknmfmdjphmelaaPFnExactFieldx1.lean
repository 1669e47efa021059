-- PRINTED BY print.sh 35421559b90ae4d0a3588c463048766b98c2df88dd9212a6774a882060cdf62d: not written by this session
import Derived.Test.YtknmfmdjphmelaaPFnExactFieldx0
namespace Go.Proofs.Ytknmfmdjphmelaa.PFnExactField
open Go.RowKit Go.Proofs.YtknmfmdjphmelaaW.PrintWords Go.Proofs.YtknmfmdjphmelaaW.PrintLast Go.Proofs.YtknmfmdjphmelaaW.PrintMore
attribute [local go_sem] max2_int min2_int max_two min_two max_three min_three max_four min_four   -- for this text's walks alone
set_option linter.unusedVariables false
set_option linter.unusedSimpArgs false

/-! ### spec_l01Mod: function 38 -/
def spec_l01Mod.f (a0 : Int) (a1 : Int) : Option (Int) := if a1 = 0 then (none) else (if (Int.tmod a0 a1) < 0 then (some (wrap64 ((Int.tmod a0 a1) + a1))) else (some (Int.tmod a0 a1)))
set_option maxHeartbeats 8000000 in
set_option maxRecDepth 100000 in
theorem spec_l01Mod.calls (a0 : Int) (a1 : Int) (r : Int) (w : World) (h : spec_l01Mod.f a0 a1 = some r) :
    Calls Try.prog 38 #[.int .i64 a0, .int .i64 a1] w fun e w' => e = .returned (.int .i64 r) ∧ Drawn0 w w' := by
  have H : (if a1 = 0 then (none) else (if (Int.tmod a0 a1) < 0 then (some (wrap64 ((Int.tmod a0 a1) + a1))) else (some (Int.tmod a0 a1)))) = some r := h
  clear h
  by_cases c3 : a1 = 0
  · rw [if_pos c3] at H
    exact absurd H (by simp)
  · rw [if_neg c3] at H
    have c3b0 : (a1 == 0) = false := beq_eq_false_iff_ne.mpr c3
    have c3b1 : (a1 != 0) = true := bne_iff_ne.mpr c3
    by_cases c4 : (Int.tmod a0 a1) < 0
    · rw [if_pos c4] at H
      have c4b0 : decide ((Int.tmod a0 a1) < 0) = true := decide_eq_true c4
      clear c4
      obtain rfl := Option.some.inj H
      go_enter Try.func38, Try.ntmps38
      go_wp2
      go_ret
      exact ⟨by first | rfl | (simp; done) | (simp [*]; done), by repeat (first | exact Drawn0.refl _ | apply Drawn0.step)⟩
    · rw [if_neg c4] at H
      have c4b0 : decide ((Int.tmod a0 a1) < 0) = false := decide_eq_false c4
      clear c4
      obtain rfl := Option.some.inj H
      go_enter Try.func38, Try.ntmps38
      go_wp2
      go_ret
      exact ⟨by first | rfl | (simp; done) | (simp [*]; done), by repeat (first | exact Drawn0.refl _ | apply Drawn0.step)⟩

/-! ### spec_Word: function 15 -/
def spec_Word.f (a0 : Int) : Option (Int) := (spec_l01Mod.f a0 4294967296).bind fun t101 => (some t101)
set_option maxHeartbeats 8000000 in
set_option maxRecDepth 100000 in
theorem spec_Word.calls (a0 : Int) (r : Int) (w : World) (h : spec_Word.f a0 = some r) :
    Calls Try.prog 15 #[.int .i64 a0] w fun e w' => e = .returned (.int .i64 r) ∧ Drawn0 w w' := by
  have H : ((spec_l01Mod.f a0 4294967296).bind fun t101 => (some t101)) = some r := h
  clear h
  replace H := Option.bind_eq_some_iff.mp H
  obtain ⟨t101, A20, H⟩ := H
  replace H : (some t101) = some r := H
  have A2 := Aside0.mk A20
  clear A20
  obtain rfl := Option.some.inj H
  go_enter Try.func15, Try.ntmps15
  go_wp2_with (first | ((with_reducible refine gate_callee (f := 38) rfl ?_); refine goesL_ (some 4) rfl rfl Try.func38 (by kernel_rfl) rfl #[.int .i64 a0, .int .i64 4294967296] rfl (by (try simp only [List.map_toArray, List.map_cons, List.map_nil]); first | done | rfl | (simp only [List.length_drop, List.length_take]; rfl)) ?_; (with_reducible refine (spec_l01Mod.calls a0 4294967296 t101 _ A2.out).mono ?_); rintro e w' ⟨rfl, ⟨nd, rfl⟩⟩; refine ⟨_, rfl, ?_⟩))
  go_ret
  exact ⟨by first | rfl | (simp; done) | (simp [*]; done), by repeat (first | exact Drawn0.refl _ | apply Drawn0.step)⟩

/-! ### spec_l01Bits: function 42 -/
def spec_l01Bits.f (a0 : Int) (a1 : Int) : Option (Bool) := if a0 ≥ 0 then (if a1 ≥ 1 then (if a0 ≤ 32 then (some (decide (a1 ≤ (wrap64 (32 - a0))))) else (some false)) else (some false)) else (some false)
set_option maxHeartbeats 8000000 in
set_option maxRecDepth 100000 in
theorem spec_l01Bits.calls (a0 : Int) (a1 : Int) (r : Bool) (w : World) (h : spec_l01Bits.f a0 a1 = some r) :
    Calls Try.prog 42 #[.int .i64 a0, .int .i64 a1] w fun e w' => e = .returned (.bool r) ∧ Drawn0 w w' := by
  have H : (if a0 ≥ 0 then (if a1 ≥ 1 then (if a0 ≤ 32 then (some (decide (a1 ≤ (wrap64 (32 - a0))))) else (some false)) else (some false)) else (some false)) = some r := h
  clear h
  by_cases c3 : a0 ≥ 0
  · rw [if_pos c3] at H
    have c3b0 : decide (0 ≤ a0) = true := decide_eq_true c3
    clear c3
    by_cases c4 : a1 ≥ 1
    · rw [if_pos c4] at H
      have c4b0 : decide (1 ≤ a1) = true := decide_eq_true c4
      clear c4
      by_cases c5 : a0 ≤ 32
      · rw [if_pos c5] at H
        have c5b0 : decide (a0 ≤ 32) = true := decide_eq_true c5
        clear c5
        obtain rfl := Option.some.inj H
        go_enter Try.func42, Try.ntmps42
        go_wp2
        go_ret
        exact ⟨by first | rfl | (simp; done) | (simp [*]; done), by repeat (first | exact Drawn0.refl _ | apply Drawn0.step)⟩
      · rw [if_neg c5] at H
        have c5b0 : decide (a0 ≤ 32) = false := decide_eq_false c5
        clear c5
        obtain rfl := Option.some.inj H
        go_enter Try.func42, Try.ntmps42
        go_wp2
        go_ret
        exact ⟨by first | rfl | (simp; done) | (simp [*]; done), by repeat (first | exact Drawn0.refl _ | apply Drawn0.step)⟩
    · rw [if_neg c4] at H
      have c4b0 : decide (1 ≤ a1) = false := decide_eq_false c4
      clear c4
      obtain rfl := Option.some.inj H
      go_enter Try.func42, Try.ntmps42
      go_wp2
      go_ret
      exact ⟨by first | rfl | (simp; done) | (simp [*]; done), by repeat (first | exact Drawn0.refl _ | apply Drawn0.step)⟩
  · rw [if_neg c3] at H
    have c3b0 : decide (0 ≤ a0) = false := decide_eq_false c3
    clear c3
    obtain rfl := Option.some.inj H
    go_enter Try.func42, Try.ntmps42
    go_wp2
    go_ret
    exact ⟨by first | rfl | (simp; done) | (simp [*]; done), by repeat (first | exact Drawn0.refl _ | apply Drawn0.step)⟩

/-! ### spec_Field: function 25 -/
def spec_Field.f (a0 : Int) (a1 : Int) (a2 : Int) : Option (Int) := (spec_l01Bits.f a1 a2).bind fun t102 => (if t102 = true then ((spec_Word.f a0).bind fun t103 => (if 0 ≤ (IntKind.u64.wrap (a1)) then (if 0 ≤ (IntKind.u64.wrap (a2)) then (if (shl .i64 1 (IntKind.u64.wrap (a2))) = 0 then (none) else (some (Int.tmod (shr .i64 t103 (IntKind.u64.wrap (a1))) (shl .i64 1 (IntKind.u64.wrap (a2)))))) else (none)) else (none))) else (some 0))
set_option maxHeartbeats 8000000 in
set_option maxRecDepth 100000 in
theorem spec_Field.calls (a0 : Int) (a1 : Int) (a2 : Int) (r : Int) (w : World) (h : spec_Field.f a0 a1 a2 = some r) :
    Calls Try.prog 25 #[.int .i64 a0, .int .i64 a1, .int .i64 a2] w fun e w' => e = .returned (.int .i64 r) ∧ Drawn0 w w' := by
  have H : ((spec_l01Bits.f a1 a2).bind fun t102 => (if t102 = true then ((spec_Word.f a0).bind fun t103 => (if 0 ≤ (IntKind.u64.wrap (a1)) then (if 0 ≤ (IntKind.u64.wrap (a2)) then (if (shl .i64 1 (IntKind.u64.wrap (a2))) = 0 then (none) else (some (Int.tmod (shr .i64 t103 (IntKind.u64.wrap (a1))) (shl .i64 1 (IntKind.u64.wrap (a2)))))) else (none)) else (none))) else (some 0))) = some r := h
  clear h
  replace H := Option.bind_eq_some_iff.mp H
  obtain ⟨t102, A40, H⟩ := H
  replace H : (if t102 = true then ((spec_Word.f a0).bind fun t103 => (if 0 ≤ (IntKind.u64.wrap (a1)) then (if 0 ≤ (IntKind.u64.wrap (a2)) then (if (shl .i64 1 (IntKind.u64.wrap (a2))) = 0 then (none) else (some (Int.tmod (shr .i64 t103 (IntKind.u64.wrap (a1))) (shl .i64 1 (IntKind.u64.wrap (a2)))))) else (none)) else (none))) else (some 0)) = some r := H
  have A4 := Aside0.mk A40
  clear A40
  by_cases c5 : t102 = true
  · subst c5
    have H1 : ((spec_Word.f a0).bind fun t103 => (if 0 ≤ (IntKind.u64.wrap (a1)) then (if 0 ≤ (IntKind.u64.wrap (a2)) then (if (shl .i64 1 (IntKind.u64.wrap (a2))) = 0 then (none) else (some (Int.tmod (shr .i64 t103 (IntKind.u64.wrap (a1))) (shl .i64 1 (IntKind.u64.wrap (a2)))))) else (none)) else (none))) = some r := by rw [if_pos rfl] at H; exact H
    clear H
    have H := H1
    clear H1
    replace H := Option.bind_eq_some_iff.mp H
    obtain ⟨t103, A60, H⟩ := H
    replace H : (if 0 ≤ (IntKind.u64.wrap (a1)) then (if 0 ≤ (IntKind.u64.wrap (a2)) then (if (shl .i64 1 (IntKind.u64.wrap (a2))) = 0 then (none) else (some (Int.tmod (shr .i64 t103 (IntKind.u64.wrap (a1))) (shl .i64 1 (IntKind.u64.wrap (a2)))))) else (none)) else (none)) = some r := H
    have A6 := Aside0.mk A60
    clear A60
    obtain ⟨ji7, hji7⟩ : ∃ j_ : Int, (IntKind.u64.wrap (a1)) = j_ := ⟨_, rfl⟩
    replace H : (if 0 ≤ (ji7) then (if 0 ≤ (IntKind.u64.wrap (a2)) then (if (shl .i64 1 (IntKind.u64.wrap (a2))) = 0 then (none) else (some (Int.tmod (shr .i64 t103 (ji7)) (shl .i64 1 (IntKind.u64.wrap (a2)))))) else (none)) else (none)) = some r := by first | (rw [hji7] at H; exact H) | (simp only [hji7] at H ⊢; exact H)
    (try rw [hji7] at A4)
    (try rw [hji7] at A6)
    by_cases c8 : 0 ≤ (ji7)
    · rw [if_pos c8] at H
      have c8b0 := eq_true c8
      have c8b1 : decide (0 ≤ (ji7)) = true := decide_eq_true c8
      clear c8
      obtain ⟨ji9, hji9⟩ : ∃ j_ : Int, (shr .i64 t103 (ji7)) = j_ := ⟨_, rfl⟩
      replace H : (if 0 ≤ (IntKind.u64.wrap (a2)) then (if (shl .i64 1 (IntKind.u64.wrap (a2))) = 0 then (none) else (some (Int.tmod (ji9) (shl .i64 1 (IntKind.u64.wrap (a2)))))) else (none)) = some r := by first | (rw [hji9] at H; exact H) | (simp only [hji9] at H ⊢; exact H)
      (try rw [hji9] at A4)
      (try rw [hji9] at A6)
      have hji9_ : (t103 / 2 ^ min (ji7).toNat 64) = ji9 := hji9
      have hji9z : (ji7) ≤ 64 → (t103 / 2 ^ (ji7).toNat) = ji9 := shr_small hji9
      obtain ⟨ji10, hji10⟩ : ∃ j_ : Int, (IntKind.u64.wrap (a2)) = j_ := ⟨_, rfl⟩
      replace H : (if 0 ≤ (ji10) then (if (shl .i64 1 (ji10)) = 0 then (none) else (some (Int.tmod (ji9) (shl .i64 1 (ji10))))) else (none)) = some r := by first | (rw [hji10] at H; exact H) | (simp only [hji10] at H ⊢; exact H)
      (try rw [hji10] at A4)
      (try rw [hji10] at A6)
      by_cases c11 : 0 ≤ (ji10)
      · rw [if_pos c11] at H
        have c11b0 := eq_true c11
        have c11b1 : decide (0 ≤ (ji10)) = true := decide_eq_true c11
        clear c11
        obtain ⟨ji12, hji12⟩ : ∃ j_ : Int, (shl .i64 1 (ji10)) = j_ := ⟨_, rfl⟩
        replace H : (if (ji12) = 0 then (none) else (some (Int.tmod (ji9) (ji12)))) = some r := by first | (rw [hji12] at H; exact H) | (simp only [hji12] at H ⊢; exact H)
        (try rw [hji12] at A4)
        (try rw [hji12] at A6)
        have hji12_ : (IntKind.i64.wrap (1 * 2 ^ min (ji10).toNat 64)) = ji12 := hji12
        have hji12z : (ji10) ≤ 64 → (IntKind.i64.wrap (1 * 2 ^ (ji10).toNat)) = ji12 := shl_small hji12
        have hji12u : (IntKind.i64.wrap (2 ^ min (ji10).toNat 64)) = ji12 := by have h_ := hji12_; rw [Int.one_mul] at h_; exact h_
        have hji12v : (ji10) ≤ 64 → (IntKind.i64.wrap (2 ^ (ji10).toNat)) = ji12 := fun hle_ => by have h_ := hji12z hle_; rw [Int.one_mul] at h_; exact h_
        have hji12y : (wrap64 (1 * 2 ^ min (ji10).toNat 64)) = ji12 := (i64_w _).symm.trans hji12_
        have hji12x : (ji10) ≤ 64 → (wrap64 (1 * 2 ^ (ji10).toNat)) = ji12 := fun h_ => (i64_w _).symm.trans (hji12z h_)
        by_cases c13 : (ji12) = 0
        · rw [if_pos c13] at H
          exact absurd H (by simp)
        · rw [if_neg c13] at H
          have c13b0 : ((ji12) == 0) = false := beq_eq_false_iff_ne.mpr c13
          have c13b1 : ((ji12) != 0) = true := bne_iff_ne.mpr c13
          obtain rfl := Option.some.inj H
          go_enter Try.func25, Try.ntmps25
          go_wp2_with (first | ((with_reducible refine gate_callee (f := 42) rfl ?_); refine goesL_ (some 9) rfl rfl Try.func42 (by kernel_rfl) rfl #[.int .i64 a1, .int .i64 a2] rfl (by (try simp only [List.map_toArray, List.map_cons, List.map_nil]); first | done | rfl | (simp only [List.length_drop, List.length_take]; rfl)) ?_; (with_reducible refine (spec_l01Bits.calls a1 a2 true _ A4.out).mono ?_); rintro e w' ⟨rfl, ⟨nd, rfl⟩⟩; refine ⟨_, rfl, ?_⟩) | ((with_reducible refine gate_callee (f := 15) rfl ?_); refine goesL_ (some 12) rfl rfl Try.func15 (by kernel_rfl) rfl #[.int .i64 a0] rfl (by (try simp only [List.map_toArray, List.map_cons, List.map_nil]); first | done | rfl | (simp only [List.length_drop, List.length_take]; rfl)) ?_; (with_reducible refine (spec_Word.calls a0 t103 _ A6.out).mono ?_); rintro e w' ⟨rfl, ⟨nd, rfl⟩⟩; refine ⟨_, rfl, ?_⟩))
          go_ret
          exact ⟨by first | rfl | (simp; done) | (simp only [← hji7, ← hji9, ← hji10, ← hji12] <;> (first | rfl | simp)) | (simp [*]; done), by repeat (first | exact Drawn0.refl _ | apply Drawn0.step)⟩
      · rw [if_neg c11] at H
        exact absurd H (by simp)
    · rw [if_neg c8] at H
      exact absurd H (by simp)
  · replace c5 := Bool.eq_false_iff.mpr c5
    subst c5
    have H1 : (some 0) = some r := by rw [if_neg (show ¬ (false = true) by decide)] at H; exact H
    clear H
    have H := H1
    clear H1
    obtain rfl := Option.some.inj H
    go_enter Try.func25, Try.ntmps25
    go_wp2_with (first | ((with_reducible refine gate_callee (f := 42) rfl ?_); refine goesL_ (some 9) rfl rfl Try.func42 (by kernel_rfl) rfl #[.int .i64 a1, .int .i64 a2] rfl (by (try simp only [List.map_toArray, List.map_cons, List.map_nil]); first | done | rfl | (simp only [List.length_drop, List.length_take]; rfl)) ?_; (with_reducible refine (spec_l01Bits.calls a1 a2 false _ A4.out).mono ?_); rintro e w' ⟨rfl, ⟨nd, rfl⟩⟩; refine ⟨_, rfl, ?_⟩))
    go_ret
    exact ⟨by first | rfl | (simp; done) | (simp [*]; done), by repeat (first | exact Drawn0.refl _ | apply Drawn0.step)⟩

/-! ### impl_Word: function 16 -/
def impl_Word.f (a0 : Int) : Option (Int) := some ((a0) % 4294967296)
set_option maxHeartbeats 8000000 in
set_option maxRecDepth 100000 in
theorem impl_Word.calls (a0 : Int) (r : Int) (w : World) (h : impl_Word.f a0 = some r) :
    Calls Try.prog 16 #[.int .i64 a0] w fun e w' => e = .returned (.int .i64 r) ∧ Drawn0 w w' := by
  have H : (some ((a0) % 4294967296)) = some r := h
  clear h
  obtain rfl := Option.some.inj H
  go_enter Try.func16, Try.ntmps16
  go_wp2
  go_ret
  exact ⟨by first | rfl | (simp; done) | (simp [*]; done), by repeat (first | exact Drawn0.refl _ | apply Drawn0.step)⟩

/-! ### impl_yfieldOk: function 43 -/
def impl_yfieldOk.f (a0 : Int) (a1 : Int) : Option (Bool) := if a0 ≥ 0 then (if a1 ≥ 1 then (if a0 ≤ 32 then (if a1 ≤ 32 then (some (decide ((wrap64 (a0 + a1)) ≤ 32))) else (some false)) else (some false)) else (some false)) else (some false)
set_option maxHeartbeats 8000000 in
set_option maxRecDepth 100000 in
theorem impl_yfieldOk.calls (a0 : Int) (a1 : Int) (r : Bool) (w : World) (h : impl_yfieldOk.f a0 a1 = some r) :
    Calls Try.prog 43 #[.int .i64 a0, .int .i64 a1] w fun e w' => e = .returned (.bool r) ∧ Drawn0 w w' := by
  have H : (if a0 ≥ 0 then (if a1 ≥ 1 then (if a0 ≤ 32 then (if a1 ≤ 32 then (some (decide ((wrap64 (a0 + a1)) ≤ 32))) else (some false)) else (some false)) else (some false)) else (some false)) = some r := h
  clear h
  by_cases c3 : a0 ≥ 0
  · rw [if_pos c3] at H
    have c3b0 : decide (0 ≤ a0) = true := decide_eq_true c3
    clear c3
    by_cases c4 : a1 ≥ 1
    · rw [if_pos c4] at H
      have c4b0 : decide (1 ≤ a1) = true := decide_eq_true c4
      clear c4
      by_cases c5 : a0 ≤ 32
      · rw [if_pos c5] at H
        have c5b0 : decide (a0 ≤ 32) = true := decide_eq_true c5
        clear c5
        by_cases c6 : a1 ≤ 32
        · rw [if_pos c6] at H
          have c6b0 : decide (a1 ≤ 32) = true := decide_eq_true c6
          clear c6
          obtain rfl := Option.some.inj H
          go_enter Try.func43, Try.ntmps43
          go_wp2
          go_ret
          exact ⟨by first | rfl | (simp; done) | (simp [*]; done), by repeat (first | exact Drawn0.refl _ | apply Drawn0.step)⟩
        · rw [if_neg c6] at H
          have c6b0 : decide (a1 ≤ 32) = false := decide_eq_false c6
          clear c6
          obtain rfl := Option.some.inj H
          go_enter Try.func43, Try.ntmps43
          go_wp2
          go_ret
          exact ⟨by first | rfl | (simp; done) | (simp [*]; done), by repeat (first | exact Drawn0.refl _ | apply Drawn0.step)⟩
      · rw [if_neg c5] at H
        have c5b0 : decide (a0 ≤ 32) = false := decide_eq_false c5
        clear c5
        obtain rfl := Option.some.inj H
        go_enter Try.func43, Try.ntmps43
        go_wp2
        go_ret
        exact ⟨by first | rfl | (simp; done) | (simp [*]; done), by repeat (first | exact Drawn0.refl _ | apply Drawn0.step)⟩
    · rw [if_neg c4] at H
      have c4b0 : decide (1 ≤ a1) = false := decide_eq_false c4
      clear c4
      obtain rfl := Option.some.inj H
      go_enter Try.func43, Try.ntmps43
      go_wp2
      go_ret
      exact ⟨by first | rfl | (simp; done) | (simp [*]; done), by repeat (first | exact Drawn0.refl _ | apply Drawn0.step)⟩
  · rw [if_neg c3] at H
    have c3b0 : decide (0 ≤ a0) = false := decide_eq_false c3
    clear c3
    obtain rfl := Option.some.inj H
    go_enter Try.func43, Try.ntmps43
    go_wp2
    go_ret
    exact ⟨by first | rfl | (simp; done) | (simp [*]; done), by repeat (first | exact Drawn0.refl _ | apply Drawn0.step)⟩

/-! ### impl_Field: function 26 -/
def impl_Field.f (a0 : Int) (a1 : Int) (a2 : Int) : Option (Int) := (impl_yfieldOk.f a1 a2).bind fun t104 => (if t104 = true then ((impl_Word.f a0).bind fun t105 => (if 0 ≤ a1 then (if 0 ≤ a2 then (some (Go.bits .and .i64 (shr .i64 t105 a1) (wrap64 ((shl .i64 1 a2) - 1)))) else (none)) else (none))) else (some 0))
set_option maxHeartbeats 8000000 in
set_option maxRecDepth 100000 in
theorem impl_Field.calls (a0 : Int) (a1 : Int) (a2 : Int) (r : Int) (w : World) (h : impl_Field.f a0 a1 a2 = some r) :
    Calls Try.prog 26 #[.int .i64 a0, .int .i64 a1, .int .i64 a2] w fun e w' => e = .returned (.int .i64 r) ∧ Drawn0 w w' := by
  have H : ((impl_yfieldOk.f a1 a2).bind fun t104 => (if t104 = true then ((impl_Word.f a0).bind fun t105 => (if 0 ≤ a1 then (if 0 ≤ a2 then (some (Go.bits .and .i64 (shr .i64 t105 a1) (wrap64 ((shl .i64 1 a2) - 1)))) else (none)) else (none))) else (some 0))) = some r := h
  clear h
  replace H := Option.bind_eq_some_iff.mp H
  obtain ⟨t104, A40, H⟩ := H
  replace H : (if t104 = true then ((impl_Word.f a0).bind fun t105 => (if 0 ≤ a1 then (if 0 ≤ a2 then (some (Go.bits .and .i64 (shr .i64 t105 a1) (wrap64 ((shl .i64 1 a2) - 1)))) else (none)) else (none))) else (some 0)) = some r := H
  have A4 := Aside0.mk A40
  clear A40
  by_cases c5 : t104 = true
  · subst c5
    have H1 : ((impl_Word.f a0).bind fun t105 => (if 0 ≤ a1 then (if 0 ≤ a2 then (some (Go.bits .and .i64 (shr .i64 t105 a1) (wrap64 ((shl .i64 1 a2) - 1)))) else (none)) else (none))) = some r := by rw [if_pos rfl] at H; exact H
    clear H
    have H := H1
    clear H1
    replace H := Option.bind_eq_some_iff.mp H
    obtain ⟨t105, A60, H⟩ := H
    replace H : (if 0 ≤ a1 then (if 0 ≤ a2 then (some (Go.bits .and .i64 (shr .i64 t105 a1) (wrap64 ((shl .i64 1 a2) - 1)))) else (none)) else (none)) = some r := H
    have A6 := Aside0.mk A60
    clear A60
    by_cases c7 : 0 ≤ a1
    · rw [if_pos c7] at H
      have c7b0 := eq_true c7
      have c7b1 : decide (0 ≤ a1) = true := decide_eq_true c7
      clear c7
      obtain ⟨ji8, hji8⟩ : ∃ j_ : Int, (shr .i64 t105 a1) = j_ := ⟨_, rfl⟩
      replace H : (if 0 ≤ a2 then (some (Go.bits .and .i64 (ji8) (wrap64 ((shl .i64 1 a2) - 1)))) else (none)) = some r := by first | (rw [hji8] at H; exact H) | (simp only [hji8] at H ⊢; exact H)
      (try rw [hji8] at A4)
      (try rw [hji8] at A6)
      have hji8_ : (t105 / 2 ^ min a1.toNat 64) = ji8 := hji8
      have hji8z : a1 ≤ 64 → (t105 / 2 ^ a1.toNat) = ji8 := shr_small hji8
      by_cases c9 : 0 ≤ a2
      · rw [if_pos c9] at H
        have c9b0 := eq_true c9
        have c9b1 : decide (0 ≤ a2) = true := decide_eq_true c9
        clear c9
        obtain ⟨ji10, hji10⟩ : ∃ j_ : Int, (shl .i64 1 a2) = j_ := ⟨_, rfl⟩
        replace H : (some (Go.bits .and .i64 (ji8) (wrap64 ((ji10) - 1)))) = some r := by first | (rw [hji10] at H; exact H) | (simp only [hji10] at H ⊢; exact H)
        (try rw [hji10] at A4)
        (try rw [hji10] at A6)
        have hji10_ : (IntKind.i64.wrap (1 * 2 ^ min a2.toNat 64)) = ji10 := hji10
        have hji10z : a2 ≤ 64 → (IntKind.i64.wrap (1 * 2 ^ a2.toNat)) = ji10 := shl_small hji10
        have hji10u : (IntKind.i64.wrap (2 ^ min a2.toNat 64)) = ji10 := by have h_ := hji10_; rw [Int.one_mul] at h_; exact h_
        have hji10v : a2 ≤ 64 → (IntKind.i64.wrap (2 ^ a2.toNat)) = ji10 := fun hle_ => by have h_ := hji10z hle_; rw [Int.one_mul] at h_; exact h_
        have hji10y : (wrap64 (1 * 2 ^ min a2.toNat 64)) = ji10 := (i64_w _).symm.trans hji10_
        have hji10x : a2 ≤ 64 → (wrap64 (1 * 2 ^ a2.toNat)) = ji10 := fun h_ => (i64_w _).symm.trans (hji10z h_)
        obtain rfl := Option.some.inj H
        go_enter Try.func26, Try.ntmps26
        go_wp2_with (first | (go_at_call 43; (with_reducible refine (impl_yfieldOk.calls a1 a2 true _ A4.out).mono ?_); rintro e w' ⟨rfl, ⟨nd, rfl⟩⟩; (try first | exact ⟨rfl, _, World.drewN_drewN _ _ _⟩ | exact ⟨rfl, _, Eq.trans (World.drewN_drewN _ _ _) (congrArg (World.drewN _) (Nat.add_assoc _ _ _))⟩)) | (go_at_call 16; (with_reducible refine (impl_Word.calls a0 t105 _ A6.out).mono ?_); rintro e w' ⟨rfl, ⟨nd, rfl⟩⟩; (try first | exact ⟨rfl, _, World.drewN_drewN _ _ _⟩ | exact ⟨rfl, _, Eq.trans (World.drewN_drewN _ _ _) (congrArg (World.drewN _) (Nat.add_assoc _ _ _))⟩)))
        repeat (go_quiet (first | (go_at_call 43; (with_reducible refine (impl_yfieldOk.calls a1 a2 true _ A4.out).mono ?_); rintro e w' ⟨rfl, ⟨nd, rfl⟩⟩; (try first | exact ⟨rfl, _, World.drewN_drewN _ _ _⟩ | exact ⟨rfl, _, Eq.trans (World.drewN_drewN _ _ _) (congrArg (World.drewN _) (Nat.add_assoc _ _ _))⟩)) | (go_at_call 16; (with_reducible refine (impl_Word.calls a0 t105 _ A6.out).mono ?_); rintro e w' ⟨rfl, ⟨nd, rfl⟩⟩; (try first | exact ⟨rfl, _, World.drewN_drewN _ _ _⟩ | exact ⟨rfl, _, Eq.trans (World.drewN_drewN _ _ _) (congrArg (World.drewN _) (Nat.add_assoc _ _ _))⟩))); try go_wp2_with (first | (go_at_call 43; (with_reducible refine (impl_yfieldOk.calls a1 a2 true _ A4.out).mono ?_); rintro e w' ⟨rfl, ⟨nd, rfl⟩⟩; (try first | exact ⟨rfl, _, World.drewN_drewN _ _ _⟩ | exact ⟨rfl, _, Eq.trans (World.drewN_drewN _ _ _) (congrArg (World.drewN _) (Nat.add_assoc _ _ _))⟩)) | (go_at_call 16; (with_reducible refine (impl_Word.calls a0 t105 _ A6.out).mono ?_); rintro e w' ⟨rfl, ⟨nd, rfl⟩⟩; (try first | exact ⟨rfl, _, World.drewN_drewN _ _ _⟩ | exact ⟨rfl, _, Eq.trans (World.drewN_drewN _ _ _) (congrArg (World.drewN _) (Nat.add_assoc _ _ _))⟩))))
        go_ret
        exact ⟨by first | rfl | (simp; done) | (simp only [← hji8, ← hji10] <;> (first | rfl | simp)) | (simp [*]; done), by repeat (first | exact Drawn0.refl _ | apply Drawn0.step)⟩
      · rw [if_neg c9] at H
        exact absurd H (by simp)
    · rw [if_neg c7] at H
      exact absurd H (by simp)
  · replace c5 := Bool.eq_false_iff.mpr c5
    subst c5
    have H1 : (some 0) = some r := by rw [if_neg (show ¬ (false = true) by decide)] at H; exact H
    clear H
    have H := H1
    clear H1
    obtain rfl := Option.some.inj H
    go_enter Try.func26, Try.ntmps26
    go_wp2_with (first | (go_at_call 43; (with_reducible refine (impl_yfieldOk.calls a1 a2 false _ A4.out).mono ?_); rintro e w' ⟨rfl, ⟨nd, rfl⟩⟩; (try first | exact ⟨rfl, _, World.drewN_drewN _ _ _⟩ | exact ⟨rfl, _, Eq.trans (World.drewN_drewN _ _ _) (congrArg (World.drewN _) (Nat.add_assoc _ _ _))⟩)))
    repeat (go_quiet (first | (go_at_call 43; (with_reducible refine (impl_yfieldOk.calls a1 a2 false _ A4.out).mono ?_); rintro e w' ⟨rfl, ⟨nd, rfl⟩⟩; (try first | exact ⟨rfl, _, World.drewN_drewN _ _ _⟩ | exact ⟨rfl, _, Eq.trans (World.drewN_drewN _ _ _) (congrArg (World.drewN _) (Nat.add_assoc _ _ _))⟩))); try go_wp2_with (first | (go_at_call 43; (with_reducible refine (impl_yfieldOk.calls a1 a2 false _ A4.out).mono ?_); rintro e w' ⟨rfl, ⟨nd, rfl⟩⟩; (try first | exact ⟨rfl, _, World.drewN_drewN _ _ _⟩ | exact ⟨rfl, _, Eq.trans (World.drewN_drewN _ _ _) (congrArg (World.drewN _) (Nat.add_assoc _ _ _))⟩))))
    go_ret
    exact ⟨by first | rfl | (simp; done) | (simp [*]; done), by repeat (first | exact Drawn0.refl _ | apply Drawn0.step)⟩

/-! ### laws_FnExactField: function 9 -/
def laws_FnExactField.f (a0 : Int) (a1 : Int) (a2 : Int) : Option (Bool) := (spec_Field.f a0 a1 a2).bind fun t106 => ((impl_Field.f a0 a1 a2).bind fun t107 => (if t107 = t106 then (some true) else (some false)))
set_option maxHeartbeats 8000000 in
set_option maxRecDepth 100000 in
theorem laws_FnExactField.calls (a0 : Int) (a1 : Int) (a2 : Int) (r : Bool) (w : World) (h : laws_FnExactField.f a0 a1 a2 = some r) :
    Calls Try.prog 9 #[.int .i64 a0, .int .i64 a1, .int .i64 a2] w fun e w' => e = .returned (.bool r) ∧ Drawn0 w w' := by
  have H : ((spec_Field.f a0 a1 a2).bind fun t106 => ((impl_Field.f a0 a1 a2).bind fun t107 => (if t107 = t106 then (some true) else (some false)))) = some r := h
  clear h
  replace H := Option.bind_eq_some_iff.mp H
  obtain ⟨t106, A40, H⟩ := H
  replace H : ((impl_Field.f a0 a1 a2).bind fun t107 => (if t107 = t106 then (some true) else (some false))) = some r := H
  have A4 := Aside0.mk A40
  clear A40
  replace H := Option.bind_eq_some_iff.mp H
  obtain ⟨t107, A50, H⟩ := H
  replace H : (if t107 = t106 then (some true) else (some false)) = some r := H
  have A5 := Aside0.mk A50
  clear A50
  by_cases c6 : t107 = t106
  · rw [if_pos c6] at H
    have c6b0 : (t107 == t106) = true := beq_iff_eq.mpr c6
    have c6b1 : (t107 != t106) = false := bne_eq_false_iff_eq.mpr c6
    clear c6
    obtain rfl := Option.some.inj H
    go_enter Try.func9, Try.ntmps9
    go_wp2_with (first | ((with_reducible refine gate_callee (f := 25) rfl ?_); refine goesL_ (some 12) rfl rfl Try.func25 (by kernel_rfl) rfl #[.int .i64 a0, .int .i64 a1, .int .i64 a2] rfl (by (try simp only [List.map_toArray, List.map_cons, List.map_nil]); first | done | rfl | (simp only [List.length_drop, List.length_take]; rfl)) ?_; (with_reducible refine (spec_Field.calls a0 a1 a2 t106 _ A4.out).mono ?_); rintro e w' ⟨rfl, ⟨nd, rfl⟩⟩; refine ⟨_, rfl, ?_⟩) | ((with_reducible refine gate_callee (f := 26) rfl ?_); refine goesL_ (some 16) rfl rfl Try.func26 (by kernel_rfl) rfl #[.int .i64 a0, .int .i64 a1, .int .i64 a2] rfl (by (try simp only [List.map_toArray, List.map_cons, List.map_nil]); first | done | rfl | (simp only [List.length_drop, List.length_take]; rfl)) ?_; (with_reducible refine (impl_Field.calls a0 a1 a2 t107 _ A5.out).mono ?_); rintro e w' ⟨rfl, ⟨nd, rfl⟩⟩; refine ⟨_, rfl, ?_⟩))
    go_ret
    exact ⟨by first | rfl | (simp; done) | (simp [*]; done), by repeat (first | exact Drawn0.refl _ | apply Drawn0.step)⟩
  · rw [if_neg c6] at H
    have c6b0 : (t107 == t106) = false := beq_eq_false_iff_ne.mpr c6
    have c6b1 : (t107 != t106) = true := bne_iff_ne.mpr c6
    obtain rfl := Option.some.inj H
    go_enter Try.func9, Try.ntmps9
    go_wp2_with (first | ((with_reducible refine gate_callee (f := 25) rfl ?_); refine goesL_ (some 12) rfl rfl Try.func25 (by kernel_rfl) rfl #[.int .i64 a0, .int .i64 a1, .int .i64 a2] rfl (by (try simp only [List.map_toArray, List.map_cons, List.map_nil]); first | done | rfl | (simp only [List.length_drop, List.length_take]; rfl)) ?_; (with_reducible refine (spec_Field.calls a0 a1 a2 t106 _ A4.out).mono ?_); rintro e w' ⟨rfl, ⟨nd, rfl⟩⟩; refine ⟨_, rfl, ?_⟩) | ((with_reducible refine gate_callee (f := 26) rfl ?_); refine goesL_ (some 16) rfl rfl Try.func26 (by kernel_rfl) rfl #[.int .i64 a0, .int .i64 a1, .int .i64 a2] rfl (by (try simp only [List.map_toArray, List.map_cons, List.map_nil]); first | done | rfl | (simp only [List.length_drop, List.length_take]; rfl)) ?_; (with_reducible refine (impl_Field.calls a0 a1 a2 t107 _ A5.out).mono ?_); rintro e w' ⟨rfl, ⟨nd, rfl⟩⟩; refine ⟨_, rfl, ?_⟩))
    go_ret
    exact ⟨by first | rfl | (simp; done) | (simp [*]; done), by repeat (first | exact Drawn0.refl _ | apply Drawn0.step)⟩

/-- THE ONE PURE STATEMENT of laws_FnExactField: yours. -/
def laws_FnExactField.Pure : Prop := ∀ (a0 : Int) (a1 : Int) (a2 : Int), (Lit.int .i64 a0).wf = true → (Lit.int .i64 a1).wf = true → (Lit.int .i64 a2).wf = true → laws_FnExactField.f a0 a1 a2 = some true
theorem laws_FnExactField.walk (P : laws_FnExactField.Pure) (a0 : Int) (a1 : Int) (a2 : Int) (w : World) (w0 : (Lit.int .i64 a0).wf = true) (w1 : (Lit.int .i64 a1).wf = true) (w2 : (Lit.int .i64 a2).wf = true) :
    Calls Try.prog 9 #[.int .i64 a0, .int .i64 a1, .int .i64 a2] w fun e w' => e = .returned (.bool true) ∧ Below w.heap.size w w' := by
  have h := P a0 a1 a2 w0 w1 w2
  refine (laws_FnExactField.calls a0 a1 a2 true w h).mono ?_
  rintro e w' ⟨rfl, hd⟩
  exact ⟨rfl, hd.below⟩

end Go.Proofs.Ytknmfmdjphmelaa.PFnExactField
