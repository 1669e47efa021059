-- Written for this claim by this session's own driver (wip/xprint.py).
import Derived.Test.YtpcpjkbjadgoiaaQFnExactCryptDiskx0
namespace Go.Proofs.Ytpcpjkbjadgoiaa.QFnExactCryptDisk
open Go.RowKit Go.Proofs.YtpcpjkbjadgoiaaW.PrintWords Go.Proofs.YtpcpjkbjadgoiaaW.PrintLast Go.Proofs.YtpcpjkbjadgoiaaW.PrintMore
attribute [local go_sem] max2_int min2_int max_two min_two max_three min_three max_four min_four   -- for this text's walks alone
set_option linter.unusedVariables false
set_option linter.unusedSimpArgs false

/-! ### spec_l01Mod: function 49 -/
def spec_l01Mod.f (a0 : Int) (a1 : Int) : Option (Int) := if a1 = 0 then (none) else (if (Int.tmod a0 a1) < 0 then (some (wrap64 ((Int.tmod a0 a1) + a1))) else (some (Int.tmod a0 a1)))
set_option maxHeartbeats 8000000 in
set_option maxRecDepth 100000 in
theorem spec_l01Mod.calls (a0 : Int) (a1 : Int) (r : Int) (w : World) (h : spec_l01Mod.f a0 a1 = some r) :
    Calls Try.prog 49 #[.int .i64 a0, .int .i64 a1] w fun e w' => e = .returned (.int .i64 r) ∧ Drawn0 w w' := by
  have H : (if a1 = 0 then (none) else (if (Int.tmod a0 a1) < 0 then (some (wrap64 ((Int.tmod a0 a1) + a1))) else (some (Int.tmod a0 a1)))) = some r := h
  clear h
  by_cases c3 : a1 = 0
  · rw [if_pos c3] at H
    exact absurd H (by simp)
  · rw [if_neg c3] at H
    have c3b0 : (a1 == 0) = false := beq_eq_false_iff_ne.mpr c3
    have c3b1 : (a1 != 0) = true := bne_iff_ne.mpr c3
    by_cases c4 : (Int.tmod a0 a1) < 0
    · rw [if_pos c4] at H
      have c4b0 : decide ((Int.tmod a0 a1) < 0) = true := decide_eq_true c4
      clear c4
      obtain rfl := Option.some.inj H
      go_enter Try.func49, Try.ntmps49
      go_wp2
      go_ret
      exact ⟨by first | rfl | (simp; done) | (simp [*]; done), by repeat (first | exact Drawn0.refl _ | apply Drawn0.step)⟩
    · rw [if_neg c4] at H
      have c4b0 : decide ((Int.tmod a0 a1) < 0) = false := decide_eq_false c4
      clear c4
      obtain rfl := Option.some.inj H
      go_enter Try.func49, Try.ntmps49
      go_wp2
      go_ret
      exact ⟨by first | rfl | (simp; done) | (simp [*]; done), by repeat (first | exact Drawn0.refl _ | apply Drawn0.step)⟩

/-! ### spec_Word: function 48 -/
def spec_Word.f (a0 : Int) : Option (Int) := (spec_l01Mod.f a0 4294967296).bind fun t101 => (some t101)
set_option maxHeartbeats 8000000 in
set_option maxRecDepth 100000 in
theorem spec_Word.calls (a0 : Int) (r : Int) (w : World) (h : spec_Word.f a0 = some r) :
    Calls Try.prog 48 #[.int .i64 a0] w fun e w' => e = .returned (.int .i64 r) ∧ Drawn0 w w' := by
  have H : ((spec_l01Mod.f a0 4294967296).bind fun t101 => (some t101)) = some r := h
  clear h
  replace H := Option.bind_eq_some_iff.mp H
  obtain ⟨t101, A20, H⟩ := H
  replace H : (some t101) = some r := H
  have A2 := Aside0.mk A20
  clear A20
  obtain rfl := Option.some.inj H
  go_enter Try.func48, Try.ntmps48
  go_wp2_with (first | ((with_reducible refine gate_callee (f := 49) rfl ?_); refine goesL_ (some 4) rfl rfl Try.func49 (by kernel_rfl) rfl #[.int .i64 a0, .int .i64 4294967296] rfl (by (try simp only [List.map_toArray, List.map_cons, List.map_nil]); first | done | rfl | (simp only [List.length_drop, List.length_take]; rfl)) ?_; (with_reducible refine (spec_l01Mod.calls a0 4294967296 t101 _ A2.out).mono ?_); rintro e w' ⟨rfl, ⟨nd, rfl⟩⟩; refine ⟨_, rfl, ?_⟩))
  go_ret
  exact ⟨by first | rfl | (simp; done) | (simp [*]; done), by repeat (first | exact Drawn0.refl _ | apply Drawn0.step)⟩

/-! ### spec_PutWord: function 24 -/
def spec_PutWord.f (a0 : Int) : Option (ByteArray) := (spec_Word.f a0).bind fun t102 => (some (strOfNums (([(t102) % 256, (t102 / 256) % 256, (t102 / 65536) % 256, (t102 / 16777216) % 256] : List Int))))
set_option maxHeartbeats 8000000 in
set_option maxRecDepth 100000 in
theorem spec_PutWord.calls (a0 : Int) (r : ByteArray) (w : World) (h : spec_PutWord.f a0 = some r) :
    Calls Try.prog 24 #[.int .i64 a0] w fun e w' => e = .returned (.string r) ∧ Below w.heap.size w w' := by
  have HB := Aside0.mk (Below.refl w.heap.size w)
  have H : ((spec_Word.f a0).bind fun t102 => (some (strOfNums (([(t102) % 256, (t102 / 256) % 256, (t102 / 65536) % 256, (t102 / 16777216) % 256] : List Int))))) = some r := h
  clear h
  replace H := Option.bind_eq_some_iff.mp H
  obtain ⟨t102, A20, H⟩ := H
  replace H : (some (strOfNums (([(t102) % 256, (t102 / 256) % 256, (t102 / 65536) % 256, (t102 / 16777216) % 256] : List Int)))) = some r := H
  have A2 := Aside0.mk A20
  clear A20
  obtain ⟨y103, hy103⟩ : ∃ y_ : List Int, y_ = (([(t102) % 256, (t102 / 256) % 256, (t102 / 65536) % 256, (t102 / 16777216) % 256] : List Int)) := ⟨_, rfl⟩
  replace H : (some (strOfNums y103)) = some r := by first | (rw [hy103]; with_reducible exact H) | (have H2_ := (Option.bind_some _ _).symm.trans H; rw [hy103]; with_reducible exact H2_) | (have H2_ := (Option.bind_some _ _).symm.trans H; with_reducible exact H2_) | with_reducible exact H | (rw [hy103]; exact H) | exact H
  have Ny103 := Aside0.mk hy103
  clear hy103
  obtain rfl := Option.some.inj H
  go_enter Try.func24, Try.ntmps24
  go_wp2_with (first | ((with_reducible refine gate_callee (f := 48) rfl ?_); refine goesL_ (some 5) rfl rfl Try.func48 (by kernel_rfl) rfl #[.int .i64 a0] rfl (by (try simp only [List.map_toArray, List.map_cons, List.map_nil]); first | done | rfl | (simp only [List.length_drop, List.length_take]; rfl)) ?_; (with_reducible refine (spec_Word.calls a0 t102 _ A2.out).mono ?_); rintro e w' ⟨rfl, ⟨nd, rfl⟩⟩; refine ⟨_, rfl, ?_⟩) | ((with_reducible refine gate_dst (N := 17) rfl ?_); refine Kd.R_lit (Kd.int .u8) _ 5 ?hg (N := 17) ?hd (xs := ([(t102) % 256, (t102 / 256) % 256, (t102 / 65536) % 256, (t102 / 16777216) % 256] : List Int)) (inner := [.int .u8 ((t102) % 256), .int .u8 ((t102 / 256) % 256), .int .u8 ((t102 / 65536) % 256), .int .u8 ((t102 / 16777216) % 256)]) (ok := fun _ => True) (okp := fun _ => True) ?hr ?hp (fun _ hk => hk) trivial (Below.refl _ _) (Nat.le_refl _) (by simp) ?_; (case hd => rfl); (case hg => rfl); (case hr => first | (go_simp; done) | (go_simp; rfl)); (case hp => exact (Reps.one (show Kd.M (Kd.int .u8) _ _ _ ((t102) % 256) [.int .u8 ((t102) % 256)] from rfl) (Reps.one (show Kd.M (Kd.int .u8) _ _ _ ((t102 / 256) % 256) [.int .u8 ((t102 / 256) % 256)] from rfl) (Reps.one (show Kd.M (Kd.int .u8) _ _ _ ((t102 / 65536) % 256) [.int .u8 ((t102 / 65536) % 256)] from rfl) (Reps.one (show Kd.M (Kd.int .u8) _ _ _ ((t102 / 16777216) % 256) [.int .u8 ((t102 / 16777216) % 256)] from rfl) (Reps.none _ _)))))); intro v104 w3 ho4 hb hg_ hnew_; clear hg_ hnew_; (first | rw [← Ny103.out] at ho4 | (simp only [Int.reduceToNat] at ho4; rw [← Ny103.out] at ho4)); have n0_ := Aside0.mk (Kd.R_lower ho4 (below_size (by repeat (first | (with_reducible first | exact HB.out | apply below_alloc | apply pw_below_drewN | apply below_drew1) | exact HB.out)))); have n1_ := Aside0.mk (below_step (by repeat (first | (with_reducible first | exact HB.out | apply below_alloc | apply pw_below_drewN | apply below_drew1) | exact HB.out)) hb); clear HB; have HO105 := n0_; have HB := n1_; clear n0_ n1_; clear hb ho4; have hcv5 := own_string (P := Try.prog) Try.underlying45 Try.underlying5 Try.underlying9 (Kd.own_of_R HO105.out)))
  go_ret
  exact ⟨by first | rfl | (simp [errW_none, errW_some] <;> rfl) | (simp [*, errW_none, errW_some] <;> rfl), by repeat (first | (with_reducible first | exact HB.out | apply below_alloc | apply pw_below_drewN | apply below_drew1) | exact HB.out)⟩

/-! ### spec_Mix: function 25 -/
def spec_Mix.l0 : Nat → ByteArray → Int → Int → Option (Int)
  | 0, _, _, _ => none
  | k + 1, x0, x5, x6 => if x6 < (x0.size : Int) then (if 0 ≤ x6 then (spec_Mix.l0 k x0 (Int.tmod (wrap64 ((wrap64 ((wrap64 (x5 * 65599)) + (wrap64 (bt x0 x6)))) + 1)) 2147483629) (wrap64 (x6 + 1))) else (none)) else (some (Int.tmod (wrap64 ((wrap64 (x5 * 40503)) + 77)) 2147483629))
def spec_Mix.f (k : Nat) (a0 : ByteArray) (a1 : Int) : Option (Int) := if (a0.size : Int) > 65536 then (some 0) else ((spec_l01Mod.f a1 2147483629).bind fun t106 => (spec_Mix.l0 k a0 (wrap64 (t106 + 1)) 0))
theorem spec_Mix.mono_l : ∀ k, (∀ y0 y1 y2, LeO (spec_Mix.l0 k y0 y1 y2) (spec_Mix.l0 (k + 1) y0 y1 y2))
  | 0 => fun _ _ _ r h => by simp [spec_Mix.l0] at h
  | k + 1 => by
    have ih0 := spec_Mix.mono_l k
    · intro y0 y1 y2
      unfold spec_Mix.l0
      repeat' first
      | (with_reducible exact ih0 _ _ _)
      | (with_reducible exact LeO.refl _)
      | (with_reducible exact LeO.none _)
      | (with_reducible refine LeO.ite ?_ ?_)
      | (with_reducible refine LeO.bind ?_ (fun _ => ?_))
      | exact ih0 _ _ _
      | exact LeO.none _
      | refine LeO.ite ?_ ?_
      | refine LeO.bind ?_ (fun _ => ?_)
theorem spec_Mix.mono : ∀ a0 a1 k, LeO (spec_Mix.f k a0 a1) (spec_Mix.f (k + 1) a0 a1) := by
  intro a0 a1 k
  have ih0 := spec_Mix.mono_l k
  unfold spec_Mix.f
  repeat' first
      | (with_reducible exact ih0 _ _ _)
      | (with_reducible exact LeO.refl _)
      | (with_reducible exact LeO.none _)
      | (with_reducible refine LeO.ite ?_ ?_)
      | (with_reducible refine LeO.bind ?_ (fun _ => ?_))
      | exact ih0 _ _ _
      | exact LeO.none _
      | refine LeO.ite ?_ ?_
      | refine LeO.bind ?_ (fun _ => ?_)
set_option maxHeartbeats 8000000 in
set_option maxRecDepth 100000 in
theorem spec_Mix.calls (k : Nat) (a0 : ByteArray) (a1 : Int) (r : Int) (w : World) (h : spec_Mix.f k a0 a1 = some r) :
    Calls Try.prog 25 #[.string a0, .int .i64 a1] w fun e w' => e = .returned (.int .i64 r) ∧ Drawn0 w w' := by
  have H : (if (a0.size : Int) > 65536 then (some 0) else ((spec_l01Mod.f a1 2147483629).bind fun t106 => (spec_Mix.l0 k a0 (wrap64 (t106 + 1)) 0))) = some r := h
  clear h
  by_cases c3 : (a0.size : Int) > 65536
  · rw [if_pos c3] at H
    have c3b0 : decide (65536 < (a0.size : Int)) = true := decide_eq_true c3
    have c3b1 : decide (65536 < a0.size) = true := decide_eq_true (by omega)
    clear c3
    obtain rfl := Option.some.inj H
    go_enter Try.func25, Try.ntmps25
    go_wp2
    go_ret
    exact ⟨by first | rfl | (simp; done) | (simp [*]; done), by repeat (first | exact Drawn0.refl _ | apply Drawn0.step)⟩
  · rw [if_neg c3] at H
    have c3b0 : decide (65536 < (a0.size : Int)) = false := decide_eq_false c3
    have c3b1 : decide (65536 < a0.size) = false := decide_eq_false (by omega)
    clear c3
    replace H := Option.bind_eq_some_iff.mp H
    obtain ⟨t106, A40, H⟩ := H
    replace H : (spec_Mix.l0 k a0 (wrap64 (t106 + 1)) 0) = some r := H
    have A4 := Aside0.mk A40
    clear A40
    have H' := Aside0.mk H
    clear H
    go_enter Try.func25, Try.ntmps25
    go_wp2_with (first | ((with_reducible refine gate_callee (f := 49) rfl ?_); refine goesL_ (some 11) rfl rfl Try.func49 (by kernel_rfl) rfl #[.int .i64 a1, .int .i64 2147483629] rfl (by (try simp only [List.map_toArray, List.map_cons, List.map_nil]); first | done | rfl | (simp only [List.length_drop, List.length_take]; rfl)) ?_; (with_reducible refine (spec_l01Mod.calls a1 2147483629 t106 _ A4.out).mono ?_); rintro e w' ⟨rfl, ⟨nd, rfl⟩⟩; refine ⟨_, rfl, ?_⟩))
    go_loopg [5, 6] k (fun kq v5 v6 w' => ∃ (x5_1 : Int) (x6_1 : Int), v5 = .int .i64 x5_1 ∧ v6 = .int .i64 x6_1 ∧ Aside0 (spec_Mix.l0 kq a0 x5_1 x6_1 = some r) ∧ Aside0 (kq ≤ k) ∧ Drawn0 w w')
    case atStart => exact ⟨(wrap64 (t106 + 1)), (0), (by first | rfl | (simp; done) | (simp [*]; done)), (by first | rfl | (simp; done) | (simp [*]; done)), H', ⟨Nat.le_refl _⟩, by repeat (first | exact Drawn0.refl _ | apply Drawn0.step)⟩
    case round =>
      clear H'
      try clear c2
      try clear p2
      try clear c3
      try clear c3b0
      try clear c3b1
      try clear c4
      obtain ⟨x5_1, x6_1, rfl, rfl, HA, HK1, ⟨m1, rfl⟩⟩ := hrel
      cases gk with
      | zero => exact absurd HA.out (by simp [spec_Mix.l0])
      | succ k1 =>
        have H := HA.out
        clear HA
        simp only [spec_Mix.l0] at H
        by_cases c5 : x6_1 < (a0.size : Int)
        · rw [if_pos c5] at H
          have c5b0 : decide (x6_1 < (a0.size : Int)) = true := decide_eq_true c5
          clear c5
          by_cases c6 : 0 ≤ x6_1
          · rw [if_pos c6] at H
            have c6b0 : decide (0 ≤ x6_1) = true := decide_eq_true c6
            clear c6
            have H' := Aside0.mk H
            clear H
            have p7 : 0 ≤ (x6_1 : Int) := of_decide_eq_true (by first | (with_reducible assumption) | assumption)
            have q7 : x6_1 < (a0.size : Int) := of_decide_eq_true (by first | (with_reducible assumption) | assumption)
            have hx7 := bt_at a0 x6_1
            replace p7 := eq_true p7
            replace q7 := eq_true q7
            go_wp2
            go_roundg k1
            case measure => have := HK1.out; omega
            case rel => exact ⟨(Int.tmod (wrap64 ((wrap64 ((wrap64 (x5_1 * 65599)) + (wrap64 (bt a0 x6_1)))) + 1)) 2147483629), (wrap64 (x6_1 + 1)), (by first | rfl | (simp; done) | (simp [*]; done)), (by first | rfl | (simp; done) | (simp [*]; done)), H', ⟨by have := HK1.out; omega⟩, by repeat (first | exact Drawn0.refl _ | apply Drawn0.step)⟩
          · rw [if_neg c6] at H
            exact absurd H (by simp)
        · rw [if_neg c5] at H
          have c5b0 : decide (x6_1 < (a0.size : Int)) = false := decide_eq_false c5
          clear c5
          obtain rfl := Option.some.inj H
          go_wp2
          go_ret
          exact ⟨by first | rfl | (simp; done) | (simp [*]; done), by repeat (first | exact Drawn0.refl _ | apply Drawn0.step)⟩

/-! ### spec_Crypt: function 7 -/
open Go.Proofs.Ytpcpjkbjadgoiaa.Pl Go.Proofs.Ytpcpjkbjadgoiaa.Cw in
theorem spec_l01Mod_eq (a m : Int) (hm : 0 < m) (hm1 : m ≤ 4611686018427387904) : spec_l01Mod.f a m = some (a % m) := by
  unfold spec_l01Mod.f; rw [if_neg (by omega)]; exact go_mod a m hm hm1
open Go.Proofs.Ytpcpjkbjadgoiaa.Pl Go.Proofs.Ytpcpjkbjadgoiaa.Cw in
theorem spec_mix_ends (s : ByteArray) (hs : (s.size : Int) ≤ 140737488351232) (x : Int) (d : Nat) : ∀ i : Nat, i + d = s.size → Ev (fun k => spec_Mix.l0 k s (mixFrom s x i) i) (mixEnd (mixFrom s x s.size)) := by
  induction d with
  | zero =>
    intro i hi
    obtain rfl : i = s.size := by omega
    exact Ev.step (f := fun _ => some (mixEnd (mixFrom s x s.size))) (fun k => by simp only [spec_Mix.l0]; rw [if_neg (by omega)]; rfl) (Ev.now _)
  | succ d ih =>
    intro i hi
    refine Ev.step (fun k => ?_) (ih (i + 1) (by omega))
    simp only [spec_Mix.l0]
    rw [if_pos (by omega), if_pos (by omega), w64 (a := (i : Int) + 1) (by omega) (by omega)]
    have e1 : ((i : Int) + 1) = ((i + 1 : Nat) : Int) := by omega
    rw [e1]; rfl
open Go.Proofs.Ytpcpjkbjadgoiaa.Pl Go.Proofs.Ytpcpjkbjadgoiaa.Cw in
theorem spec_Mix_ev (s : ByteArray) (seed : Int) (hs : (s.size : Int) ≤ 65536) : Ev (fun k => spec_Mix.f k s seed) (mixOf s seed) := by
  have h0 := Int.emod_nonneg seed (show (2147483629:Int) ≠ 0 by decide)
  have h1 := Int.emod_lt_of_pos seed (show (0:Int) < 2147483629 by decide)
  refine Ev.congr (f := fun k => spec_Mix.l0 k s (mixFrom s (seed % 2147483629 + 1) 0) (0 : Nat)) (fun k => ?_) (spec_mix_ends s (by omega) _ s.size 0 (by omega))
  unfold spec_Mix.f
  rw [if_neg (by omega), spec_l01Mod_eq _ _ (by omega) (by omega)]
  simp only [Option.bind_some]
  rw [w64 (by omega) (by omega)]; rfl
theorem spec_putW (x : Int) : spec_PutWord.f x = some (Go.Proofs.Ytpcpjkbjadgoiaa.Cw.wordTx x) := by
  unfold spec_PutWord.f spec_Word.f
  rw [spec_l01Mod_eq _ _ (by omega) (by omega)]
  simp only [Option.bind_some]
  unfold Go.Proofs.Ytpcpjkbjadgoiaa.Cw.wordTx
  rw [Int.emod_eq_of_lt (a := x % 4294967296 / 16777216) (b := 256) (by omega) (by omega)]
theorem brLen {w : World} {g cap : Nat} {bs : List UInt8} (h : Go.Proofs.Ytpcpjkbjadgoiaa.By.BRow w g cap bs) : bs.length ≤ cap := h.1
theorem cellAt {w : World} {g cap : Nat} {bs : List UInt8} (h : Go.Proofs.Ytpcpjkbjadgoiaa.By.BRow w g cap bs) (j : Nat) (x : UInt8) (hj : bs[j]? = some x) : w.cell? ⟨g, j, none⟩ = some (.int .u8 (x.toNat : Int)) := by
  obtain ⟨hl, rfl⟩ := List.getElem?_eq_some_iff.mp hj
  exact h.cell j hl
def spec_Crypt.f (a0 : ByteArray) (a1 : Int) (a2 : ByteArray) : Option (ByteArray) := if (a0.size : Int) > 4096 then some (⟨#[]⟩ : ByteArray) else if (a2.size : Int) > 65536 then some (⟨#[]⟩ : ByteArray) else some ⟨(Go.Proofs.Ytpcpjkbjadgoiaa.Cw.xorL a0 a1 a2.data.toList).toArray⟩
set_option maxHeartbeats 8000000 in
set_option maxRecDepth 100000 in
theorem spec_Crypt.calls (a0 : ByteArray) (a1 : Int) (a2 : ByteArray) (r : ByteArray) (w : World) (h : spec_Crypt.f a0 a1 a2 = some r) :
    Calls Try.prog 7 #[.string a0, .int .i64 a1, .string a2] w fun e w' => e = .returned (.string r) ∧ Below w.heap.size w w' := by
  unfold spec_Crypt.f at h
  by_cases c0 : (a0.size : Int) > 4096
  · rw [if_pos c0] at h
    obtain rfl := Option.some.inj h
    have n0 : decide (4096 < (a0.size : Int)) = true := decide_eq_true (by omega)
    have n0' : decide (4096 < a0.size) = true := decide_eq_true (by omega)
    clear h
    go_enter Try.func7, Try.ntmps7
    go_wp2
    go_ret
    exact ⟨rfl, Below.refl _ _⟩
  · rw [if_neg c0] at h
    by_cases c1 : (a2.size : Int) > 65536
    · rw [if_pos c1] at h
      obtain rfl := Option.some.inj h
      have n0 : decide (4096 < (a0.size : Int)) = false := decide_eq_false (by omega)
      have n0' : decide (4096 < a0.size) = false := decide_eq_false (by omega)
      have n1 : decide (65536 < (a2.size : Int)) = true := decide_eq_true (by omega)
      have n1' : decide (65536 < a2.size) = true := decide_eq_true (by omega)
      clear h
      go_enter Try.func7, Try.ntmps7
      go_wp2
      go_ret
      exact ⟨rfl, Below.refl _ _⟩
    · rw [if_neg c1] at h
      obtain rfl := Option.some.inj h
      have n0 : decide (4096 < (a0.size : Int)) = false := decide_eq_false (by omega)
      have n0' : decide (4096 < a0.size) = false := decide_eq_false (by omega)
      have n1 : decide (65536 < (a2.size : Int)) = false := decide_eq_false (by omega)
      have n1' : decide (65536 < a2.size) = false := decide_eq_false (by omega)
      have H0 := Aside0.mk c0
      have H1 := Aside0.mk c1
      have kb := fun W => print_bytes (P := Try.prog) 9 45 5 Try.underlying9 Try.underlying45 Try.underlying5 a2 W
      obtain ⟨t, ht⟩ : ∃ t, Go.Proofs.Ytpcpjkbjadgoiaa.Cw.wordTx a1 = t := ⟨_, rfl⟩
      have hpw := fun W => spec_PutWord.calls a1 t W (by rw [spec_putW, ht])
      have hts : t.size = 4 := by rw [← ht]; exact Go.Proofs.Ytpcpjkbjadgoiaa.Cw.wordTx_size _
      have HT := Aside0.mk ht
      have hq1 : ¬ 9223372036854775807 < a0.size + 4 := by omega
      clear h c0 c1 ht
      go_enter Try.func7, Try.ntmps7
      go_wp2_with (go_at_call 24; with_reducible refine (hpw _).mono ?_; rintro e w1 ⟨rfl, hb1⟩)
      have hsz : a2.size ≤ 9223372036854775807 := by have := H1.out; omega
      have R0 := Go.Proofs.Ytpcpjkbjadgoiaa.By.BRow.conv w1 5 a2 hsz
      have B0 : Below w.heap.size w (Lib.bytesWorld w1 5 a2) := hb1.trans (bytes_below (Below.refl _ _) hb1.size _ _)
      have L0 : a2.data.toList.length = a2.size := by rw [Array.length_toList]; rfl
      have G0 : w.heap.size ≤ w1.heap.size := hb1.size
      generalize Lib.bytesWorld w1 5 a2 = W1 at R0 B0 ⊢
      generalize grownCap w1 a2.size 0 5 = cap at R0 ⊢
      generalize w1.heap.size = g at R0 G0 ⊢
      rw [← Go.Proofs.Ytpcpjkbjadgoiaa.Cw.mid_zero a0 a1 a2.data.toList] at R0
      have RA := Aside0.mk R0
      have BA := Aside0.mk B0
      have LA := Aside0.mk L0
      have GA := Aside0.mk G0
      clear R0 B0 L0 G0 hsz hb1
      go_loopg [9, 10] a2.size (fun gg s9 s10 wr => ∃ (kk : Nat) (wv : Int), s10 = .int .i64 kk ∧ s9 = .int .i64 wv ∧ Aside0 (kk ≤ a2.size) ∧ Aside0 (a2.size - kk ≤ gg) ∧ Aside0 (Below w.heap.size w wr) ∧ Aside0 (Go.Proofs.Ytpcpjkbjadgoiaa.By.BRow wr g cap (Go.Proofs.Ytpcpjkbjadgoiaa.Cw.mid a0 a1 a2.data.toList kk)) ∧ Aside0 (kk % 3 ≠ 0 → wv = Go.Proofs.Ytpcpjkbjadgoiaa.Cw.keyAt a0 a1 (kk / 3)))
      case atStart => exact ⟨0, 0, rfl, rfl, ⟨Nat.zero_le _⟩, ⟨by omega⟩, BA, RA, ⟨fun h => absurd rfl h⟩⟩
      case round =>
        obtain ⟨kk, wv, rfl, rfl, hkk, hg, BW, RW, HK⟩ := hrel
        by_cases hlt : kk < a2.size
        · have hltz : (kk : Int) < (a2.size : Int) := by omega
          have hltl : kk < a2.data.toList.length := by rw [LA.out]; exact hlt
          have hb9 : kk ≤ 65536 := by have := H1.out; omega
          have hput := Go.Proofs.Ytpcpjkbjadgoiaa.Cw.mid_put a0 a1 a2.data.toList kk hltl
          have hgx : (Go.Proofs.Ytpcpjkbjadgoiaa.Cw.mid a0 a1 a2.data.toList kk)[kk]? = some a2.data.toList[kk] := by
            rw [Go.Proofs.Ytpcpjkbjadgoiaa.Cw.mid_get _ _ _ _ _ (by omega), if_neg (by omega), List.getElem?_eq_getElem hltl]
          have hml : (Go.Proofs.Ytpcpjkbjadgoiaa.Cw.mid a0 a1 a2.data.toList kk).length = a2.size := by rw [Go.Proofs.Ytpcpjkbjadgoiaa.Cw.mid_length _ _ _ _ (by omega), LA.out]
          generalize a2.data.toList[kk] = x at hput hgx
          have hxb := Go.Proofs.Ytpcpjkbjadgoiaa.Cw.xb_int a0 a1 kk x
          have e9 : wrap64 ((kk : Int) + 1) = ((kk + 1 : Nat) : Int) := by rw [Go.Proofs.Ytpcpjkbjadgoiaa.Pl.w64 (by omega) (by omega)]; omega
          have hx := cellAt RW.out kk x hgx
          have hf := RW.out.frozen kk (by have := RW.out.1; omega)
          obtain ⟨d, hd⟩ : ∃ d : Nat, kk / 3 = d := ⟨_, rfl⟩
          have htd : Int.tdiv (kk : Int) 3 = (d : Int) := by rw [Int.tdiv_eq_ediv_of_nonneg (by omega)]; omega
          have HPU := Aside0.mk hput
          have HGX := Aside0.mk hgx
          have HML := Aside0.mk hml
          have HXB := Aside0.mk hxb
          have E9 := Aside0.mk e9
          have HD := Aside0.mk hd
          clear hput hgx hml hxb e9 hd hltl
          by_cases c3 : kk % 3 = 0
          · have ht3 : Int.tmod (kk : Int) 3 = 0 := by rw [Int.tmod_eq_emod_of_nonneg (by omega)]; omega
            obtain ⟨t2, ht2⟩ : ∃ t2, Go.Proofs.Ytpcpjkbjadgoiaa.Cw.wordTx (d : Int) = t2 := ⟨_, rfl⟩
            have hp2 := fun W => spec_PutWord.calls (d : Int) t2 W (by rw [spec_putW, ht2])
            have hts2 : t2.size = 4 := by rw [← ht2]; exact Go.Proofs.Ytpcpjkbjadgoiaa.Cw.wordTx_size _
            have hsum : (a0 ++ t ++ t2).size = a0.size + 4 + 4 := by rw [ByteArray.size_append, ByteArray.size_append, hts, hts2]
            have hq2 : ¬ 9223372036854775807 < a0.size + 4 + 4 := by have := H0.out; omega
            obtain ⟨km, hkm⟩ := spec_Mix_ev (a0 ++ t ++ t2) 11 (by rw [hsum]; have := H0.out; omega)
            have wd : wrap64 (d : Int) = (d : Int) := Go.Proofs.Ytpcpjkbjadgoiaa.Pl.w64 (by omega) (by have := HD.out; omega)
            have wd2 : IntKind.i64.wrap (d : Int) = (d : Int) := by rw [Go.Proofs.Ytpcpjkbjadgoiaa.Pl.i64w]; exact wd
            have hmx := fun W => spec_Mix.calls km (a0 ++ t ++ t2) 11 _ W (hkm km (Nat.le_refl _))
            have hkey : Go.Proofs.Ytpcpjkbjadgoiaa.Cw.mixOf (a0 ++ t ++ t2) 11 = Go.Proofs.Ytpcpjkbjadgoiaa.Cw.keyAt a0 a1 d := by unfold Go.Proofs.Ytpcpjkbjadgoiaa.Cw.keyAt; rw [HT.out, ht2]
            rw [hkey] at hmx
            obtain ⟨v, hv⟩ : ∃ v, Go.Proofs.Ytpcpjkbjadgoiaa.Cw.keyAt a0 a1 d = v := ⟨_, rfl⟩
            rw [hv] at hmx
            have HV := Aside0.mk hv
            clear hkm hkey hv ht2 hsum
            go_wp2_with (first | (go_at_call 24; with_reducible refine (hp2 _).mono ?_; rintro e w3 ⟨rfl, hb3⟩; have BW3 := Aside0.mk (BW.out.trans (hb3.mono BW.out.size)); have RW3 := Aside0.mk (RW.out.below hb3 RW.out.lt); have hx3 := cellAt RW3.out kk x HGX.out; have hf3 := RW3.out.frozen kk (by have := brLen RW3.out; have := HML.out; omega); clear hb3) | (go_at_call 25; with_reducible refine (hmx _).mono ?_; rintro e w4 ⟨rfl, ⟨m4, rfl⟩⟩))
            have hval : Go.bits .xor .u8 (x.toNat : Int) (v % 256) = Go.Proofs.Ytpcpjkbjadgoiaa.Cw.xv a0 a1 kk x := by
              unfold Go.Proofs.Ytpcpjkbjadgoiaa.Cw.xv
              rw [HD.out, HV.out, c3, Nat.mul_zero, Int.pow_zero, Int.ediv_one, IntKind.wrap_u8]
            have hR2 := (RW3.out.drewN m4).set kk (Go.Proofs.Ytpcpjkbjadgoiaa.Cw.xb a0 a1 kk x) (by have := HML.out; omega) (by have := brLen RW3.out; have := HML.out; omega)
            rw [HXB.out, HPU.out, ← hval] at hR2
            have hB2 := Below.setCell (pw_below_drewN BW3.out m4) (p := ⟨g, kk, none⟩) (by exact GA.out) (.int .u8 (Go.bits .xor .u8 (x.toNat : Int) (v % 256)))
            go_roundg (a2.size - (kk + 1))
            case measure => have := hg.out; omega
            case rel => exact ⟨kk + 1, v, rfl, rfl, ⟨hlt⟩, ⟨by omega⟩, ⟨hB2⟩, ⟨hR2⟩, ⟨fun _ => by rw [show (kk + 1) / 3 = d from by have := HD.out; omega]; exact HV.out.symm⟩⟩
          · have hwv := HK.out c3
            rw [HD.out] at hwv
            by_cases c1 : kk % 3 = 1
            · have ht3 : Int.tmod (kk : Int) 3 = 1 := by rw [Int.tmod_eq_emod_of_nonneg (by omega)]; omega
              have HWV := Aside0.mk hwv
              clear hwv
              go_wp2
              have hval : Go.bits .xor .u8 (x.toNat : Int) (wv / 256 % 256) = Go.Proofs.Ytpcpjkbjadgoiaa.Cw.xv a0 a1 kk x := by
                unfold Go.Proofs.Ytpcpjkbjadgoiaa.Cw.xv
                rw [HD.out, ← HWV.out, c1, IntKind.wrap_u8]
                rfl
              have hR2 := RW.out.set kk (Go.Proofs.Ytpcpjkbjadgoiaa.Cw.xb a0 a1 kk x) (by have := HML.out; omega) (by have := brLen RW.out; have := HML.out; omega)
              rw [HXB.out, HPU.out, ← hval] at hR2
              have hB2 := Below.setCell BW.out (p := ⟨g, kk, none⟩) (by exact GA.out) (.int .u8 (Go.bits .xor .u8 (x.toNat : Int) (wv / 256 % 256)))
              go_roundg (a2.size - (kk + 1))
              case measure => have := hg.out; omega
              case rel => exact ⟨kk + 1, wv, rfl, rfl, ⟨hlt⟩, ⟨by omega⟩, ⟨hB2⟩, ⟨hR2⟩, ⟨fun _ => by rw [show (kk + 1) / 3 = d from by have := HD.out; omega]; exact HWV.out⟩⟩
            · have ht3 : Int.tmod (kk : Int) 3 = 2 := by rw [Int.tmod_eq_emod_of_nonneg (by omega)]; omega
              have HWV := Aside0.mk hwv
              clear hwv
              go_wp2
              have hval : Go.bits .xor .u8 (x.toNat : Int) (wv / 65536 % 256) = Go.Proofs.Ytpcpjkbjadgoiaa.Cw.xv a0 a1 kk x := by
                unfold Go.Proofs.Ytpcpjkbjadgoiaa.Cw.xv
                rw [HD.out, ← HWV.out, show kk % 3 = 2 from by omega, IntKind.wrap_u8]
                rfl
              have hR2 := RW.out.set kk (Go.Proofs.Ytpcpjkbjadgoiaa.Cw.xb a0 a1 kk x) (by have := HML.out; omega) (by have := brLen RW.out; have := HML.out; omega)
              rw [HXB.out, HPU.out, ← hval] at hR2
              have hB2 := Below.setCell BW.out (p := ⟨g, kk, none⟩) (by exact GA.out) (.int .u8 (Go.bits .xor .u8 (x.toNat : Int) (wv / 65536 % 256)))
              go_roundg (a2.size - (kk + 1))
              case measure => have := hg.out; omega
              case rel => exact ⟨kk + 1, wv, rfl, rfl, ⟨hlt⟩, ⟨by omega⟩, ⟨hB2⟩, ⟨hR2⟩, ⟨fun h3 => absurd (show (kk + 1) % 3 = 0 from by omega) h3⟩⟩
        · have hltz : ¬ (kk : Int) < (a2.size : Int) := by omega
          have hkn : kk = a2.size := by have := hkk.out; omega
          subst hkn
          have RF := RW.out
          rw [← LA.out, Go.Proofs.Ytpcpjkbjadgoiaa.Cw.mid_all] at RF
          have kc := fun c => RF.back (P := Try.prog) 45 9 5 Try.underlying45 Try.underlying5 Try.underlying9 c a2.size (by rw [Go.Proofs.Ytpcpjkbjadgoiaa.Cw.xorL_length, LA.out])
          clear RF
          go_wp2
          go_ret
          exact ⟨rfl, BW.out⟩

/-! ### spec_CryptDisk: function 9 -/
mutual
def spec_CryptDisk.j0 : Nat → ByteArray → ByteArray → Bool → Option (ByteArray)
  | 0, _, _, _ => none
  | k + 1, x0, x1, x20 => if x20 = true then (some (⟨#[]⟩ : ByteArray)) else (spec_CryptDisk.l0 k x0 x1 (⟨#[]⟩ : ByteArray) 0)
def spec_CryptDisk.l0 : Nat → ByteArray → ByteArray → ByteArray → Int → Option (ByteArray)
  | 0, _, _, _, _ => none
  | k + 1, x0, x1, x5, x6 => if (wrap64 (x6 * 16)) < (x1.size : Int) then (if 0 ≤ (wrap64 (x6 * 16)) then (if (wrap64 (x6 * 16)) ≤ (wrap64 ((wrap64 (x6 + 1)) * 16)) then (if (wrap64 ((wrap64 (x6 + 1)) * 16)) ≤ (x1.size : Int) then ((spec_Crypt.f x0 x6 (x1.extract ((wrap64 (x6 * 16)) : Int).toNat ((wrap64 ((wrap64 (x6 + 1)) * 16)) : Int).toNat)).bind fun t107 => (if x5.size + t107.size ≤ 9223372036854775807 then (spec_CryptDisk.l0 k x0 x1 (x5 ++ t107) (wrap64 (x6 + 1))) else (none))) else (none)) else (none)) else (none)) else (some x5)
end
def spec_CryptDisk.f (k : Nat) (a0 : ByteArray) (a1 : ByteArray) : Option (ByteArray) := if (a0.size : Int) > 4096 then (spec_CryptDisk.j0 k a0 a1 true) else (if (a1.size : Int) > 65536 then (spec_CryptDisk.j0 k a0 a1 true) else (spec_CryptDisk.j0 k a0 a1 (((a1.size : Int) % 16) != 0)))
theorem spec_CryptDisk.mono_l : ∀ k, (∀ y0 y1 y2, LeO (spec_CryptDisk.j0 k y0 y1 y2) (spec_CryptDisk.j0 (k + 1) y0 y1 y2)) ∧ (∀ y0 y1 y2 y3, LeO (spec_CryptDisk.l0 k y0 y1 y2 y3) (spec_CryptDisk.l0 (k + 1) y0 y1 y2 y3))
  | 0 => ⟨fun _ _ _ r h => by simp [spec_CryptDisk.j0] at h, fun _ _ _ _ r h => by simp [spec_CryptDisk.l0] at h⟩
  | k + 1 => by
    obtain ⟨ih0, ih1⟩ := spec_CryptDisk.mono_l k
    refine ⟨?_, ?_⟩
    · intro y0 y1 y2
      unfold spec_CryptDisk.j0
      repeat' first
      | (with_reducible exact ih0 _ _ _)
      | (with_reducible exact ih1 _ _ _ _)
      | (with_reducible exact LeO.refl _)
      | (with_reducible exact LeO.none _)
      | (with_reducible refine LeO.ite ?_ ?_)
      | (with_reducible refine LeO.bind ?_ (fun _ => ?_))
      | exact ih0 _ _ _
      | exact ih1 _ _ _ _
      | exact LeO.none _
      | refine LeO.ite ?_ ?_
      | refine LeO.bind ?_ (fun _ => ?_)
    · intro y0 y1 y2 y3
      unfold spec_CryptDisk.l0
      repeat' first
      | (with_reducible exact ih0 _ _ _)
      | (with_reducible exact ih1 _ _ _ _)
      | (with_reducible exact LeO.refl _)
      | (with_reducible exact LeO.none _)
      | (with_reducible refine LeO.ite ?_ ?_)
      | (with_reducible refine LeO.bind ?_ (fun _ => ?_))
      | exact ih0 _ _ _
      | exact ih1 _ _ _ _
      | exact LeO.none _
      | refine LeO.ite ?_ ?_
      | refine LeO.bind ?_ (fun _ => ?_)
theorem spec_CryptDisk.mono : ∀ a0 a1 k, LeO (spec_CryptDisk.f k a0 a1) (spec_CryptDisk.f (k + 1) a0 a1) := by
  intro a0 a1 k
  obtain ⟨ih0, ih1⟩ := spec_CryptDisk.mono_l k
  unfold spec_CryptDisk.f
  repeat' first
      | (with_reducible exact ih0 _ _ _)
      | (with_reducible exact ih1 _ _ _ _)
      | (with_reducible exact LeO.refl _)
      | (with_reducible exact LeO.none _)
      | (with_reducible refine LeO.ite ?_ ?_)
      | (with_reducible refine LeO.bind ?_ (fun _ => ?_))
      | exact ih0 _ _ _
      | exact ih1 _ _ _ _
      | exact LeO.none _
      | refine LeO.ite ?_ ?_
      | refine LeO.bind ?_ (fun _ => ?_)
set_option maxHeartbeats 8000000 in
set_option maxRecDepth 100000 in
theorem spec_CryptDisk.calls (k : Nat) (a0 : ByteArray) (a1 : ByteArray) (r : ByteArray) (w : World) (h : spec_CryptDisk.f k a0 a1 = some r) :
    Calls Try.prog 9 #[.string a0, .string a1] w fun e w' => e = .returned (.string r) ∧ Below w.heap.size w w' := by
  have HB := Aside0.mk (Below.refl w.heap.size w)
  have H : (if (a0.size : Int) > 4096 then (spec_CryptDisk.j0 k a0 a1 true) else (if (a1.size : Int) > 65536 then (spec_CryptDisk.j0 k a0 a1 true) else (spec_CryptDisk.j0 k a0 a1 (((a1.size : Int) % 16) != 0)))) = some r := h
  clear h
  have HC3 := Aside0.mk H
  clear H
  go_enter Try.func9, Try.ntmps9
  go_upto_region 1 with (fail)
  go_cut [20] (fun v20 wc => ∃ (kq : Nat) (x20_2 : Bool), v20 = .bool x20_2 ∧ Aside0 (spec_CryptDisk.j0 kq a0 a1 x20_2 = some r) ∧ Aside0 (kq ≤ k) ∧ Aside0 (Below w.heap.size w wc))
  case first =>
    have H := HC3.out
    clear HC3
    by_cases c4 : (a0.size : Int) > 4096
    · rw [if_pos c4] at H
      have c4b0 : decide (4096 < (a0.size : Int)) = true := decide_eq_true c4
      have c4b1 : decide (4096 < a0.size) = true := decide_eq_true (by omega)
      clear c4
      (first | rw [c4b0] | (simp only [i64_w, i32_w]; rw [c4b0]) | skip)
      have H' := Aside0.mk H
      clear H
      go_wp2
      go_meet
      case rel => exact ⟨_, (true), (by first | rfl | (simp; done) | (simp [*]; done)), H', ⟨by first | omega | exact Nat.le_refl _⟩, ⟨by repeat (first | (with_reducible first | exact HB.out | apply below_alloc | apply pw_below_drewN | apply below_drew1) | exact HB.out)⟩⟩
    · rw [if_neg c4] at H
      have c4b0 : decide (4096 < (a0.size : Int)) = false := decide_eq_false c4
      have c4b1 : decide (4096 < a0.size) = false := decide_eq_false (by omega)
      clear c4
      (first | rw [c4b0] | (simp only [i64_w, i32_w]; rw [c4b0]) | skip)
      by_cases c5 : (a1.size : Int) > 65536
      · rw [if_pos c5] at H
        have c5b0 : decide (65536 < (a1.size : Int)) = true := decide_eq_true c5
        have c5b1 : decide (65536 < a1.size) = true := decide_eq_true (by omega)
        clear c5
        have H' := Aside0.mk H
        clear H
        go_wp2
        go_meet
        case rel => exact ⟨_, (true), (by first | rfl | (simp; done) | (simp [*]; done)), H', ⟨by first | omega | exact Nat.le_refl _⟩, ⟨by repeat (first | (with_reducible first | exact HB.out | apply below_alloc | apply pw_below_drewN | apply below_drew1) | exact HB.out)⟩⟩
      · rw [if_neg c5] at H
        have c5b0 : decide (65536 < (a1.size : Int)) = false := decide_eq_false c5
        have c5b1 : decide (65536 < a1.size) = false := decide_eq_false (by omega)
        clear c5
        have H' := Aside0.mk H
        clear H
        go_wp2
        go_meet
        case rel => exact ⟨_, ((((a1.size : Int) % 16) != 0)), (by first | rfl | (simp; done) | (simp [*]; done)), H', ⟨by first | omega | exact Nat.le_refl _⟩, ⟨by repeat (first | (with_reducible first | exact HB.out | apply below_alloc | apply pw_below_drewN | apply below_drew1) | exact HB.out)⟩⟩
  case rest =>
    clear HC3
    try clear p2
    try clear c4
    try clear c4b0
    try clear c4b1
    try clear c5
    try clear c5b0
    try clear c5b1
    obtain ⟨kq, x20_2, rfl, HA, HJ2, HB⟩ := hcut
    cases kq with
    | zero => exact absurd HA.out (by simp [spec_CryptDisk.j0])
    | succ kj2 =>
      have H := HA.out
      clear HA
      simp only [spec_CryptDisk.j0] at H
      by_cases c6 : x20_2 = true
      · subst c6
        have H1 : (some (⟨#[]⟩ : ByteArray)) = some r := by rw [if_pos rfl] at H; exact H
        clear H
        have H := H1
        clear H1
        obtain rfl := Option.some.inj H
        go_wp2
        go_ret
        exact ⟨by first | rfl | (simp [errW_none, errW_some] <;> rfl) | (simp [*, errW_none, errW_some] <;> rfl), by repeat (first | (with_reducible first | exact HB.out | apply below_alloc | apply pw_below_drewN | apply below_drew1) | exact HB.out)⟩
      · replace c6 := Bool.eq_false_iff.mpr c6
        subst c6
        have H1 : (spec_CryptDisk.l0 kj2 a0 a1 (⟨#[]⟩ : ByteArray) 0) = some r := by rw [if_neg (show ¬ (false = true) by decide)] at H; exact H
        clear H
        have H := H1
        clear H1
        have H' := Aside0.mk H
        clear H
        go_wp2
        go_loopg [5, 6] kj2 (fun kq v5 v6 w' => ∃ (x5_2 : ByteArray) (x6_2 : Int), v5 = .string x5_2 ∧ v6 = .int .i64 x6_2 ∧ Aside0 (spec_CryptDisk.l0 kq a0 a1 x5_2 x6_2 = some r) ∧ Aside0 (kq ≤ kj2) ∧ Aside0 (Below w.heap.size w w'))
        case atStart => exact ⟨((⟨#[]⟩ : ByteArray)), (0), (by first | rfl | (simp; done) | (simp [*]; done)), (by first | rfl | (simp; done) | (simp [*]; done)), H', ⟨Nat.le_refl _⟩, ⟨by repeat (first | (with_reducible first | exact HB.out | apply below_alloc | apply pw_below_drewN | apply below_drew1) | exact HB.out)⟩⟩
        case round =>
          clear H'
          try clear p2
          try clear c4
          try clear c4b0
          try clear c4b1
          try clear c5
          try clear c5b0
          try clear c5b1
          try clear c6
          try clear p2
          obtain ⟨x5_2, x6_2, rfl, rfl, HA, HK2, HB⟩ := hrel
          cases gk with
          | zero => exact absurd HA.out (by simp [spec_CryptDisk.l0])
          | succ k2 =>
            have H := HA.out
            clear HA
            simp only [spec_CryptDisk.l0] at H
            by_cases c7 : (wrap64 (x6_2 * 16)) < (a1.size : Int)
            · rw [if_pos c7] at H
              have c7b0 : decide ((wrap64 (x6_2 * 16)) < (a1.size : Int)) = true := decide_eq_true c7
              clear c7
              obtain ⟨ji8, hji8⟩ : ∃ j_ : Int, (wrap64 (x6_2 * 16)) = j_ := ⟨_, rfl⟩
              replace H : (if 0 ≤ (ji8) then (if (ji8) ≤ (wrap64 ((wrap64 (x6_2 + 1)) * 16)) then (if (wrap64 ((wrap64 (x6_2 + 1)) * 16)) ≤ (a1.size : Int) then ((spec_Crypt.f a0 x6_2 (a1.extract ((ji8) : Int).toNat ((wrap64 ((wrap64 (x6_2 + 1)) * 16)) : Int).toNat)).bind fun t107 => (if x5_2.size + t107.size ≤ 9223372036854775807 then (spec_CryptDisk.l0 k2 a0 a1 (x5_2 ++ t107) (wrap64 (x6_2 + 1))) else (none))) else (none)) else (none)) else (none)) = some r := by first | (rw [hji8] at H; exact H) | (simp only [hji8] at H ⊢; exact H)
              (try rw [hji8] at c7b0)
              have hji8w : (IntKind.i64.wrap (x6_2 * 16)) = ji8 := (i64_w _).trans hji8
              by_cases c9 : 0 ≤ (ji8)
              · rw [if_pos c9] at H
                have c9b0 := eq_true c9
                have c9b1 : decide (0 ≤ (ji8)) = true := decide_eq_true c9
                clear c9
                by_cases c10 : (ji8) ≤ (wrap64 ((wrap64 (x6_2 + 1)) * 16))
                · rw [if_pos c10] at H
                  have c10b0 := eq_true c10
                  have c10b1 : decide ((ji8) ≤ (wrap64 ((wrap64 (x6_2 + 1)) * 16))) = true := decide_eq_true c10
                  by_cases c11 : (wrap64 ((wrap64 (x6_2 + 1)) * 16)) ≤ (a1.size : Int)
                  · rw [if_pos c11] at H
                    have c11b0 := eq_true c11
                    have c11b1 : decide ((wrap64 ((wrap64 (x6_2 + 1)) * 16)) ≤ (a1.size : Int)) = true := decide_eq_true c11
                    replace H := Option.bind_eq_some_iff.mp H
                    obtain ⟨t107, A120, H⟩ := H
                    replace H : (if x5_2.size + t107.size ≤ 9223372036854775807 then (spec_CryptDisk.l0 k2 a0 a1 (x5_2 ++ t107) (wrap64 (x6_2 + 1))) else (none)) = some r := H
                    have A12 := Aside0.mk A120
                    clear A120
                    by_cases c13 : x5_2.size + t107.size ≤ 9223372036854775807
                    · rw [if_pos c13] at H
                      have c13b0 := eq_true c13
                      have c13b1 : decide (x5_2.size + t107.size ≤ 9223372036854775807) = true := decide_eq_true c13
                      try have c13b2 : (9223372036854775807 < x5_2.size + t107.size) = False := eq_false (Nat.not_lt.2 c13)
                      have H' := Aside0.mk H
                      clear H
                      go_wp2_with (first | ((with_reducible refine gate_callee (f := 7) rfl ?_); refine goesL_ (some 38) rfl rfl Try.func7 (by kernel_rfl) rfl #[.string a0, .int .i64 x6_2, .string (a1.extract ((ji8) : Int).toNat ((wrap64 ((wrap64 (x6_2 + 1)) * 16)) : Int).toNat)] rfl (by (try simp only [List.map_toArray, List.map_cons, List.map_nil]); first | done | (simp only [hji8]; rfl) | rfl | (simp only [List.length_drop, List.length_take]; rfl)) ?_; (with_reducible refine (spec_Crypt.calls a0 x6_2 (a1.extract ((ji8) : Int).toNat ((wrap64 ((wrap64 (x6_2 + 1)) * 16)) : Int).toNat) t107 _ A12.out).mono ?_); rintro e w14 ⟨rfl, hb⟩; refine ⟨_, rfl, ?_⟩; have n0_ := Aside0.mk (below_step (by repeat (first | (with_reducible first | exact HB.out | apply below_alloc | apply pw_below_drewN | apply below_drew1) | exact HB.out)) hb); clear HB; have HB := n0_; clear n0_; (try clear hb); (try clear hb2); (try clear hk); (try clear hi)))
                      go_roundg k2
                      case measure => have := HJ2.out; have := HK2.out; omega
                      case rel => exact ⟨(x5_2 ++ t107), (wrap64 (x6_2 + 1)), (by first | rfl | (simp; done) | (simp [*]; done)), (by first | rfl | (simp; done) | (simp [*]; done)), H', ⟨by have := HJ2.out; have := HK2.out; omega⟩, ⟨by repeat (first | (with_reducible first | exact HB.out | apply below_alloc | apply pw_below_drewN | apply below_drew1) | exact HB.out)⟩⟩
                    · rw [if_neg c13] at H
                      exact absurd H (by simp)
                  · rw [if_neg c11] at H
                    exact absurd H (by simp)
                · rw [if_neg c10] at H
                  exact absurd H (by simp)
              · rw [if_neg c9] at H
                exact absurd H (by simp)
            · rw [if_neg c7] at H
              have c7b0 : decide ((wrap64 (x6_2 * 16)) < (a1.size : Int)) = false := decide_eq_false c7
              clear c7
              obtain rfl := Option.some.inj H
              go_wp2
              go_ret
              exact ⟨by first | rfl | (simp [errW_none, errW_some] <;> rfl) | (simp [*, errW_none, errW_some] <;> rfl), by repeat (first | (with_reducible first | exact HB.out | apply below_alloc | apply pw_below_drewN | apply below_drew1) | exact HB.out)⟩

-- NOT PRINTED: function 62 (slices_IndexFunc_string_string)

-- NOT PRINTED: function 50 (slices_ContainsFunc_string_string)

/-! ### impl_ylongKey_1: function 51 -/
def impl_ylongKey_1.f (a0 : ByteArray) : Option (Bool) := some (decide ((a0.size : Int) > 4096))
set_option maxHeartbeats 8000000 in
set_option maxRecDepth 100000 in
theorem impl_ylongKey_1.calls (a0 : ByteArray) (r : Bool) (w : World) (h : impl_ylongKey_1.f a0 = some r) :
    Calls Try.prog 51 #[.string a0] w fun e w' => e = .returned (.bool r) ∧ Drawn0 w w' := by
  have H : (some (decide ((a0.size : Int) > 4096))) = some r := h
  clear h
  obtain rfl := Option.some.inj H
  go_enter Try.func51, Try.ntmps51
  go_wp2
  go_ret
  exact ⟨by first | rfl | (simp; done) | (simp [*]; done), by repeat (first | exact Drawn0.refl _ | apply Drawn0.step)⟩

/-! ### impl_ylongKey: function 26 -/
def longKey (s : ByteArray) : Bool := decide ((s.size : Int) > 4096)
def impl_ylongKey.f (l0 : List ByteArray) : Option (Bool) := some (l0.any longKey)
set_option maxHeartbeats 2000000 in
theorem longKey_indexFunc (A : Option Addr) (c : Nat) (zs : List ByteArray) (p : ByteArray → Bool) (eg : ∀ args w, (callFunc 51 args).run Try.prog w = .ok (.enter 51 args) w) (w : World)
    (hp : ∀ (W : World) (x : ByteArray), Below w.heap.size w W → Calls Try.prog 51 #[.string x] W fun e w' => e = .returned (.bool (p x)) ∧ Below W.heap.size W w')
    (hr : Kd.C Kd.string w A zs.length zs) :
    Calls Try.prog 62 #[.slice A zs.length c, .func (.func 51) #[] #[]] w fun e w' => e = .returned (.int .i64 (Go.Proofs.Ytpcpjkbjadgoiaa.Pl.idxFrom p zs 0)) ∧ Below w.heap.size w w' := by
  have HR := Aside0.mk hr
  have hbig := hr.2.1
  have HP := Aside0.mk hp
  clear hr hp
  go_enter Try.func62, Try.ntmps62
  go_wp2
  go_loopg [5, 8] zs.length (fun gg _ s8 wr => ∃ kk : Nat, s8 = .int .i64 kk ∧ Aside0 (kk ≤ zs.length) ∧ Aside0 (zs.length - kk ≤ gg) ∧ Aside0 (Below w.heap.size w wr) ∧ Aside0 (∀ j, j < kk → p (zs.getD j ByteArray.empty) = false))
  case atStart => exact ⟨0, rfl, ⟨Nat.zero_le _⟩, ⟨by omega⟩, ⟨Below.refl _ w⟩, ⟨fun j hj => absurd hj (Nat.not_lt_zero _)⟩⟩
  case round =>
    obtain ⟨kk, rfl, hkk, hg, BW, AA⟩ := hrel
    by_cases hlt : kk < zs.length
    · have hltz : (kk : Int) < (zs.length : Int) := by omega
      obtain ⟨ad, e_, hx⟩ := Kd.at_string HR.out (kk : Int) (by omega) (by omega)
      cases e_
      replace hx := pw_cell_below BW.out hx
      rw [Int.toNat_natCast] at hx
      have hcall := HP.out wr (zs.getD kk ByteArray.empty) BW.out
      have hy0 : rdOf ByteArray.empty zs (kk : Int) = zs.getD kk ByteArray.empty := by unfold rdOf; rw [Int.toNat_natCast]
      rw [hy0] at hx
      clear hy0
      generalize hy : zs.getD kk ByteArray.empty = y at hx hcall
      have BY := Aside0.mk hy
      clear hy
      cases hq : p y with
      | true =>
        rw [hq] at hcall
        have HQ := Aside0.mk hq
        clear hq
        go_wp2_with (go_at_call 51; refine hcall.mono ?_; rintro e w' ⟨rfl, hb'⟩)
        go_ret
        refine ⟨?_, BW.out.trans (hb'.mono BW.out.size)⟩
        rw [Go.Proofs.Ytpcpjkbjadgoiaa.Pl.idxFrom_hit p ByteArray.empty zs 0 kk hlt (by rw [BY.out]; exact HQ.out) AA.out, Nat.zero_add]
        rfl
      | false =>
        rw [hq] at hcall
        have HQ := Aside0.mk hq
        clear hq
        go_wp2_with (go_at_call 51; refine hcall.mono ?_; rintro e w' ⟨rfl, hb'⟩)
        go_roundg (zs.length - (kk + 1))
        case measure => have := hg.out; omega
        case rel =>
          refine ⟨kk + 1, by go_num, ⟨hlt⟩, ⟨by omega⟩, ⟨BW.out.trans (hb'.mono BW.out.size)⟩, ⟨fun j hj => ?_⟩⟩
          by_cases e : j = kk
          · subst e
            rw [BY.out]; exact HQ.out
          · exact AA.out j (by omega)
    · have hltz : ¬ (kk : Int) < (zs.length : Int) := by omega
      have hkn : kk = zs.length := by have := hkk.out; omega
      subst hkn
      go_wp2
      go_ret
      refine ⟨?_, BW.out⟩
      rw [Go.Proofs.Ytpcpjkbjadgoiaa.Pl.idxFrom_miss p ByteArray.empty zs 0 AA.out]
      rfl
theorem longKey_closure (W : World) (x : ByteArray) : Calls Try.prog 51 #[.string x] W fun e w' => e = .returned (.bool (longKey x)) ∧ Below W.heap.size W w' := by
  unfold longKey
  go_enter Try.func51, Try.ntmps51
  go_wp2
  go_ret
  exact ⟨by simp, Below.refl _ _⟩
set_option maxHeartbeats 2000000 in
theorem impl_ylongKey.calls (A0 : Option Addr) (c0 : Nat) (l0 : List ByteArray) (r : Bool) (w : World) (hr0 : Kd.C Kd.string w A0 l0.length l0) (hc0 : l0.length ≤ c0) (h : impl_ylongKey.f l0 = some r) :
    Calls Try.prog 26 #[.slice A0 l0.length c0] w fun e w' => e = .returned (.bool r) ∧ Below w.heap.size w w' := by
  have eg : ∀ args w, (callFunc 51 args).run Try.prog w = .ok (.enter 51 args) w := enters_of Try.func51 (by kernel_rfl) rfl
  have hcon := longKey_indexFunc A0 c0 l0 longKey eg w (fun W x _ => longKey_closure W x) hr0
  have hany : decide (0 ≤ Go.Proofs.Ytpcpjkbjadgoiaa.Pl.idxFrom longKey l0 0) = r := by
    rw [Go.Proofs.Ytpcpjkbjadgoiaa.Pl.idxFrom_any]; exact Option.some.inj h
  generalize Go.Proofs.Ytpcpjkbjadgoiaa.Pl.idxFrom longKey l0 0 = q at hcon hany
  clear hr0 h
  subst hany
  go_enter Try.func26, Try.ntmps26
  go_wp2_with (first | (go_at_call 62; refine hcon.mono ?_; rintro e w' ⟨rfl, hb'⟩) | go_in)
  go_ret
  exact ⟨by simp, hb'⟩

/-! ### impl_ybig: function 27 -/
def impl_ybig.l0 : Nat → List ByteArray → Int → Int → Option (Bool)
  | 0, _, _, _ => none
  | k + 1, x5, x6, x7 => if x7 < x6 then (if 0 ≤ x7 then (if x7 < (x5.length : Int) then (if ((rdOf ByteArray.empty x5 x7).size : Int) > 65536 then (some true) else (impl_ybig.l0 k x5 x6 (wrap64 (x7 + 1)))) else (none)) else (none)) else (some false)
def impl_ybig.f (k : Nat) (l0 : List ByteArray) : Option (Bool) := impl_ybig.l0 k l0 (l0.length : Int) 0
theorem impl_ybig.mono_l : ∀ k, (∀ y0 y1 y2, LeO (impl_ybig.l0 k y0 y1 y2) (impl_ybig.l0 (k + 1) y0 y1 y2))
  | 0 => fun _ _ _ r h => by simp [impl_ybig.l0] at h
  | k + 1 => by
    have ih0 := impl_ybig.mono_l k
    · intro y0 y1 y2
      unfold impl_ybig.l0
      repeat' first
      | (with_reducible exact ih0 _ _ _)
      | (with_reducible exact LeO.refl _)
      | (with_reducible exact LeO.none _)
      | (with_reducible refine LeO.ite ?_ ?_)
      | (with_reducible refine LeO.bind ?_ (fun _ => ?_))
      | exact ih0 _ _ _
      | exact LeO.none _
      | refine LeO.ite ?_ ?_
      | refine LeO.bind ?_ (fun _ => ?_)
theorem impl_ybig.mono : ∀ a0 k, LeO (impl_ybig.f k a0) (impl_ybig.f (k + 1) a0) := by
  intro a0 k
  have ih0 := impl_ybig.mono_l k
  unfold impl_ybig.f
  repeat' first
      | (with_reducible exact ih0 _ _ _)
      | (with_reducible exact LeO.refl _)
      | (with_reducible exact LeO.none _)
      | (with_reducible refine LeO.ite ?_ ?_)
      | (with_reducible refine LeO.bind ?_ (fun _ => ?_))
      | exact ih0 _ _ _
      | exact LeO.none _
      | refine LeO.ite ?_ ?_
      | refine LeO.bind ?_ (fun _ => ?_)
set_option maxHeartbeats 8000000 in
set_option maxRecDepth 100000 in
theorem impl_ybig.calls (k : Nat) (A0 : Option Addr) (c0 : Nat) (l0 : List ByteArray) (r : Bool) (w : World) (hr0 : Kd.C Kd.string w A0 l0.length l0) (hc0 : l0.length ≤ c0) (h : impl_ybig.f k l0 = some r) :
    Calls Try.prog 27 #[.slice A0 l0.length c0] w fun e w' => e = .returned (.bool r) ∧ Drawn0 w w' := by
  have HR0 := Aside0.mk hr0
  have HC0 := Aside0.mk hc0
  clear hr0 hc0
  have H : (impl_ybig.l0 k l0 (l0.length : Int) 0) = some r := h
  clear h
  have H' := Aside0.mk H
  clear H
  go_enter Try.func27, Try.ntmps27
  go_wp2
  go_loopg [7] k (fun kq v7 w' => ∃ (x7_1 : Int), v7 = .int .i64 x7_1 ∧ Aside0 (impl_ybig.l0 kq l0 (l0.length : Int) x7_1 = some r) ∧ Aside0 (kq ≤ k) ∧ Drawn0 w w')
  case atStart => exact ⟨(0), (by first | rfl | (simp; done) | (simp [*]; done)), H', ⟨Nat.le_refl _⟩, by repeat (first | exact Drawn0.refl _ | apply Drawn0.step)⟩
  case round =>
    clear H'
    obtain ⟨x7_1, rfl, HA, HK1, ⟨m1, rfl⟩⟩ := hrel
    cases gk with
    | zero => exact absurd HA.out (by simp [impl_ybig.l0])
    | succ k1 =>
      have H := HA.out
      clear HA
      simp only [impl_ybig.l0] at H
      by_cases c2 : x7_1 < (l0.length : Int)
      · rw [if_pos c2] at H
        have c2b0 : decide (x7_1 < (l0.length : Int)) = true := decide_eq_true c2
        clear c2
        by_cases c3 : 0 ≤ x7_1
        · rw [if_pos c3] at H
          have c3b0 : decide (0 ≤ x7_1) = true := decide_eq_true c3
          clear c3
          by_cases c4 : x7_1 < (l0.length : Int)
          · rw [if_pos c4] at H
            have c4b0 : decide (x7_1 < (l0.length : Int)) = true := decide_eq_true c4
            clear c4
            by_cases c5 : ((rdOf ByteArray.empty l0 x7_1).size : Int) > 65536
            · rw [if_pos c5] at H
              have c5b0 : decide (65536 < ((rdOf ByteArray.empty l0 x7_1).size : Int)) = true := decide_eq_true c5
              have c5b1 : decide (65536 < (rdOf ByteArray.empty l0 x7_1).size) = true := decide_eq_true (by omega)
              clear c5
              obtain rfl := Option.some.inj H
              have p108 : 0 ≤ (x7_1 : Int) := of_decide_eq_true (by first | (with_reducible assumption) | assumption)
              have q108 : x7_1 < (l0.length : Int) := of_decide_eq_true (by first | (with_reducible assumption) | assumption)
              obtain ⟨ad108, e108, hx108_0⟩ := Kd.at_string HR0.out x7_1 p108 q108
              cases e108
              replace p108 := eq_true p108
              replace q108 := eq_true q108
              go_wp2
              go_ret
              exact ⟨by first | rfl | (simp; done) | (simp [*]; done), by repeat (first | exact Drawn0.refl _ | apply Drawn0.step)⟩
            · rw [if_neg c5] at H
              have c5b0 : decide (65536 < ((rdOf ByteArray.empty l0 x7_1).size : Int)) = false := decide_eq_false c5
              have c5b1 : decide (65536 < (rdOf ByteArray.empty l0 x7_1).size) = false := decide_eq_false (by omega)
              clear c5
              have H' := Aside0.mk H
              clear H
              have p108 : 0 ≤ (x7_1 : Int) := of_decide_eq_true (by first | (with_reducible assumption) | assumption)
              have q108 : x7_1 < (l0.length : Int) := of_decide_eq_true (by first | (with_reducible assumption) | assumption)
              obtain ⟨ad108, e108, hx108_0⟩ := Kd.at_string HR0.out x7_1 p108 q108
              cases e108
              replace p108 := eq_true p108
              replace q108 := eq_true q108
              go_wp2
              go_roundg k1
              case measure => have := HK1.out; omega
              case rel => exact ⟨(wrap64 (x7_1 + 1)), (by first | rfl | (simp; done) | (simp [*]; done)), H', ⟨by have := HK1.out; omega⟩, by repeat (first | exact Drawn0.refl _ | apply Drawn0.step)⟩
          · rw [if_neg c4] at H
            exact absurd H (by simp)
        · rw [if_neg c3] at H
          exact absurd H (by simp)
      · rw [if_neg c2] at H
        have c2b0 : decide (x7_1 < (l0.length : Int)) = false := decide_eq_false c2
        clear c2
        obtain rfl := Option.some.inj H
        go_wp2
        go_ret
        exact ⟨by first | rfl | (simp; done) | (simp [*]; done), by repeat (first | exact Drawn0.refl _ | apply Drawn0.step)⟩

/-! ### impl_ymod: function 52 -/
def impl_ymod.f (a0 : Int) (a1 : Int) : Option (Int) := if a1 = 0 then (none) else (if (Int.tmod a0 a1) < 0 then (some (wrap64 ((Int.tmod a0 a1) + a1))) else (some (Int.tmod a0 a1)))
set_option maxHeartbeats 8000000 in
set_option maxRecDepth 100000 in
theorem impl_ymod.calls (a0 : Int) (a1 : Int) (r : Int) (w : World) (h : impl_ymod.f a0 a1 = some r) :
    Calls Try.prog 52 #[.int .i64 a0, .int .i64 a1] w fun e w' => e = .returned (.int .i64 r) ∧ Drawn0 w w' := by
  have H : (if a1 = 0 then (none) else (if (Int.tmod a0 a1) < 0 then (some (wrap64 ((Int.tmod a0 a1) + a1))) else (some (Int.tmod a0 a1)))) = some r := h
  clear h
  by_cases c3 : a1 = 0
  · rw [if_pos c3] at H
    exact absurd H (by simp)
  · rw [if_neg c3] at H
    have c3b0 : (a1 == 0) = false := beq_eq_false_iff_ne.mpr c3
    have c3b1 : (a1 != 0) = true := bne_iff_ne.mpr c3
    by_cases c4 : (Int.tmod a0 a1) < 0
    · rw [if_pos c4] at H
      have c4b0 : decide ((Int.tmod a0 a1) < 0) = true := decide_eq_true c4
      clear c4
      obtain rfl := Option.some.inj H
      go_enter Try.func52, Try.ntmps52
      go_wp2
      go_ret
      exact ⟨by first | rfl | (simp; done) | (simp [*]; done), by repeat (first | exact Drawn0.refl _ | apply Drawn0.step)⟩
    · rw [if_neg c4] at H
      have c4b0 : decide ((Int.tmod a0 a1) < 0) = false := decide_eq_false c4
      clear c4
      obtain rfl := Option.some.inj H
      go_enter Try.func52, Try.ntmps52
      go_wp2
      go_ret
      exact ⟨by first | rfl | (simp; done) | (simp [*]; done), by repeat (first | exact Drawn0.refl _ | apply Drawn0.step)⟩

end Go.Proofs.Ytpcpjkbjadgoiaa.QFnExactCryptDisk
