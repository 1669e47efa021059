-- Written for this claim by this session's own driver (wip/xprint.py).
import Derived.Test.YtpcpjkbjadgoiaaQFnExactMeasurex0
import Derived.Test.YtpcpjkbjadgoiaaQFnExactMeasurex2
namespace Go.Proofs.Ytpcpjkbjadgoiaa.QFnExactMeasure
open Go.RowKit Go.Proofs.YtpcpjkbjadgoiaaW.PrintWords Go.Proofs.YtpcpjkbjadgoiaaW.PrintLast Go.Proofs.YtpcpjkbjadgoiaaW.PrintMore
attribute [local go_sem] max2_int min2_int max_two min_two max_three min_three max_four min_four   -- for this text's walks alone
set_option linter.unusedVariables false
set_option linter.unusedSimpArgs false

/-! ### impl_yisWord: function 58 -/
def impl_yisWord.f (a0 : Int) : Option (Bool) := if a0 ≥ 0 then (some (decide (a0 < 4294967296))) else (some false)
set_option maxHeartbeats 8000000 in
set_option maxRecDepth 100000 in
theorem impl_yisWord.calls (a0 : Int) (r : Bool) (w : World) (h : impl_yisWord.f a0 = some r) :
    Calls Try.prog 58 #[.int .i64 a0] w fun e w' => e = .returned (.bool r) ∧ Drawn0 w w' := by
  have H : (if a0 ≥ 0 then (some (decide (a0 < 4294967296))) else (some false)) = some r := h
  clear h
  by_cases c2 : a0 ≥ 0
  · rw [if_pos c2] at H
    have c2b0 : decide (0 ≤ a0) = true := decide_eq_true c2
    clear c2
    obtain rfl := Option.some.inj H
    go_enter Try.func58, Try.ntmps58
    go_wp2
    go_ret
    exact ⟨by first | rfl | (simp; done) | (simp [*]; done), by repeat (first | exact Drawn0.refl _ | apply Drawn0.step)⟩
  · rw [if_neg c2] at H
    have c2b0 : decide (0 ≤ a0) = false := decide_eq_false c2
    clear c2
    obtain rfl := Option.some.inj H
    go_enter Try.func58, Try.ntmps58
    go_wp2
    go_ret
    exact ⟨by first | rfl | (simp; done) | (simp [*]; done), by repeat (first | exact Drawn0.refl _ | apply Drawn0.step)⟩

/-! ### impl_yregsOk_1: function 57 -/
def impl_yregsOk_1.f (a0 : Int) : Option (Bool) := (impl_yisWord.f a0).bind fun t151 => (some (!t151))
set_option maxHeartbeats 8000000 in
set_option maxRecDepth 100000 in
theorem impl_yregsOk_1.calls (a0 : Int) (r : Bool) (w : World) (h : impl_yregsOk_1.f a0 = some r) :
    Calls Try.prog 57 #[.int .i64 a0] w fun e w' => e = .returned (.bool r) ∧ Drawn0 w w' := by
  have H : ((impl_yisWord.f a0).bind fun t151 => (some (!t151))) = some r := h
  clear h
  replace H := Option.bind_eq_some_iff.mp H
  obtain ⟨t151, A20, H⟩ := H
  replace H : (some (!t151)) = some r := H
  have A2 := Aside0.mk A20
  clear A20
  obtain rfl := Option.some.inj H
  go_enter Try.func57, Try.ntmps57
  go_wp2_with (first | ((with_reducible refine gate_callee (f := 58) rfl ?_); refine goesL_ (some 4) rfl rfl Try.func58 (by kernel_rfl) rfl #[.int .i64 a0] rfl (by (try simp only [List.map_toArray, List.map_cons, List.map_nil]); first | done | rfl | (simp only [List.length_drop, List.length_take]; rfl)) ?_; (with_reducible refine (impl_yisWord.calls a0 t151 _ A2.out).mono ?_); rintro e w' ⟨rfl, ⟨nd, rfl⟩⟩; refine ⟨_, rfl, ?_⟩))
  go_ret
  exact ⟨by first | rfl | (simp; done) | (simp [*]; done), by repeat (first | exact Drawn0.refl _ | apply Drawn0.step)⟩

/-! ### impl_yregsOk: function 37 -/
def regBad (x : Int) : Bool := !(decide (0 ≤ x) && decide (x < 4294967296))
def impl_yregsOk.f (l0 : List Int) : Option (Bool) := if 1 ≤ (l0.length : Int) ∧ (l0.length : Int) ≤ 8 then some (!(l0.any regBad)) else some false
set_option maxHeartbeats 4000000 in
theorem regsOk_indexFunc (A : Option Addr) (c : Nat) (zs : List Int) (p : Int → Bool) (eg : ∀ args w, (callFunc 57 args).run Try.prog w = .ok (.enter 57 args) w) (w : World)
    (hp : ∀ (W : World) (x : Int), Below w.heap.size w W → Calls Try.prog 57 #[.int .i64 x] W fun e w' => e = .returned (.bool (p x)) ∧ Below W.heap.size W w')
    (hr : Kd.C (Kd.int .i64) w A zs.length zs) :
    Calls Try.prog 66 #[.slice A zs.length c, .func (.func 57) #[] #[]] w fun e w' => e = .returned (.int .i64 (Go.Proofs.Ytpcpjkbjadgoiaa.Pl.idxFrom p zs 0)) ∧ Below w.heap.size w w' := by
  have HR := Aside0.mk hr
  have hbig := hr.2.1
  have HP := Aside0.mk hp
  clear hr hp
  go_enter Try.func66, Try.ntmps66
  go_wp2
  go_loopg [5, 8] zs.length (fun gg _ s8 wr => ∃ kk : Nat, s8 = .int .i64 kk ∧ Aside0 (kk ≤ zs.length) ∧ Aside0 (zs.length - kk ≤ gg) ∧ Aside0 (Below w.heap.size w wr) ∧ Aside0 (∀ j, j < kk → p (zs.getD j 0) = false))
  case atStart => exact ⟨0, rfl, ⟨Nat.zero_le _⟩, ⟨by omega⟩, ⟨Below.refl _ w⟩, ⟨fun j hj => absurd hj (Nat.not_lt_zero _)⟩⟩
  case round =>
    obtain ⟨kk, rfl, hkk, hg, BW, AA⟩ := hrel
    by_cases hlt : kk < zs.length
    · have hltz : (kk : Int) < (zs.length : Int) := by omega
      obtain ⟨ad, e_, hx⟩ := Kd.at_int HR.out (kk : Int) (by omega) (by omega)
      cases e_
      replace hx := pw_cell_below BW.out hx
      rw [Int.toNat_natCast] at hx
      have hcall := HP.out wr (zs.getD kk 0) BW.out
      have hy0 : rd zs (kk : Int) = zs.getD kk 0 := by unfold rd; rw [Int.toNat_natCast]
      rw [hy0] at hx
      clear hy0
      generalize hy : zs.getD kk 0 = y at hx hcall
      have BY := Aside0.mk hy
      clear hy
      cases hq : p y with
      | true =>
        rw [hq] at hcall
        have HQ := Aside0.mk hq
        clear hq
        go_wp2_with (go_at_call 57; refine hcall.mono ?_; rintro e w' ⟨rfl, hb'⟩)
        go_ret
        refine ⟨?_, BW.out.trans (hb'.mono BW.out.size)⟩
        rw [Go.Proofs.Ytpcpjkbjadgoiaa.Pl.idxFrom_hit p 0 zs 0 kk hlt (by rw [BY.out]; exact HQ.out) AA.out, Nat.zero_add]
        rfl
      | false =>
        rw [hq] at hcall
        have HQ := Aside0.mk hq
        clear hq
        go_wp2_with (go_at_call 57; refine hcall.mono ?_; rintro e w' ⟨rfl, hb'⟩)
        go_roundg (zs.length - (kk + 1))
        case measure => have := hg.out; omega
        case rel =>
          refine ⟨kk + 1, by go_num, ⟨hlt⟩, ⟨by omega⟩, ⟨BW.out.trans (hb'.mono BW.out.size)⟩, ⟨fun j hj => ?_⟩⟩
          by_cases e : j = kk
          · subst e
            rw [BY.out]; exact HQ.out
          · exact AA.out j (by omega)
    · have hltz : ¬ (kk : Int) < (zs.length : Int) := by omega
      have hkn : kk = zs.length := by have := hkk.out; omega
      subst hkn
      go_wp2
      go_ret
      refine ⟨?_, BW.out⟩
      rw [Go.Proofs.Ytpcpjkbjadgoiaa.Pl.idxFrom_miss p 0 zs 0 AA.out]
      rfl
theorem regsOk_closure (W : World) (x : Int) : Calls Try.prog 57 #[.int .i64 x] W fun e w' => e = .returned (.bool (regBad x)) ∧ Below W.heap.size W w' := by
  have hy : impl_yisWord.f x = some (!(regBad x)) := by
    unfold impl_yisWord.f regBad
    by_cases h : x ≥ 0
    · rw [if_pos h, decide_eq_true h]; simp
    · rw [if_neg h, decide_eq_false h]; rfl
  generalize regBad x = b at hy
  go_enter Try.func57, Try.ntmps57
  go_wp2_with (go_at_call 58; refine (impl_yisWord.calls x _ _ hy).mono ?_; rintro e w' ⟨rfl, ⟨m1, rfl⟩⟩)
  go_ret
  exact ⟨by simp, pw_below_drewN (Below.refl _ _) _⟩
set_option maxHeartbeats 4000000 in
theorem impl_yregsOk.calls (A0 : Option Addr) (c0 : Nat) (l0 : List Int) (r : Bool) (w : World) (hr0 : Kd.C (Kd.int .i64) w A0 l0.length l0) (hc0 : l0.length ≤ c0) (h : impl_yregsOk.f l0 = some r) :
    Calls Try.prog 37 #[.slice A0 l0.length c0] w fun e w' => e = .returned (.bool r) ∧ Below w.heap.size w w' := by
  have eg : ∀ args w, (callFunc 57 args).run Try.prog w = .ok (.enter 57 args) w := enters_of Try.func57 (by kernel_rfl) rfl
  unfold impl_yregsOk.f at h
  have hyin : ∀ W, ∃ b, b = decide (1 ≤ (l0.length : Int) ∧ (l0.length : Int) ≤ 8) ∧ Calls Try.prog 40 #[.int .i64 (l0.length : Int), .int .i64 1, .int .i64 8] W fun e w' => e = .returned (.bool b) ∧ Drawn0 W w' := fun W => ⟨_, rfl, impl_yin.calls (l0.length : Int) 1 8 _ W (by
    unfold impl_yin.f
    by_cases h1 : (l0.length : Int) ≥ 1
    · rw [if_pos h1]
      congr 1
      exact decide_eq_decide.mpr ⟨fun h2 => ⟨h1, h2⟩, fun h2 => h2.2⟩
    · rw [if_neg h1, decide_eq_false (fun h2 => h1 h2.1)])⟩
  by_cases hl : 1 ≤ (l0.length : Int) ∧ (l0.length : Int) ≤ 8
  · rw [if_pos hl] at h
    have hcon := fun W (hb : Below w.heap.size w W) => regsOk_indexFunc A0 c0 l0 regBad eg W (fun W' x _ => regsOk_closure W' x) (Kd.C_below hr0 hb)
    have hany : (!decide (0 ≤ Go.Proofs.Ytpcpjkbjadgoiaa.Pl.idxFrom regBad l0 0)) = r := by rw [Go.Proofs.Ytpcpjkbjadgoiaa.Pl.idxFrom_any]; exact Option.some.inj h
    generalize Go.Proofs.Ytpcpjkbjadgoiaa.Pl.idxFrom regBad l0 0 = q at hcon hany
    have hyc : ∀ W, Calls Try.prog 40 #[.int .i64 (l0.length : Int), .int .i64 1, .int .i64 8] W fun e w' => e = .returned (.bool true) ∧ Drawn0 W w' := fun W => by
      obtain ⟨b, hb, hc⟩ := hyin W
      rw [decide_eq_true hl] at hb
      subst hb
      exact hc
    clear hr0 h hyin hl
    subst hany
    go_enter Try.func37, Try.ntmps37
    go_wp2_with (first | (go_at_call 40; with_reducible refine (hyc _).mono ?_; rintro e w' ⟨rfl, ⟨m1, rfl⟩⟩) | (go_at_call 66; refine (hcon _ (pw_below_drewN (Below.refl _ _) _)).mono ?_; rintro e w' ⟨rfl, hb'⟩) | go_in)
    go_ret
    exact ⟨by simp, Below.trans (pw_below_drewN (Below.refl _ _) _) (hb'.mono (by simp))⟩
  · rw [if_neg hl] at h
    obtain rfl := Option.some.inj h
    have hyc : ∀ W, Calls Try.prog 40 #[.int .i64 (l0.length : Int), .int .i64 1, .int .i64 8] W fun e w' => e = .returned (.bool false) ∧ Drawn0 W w' := fun W => by
      obtain ⟨b, hb, hc⟩ := hyin W
      rw [decide_eq_false hl] at hb
      subst hb
      exact hc
    clear hr0 h hyin hl
    go_enter Try.func37, Try.ntmps37
    go_wp2_with (go_at_call 40; with_reducible refine (hyc _).mono ?_; rintro e w' ⟨rfl, ⟨m1, rfl⟩⟩)
    go_ret
    exact ⟨rfl, pw_below_drewN (Below.refl _ _) _⟩

-- NOT PRINTED: function 59 (impl_Stage_59)

-- NOT PRINTED: function 38 (impl_Stage_38)

-- NOT PRINTED: function 62 (slices_IndexFunc_string_string)

-- NOT PRINTED: function 50 (slices_ContainsFunc_string_string)

/-! ### impl_ylongKey_1: function 51 -/
def impl_ylongKey_1.f (a0 : ByteArray) : Option (Bool) := some (decide ((a0.size : Int) > 4096))
set_option maxHeartbeats 8000000 in
set_option maxRecDepth 100000 in
theorem impl_ylongKey_1.calls (a0 : ByteArray) (r : Bool) (w : World) (h : impl_ylongKey_1.f a0 = some r) :
    Calls Try.prog 51 #[.string a0] w fun e w' => e = .returned (.bool r) ∧ Drawn0 w w' := by
  have H : (some (decide ((a0.size : Int) > 4096))) = some r := h
  clear h
  obtain rfl := Option.some.inj H
  go_enter Try.func51, Try.ntmps51
  go_wp2
  go_ret
  exact ⟨by first | rfl | (simp; done) | (simp [*]; done), by repeat (first | exact Drawn0.refl _ | apply Drawn0.step)⟩

/-! ### impl_ylongKey: function 26 -/
def longKey (s : ByteArray) : Bool := decide ((s.size : Int) > 4096)
def impl_ylongKey.f (l0 : List ByteArray) : Option (Bool) := some (l0.any longKey)
set_option maxHeartbeats 2000000 in
theorem longKey_indexFunc (A : Option Addr) (c : Nat) (zs : List ByteArray) (p : ByteArray → Bool) (eg : ∀ args w, (callFunc 51 args).run Try.prog w = .ok (.enter 51 args) w) (w : World)
    (hp : ∀ (W : World) (x : ByteArray), Below w.heap.size w W → Calls Try.prog 51 #[.string x] W fun e w' => e = .returned (.bool (p x)) ∧ Below W.heap.size W w')
    (hr : Kd.C Kd.string w A zs.length zs) :
    Calls Try.prog 62 #[.slice A zs.length c, .func (.func 51) #[] #[]] w fun e w' => e = .returned (.int .i64 (Go.Proofs.Ytpcpjkbjadgoiaa.Pl.idxFrom p zs 0)) ∧ Below w.heap.size w w' := by
  have HR := Aside0.mk hr
  have hbig := hr.2.1
  have HP := Aside0.mk hp
  clear hr hp
  go_enter Try.func62, Try.ntmps62
  go_wp2
  go_loopg [5, 8] zs.length (fun gg _ s8 wr => ∃ kk : Nat, s8 = .int .i64 kk ∧ Aside0 (kk ≤ zs.length) ∧ Aside0 (zs.length - kk ≤ gg) ∧ Aside0 (Below w.heap.size w wr) ∧ Aside0 (∀ j, j < kk → p (zs.getD j ByteArray.empty) = false))
  case atStart => exact ⟨0, rfl, ⟨Nat.zero_le _⟩, ⟨by omega⟩, ⟨Below.refl _ w⟩, ⟨fun j hj => absurd hj (Nat.not_lt_zero _)⟩⟩
  case round =>
    obtain ⟨kk, rfl, hkk, hg, BW, AA⟩ := hrel
    by_cases hlt : kk < zs.length
    · have hltz : (kk : Int) < (zs.length : Int) := by omega
      obtain ⟨ad, e_, hx⟩ := Kd.at_string HR.out (kk : Int) (by omega) (by omega)
      cases e_
      replace hx := pw_cell_below BW.out hx
      rw [Int.toNat_natCast] at hx
      have hcall := HP.out wr (zs.getD kk ByteArray.empty) BW.out
      have hy0 : rdOf ByteArray.empty zs (kk : Int) = zs.getD kk ByteArray.empty := by unfold rdOf; rw [Int.toNat_natCast]
      rw [hy0] at hx
      clear hy0
      generalize hy : zs.getD kk ByteArray.empty = y at hx hcall
      have BY := Aside0.mk hy
      clear hy
      cases hq : p y with
      | true =>
        rw [hq] at hcall
        have HQ := Aside0.mk hq
        clear hq
        go_wp2_with (go_at_call 51; refine hcall.mono ?_; rintro e w' ⟨rfl, hb'⟩)
        go_ret
        refine ⟨?_, BW.out.trans (hb'.mono BW.out.size)⟩
        rw [Go.Proofs.Ytpcpjkbjadgoiaa.Pl.idxFrom_hit p ByteArray.empty zs 0 kk hlt (by rw [BY.out]; exact HQ.out) AA.out, Nat.zero_add]
        rfl
      | false =>
        rw [hq] at hcall
        have HQ := Aside0.mk hq
        clear hq
        go_wp2_with (go_at_call 51; refine hcall.mono ?_; rintro e w' ⟨rfl, hb'⟩)
        go_roundg (zs.length - (kk + 1))
        case measure => have := hg.out; omega
        case rel =>
          refine ⟨kk + 1, by go_num, ⟨hlt⟩, ⟨by omega⟩, ⟨BW.out.trans (hb'.mono BW.out.size)⟩, ⟨fun j hj => ?_⟩⟩
          by_cases e : j = kk
          · subst e
            rw [BY.out]; exact HQ.out
          · exact AA.out j (by omega)
    · have hltz : ¬ (kk : Int) < (zs.length : Int) := by omega
      have hkn : kk = zs.length := by have := hkk.out; omega
      subst hkn
      go_wp2
      go_ret
      refine ⟨?_, BW.out⟩
      rw [Go.Proofs.Ytpcpjkbjadgoiaa.Pl.idxFrom_miss p ByteArray.empty zs 0 AA.out]
      rfl
theorem longKey_closure (W : World) (x : ByteArray) : Calls Try.prog 51 #[.string x] W fun e w' => e = .returned (.bool (longKey x)) ∧ Below W.heap.size W w' := by
  unfold longKey
  go_enter Try.func51, Try.ntmps51
  go_wp2
  go_ret
  exact ⟨by simp, Below.refl _ _⟩
set_option maxHeartbeats 2000000 in
theorem impl_ylongKey.calls (A0 : Option Addr) (c0 : Nat) (l0 : List ByteArray) (r : Bool) (w : World) (hr0 : Kd.C Kd.string w A0 l0.length l0) (hc0 : l0.length ≤ c0) (h : impl_ylongKey.f l0 = some r) :
    Calls Try.prog 26 #[.slice A0 l0.length c0] w fun e w' => e = .returned (.bool r) ∧ Below w.heap.size w w' := by
  have eg : ∀ args w, (callFunc 51 args).run Try.prog w = .ok (.enter 51 args) w := enters_of Try.func51 (by kernel_rfl) rfl
  have hcon := longKey_indexFunc A0 c0 l0 longKey eg w (fun W x _ => longKey_closure W x) hr0
  have hany : decide (0 ≤ Go.Proofs.Ytpcpjkbjadgoiaa.Pl.idxFrom longKey l0 0) = r := by
    rw [Go.Proofs.Ytpcpjkbjadgoiaa.Pl.idxFrom_any]; exact Option.some.inj h
  generalize Go.Proofs.Ytpcpjkbjadgoiaa.Pl.idxFrom longKey l0 0 = q at hcon hany
  clear hr0 h
  subst hany
  go_enter Try.func26, Try.ntmps26
  go_wp2_with (first | (go_at_call 62; refine hcon.mono ?_; rintro e w' ⟨rfl, hb'⟩) | go_in)
  go_ret
  exact ⟨by simp, hb'⟩

-- NOT PRINTED: function 39 (impl_Measure_1)

/-! ### impl_ymod: function 52 -/
def impl_ymod.f (a0 : Int) (a1 : Int) : Option (Int) := if a1 = 0 then (none) else (if (Int.tmod a0 a1) < 0 then (some (wrap64 ((Int.tmod a0 a1) + a1))) else (some (Int.tmod a0 a1)))
set_option maxHeartbeats 8000000 in
set_option maxRecDepth 100000 in
theorem impl_ymod.calls (a0 : Int) (a1 : Int) (r : Int) (w : World) (h : impl_ymod.f a0 a1 = some r) :
    Calls Try.prog 52 #[.int .i64 a0, .int .i64 a1] w fun e w' => e = .returned (.int .i64 r) ∧ Drawn0 w w' := by
  have H : (if a1 = 0 then (none) else (if (Int.tmod a0 a1) < 0 then (some (wrap64 ((Int.tmod a0 a1) + a1))) else (some (Int.tmod a0 a1)))) = some r := h
  clear h
  by_cases c3 : a1 = 0
  · rw [if_pos c3] at H
    exact absurd H (by simp)
  · rw [if_neg c3] at H
    have c3b0 : (a1 == 0) = false := beq_eq_false_iff_ne.mpr c3
    have c3b1 : (a1 != 0) = true := bne_iff_ne.mpr c3
    by_cases c4 : (Int.tmod a0 a1) < 0
    · rw [if_pos c4] at H
      have c4b0 : decide ((Int.tmod a0 a1) < 0) = true := decide_eq_true c4
      clear c4
      obtain rfl := Option.some.inj H
      go_enter Try.func52, Try.ntmps52
      go_wp2
      go_ret
      exact ⟨by first | rfl | (simp; done) | (simp [*]; done), by repeat (first | exact Drawn0.refl _ | apply Drawn0.step)⟩
    · rw [if_neg c4] at H
      have c4b0 : decide ((Int.tmod a0 a1) < 0) = false := decide_eq_false c4
      clear c4
      obtain rfl := Option.some.inj H
      go_enter Try.func52, Try.ntmps52
      go_wp2
      go_ret
      exact ⟨by first | rfl | (simp; done) | (simp [*]; done), by repeat (first | exact Drawn0.refl _ | apply Drawn0.step)⟩

/-! ### impl_ymix: function 28 -/
def impl_ymix.l0 : Nat → ByteArray → Int → Int → Int → Option (Int)
  | 0, _, _, _, _ => none
  | k + 1, x0, x5, x11, x12 => if x12 < x11 then (if 0 ≤ x12 then (if x12 < (x0.size : Int) then (impl_ymix.l0 k x0 (Int.tmod (wrap64 ((wrap64 ((wrap64 (x5 * 65599)) + (wrap64 (bt x0 x12)))) + 1)) 2147483629) x11 (wrap64 (x12 + 1))) else (none)) else (none)) else (some (Int.tmod (wrap64 ((wrap64 (x5 * 40503)) + 77)) 2147483629))
def impl_ymix.f (k : Nat) (a0 : ByteArray) (a1 : Int) : Option (Int) := (impl_ymod.f a1 2147483629).bind fun t153 => (impl_ymix.l0 k a0 (wrap64 (t153 + 1)) (a0.size : Int) 0)
theorem impl_ymix.mono_l : ∀ k, (∀ y0 y1 y2 y3, LeO (impl_ymix.l0 k y0 y1 y2 y3) (impl_ymix.l0 (k + 1) y0 y1 y2 y3))
  | 0 => fun _ _ _ _ r h => by simp [impl_ymix.l0] at h
  | k + 1 => by
    have ih0 := impl_ymix.mono_l k
    · intro y0 y1 y2 y3
      unfold impl_ymix.l0
      repeat' first
      | (with_reducible exact ih0 _ _ _ _)
      | (with_reducible exact LeO.refl _)
      | (with_reducible exact LeO.none _)
      | (with_reducible refine LeO.ite ?_ ?_)
      | (with_reducible refine LeO.bind ?_ (fun _ => ?_))
      | exact ih0 _ _ _ _
      | exact LeO.none _
      | refine LeO.ite ?_ ?_
      | refine LeO.bind ?_ (fun _ => ?_)
theorem impl_ymix.mono : ∀ a0 a1 k, LeO (impl_ymix.f k a0 a1) (impl_ymix.f (k + 1) a0 a1) := by
  intro a0 a1 k
  have ih0 := impl_ymix.mono_l k
  unfold impl_ymix.f
  repeat' first
      | (with_reducible exact ih0 _ _ _ _)
      | (with_reducible exact LeO.refl _)
      | (with_reducible exact LeO.none _)
      | (with_reducible refine LeO.ite ?_ ?_)
      | (with_reducible refine LeO.bind ?_ (fun _ => ?_))
      | exact ih0 _ _ _ _
      | exact LeO.none _
      | refine LeO.ite ?_ ?_
      | refine LeO.bind ?_ (fun _ => ?_)
set_option maxHeartbeats 8000000 in
set_option maxRecDepth 100000 in
theorem impl_ymix.calls (k : Nat) (a0 : ByteArray) (a1 : Int) (r : Int) (w : World) (h : impl_ymix.f k a0 a1 = some r) :
    Calls Try.prog 28 #[.string a0, .int .i64 a1] w fun e w' => e = .returned (.int .i64 r) ∧ Drawn0 w w' := by
  have H : ((impl_ymod.f a1 2147483629).bind fun t153 => (impl_ymix.l0 k a0 (wrap64 (t153 + 1)) (a0.size : Int) 0)) = some r := h
  clear h
  replace H := Option.bind_eq_some_iff.mp H
  obtain ⟨t153, A30, H⟩ := H
  replace H : (impl_ymix.l0 k a0 (wrap64 (t153 + 1)) (a0.size : Int) 0) = some r := H
  have A3 := Aside0.mk A30
  clear A30
  have H' := Aside0.mk H
  clear H
  go_enter Try.func28, Try.ntmps28
  go_wp2_with (first | ((with_reducible refine gate_callee (f := 52) rfl ?_); refine goesL_ (some 8) rfl rfl Try.func52 (by kernel_rfl) rfl #[.int .i64 a1, .int .i64 2147483629] rfl (by (try simp only [List.map_toArray, List.map_cons, List.map_nil]); first | done | rfl | (simp only [List.length_drop, List.length_take]; rfl)) ?_; (with_reducible refine (impl_ymod.calls a1 2147483629 t153 _ A3.out).mono ?_); rintro e w' ⟨rfl, ⟨nd, rfl⟩⟩; refine ⟨_, rfl, ?_⟩))
  go_loopg [5, 12] k (fun kq v5 v12 w' => ∃ (x5_1 : Int) (x12_1 : Int), v5 = .int .i64 x5_1 ∧ v12 = .int .i64 x12_1 ∧ Aside0 (impl_ymix.l0 kq a0 x5_1 (a0.size : Int) x12_1 = some r) ∧ Aside0 (kq ≤ k) ∧ Drawn0 w w')
  case atStart => exact ⟨(wrap64 (t153 + 1)), (0), (by first | rfl | (simp; done) | (simp [*]; done)), (by first | rfl | (simp; done) | (simp [*]; done)), H', ⟨Nat.le_refl _⟩, by repeat (first | exact Drawn0.refl _ | apply Drawn0.step)⟩
  case round =>
    clear H'
    try clear c2
    try clear p2
    obtain ⟨x5_1, x12_1, rfl, rfl, HA, HK1, ⟨m1, rfl⟩⟩ := hrel
    cases gk with
    | zero => exact absurd HA.out (by simp [impl_ymix.l0])
    | succ k1 =>
      have H := HA.out
      clear HA
      simp only [impl_ymix.l0] at H
      by_cases c4 : x12_1 < (a0.size : Int)
      · rw [if_pos c4] at H
        have c4b0 : decide (x12_1 < (a0.size : Int)) = true := decide_eq_true c4
        clear c4
        by_cases c5 : 0 ≤ x12_1
        · rw [if_pos c5] at H
          have c5b0 : decide (0 ≤ x12_1) = true := decide_eq_true c5
          clear c5
          by_cases c6 : x12_1 < (a0.size : Int)
          · rw [if_pos c6] at H
            have c6b0 : decide (x12_1 < (a0.size : Int)) = true := decide_eq_true c6
            clear c6
            have H' := Aside0.mk H
            clear H
            have p7 : 0 ≤ (x12_1 : Int) := of_decide_eq_true (by first | (with_reducible assumption) | assumption)
            have q7 : x12_1 < (a0.size : Int) := of_decide_eq_true (by first | (with_reducible assumption) | assumption)
            have hx7 := bt_at a0 x12_1
            replace p7 := eq_true p7
            replace q7 := eq_true q7
            go_wp2
            go_roundg k1
            case measure => have := HK1.out; omega
            case rel => exact ⟨(Int.tmod (wrap64 ((wrap64 ((wrap64 (x5_1 * 65599)) + (wrap64 (bt a0 x12_1)))) + 1)) 2147483629), (wrap64 (x12_1 + 1)), (by first | rfl | (simp; done) | (simp [*]; done)), (by first | rfl | (simp; done) | (simp [*]; done)), H', ⟨by have := HK1.out; omega⟩, by repeat (first | exact Drawn0.refl _ | apply Drawn0.step)⟩
          · rw [if_neg c6] at H
            exact absurd H (by simp)
        · rw [if_neg c5] at H
          exact absurd H (by simp)
      · rw [if_neg c4] at H
        have c4b0 : decide (x12_1 < (a0.size : Int)) = false := decide_eq_false c4
        clear c4
        obtain rfl := Option.some.inj H
        go_wp2
        go_ret
        exact ⟨by first | rfl | (simp; done) | (simp [*]; done), by repeat (first | exact Drawn0.refl _ | apply Drawn0.step)⟩

/-! ### impl_PutWord: function 30 -/
def impl_PutWord.f (a0 : Int) : Option (ByteArray) := some (strOfNums (([((a0) % 4294967296) % 256, (((a0) % 4294967296) / 256) % 256, (((a0) % 4294967296) / 65536) % 256, ((a0) % 4294967296) / 16777216] : List Int)))
set_option maxHeartbeats 8000000 in
set_option maxRecDepth 100000 in
theorem impl_PutWord.calls (a0 : Int) (r : ByteArray) (w : World) (h : impl_PutWord.f a0 = some r) :
    Calls Try.prog 30 #[.int .i64 a0] w fun e w' => e = .returned (.string r) ∧ Below w.heap.size w w' := by
  have HB := Aside0.mk (Below.refl w.heap.size w)
  have H : (some (strOfNums (([((a0) % 4294967296) % 256, (((a0) % 4294967296) / 256) % 256, (((a0) % 4294967296) / 65536) % 256, ((a0) % 4294967296) / 16777216] : List Int)))) = some r := h
  clear h
  obtain ⟨y154, hy154⟩ : ∃ y_ : List Int, y_ = (([((a0) % 4294967296) % 256, (((a0) % 4294967296) / 256) % 256, (((a0) % 4294967296) / 65536) % 256, ((a0) % 4294967296) / 16777216] : List Int)) := ⟨_, rfl⟩
  replace H : (some (strOfNums y154)) = some r := by first | (rw [hy154]; with_reducible exact H) | (have H2_ := (Option.bind_some _ _).symm.trans H; rw [hy154]; with_reducible exact H2_) | (have H2_ := (Option.bind_some _ _).symm.trans H; with_reducible exact H2_) | with_reducible exact H | (rw [hy154]; exact H) | exact H
  have Ny154 := Aside0.mk hy154
  clear hy154
  obtain rfl := Option.some.inj H
  go_enter Try.func30, Try.ntmps30
  go_wp2_with (first | ((with_reducible refine gate_dst (N := 17) rfl ?_); refine Kd.R_lit (Kd.int .u8) _ 5 ?hg (N := 17) ?hd (xs := ([((a0) % 4294967296) % 256, (((a0) % 4294967296) / 256) % 256, (((a0) % 4294967296) / 65536) % 256, ((a0) % 4294967296) / 16777216] : List Int)) (inner := [.int .u8 (((a0) % 4294967296) % 256), .int .u8 ((((a0) % 4294967296) / 256) % 256), .int .u8 ((((a0) % 4294967296) / 65536) % 256), .int .u8 (((a0) % 4294967296) / 16777216)]) (ok := fun _ => True) (okp := fun _ => True) ?hr ?hp (fun _ hk => hk) trivial (Below.refl _ _) (Nat.le_refl _) (by simp) ?_; (case hd => rfl); (case hg => rfl); (case hr => first | (go_simp; done) | (go_simp; rfl)); (case hp => exact (Reps.one (show Kd.M (Kd.int .u8) _ _ _ (((a0) % 4294967296) % 256) [.int .u8 (((a0) % 4294967296) % 256)] from rfl) (Reps.one (show Kd.M (Kd.int .u8) _ _ _ ((((a0) % 4294967296) / 256) % 256) [.int .u8 ((((a0) % 4294967296) / 256) % 256)] from rfl) (Reps.one (show Kd.M (Kd.int .u8) _ _ _ ((((a0) % 4294967296) / 65536) % 256) [.int .u8 ((((a0) % 4294967296) / 65536) % 256)] from rfl) (Reps.one (show Kd.M (Kd.int .u8) _ _ _ (((a0) % 4294967296) / 16777216) [.int .u8 (((a0) % 4294967296) / 16777216)] from rfl) (Reps.none _ _)))))); intro v155 w2 ho3 hb hg_ hnew_; clear hg_ hnew_; (first | rw [← Ny154.out] at ho3 | (simp only [Int.reduceToNat] at ho3; rw [← Ny154.out] at ho3)); have n0_ := Aside0.mk (Kd.R_lower ho3 (below_size (by repeat (first | (with_reducible first | exact HB.out | apply below_alloc | apply pw_below_drewN | apply below_drew1) | exact HB.out)))); have n1_ := Aside0.mk (below_step (by repeat (first | (with_reducible first | exact HB.out | apply below_alloc | apply pw_below_drewN | apply below_drew1) | exact HB.out)) hb); clear HB; have HO156 := n0_; have HB := n1_; clear n0_ n1_; clear hb ho3; have hcv4 := own_string (P := Try.prog) Try.underlying45 Try.underlying5 Try.underlying9 (Kd.own_of_R HO156.out)))
  go_ret
  exact ⟨by first | rfl | (simp [errW_none, errW_some] <;> rfl) | (simp [*, errW_none, errW_some] <;> rfl), by repeat (first | (with_reducible first | exact HB.out | apply below_alloc | apply pw_below_drewN | apply below_drew1) | exact HB.out)⟩

/-! ### slices_Clone_int64_int64: function 60 -/
def slices_Clone_int64_int64.f (l0 : List Int) : Option (List Int) := if l0.length < 17592186044416 then some l0 else none
set_option maxHeartbeats 8000000 in
set_option maxRecDepth 100000 in
theorem slices_Clone_int64_int64.calls (A0 : Option Addr) (c0 : Nat) (l0 : List Int) (r : List Int) (w : World) (hr0 : Kd.C (Kd.int .i64) w A0 l0.length l0) (hc0 : l0.length ≤ c0) (h : slices_Clone_int64_int64.f l0 = some r) :
    Calls Try.prog 60 #[.slice A0 l0.length c0] w fun e w' => ∃ v0_ : Value, e = .returned (v0_) ∧ Kd.R (Kd.int .i64) 2 w' w.heap.size (fun _ => True) v0_ r ∧ Below w.heap.size w w' := by
  have HR0 := Aside0.mk hr0
  have HC0 := Aside0.mk hc0
  have hq := fun (w : World) (a : Option Addr) (n c : Nat) => run_eql_slice_nil (P := Try.prog) w 26 2 a n c Try.underlying26
  unfold slices_Clone_int64_int64.f at h
  by_cases c2 : l0.length < 17592186044416
  · rw [if_pos c2] at h
    obtain rfl := Option.some.inj h
    have LMc2 := Aside0.mk (show ([] : List Int).length + l0.length < 17592186044416 from by simpa using c2)
    clear h c2
    cases A0 with
    | none =>
      have hz : l0 = [] := by
        cases l0 with
        | nil => rfl
        | cons a t => exact absurd hr0 (by intro hh; obtain ⟨ad, e_, _⟩ := Kd.at_int hh 0 (by omega) (by simp); exact absurd e_ (by simp))
      subst hz
      clear hr0 hc0
      go_enter Try.func60, Try.ntmps60
      go_wp2
      go_ret
      exact ⟨_, rfl, Kd.R_nil _ _ _ _ _, Below.refl _ _⟩
    | some A =>
      clear hr0 hc0
      have HB := Aside0.mk (Below.refl w.heap.size w)
      obtain ⟨y113, hy113⟩ : ∃ y_ : List Int, y_ = (([] : List Int)) := ⟨_, rfl⟩
      obtain ⟨y116, hy116⟩ : ∃ y_ : List Int, y_ = (y113 ++ l0) := ⟨_, rfl⟩
      have hfin : y116 = l0 := by rw [hy116, hy113, List.nil_append]
      rw [← hy113] at LMc2
      have Ny113 := Aside0.mk hy113
      have Ny116 := Aside0.mk hy116
      have HFIN := Aside0.mk hfin
      clear hy113 hy116 hfin
      go_enter Try.func60, Try.ntmps60
      go_wp2_with (first | ((with_reducible refine gate_dst (N := 5) rfl ?_); refine Kd.R_lit (Kd.int .i64) _ 2 ?hg (N := 5) ?hd (xs := ([] : List Int)) (inner := []) (ok := fun _ => True) (okp := fun _ => True) ?hr ?hp (fun _ hk => hk) trivial (Below.refl _ _) (Nat.le_refl _) (by simp) ?_; (case hd => rfl); (case hg => rfl); (case hr => first | (go_simp; done) | (go_simp; rfl)); (case hp => exact (Reps.none _ _)); intro v114 w3 ho4 hb hg_ hnew_; clear hg_ hnew_; (first | rw [← Ny113.out] at ho4 | (simp only [Int.reduceToNat] at ho4; rw [← Ny113.out] at ho4)); have n0_ := Aside0.mk (Kd.R_lower ho4 (below_size (by repeat (first | (with_reducible first | exact HB.out | apply below_alloc | apply pw_below_drewN | apply below_drew1) | exact HB.out)))); have n1_ := Aside0.mk (below_step (by repeat (first | (with_reducible first | exact HB.out | apply below_alloc | apply pw_below_drewN | apply below_drew1) | exact HB.out)) hb); clear HB; have HO115 := n0_; have HB := n1_; clear n0_ n1_; clear hb ho4) | ((with_reducible refine gate_builtin (b := .append) (xs := #[.tmp 5, .tmp 6]) rfl ?_); at_builtin; refine Kd.R_append_rows (Kd.int .i64) (w0 := w) w.heap.size rfl (.tmp 5) (.tmp 6) 26 2 (.int .i64 0) 8 rfl Try.underlying26 info2 rfl (by decide) (by omega) v114 y113 l0 _ _ _ (fun _ => True) (fun _ => False) rfl rfl ?aO ?aR (fun _ _ h => h) (fun _ h => h.elim) ?aF ?aB ?aS ?aL ?_; (case aR => repeat (first | exact (Kd.C_below HR0.out HB.out) | (with_reducible refine Kd.C_alloc ?_ _) | (with_reducible refine Kd.C_drewN ?_ _) | (with_reducible refine Kd.C_drew ?_))); (case aB => exact (by repeat (first | (with_reducible first | exact HB.out | apply below_alloc | apply pw_below_drewN | apply below_drew1) | exact HB.out))); (case aF => exact (fun _ _ => trivial)); (case aO => exact (by (with_reducible repeat (first | apply Kd.R_alloc | apply Kd.R_drewN | apply Kd.R_drew)); exact HO115.out)); (case aS => exact (below_size (by repeat (first | (with_reducible first | exact HB.out | apply below_alloc | apply pw_below_drewN | apply below_drew1) | exact HB.out)))); (case aL => have := LMc2.out; omega); intro v117 w5 ho hb hg hat; rw [← Ny116.out] at ho; have n0_ := Aside0.mk (hb); have n1_ := Aside0.mk (ho); clear HB; clear HO115; have HB := n0_; have HO118 := n1_; clear n0_ n1_; clear ho hb hg hat))
      go_ret
      have HO := HO118.out
      rw [HFIN.out] at HO
      exact ⟨_, by first | rfl | (simp [errW_none, errW_some] <;> rfl) | (simp [*, errW_none, errW_some] <;> rfl), by (with_reducible repeat (first | apply Kd.R_alloc | apply Kd.R_drewN | apply Kd.R_drew)); exact HO, by repeat (first | (with_reducible first | exact HB.out | apply below_alloc | apply pw_below_drewN | apply below_drew1) | exact HB.out)⟩
  · rw [if_neg c2] at h; exact absurd h (by simp)

/-! ### impl_ymeasure: function 41 -/
def impl_ymeasure.l0 : Nat → List Int → List (S63) → Int → Int → Option (List Int)
  | 0, _, _, _, _ => none
  | k + 1, x0, x9, x10, x11 => if x11 < x10 then (if 0 ≤ x11 then (if x11 < (x9.length : Int) then (if 0 ≤ ((rd_T63 x9 x11).f0) then (if ((rd_T63 x9 x11).f0) < (x0.length : Int) then ((impl_PutWord.f (rd x0 ((rd_T63 x9 x11).f0))).bind fun t163 => (if t163.size + ((rd_T63 x9 x11).f1).size ≤ 9223372036854775807 then ((impl_ymix.f k (t163 ++ ((rd_T63 x9 x11).f1)) 31).bind fun t164 => (impl_ymeasure.l0 k (x0.set (((rd_T63 x9 x11).f0) : Int).toNat t164) x9 x10 (wrap64 (x11 + 1)))) else (none))) else (none)) else (none)) else (none)) else (none)) else (some x0)
def impl_ymeasure.f (k : Nat) (l0 : List Int) (l1 : List (S63)) : Option (List Int) := (slices_Clone_int64_int64.f l0).bind fun t157 => (impl_ymeasure.l0 k t157 l1 (l1.length : Int) 0)
theorem impl_ymeasure.mono_l : ∀ k, (∀ y0 y1 y2 y3, LeO (impl_ymeasure.l0 k y0 y1 y2 y3) (impl_ymeasure.l0 (k + 1) y0 y1 y2 y3))
  | 0 => fun _ _ _ _ r h => by simp [impl_ymeasure.l0] at h
  | k + 1 => by
    have ih0 := impl_ymeasure.mono_l k
    · intro y0 y1 y2 y3
      unfold impl_ymeasure.l0
      repeat' first
      | (with_reducible exact ih0 _ _ _ _)
      | (with_reducible exact impl_ymix.mono _ _ _)
      | (with_reducible exact LeO.refl _)
      | (with_reducible exact LeO.none _)
      | (with_reducible refine LeO.ite ?_ ?_)
      | (with_reducible refine LeO.bind ?_ (fun _ => ?_))
      | exact ih0 _ _ _ _
      | exact impl_ymix.mono _ _ _
      | exact LeO.none _
      | refine LeO.ite ?_ ?_
      | refine LeO.bind ?_ (fun _ => ?_)
theorem impl_ymeasure.mono : ∀ a0 a1 k, LeO (impl_ymeasure.f k a0 a1) (impl_ymeasure.f (k + 1) a0 a1) := by
  intro a0 a1 k
  have ih0 := impl_ymeasure.mono_l k
  unfold impl_ymeasure.f
  repeat' first
      | (with_reducible exact ih0 _ _ _ _)
      | (with_reducible exact impl_ymix.mono _ _ _)
      | (with_reducible exact LeO.refl _)
      | (with_reducible exact LeO.none _)
      | (with_reducible refine LeO.ite ?_ ?_)
      | (with_reducible refine LeO.bind ?_ (fun _ => ?_))
      | exact ih0 _ _ _ _
      | exact impl_ymix.mono _ _ _
      | exact LeO.none _
      | refine LeO.ite ?_ ?_
      | refine LeO.bind ?_ (fun _ => ?_)
def impl_ymeasure.T5 : Bool × List (List Nat × List Nat) := (true, [([], []), ([], []), ([1], [1]), ([], []), ([], []), ([4], [4]), ([3, 5], [3, 5]), ([6], [6]), ([7], [7]), ([], []), ([9], [9]), ([8, 10], [8, 10]), ([11, 8], [11]), ([0, 2, 0, 1, 2, 3, 4, 5, 6, 7, 8, 9, 10, 11, 12], [0, 2]), ([13, 12, 12, 0, 1, 2, 3, 4, 5, 6, 7, 8, 9, 10, 11, 12], [12, 13])])
def impl_ymeasure.B5 : List Nat := [0, 0, 2, 0, 0, 16, 56, 120, 248, 0, 512, 2040, 4088, 8191, 16383]
theorem impl_ymeasure.tab5 : rtab .any (opsOf Try.f41 5) = impl_ymeasure.T5 := by kernel_rfl
theorem impl_ymeasure.bits5 : waitsOk impl_ymeasure.T5.2 impl_ymeasure.B5 = true := by kernel_rfl
set_option maxHeartbeats 8000000 in
set_option maxRecDepth 100000 in
theorem impl_ymeasure.calls (k : Nat) (A0 : Option Addr) (c0 : Nat) (l0 : List Int) (A1 : Option Addr) (c1 : Nat) (l1 : List (S63)) (r : List Int) (w : World) (hr0 : Kd.C (Kd.int .i64) w A0 l0.length l0) (hc0 : l0.length ≤ c0) (hr1 : Kd.C k63 w A1 l1.length l1) (hc1 : l1.length ≤ c1) (h : impl_ymeasure.f k l0 l1 = some r) :
    Calls Try.prog 41 #[.slice A0 l0.length c0, .slice A1 l1.length c1] w fun e w' => ∃ v0_ : Value, e = .returned (v0_) ∧ Kd.R (Kd.int .i64) 2 w' w.heap.size (fun _ => True) v0_ r ∧ Below w.heap.size w w' := by
  have hu63 := Try.underlying63
  have HR0 := Aside0.mk hr0
  have HC0 := Aside0.mk hc0
  clear hr0 hc0
  have HR1 := Aside0.mk hr1
  have HC1 := Aside0.mk hc1
  clear hr1 hc1
  have HB := Aside0.mk (Below.refl w.heap.size w)
  have H : ((slices_Clone_int64_int64.f l0).bind fun t157 => (impl_ymeasure.l0 k t157 l1 (l1.length : Int) 0)) = some r := h
  clear h
  replace H := Option.bind_eq_some_iff.mp H
  obtain ⟨t157, A30, H⟩ := H
  replace H : (impl_ymeasure.l0 k t157 l1 (l1.length : Int) 0) = some r := H
  have A3 := Aside0.mk A30
  clear A30
  have H' := Aside0.mk H
  clear H
  go_enter Try.func41, Try.ntmps41
  go_wp2_with (first | ((with_reducible refine gate_callee (f := 60) rfl ?_); refine goesL_ (some 8) rfl rfl Try.func60 (by kernel_rfl) rfl #[.slice A0 l0.length c0] rfl (by (try simp only [List.map_toArray, List.map_cons, List.map_nil]); first | done | rfl | (simp only [List.length_drop, List.length_take]; rfl)) ?_; (with_reducible refine (slices_Clone_int64_int64.calls _ _ l0 t157 _ ?side1 ?side2 A3.out).mono ?_); (case side1 => repeat (first | exact HR0.out | (with_reducible refine Kd.C_alloc ?_ _) | (with_reducible refine Kd.C_drewN ?_ _) | (with_reducible refine Kd.C_drew ?_))); (case side2 => exact HC0.out); rintro e w4 ⟨v158, rfl, ho0, hb⟩; refine ⟨_, rfl, ?_⟩; have n0_ := Aside0.mk (Kd.R_lower ho0 (below_size (by repeat (first | (with_reducible first | exact HB.out | apply below_alloc | apply pw_below_drewN | apply below_drew1) | exact HB.out)))); have n1_ := Aside0.mk (below_step (by repeat (first | (with_reducible first | exact HB.out | apply below_alloc | apply pw_below_drewN | apply below_drew1) | exact HB.out)) hb); clear HB; have HO159 := n0_; have HB := n1_; clear n0_ n1_; (try clear hb); (try clear hb2); (try clear hk); (try clear hi); (try clear ho0)))
  go_loopg [11] k (fun kq v11 w' => ∃ (x0_1 : List Int) (x11_1 : Int), v11 = .int .i64 x11_1 ∧ Aside0 (impl_ymeasure.l0 kq x0_1 l1 (l1.length : Int) x11_1 = some r) ∧ Aside0 (kq ≤ k) ∧ Aside0 (Kd.R (Kd.int .i64) 2 w' w.heap.size (fun _ => True) v158 x0_1) ∧ Aside0 (Below w.heap.size w w'))
  case atStart => exact ⟨(t157), (0), (by first | rfl | (simp; done) | (simp [*]; done)), H', ⟨Nat.le_refl _⟩, ⟨by (with_reducible repeat (first | apply Kd.R_alloc | apply Kd.R_drewN | apply Kd.R_drew)); exact HO159.out⟩, ⟨by repeat (first | (with_reducible first | exact HB.out | apply below_alloc | apply pw_below_drewN | apply below_drew1) | exact HB.out)⟩⟩
  case round =>
    clear H'
    try clear c1
    try clear p2
    try clear c4
    obtain ⟨x0_1, x11_1, rfl, HA, HK1, HO_0, HB⟩ := hrel
    cases gk with
    | zero => exact absurd HA.out (by simp [impl_ymeasure.l0])
    | succ k1 =>
      have H := HA.out
      clear HA
      simp only [impl_ymeasure.l0] at H
      by_cases c5 : x11_1 < (l1.length : Int)
      · rw [if_pos c5] at H
        have c5b0 : decide (x11_1 < (l1.length : Int)) = true := decide_eq_true c5
        clear c5
        by_cases c6 : 0 ≤ x11_1
        · rw [if_pos c6] at H
          have c6b0 : decide (0 ≤ x11_1) = true := decide_eq_true c6
          clear c6
          by_cases c7 : x11_1 < (l1.length : Int)
          · rw [if_pos c7] at H
            have c7b0 : decide (x11_1 < (l1.length : Int)) = true := decide_eq_true c7
            clear c7
            by_cases c8 : 0 ≤ ((rd_T63 l1 x11_1).f0)
            · rw [if_pos c8] at H
              have c8b0 : decide (0 ≤ ((rd_T63 l1 x11_1).f0)) = true := decide_eq_true c8
              clear c8
              by_cases c9 : ((rd_T63 l1 x11_1).f0) < (x0_1.length : Int)
              · rw [if_pos c9] at H
                have c9b0 : decide (((rd_T63 l1 x11_1).f0) < (x0_1.length : Int)) = true := decide_eq_true c9
                clear c9
                replace H := Option.bind_eq_some_iff.mp H
                obtain ⟨t163, A100, H⟩ := H
                replace H : (if t163.size + ((rd_T63 l1 x11_1).f1).size ≤ 9223372036854775807 then ((impl_ymix.f k1 (t163 ++ ((rd_T63 l1 x11_1).f1)) 31).bind fun t164 => (impl_ymeasure.l0 k1 (x0_1.set (((rd_T63 l1 x11_1).f0) : Int).toNat t164) l1 (l1.length : Int) (wrap64 (x11_1 + 1)))) else (none)) = some r := H
                have A10 := Aside0.mk A100
                clear A100
                by_cases c11 : t163.size + ((rd_T63 l1 x11_1).f1).size ≤ 9223372036854775807
                · rw [if_pos c11] at H
                  have c11b0 := eq_true c11
                  have c11b1 : decide (t163.size + ((rd_T63 l1 x11_1).f1).size ≤ 9223372036854775807) = true := decide_eq_true c11
                  try have c11b2 : (9223372036854775807 < t163.size + ((rd_T63 l1 x11_1).f1).size) = False := eq_false (Nat.not_lt.2 c11)
                  replace H := Option.bind_eq_some_iff.mp H
                  obtain ⟨t164, A120, H⟩ := H
                  replace H : (impl_ymeasure.l0 k1 (x0_1.set (((rd_T63 l1 x11_1).f0) : Int).toNat t164) l1 (l1.length : Int) (wrap64 (x11_1 + 1))) = some r := H
                  have A12 := Aside0.mk A120
                  clear A120
                  obtain ⟨y165, hy165⟩ : ∃ y_ : List Int, y_ = (x0_1.set (((rd_T63 l1 x11_1).f0) : Int).toNat t164) := ⟨_, rfl⟩
                  replace H : (impl_ymeasure.l0 k1 y165 l1 (l1.length : Int) (wrap64 (x11_1 + 1))) = some r := by first | (rw [hy165]; with_reducible exact H) | (have H2_ := (Option.bind_some _ _).symm.trans H; rw [hy165]; with_reducible exact H2_) | (have H2_ := (Option.bind_some _ _).symm.trans H; with_reducible exact H2_) | with_reducible exact H | (rw [hy165]; exact H) | exact H
                  have Ny165 := Aside0.mk hy165
                  clear hy165
                  have H' := Aside0.mk H
                  clear H
                  have p160 : 0 ≤ (x11_1 : Int) := of_decide_eq_true (by first | (with_reducible assumption) | assumption)
                  have q160 : x11_1 < (l1.length : Int) := of_decide_eq_true (by first | (with_reducible assumption) | assumption)
                  obtain ⟨ad160, e160, hx160_0, hx160_1⟩ := at_T63 HR1.out x11_1 p160 q160
                  cases e160
                  replace hx160_0 := (HB.out.cell (World.block_lt_of_cell? w _ hx160_0)).trans hx160_0
                  replace hx160_1 := (HB.out.cell (World.block_lt_of_cell? w _ hx160_1)).trans hx160_1
                  replace p160 := eq_true p160
                  replace q160 := eq_true q160
                  try go_wp2_with (first | ((with_reducible refine gate_dst (N := 6) rfl ?_); refine box_event ?hg (N := 6) ?hd (cs := #[.int .i64 0, .string (⟨#[]⟩ : ByteArray)]) (t := 63) ?hr ?_; (case hd => rfl); (case hg => rfl); (case hr => first | (go_simp; done) | (go_simp; rfl)); intro gb161 hg w14 hbox hb; have n0_ := Aside0.mk (Kd.R_below (by (with_reducible repeat (first | apply Kd.R_alloc | apply Kd.R_drewN | apply Kd.R_drew)); exact HO_0.out) hb); have n1_ := Aside0.mk (below_step (by repeat (first | (with_reducible first | exact HB.out | apply below_alloc | apply pw_below_drewN | apply below_drew1) | exact HB.out)) hb); have n2_ := Aside0.mk (hbox); have n3_ := Aside0.mk ((by rw [hg]; exact (below_size (by repeat (first | (with_reducible first | exact HB.out | apply below_alloc | apply pw_below_drewN | apply below_drew1) | exact HB.out))) : w.heap.size ≤ gb161)); have n4_ := Aside0.mk ((by rw [hg]; exact (below_size (by repeat (first | (with_reducible first | exact HB.out | apply below_alloc | apply pw_below_drewN | apply below_drew1) | exact HB.out))) : w.heap.size ≤ gb161)); clear HO_0; clear HB; have HO_0 := n0_; have HB := n1_; have BK161 := n2_; have GW161 := n3_; have GE161 := n4_; clear n0_ n1_ n2_ n3_ n4_; clear hb hbox hg; have hcz15_0 : w14.cell? ⟨gb161, 0, none⟩ = some (.int .i64 0) := (blk_cell BK161.out 0).trans rfl; have hcz15_1 : w14.cell? ⟨gb161, 1, none⟩ = some (.string (⟨#[]⟩ : ByteArray)) := (blk_cell BK161.out 1).trans rfl; have hfz15_0 := blk_frozen BK161.out 0; have hfz15_1 := blk_frozen BK161.out 1))
                  have n0_ : Aside0 (Kd.R (Kd.int .i64) 2 ((w14.setCell ⟨gb161, 0, none⟩ (.int .i64 ((rd_T63 l1 x11_1).f0))).setCell ⟨gb161, 1, none⟩ (.string ((rd_T63 l1 x11_1).f1))) w.heap.size (fun _ => True) v158 x0_1) := ⟨by (with_reducible repeat (first | apply Kd.R_alloc | apply Kd.R_drewN | apply Kd.R_drew)); exact Kd.R_mono (Kd.R_far (p := ⟨gb161, 1, none⟩) (Kd.R_far (p := ⟨gb161, 0, none⟩) (Kd.R_types HO_0.out BK161.out (by decide)) (fun _ hk => hk.2) (.int .i64 ((rd_T63 l1 x11_1).f0))) (fun _ hk => hk.2) (.string ((rd_T63 l1 x11_1).f1))) (fun _ hk => trivial)⟩
                  have n1_ : Aside0 (((w14.setCell ⟨gb161, 0, none⟩ (.int .i64 ((rd_T63 l1 x11_1).f0))).setCell ⟨gb161, 1, none⟩ (.string ((rd_T63 l1 x11_1).f1))).heap[gb161]? = some (.cells #[.int .i64 ((rd_T63 l1 x11_1).f0), .string ((rd_T63 l1 x11_1).f1)] 63 (0, 0))) := ⟨by (with_reducible repeat (first | refine blk_drewN ?_ _ | refine blk_drew ?_ | refine blk_alloc ?_ _)); refine blk_put (cs := #[.int .i64 ((rd_T63 l1 x11_1).f0), .string (⟨#[]⟩ : ByteArray)]) ?_ 1 _ rfl; (with_reducible repeat (first | refine blk_drewN ?_ _ | refine blk_drew ?_ | refine blk_alloc ?_ _)); refine blk_put (cs := #[.int .i64 0, .string (⟨#[]⟩ : ByteArray)]) ?_ 0 _ rfl; (with_reducible repeat (first | refine blk_drewN ?_ _ | refine blk_drew ?_ | refine blk_alloc ?_ _)); exact BK161.out⟩
                  have n2_ : Aside0 (Below w.heap.size w ((w14.setCell ⟨gb161, 0, none⟩ (.int .i64 ((rd_T63 l1 x11_1).f0))).setCell ⟨gb161, 1, none⟩ (.string ((rd_T63 l1 x11_1).f1)))) := ⟨by repeat (first | (with_reducible first | exact HB.out | apply below_alloc | apply pw_below_drewN | apply below_drew1 | refine below_set ?_ GE161.out) | exact HB.out)⟩
                  (try clear HO_0)
                  (try clear BK161)
                  (try clear HB)
                  generalize ((w14.setCell ⟨gb161, 0, none⟩ (.int .i64 ((rd_T63 l1 x11_1).f0))).setCell ⟨gb161, 1, none⟩ (.string ((rd_T63 l1 x11_1).f1))) = w16 at n0_ n1_ n2_ ⊢
                  have HO_0 := n0_
                  have BK161 := n1_
                  have HB := n2_
                  clear n0_ n1_ n2_
                  have n0_ := Aside0.mk (Kd.R_drew HO_0.out)
                  have n1_ := Aside0.mk (blk_drew BK161.out)
                  have n2_ := Aside0.mk (below_drew1 HB.out)
                  clear HO_0
                  clear BK161
                  clear HB
                  have HO_0 := n0_
                  have BK161 := n1_
                  have HB := n2_
                  clear n0_ n1_ n2_
                  obtain ⟨Ao18, co18, eo18⟩ := Kd.R_slice HO_0.out
                  (first | subst eo18 | (injection eo18 with f1_ f2_ f3_; have f4_ := f1_.symm; have f5_ := f3_.symm; clear f1_ f2_ f3_; subst f4_; subst f5_))
                  have p162 : 0 ≤ (((rd_T63 l1 x11_1).f0) : Int) := of_decide_eq_true (by first | (with_reducible assumption) | assumption)
                  have q162 : ((rd_T63 l1 x11_1).f0) < (x0_1.length : Int) := of_decide_eq_true (by first | (with_reducible assumption) | assumption)
                  obtain ⟨ad162, e162, hx162_0⟩ := Kd.at_int (Kd.R_reads' HO_0.out).2.2 ((rd_T63 l1 x11_1).f0) p162 q162
                  cases e162
                  replace p162 := eq_true p162
                  replace q162 := eq_true q162
                  refine start_ (n := 15) (S := fun w' => w'.cell? ⟨gb161, 0, none⟩ = some (.int .i64 ((rd_T63 l1 x11_1).f0)) ∧ w'.cell? ⟨gb161, 1, none⟩ = some (.string ((rd_T63 l1 x11_1).f1)) ∧ w'.cell? (ad162.add (((rd_T63 l1 x11_1).f0)).toNat) = some (.int .i64 (rd x0_1 ((rd_T63 l1 x11_1).f0)))) (ds := [14]) #[false, false, false, false, false, false, false, false, false, false, false, false, false, false, false] (by kernel_rfl) rfl rfl ⟨(blk_cell BK161.out 0).trans rfl, (blk_cell BK161.out 1).trans rfl, hx162_0⟩ (fun hHeld => ?_); refine with_tabW impl_ymeasure.tab5 impl_ymeasure.bits5 (fun HT_ HW_ => ?_)
                  generalize w16.drew = w17 at HO_0 BK161 HB hx162_0 hHeld ⊢
                  refine pure_ (i := 0) (N := some 15) (v := ?_) (a' := ?_) #[true, false, false, false, false, false, false, false, false, false, false, false, false, false, false] rfl rfl (any_of HT_.out (by kernel_rfl)) (fun _ _ _ h => h) (Or.inl ⟨by rfl, ?_⟩) ?_ ?_
                  rotate_left
                  · intro w'
                    go_simp
                    with_reducible rfl
                  rotate_left
                  · simp only [Act.put, List.setIfInBounds_toArray, List.set_cons_zero, List.set_cons_succ, i64_w, i32_w]
                    rfl
                  refine pure_ (i := 1) (N := some 16) (v := ?_) (a' := ?_) #[true, true, false, false, false, false, false, false, false, false, false, false, false, false, false] rfl rfl (any_of HT_.out (by kernel_rfl)) (fun _ _ _ h => h) (Or.inl ⟨by rfl, ?_⟩) ?_ ?_
                  rotate_left
                  · intro w'
                    go_simp
                    with_reducible rfl
                  rotate_left
                  · simp only [Act.put, List.setIfInBounds_toArray, List.set_cons_zero, List.set_cons_succ, i64_w, i32_w]
                    rfl
                  refine pure_ (i := 3) (N := some 18) (v := ?_) (a' := ?_) #[true, true, false, true, false, false, false, false, false, false, false, false, false, false, false] rfl rfl (any_of HT_.out (by kernel_rfl)) (fun _ _ _ h => h) (Or.inl ⟨by rfl, ?_⟩) ?_ ?_
                  rotate_left
                  · intro w'
                    go_simp
                    with_reducible rfl
                  rotate_left
                  · simp only [Act.put, List.setIfInBounds_toArray, List.set_cons_zero, List.set_cons_succ, i64_w, i32_w]
                    rfl
                  refine pure_ (i := 4) (N := some 19) (v := ?_) (a' := ?_) #[true, true, false, true, true, false, false, false, false, false, false, false, false, false, false] rfl rfl (any_of HT_.out (by kernel_rfl)) (fun _ _ _ h => h) (Or.inl ⟨by rfl, ?_⟩) ?_ ?_
                  rotate_left
                  · intro w'
                    go_simp
                    with_reducible rfl
                  rotate_left
                  · simp only [Act.put, List.setIfInBounds_toArray, List.set_cons_zero, List.set_cons_succ, i64_w, i32_w]
                    rfl
                  refine pure_ (i := 9) (N := some 24) (v := ?_) (a' := ?_) #[true, true, false, true, true, false, false, false, false, true, false, false, false, false, false] rfl rfl (any_of HT_.out (by kernel_rfl)) (fun _ _ _ h => h) (Or.inl ⟨by rfl, ?_⟩) ?_ ?_
                  rotate_left
                  · intro w'
                    go_simp
                    with_reducible rfl
                  rotate_left
                  · simp only [Act.put, List.setIfInBounds_toArray, List.set_cons_zero, List.set_cons_succ, i64_w, i32_w]
                    rfl
                  refine take_ (i := 2) (N := some 17) (v := ?_) (a' := ?_) #[true, true, true, true, true, false, false, false, false, true, false, false, false, false, false] rfl rfl (take_ofW HT_.out HW_.out (by kernel_rfl)) (fun _ _ _ h => h) (Or.inl ⟨by rfl, ?_⟩) hHeld ?_ ?_
                  rotate_left
                  · rintro w' ⟨s0, s1, s2⟩
                    go_simp
                    with_reducible rfl
                  rotate_left
                  · simp only [Act.put, List.setIfInBounds_toArray, List.set_cons_zero, List.set_cons_succ, i64_w, i32_w]
                    rfl
                  refine take_ (i := 5) (N := some 20) (v := ?_) (a' := ?_) #[true, true, true, true, true, true, false, false, false, true, false, false, false, false, false] rfl rfl (take_ofW HT_.out HW_.out (by kernel_rfl)) (fun _ _ _ h => h) (Or.inl ⟨by rfl, ?_⟩) hHeld ?_ ?_
                  rotate_left
                  · rintro w' ⟨s0, s1, s2⟩
                    go_simp
                    with_reducible rfl
                  rotate_left
                  · simp only [Act.put, List.setIfInBounds_toArray, List.set_cons_zero, List.set_cons_succ, i64_w, i32_w]
                    rfl
                  refine pure_ (i := 6) (N := some 21) (v := ?_) (a' := ?_) #[true, true, true, true, true, true, true, false, false, true, false, false, false, false, false] rfl rfl (any_of HT_.out (by kernel_rfl)) (fun _ _ _ h => h) (Or.inl ⟨by rfl, ?_⟩) ?_ ?_
                  rotate_left
                  · intro w'
                    go_simp
                    with_reducible rfl
                  rotate_left
                  · simp only [Act.put, List.setIfInBounds_toArray, List.set_cons_zero, List.set_cons_succ, i64_w, i32_w]
                    rfl
                  refine take_ (i := 7) (N := some 22) (v := ?_) (a' := ?_) #[true, true, true, true, true, true, true, true, false, true, false, false, false, false, false] rfl rfl (take_ofW HT_.out HW_.out (by kernel_rfl)) (fun _ _ _ h => h) (Or.inl ⟨by rfl, ?_⟩) hHeld ?_ ?_
                  rotate_left
                  · rintro w' ⟨s0, s1, s2⟩
                    go_simp
                    with_reducible rfl
                  rotate_left
                  · simp only [Act.put, List.setIfInBounds_toArray, List.set_cons_zero, List.set_cons_succ, i64_w, i32_w]
                    rfl
                  refine take_ (i := 10) (N := some 25) (v := ?_) (a' := ?_) #[true, true, true, true, true, true, true, true, false, true, true, false, false, false, false] rfl rfl (take_ofW HT_.out HW_.out (by kernel_rfl)) (fun _ _ _ h => h) (Or.inl ⟨by rfl, ?_⟩) hHeld ?_ ?_
                  rotate_left
                  · rintro w' ⟨s0, s1, s2⟩
                    go_simp
                    with_reducible rfl
                  rotate_left
                  · simp only [Act.put, List.setIfInBounds_toArray, List.set_cons_zero, List.set_cons_succ, i64_w, i32_w]
                    rfl
                  refine one_ (i := 8) (N := some 23) #[true, true, true, true, true, true, true, true, true, true, true, false, false, false, false] rfl rfl (one_of HT_.out (by kernel_rfl)) (by decide) (fun K hK => ?_)
                  refine goes_ Try.func30 (by kernel_rfl) rfl #[.int .i64 (rd x0_1 ((rd_T63 l1 x11_1).f0))] (by rfl) rfl rfl (by (try simp only [List.map_toArray, List.map_cons, List.map_nil]); first | done | rfl | (simp only [List.length_drop, List.length_take]; rfl)) ?_
                  with_reducible refine (impl_PutWord.calls (rd x0_1 ((rd_T63 l1 x11_1).f0)) t163 _ A10.out).mono ?_
                  rintro e w19 ⟨rfl, hb⟩
                  have HS2_ := (hb.cell (World.block_lt_of_cell? _ _ (hHeld.2.2))).trans (hHeld.2.2)
                  refine ⟨_, rfl, ?_⟩
                  have n0_ := Aside0.mk (Kd.R_below (by (with_reducible repeat (first | apply Kd.R_alloc | apply Kd.R_drewN | apply Kd.R_drew)); exact HO_0.out) hb)
                  have n1_ := Aside0.mk (blk_below (g := gb161) (o := .cells #[.int .i64 ((rd_T63 l1 x11_1).f0), .string ((rd_T63 l1 x11_1).f1)] 63 (0, 0)) (by (with_reducible repeat (first | refine blk_drewN ?_ _ | refine blk_drew ?_ | refine blk_alloc ?_ _)); exact BK161.out) hb)
                  have n2_ := Aside0.mk (below_step (by repeat (first | (with_reducible first | exact HB.out | apply below_alloc | apply pw_below_drewN | apply below_drew1 | refine below_set ?_ GE161.out) | exact HB.out)) hb)
                  clear HO_0
                  clear BK161
                  clear HB
                  have HO_0 := n0_
                  have BK161 := n1_
                  have HB := n2_
                  clear n0_ n1_ n2_
                  (try clear hb)
                  (try clear hb2)
                  (try clear hk)
                  (try clear hi)
                  refine hK.out _ _ ⟨(blk_cell BK161.out 0).trans rfl, (blk_cell BK161.out 1).trans rfl, HS2_⟩ (fun hHeld => ?_)
                  clear hK K
                  refine norm_ (a' := ?_) ?_ ?_
                  rotate_left
                  · show Act.put _ (some 23) _ = _
                    simp only [Act.put, List.setIfInBounds_toArray, List.set_cons_zero, List.set_cons_succ, i64_w, i32_w]
                    rfl
                  refine pure_ (i := 11) (N := some 26) (v := ?_) (a' := ?_) #[true, true, true, true, true, true, true, true, true, true, true, true, false, false, false] rfl rfl (any_of HT_.out (by kernel_rfl)) (fun _ _ _ h => h) (Or.inl ⟨by rfl, ?_⟩) ?_ ?_
                  rotate_left
                  · intro w'
                    go_simp
                    with_reducible rfl
                  rotate_left
                  · simp only [Act.put, List.setIfInBounds_toArray, List.set_cons_zero, List.set_cons_succ, i64_w, i32_w]
                    rfl
                  refine one_ (i := 12) (N := some 27) #[true, true, true, true, true, true, true, true, true, true, true, true, true, false, false] rfl rfl (one_of HT_.out (by kernel_rfl)) (by decide) (fun K hK => ?_)
                  refine goes_ Try.func28 (by kernel_rfl) rfl #[.string (t163 ++ ((rd_T63 l1 x11_1).f1)), .int .i64 31] (by rfl) rfl rfl (by (try simp only [List.map_toArray, List.map_cons, List.map_nil]); first | done | rfl | (simp only [List.length_drop, List.length_take]; rfl)) ?_
                  with_reducible refine (impl_ymix.calls k1 (t163 ++ ((rd_T63 l1 x11_1).f1)) 31 t164 _ A12.out).mono ?_
                  rintro e w' ⟨rfl, ⟨nd, rfl⟩⟩
                  refine ⟨_, rfl, ?_⟩
                  have p13 : 0 ≤ (((rd_T63 l1 x11_1).f0) : Int) := of_decide_eq_true (by first | (with_reducible assumption) | assumption)
                  have q13 : (((rd_T63 l1 x11_1).f0) : Int) < ((x0_1.length : Int) : Int) := of_decide_eq_true (by first | (with_reducible assumption) | assumption)
                  obtain ⟨go13, co13, eo13, gb13, gl13, cl13, HG13⟩ := Kd.R_form HO_0.out (by omega)
                  (first | cases eo13 | (injection eo13 with ea_ en_ ec_; (first | subst ea_ | (injection ea_ with ea_; subst ea_)); subst ec_; clear en_))
                  have GB13 := Aside0.mk gb13
                  have GG13 := Aside0.mk HG13
                  clear gb13 gl13 HG13
                  (first | simp only [add_plain] at hx162_0 | skip)
                  obtain ⟨hx13_0, hf13_0⟩ := Kd.R_celln 0 HO_0.out (((rd_T63 l1 x11_1).f0) : Int) p13 q13
                  replace p13 := eq_true p13
                  replace q13 := eq_true q13
                  have HP20 := Kd.R_putn HO_0.out (((rd_T63 l1 x11_1).f0) : Int) t164
                  rw [← Ny165.out] at HP20
                  have HQ20 := Aside0.mk HP20
                  clear HP20
                  refine hK.out _ _ ⟨(blk_cell BK161.out 0).trans rfl, (blk_cell BK161.out 1).trans rfl, hHeld.2.2⟩ (fun hHeld => ?_)
                  clear hK K
                  refine norm_ (a' := ?_) ?_ ?_
                  rotate_left
                  · show Act.put _ (some 27) _ = _
                    simp only [Act.put, List.setIfInBounds_toArray, List.set_cons_zero, List.set_cons_succ, i64_w, i32_w]
                    rfl
                  refine pure_ (i := 13) (N := some 28) (v := ?_) (a' := ?_) #[true, true, true, true, true, true, true, true, true, true, true, true, true, true, false] rfl rfl (any_of HT_.out (by kernel_rfl)) (fun _ _ _ h => h) (Or.inl ⟨by rfl, ?_⟩) ?_ ?_
                  rotate_left
                  · intro w'
                    go_simp
                    with_reducible rfl
                  rotate_left
                  · simp only [Act.put, List.setIfInBounds_toArray, List.set_cons_zero, List.set_cons_succ, i64_w, i32_w]
                    rfl
                  refine last_ (i := 14) (N := none) #[true, true, true, true, true, true, true, true, true, true, true, true, true, true, true] rfl rfl (one_of HT_.out (by kernel_rfl)) (by decide) (fun K hK => ?_)
                  refine skip_ (w1 := ?_) (by rfl) rfl ?_ ?_
                  rotate_left
                  · go_simp
                    rfl
                  refine hK.out _ _ ?_
                  clear hK K
                  refine done_ (done_of HT_.out (by kernel_rfl)) ?_
                  try go_wp2
                  go_roundg k1
                  case measure => have := HK1.out; omega
                  case rel => exact ⟨(y165), (wrap64 (x11_1 + 1)), (by first | rfl | (simp; done) | (simp [*]; done)), H', ⟨by have := HK1.out; omega⟩, ⟨by (with_reducible repeat (first | apply Kd.R_alloc | apply Kd.R_drewN | apply Kd.R_drew)); exact HQ20.out⟩, ⟨by repeat (first | (with_reducible first | exact HB.out | apply below_alloc | apply pw_below_drewN | apply below_drew1 | refine below_set ?_ GB13.out | refine below_set ?_ GE161.out) | exact HB.out)⟩⟩
                · rw [if_neg c11] at H
                  exact absurd H (by simp)
              · rw [if_neg c9] at H
                exact absurd H (by simp)
            · rw [if_neg c8] at H
              exact absurd H (by simp)
          · rw [if_neg c7] at H
            exact absurd H (by simp)
        · rw [if_neg c6] at H
          exact absurd H (by simp)
      · rw [if_neg c5] at H
        have c5b0 : decide (x11_1 < (l1.length : Int)) = false := decide_eq_false c5
        clear c5
        obtain rfl := Option.some.inj H
        go_wp2
        go_ret
        exact ⟨_, by first | rfl | (simp [errW_none, errW_some] <;> rfl) | (simp [*, errW_none, errW_some] <;> rfl), by (with_reducible repeat (first | apply Kd.R_alloc | apply Kd.R_drewN | apply Kd.R_drew)); exact HO_0.out, by repeat (first | (with_reducible first | exact HB.out | apply below_alloc | apply pw_below_drewN | apply below_drew1) | exact HB.out)⟩

end Go.Proofs.Ytpcpjkbjadgoiaa.QFnExactMeasure
