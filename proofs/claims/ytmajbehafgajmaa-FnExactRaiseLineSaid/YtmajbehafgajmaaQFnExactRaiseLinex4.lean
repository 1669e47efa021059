-- Written for this claim by this session's own driver (wip/xprint.py).
import Derived.Test.YtmajbehafgajmaaQFnExactRaiseLinex0
import Derived.Test.YtmajbehafgajmaaQFnExactRaiseLinex3
namespace Go.Proofs.Ytmajbehafgajmaa.QFnExactRaiseLine
open Go.RowKit Go.Proofs.YtmajbehafgajmaaW.PrintWords Go.Proofs.YtmajbehafgajmaaW.PrintLast Go.Proofs.YtmajbehafgajmaaW.PrintMore
attribute [local go_sem] max2_int min2_int max_two min_two max_three min_three max_four min_four   -- for this text's walks alone
set_option linter.unusedVariables false
set_option linter.unusedSimpArgs false

/-! ### impl_ywordsOk: function 125 -/
def wordBad (x : Int) : Bool := !(decide (0 ≤ x) && decide (x < 4294967296))
def impl_ywordsOk.f (l0 : List Int) (a1 : Int) : Option (Bool) := if (l0.length : Int) = a1 then some (!(l0.any wordBad)) else some false
set_option maxHeartbeats 4000000 in
theorem wordsOk_indexFunc (A : Option Addr) (c : Nat) (zs : List Int) (p : Int → Bool) (eg : ∀ args w, (callFunc 148 args).run Try.prog w = .ok (.enter 148 args) w) (w : World)
    (hp : ∀ (W : World) (x : Int), Below w.heap.size w W → Calls Try.prog 148 #[.int .i64 x] W fun e w' => e = .returned (.bool (p x)) ∧ Below W.heap.size W w')
    (hr : Kd.C (Kd.int .i64) w A zs.length zs) :
    Calls Try.prog 116 #[.slice A zs.length c, .func (.func 148) #[] #[]] w fun e w' => e = .returned (.int .i64 (Go.Proofs.Ytmajbehafgajmaa.Pl.idxFrom p zs 0)) ∧ Below w.heap.size w w' := by
  have HR := Aside0.mk hr
  have hbig := hr.2.1
  have HP := Aside0.mk hp
  clear hr hp
  go_enter Try.func116, Try.ntmps116
  go_wp2
  go_loopg [5, 8] zs.length (fun gg _ s8 wr => ∃ kk : Nat, s8 = .int .i64 kk ∧ Aside0 (kk ≤ zs.length) ∧ Aside0 (zs.length - kk ≤ gg) ∧ Aside0 (Below w.heap.size w wr) ∧ Aside0 (∀ j, j < kk → p (zs.getD j 0) = false))
  case atStart => exact ⟨0, rfl, ⟨Nat.zero_le _⟩, ⟨by omega⟩, ⟨Below.refl _ w⟩, ⟨fun j hj => absurd hj (Nat.not_lt_zero _)⟩⟩
  case round =>
    obtain ⟨kk, rfl, hkk, hg, BW, AA⟩ := hrel
    by_cases hlt : kk < zs.length
    · have hltz : (kk : Int) < (zs.length : Int) := by omega
      obtain ⟨ad, e_, hx⟩ := Kd.at_int HR.out (kk : Int) (by omega) (by omega)
      cases e_
      replace hx := pw_cell_below BW.out hx
      rw [Int.toNat_natCast] at hx
      have hcall := HP.out wr (zs.getD kk 0) BW.out
      have hy0 : rd zs (kk : Int) = zs.getD kk 0 := by unfold rd; rw [Int.toNat_natCast]
      rw [hy0] at hx
      clear hy0
      generalize hy : zs.getD kk 0 = y at hx hcall
      have BY := Aside0.mk hy
      clear hy
      cases hq : p y with
      | true =>
        rw [hq] at hcall
        have HQ := Aside0.mk hq
        clear hq
        go_wp2_with (go_at_call 148; refine hcall.mono ?_; rintro e w' ⟨rfl, hb'⟩)
        go_ret
        refine ⟨?_, BW.out.trans (hb'.mono BW.out.size)⟩
        rw [Go.Proofs.Ytmajbehafgajmaa.Pl.idxFrom_hit p 0 zs 0 kk hlt (by rw [BY.out]; exact HQ.out) AA.out, Nat.zero_add]
        rfl
      | false =>
        rw [hq] at hcall
        have HQ := Aside0.mk hq
        clear hq
        go_wp2_with (go_at_call 148; refine hcall.mono ?_; rintro e w' ⟨rfl, hb'⟩)
        go_roundg (zs.length - (kk + 1))
        case measure => have := hg.out; omega
        case rel =>
          refine ⟨kk + 1, by go_num, ⟨hlt⟩, ⟨by omega⟩, ⟨BW.out.trans (hb'.mono BW.out.size)⟩, ⟨fun j hj => ?_⟩⟩
          by_cases e : j = kk
          · subst e
            rw [BY.out]; exact HQ.out
          · exact AA.out j (by omega)
    · have hltz : ¬ (kk : Int) < (zs.length : Int) := by omega
      have hkn : kk = zs.length := by have := hkk.out; omega
      subst hkn
      go_wp2
      go_ret
      refine ⟨?_, BW.out⟩
      rw [Go.Proofs.Ytmajbehafgajmaa.Pl.idxFrom_miss p 0 zs 0 AA.out]
      rfl
theorem wordsOk_closure (W : World) (x : Int) : Calls Try.prog 148 #[.int .i64 x] W fun e w' => e = .returned (.bool (wordBad x)) ∧ Below W.heap.size W w' := by
  have hy : impl_yisWord.f x = some (!(wordBad x)) := by
    unfold impl_yisWord.f wordBad
    by_cases h : x ≥ 0
    · rw [if_pos h, decide_eq_true h]; simp
    · rw [if_neg h, decide_eq_false h]; rfl
  generalize wordBad x = b at hy
  go_enter Try.func148, Try.ntmps148
  go_wp2_with (go_at_call 124; refine (impl_yisWord.calls x _ _ hy).mono ?_; rintro e w' ⟨rfl, ⟨m1, rfl⟩⟩)
  go_ret
  exact ⟨by simp, pw_below_drewN (Below.refl _ _) _⟩
set_option maxHeartbeats 4000000 in
theorem impl_ywordsOk.calls (A0 : Option Addr) (c0 : Nat) (l0 : List Int) (a1 : Int) (r : Bool) (w : World) (hr0 : Kd.C (Kd.int .i64) w A0 l0.length l0) (hc0 : l0.length ≤ c0) (h : impl_ywordsOk.f l0 a1 = some r) :
    Calls Try.prog 125 #[.slice A0 l0.length c0, .int .i64 a1] w fun e w' => e = .returned (.bool r) ∧ Below w.heap.size w w' := by
  have eg : ∀ args w, (callFunc 148 args).run Try.prog w = .ok (.enter 148 args) w := enters_of Try.func148 (by kernel_rfl) rfl
  unfold impl_ywordsOk.f at h
  by_cases hl : (l0.length : Int) = a1
  · rw [if_pos hl] at h
    have hcon := fun W (hb : Below w.heap.size w W) => wordsOk_indexFunc A0 c0 l0 wordBad eg W (fun W' x _ => wordsOk_closure W' x) (Kd.C_below hr0 hb)
    have hany : (!decide (0 ≤ Go.Proofs.Ytmajbehafgajmaa.Pl.idxFrom wordBad l0 0)) = r := by rw [Go.Proofs.Ytmajbehafgajmaa.Pl.idxFrom_any]; exact Option.some.inj h
    generalize Go.Proofs.Ytmajbehafgajmaa.Pl.idxFrom wordBad l0 0 = q at hcon hany
    clear hr0 h
    subst hany
    subst hl
    go_enter Try.func125, Try.ntmps125
    go_wp2_with (first | (go_at_call 116; refine (hcon _ (Below.refl _ _)).mono ?_; rintro e w' ⟨rfl, hb'⟩) | go_in)
    go_ret
    exact ⟨by simp, hb'⟩
  · rw [if_neg hl] at h
    obtain rfl := Option.some.inj h
    have hl1 : ((l0.length : Int) == a1) = false := beq_eq_false_iff_ne.mpr hl
    clear hr0 h
    go_enter Try.func125, Try.ntmps125
    go_wp2
    go_ret
    exact ⟨rfl, Below.refl _ _⟩

-- NOT PRINTED: function 158 (impl_PortValue_158)

-- NOT PRINTED: function 149 (impl_PortValue_149)

/-! ### impl_yportsOk_1: function 150 -/
def impl_yportsOk_1.f (a0_0 : Int) (a0_1 : Int) : Option (Bool) := (impl_yin.f a0_0 0 2047).bind fun t216 => (if t216 = true then ((impl_yisWord.f a0_1).bind fun t217 => (some (!t217))) else (some true))
set_option maxHeartbeats 8000000 in
set_option maxRecDepth 100000 in
theorem impl_yportsOk_1.calls (a0_0 : Int) (a0_1 : Int) (r : Bool) (w : World) (h : impl_yportsOk_1.f a0_0 a0_1 = some r) :
    Calls Try.prog 150 #[.agg #[.int .i64 a0_0, .int .i64 a0_1]] w fun e w' => e = .returned (.bool r) ∧ Below w.heap.size w w' := by
  have hu185 := Try.underlying185
  have HB := Aside0.mk (Below.refl w.heap.size w)
  have H : ((impl_yin.f a0_0 0 2047).bind fun t216 => (if t216 = true then ((impl_yisWord.f a0_1).bind fun t217 => (some (!t217))) else (some true))) = some r := h
  clear h
  replace H := Option.bind_eq_some_iff.mp H
  obtain ⟨t216, A20, H⟩ := H
  replace H : (if t216 = true then ((impl_yisWord.f a0_1).bind fun t217 => (some (!t217))) else (some true)) = some r := H
  have A2 := Aside0.mk A20
  clear A20
  by_cases c3 : t216 = true
  · subst c3
    have H1 : ((impl_yisWord.f a0_1).bind fun t217 => (some (!t217))) = some r := by rw [if_pos rfl] at H; exact H
    clear H
    have H := H1
    clear H1
    replace H := Option.bind_eq_some_iff.mp H
    obtain ⟨t217, A40, H⟩ := H
    replace H : (some (!t217)) = some r := H
    have A4 := Aside0.mk A40
    clear A40
    obtain rfl := Option.some.inj H
    go_enter Try.func150, Try.ntmps150
    go_wp2_with (first | ((with_reducible refine gate_dst (N := 1) rfl ?_); refine box_event ?hg (N := 1) ?hd (cs := #[.int .i64 a0_0, .int .i64 a0_1]) (t := 185) ?hr ?_; (case hd => rfl); (case hg => rfl); (case hr => first | (go_simp; done) | (go_simp; rfl)); intro gb215 hg w5 hbox hb; have n0_ := Aside0.mk (below_step (by repeat (first | (with_reducible first | exact HB.out | apply below_alloc | apply pw_below_drewN | apply below_drew1) | exact HB.out)) hb); have n1_ := Aside0.mk (hbox); have n2_ := Aside0.mk ((by rw [hg]; exact (below_size (by repeat (first | (with_reducible first | exact HB.out | apply below_alloc | apply pw_below_drewN | apply below_drew1) | exact HB.out))) : w.heap.size ≤ gb215)); have n3_ := Aside0.mk ((by rw [hg]; exact (below_size (by repeat (first | (with_reducible first | exact HB.out | apply below_alloc | apply pw_below_drewN | apply below_drew1) | exact HB.out))) : w.heap.size ≤ gb215)); clear HB; have HB := n0_; have BK215 := n1_; have GW215 := n2_; have GE215 := n3_; clear n0_ n1_ n2_ n3_; clear hb hbox hg; have hcz6_0 : w5.cell? ⟨gb215, 0, none⟩ = some (.int .i64 a0_0) := (blk_cell BK215.out 0).trans rfl; have hcz6_1 : w5.cell? ⟨gb215, 1, none⟩ = some (.int .i64 a0_1) := (blk_cell BK215.out 1).trans rfl; have hfz6_0 := blk_frozen BK215.out 0; have hfz6_1 := blk_frozen BK215.out 1) | ((with_reducible refine gate_callee (f := 49) rfl ?_); refine goesL_ (some 5) rfl rfl Try.func49 (by kernel_rfl) rfl #[.int .i64 a0_0, .int .i64 0, .int .i64 2047] rfl (by (try simp only [List.map_toArray, List.map_cons, List.map_nil]); first | done | rfl | (simp only [List.length_drop, List.length_take]; rfl)) ?_; (with_reducible refine (impl_yin.calls a0_0 0 2047 true _ A2.out).mono ?_); rintro e w' ⟨rfl, ⟨nd, rfl⟩⟩; refine ⟨_, rfl, ?_⟩) | (go_at_call 124; (with_reducible refine (impl_yisWord.calls a0_1 t217 _ A4.out).mono ?_); rintro e w' ⟨rfl, ⟨nd, rfl⟩⟩))
    go_ret
    exact ⟨by first | rfl | (simp [errW_none, errW_some] <;> rfl) | (simp [*, errW_none, errW_some] <;> rfl), by repeat (first | (with_reducible first | exact HB.out | apply below_alloc | apply pw_below_drewN | apply below_drew1 | refine below_set ?_ GE215.out) | exact HB.out)⟩
  · replace c3 := Bool.eq_false_iff.mpr c3
    subst c3
    have H1 : (some true) = some r := by rw [if_neg (show ¬ (false = true) by decide)] at H; exact H
    clear H
    have H := H1
    clear H1
    obtain rfl := Option.some.inj H
    go_enter Try.func150, Try.ntmps150
    go_wp2_with (first | ((with_reducible refine gate_dst (N := 1) rfl ?_); refine box_event ?hg (N := 1) ?hd (cs := #[.int .i64 a0_0, .int .i64 a0_1]) (t := 185) ?hr ?_; (case hd => rfl); (case hg => rfl); (case hr => first | (go_simp; done) | (go_simp; rfl)); intro gb215 hg w7 hbox hb; have n0_ := Aside0.mk (below_step (by repeat (first | (with_reducible first | exact HB.out | apply below_alloc | apply pw_below_drewN | apply below_drew1) | exact HB.out)) hb); have n1_ := Aside0.mk (hbox); have n2_ := Aside0.mk ((by rw [hg]; exact (below_size (by repeat (first | (with_reducible first | exact HB.out | apply below_alloc | apply pw_below_drewN | apply below_drew1) | exact HB.out))) : w.heap.size ≤ gb215)); have n3_ := Aside0.mk ((by rw [hg]; exact (below_size (by repeat (first | (with_reducible first | exact HB.out | apply below_alloc | apply pw_below_drewN | apply below_drew1) | exact HB.out))) : w.heap.size ≤ gb215)); clear HB; have HB := n0_; have BK215 := n1_; have GW215 := n2_; have GE215 := n3_; clear n0_ n1_ n2_ n3_; clear hb hbox hg; have hcz8_0 : w7.cell? ⟨gb215, 0, none⟩ = some (.int .i64 a0_0) := (blk_cell BK215.out 0).trans rfl; have hcz8_1 : w7.cell? ⟨gb215, 1, none⟩ = some (.int .i64 a0_1) := (blk_cell BK215.out 1).trans rfl; have hfz8_0 := blk_frozen BK215.out 0; have hfz8_1 := blk_frozen BK215.out 1) | ((with_reducible refine gate_callee (f := 49) rfl ?_); refine goesL_ (some 5) rfl rfl Try.func49 (by kernel_rfl) rfl #[.int .i64 a0_0, .int .i64 0, .int .i64 2047] rfl (by (try simp only [List.map_toArray, List.map_cons, List.map_nil]); first | done | rfl | (simp only [List.length_drop, List.length_take]; rfl)) ?_; (with_reducible refine (impl_yin.calls a0_0 0 2047 false _ A2.out).mono ?_); rintro e w' ⟨rfl, ⟨nd, rfl⟩⟩; refine ⟨_, rfl, ?_⟩))
    go_ret
    exact ⟨by first | rfl | (simp [errW_none, errW_some] <;> rfl) | (simp [*, errW_none, errW_some] <;> rfl), by repeat (first | (with_reducible first | exact HB.out | apply below_alloc | apply pw_below_drewN | apply below_drew1 | refine below_set ?_ GE215.out) | exact HB.out)⟩

/-! ### impl_yportsOk: function 126 -/
def portsOkBad (x : S185) : Bool := !(decide (0 ≤ x.f0) && decide (x.f0 ≤ 2047)) || !(decide (0 ≤ x.f1) && decide (x.f1 < 4294967296))
def impl_yportsOk.f (l0 : List (S185)) : Option (Bool) := if (l0.length : Int) ≤ 100 then some (!(l0.any portsOkBad)) else some false
set_option maxHeartbeats 4000000 in
theorem portsOk_indexFunc (A : Option Addr) (c : Nat) (zs : List S185) (p : S185 → Bool) (eg : ∀ args w, (callFunc 150 args).run Try.prog w = .ok (.enter 150 args) w) (w : World)
    (hp : ∀ (W : World) (x : S185), Below w.heap.size w W → Calls Try.prog 150 #[.agg #[.int .i64 x.f0, .int .i64 x.f1]] W fun e w' => e = .returned (.bool (p x)) ∧ Below W.heap.size W w')
    (hr : Kd.C k185 w A zs.length zs) :
    Calls Try.prog 158 #[.slice A zs.length c, .func (.func 150) #[] #[]] w fun e w' => e = .returned (.int .i64 (Go.Proofs.Ytmajbehafgajmaa.Pl.idxFrom p zs 0)) ∧ Below w.heap.size w w' := by
  have HR := Aside0.mk hr
  have hbig := hr.2.1
  have HP := Aside0.mk hp
  clear hr hp
  go_enter Try.func158, Try.ntmps158
  go_wp2
  go_loopg [5, 8] zs.length (fun gg _ s8 wr => ∃ kk : Nat, s8 = .int .i64 kk ∧ Aside0 (kk ≤ zs.length) ∧ Aside0 (zs.length - kk ≤ gg) ∧ Aside0 (Below w.heap.size w wr) ∧ Aside0 (∀ j, j < kk → p (zs.getD j z185) = false))
  case atStart => exact ⟨0, rfl, ⟨Nat.zero_le _⟩, ⟨by omega⟩, ⟨Below.refl _ w⟩, ⟨fun j hj => absurd hj (Nat.not_lt_zero _)⟩⟩
  case round =>
    obtain ⟨kk, rfl, hkk, hg, BW, AA⟩ := hrel
    by_cases hlt : kk < zs.length
    · have hltz : (kk : Int) < (zs.length : Int) := by omega
      obtain ⟨ad, e_, hx0, hx1⟩ := at_T185 HR.out (kk : Int) (by omega) (by omega)
      cases e_
      replace hx0 := pw_cell_below BW.out hx0
      replace hx1 := pw_cell_below BW.out hx1
      rw [Int.toNat_natCast] at hx0 hx1
      have hcall := HP.out wr (zs.getD kk z185) BW.out
      have hy0 : rd_T185 zs (kk : Int) = zs.getD kk z185 := by unfold rd_T185; rw [Int.toNat_natCast]
      rw [hy0] at hx0 hx1
      clear hy0
      generalize hy : zs.getD kk z185 = y at hx0 hx1 hcall
      have BY := Aside0.mk hy
      clear hy
      cases hq : p y with
      | true =>
        rw [hq] at hcall
        have HQ := Aside0.mk hq
        clear hq
        go_wp2_with (go_at_call 150; refine hcall.mono ?_; rintro e w' ⟨rfl, hb'⟩)
        go_ret
        refine ⟨?_, BW.out.trans (hb'.mono BW.out.size)⟩
        rw [Go.Proofs.Ytmajbehafgajmaa.Pl.idxFrom_hit p z185 zs 0 kk hlt (by rw [BY.out]; exact HQ.out) AA.out, Nat.zero_add]
        rfl
      | false =>
        rw [hq] at hcall
        have HQ := Aside0.mk hq
        clear hq
        go_wp2_with (go_at_call 150; refine hcall.mono ?_; rintro e w' ⟨rfl, hb'⟩)
        go_roundg (zs.length - (kk + 1))
        case measure => have := hg.out; omega
        case rel =>
          refine ⟨kk + 1, by go_num, ⟨hlt⟩, ⟨by omega⟩, ⟨BW.out.trans (hb'.mono BW.out.size)⟩, ⟨fun j hj => ?_⟩⟩
          by_cases e : j = kk
          · subst e
            rw [BY.out]; exact HQ.out
          · exact AA.out j (by omega)
    · have hltz : ¬ (kk : Int) < (zs.length : Int) := by omega
      have hkn : kk = zs.length := by have := hkk.out; omega
      subst hkn
      go_wp2
      go_ret
      refine ⟨?_, BW.out⟩
      rw [Go.Proofs.Ytmajbehafgajmaa.Pl.idxFrom_miss p z185 zs 0 AA.out]
      rfl
theorem portsOk_clo (x : S185) : impl_yportsOk_1.f x.f0 x.f1 = some (portsOkBad x) := by
  unfold impl_yportsOk_1.f impl_yin.f impl_yisWord.f portsOkBad
  by_cases h0 : x.f0 ≥ 0
  · rw [if_pos h0, decide_eq_true h0]
    by_cases h1 : x.f0 ≤ 2047
    · rw [decide_eq_true h1]
      simp only [Option.bind_some, if_true]
      by_cases h2 : x.f1 ≥ 0
      · rw [if_pos h2, decide_eq_true h2]; simp
      · rw [if_neg h2, decide_eq_false h2]; simp
    · rw [decide_eq_false h1]; rfl
  · rw [if_neg h0, decide_eq_false h0]; rfl
theorem portsOk_closure (W : World) (x : S185) : Calls Try.prog 150 #[.agg #[.int .i64 x.f0, .int .i64 x.f1]] W fun e w' => e = .returned (.bool (portsOkBad x)) ∧ Below W.heap.size W w' :=
  (impl_yportsOk_1.calls x.f0 x.f1 _ W (portsOk_clo x)).mono fun _ _ h => ⟨h.1, h.2⟩
set_option maxHeartbeats 4000000 in
theorem impl_yportsOk.calls (A0 : Option Addr) (c0 : Nat) (l0 : List (S185)) (r : Bool) (w : World) (hr0 : Kd.C k185 w A0 l0.length l0) (hc0 : l0.length ≤ c0) (h : impl_yportsOk.f l0 = some r) :
    Calls Try.prog 126 #[.slice A0 l0.length c0] w fun e w' => e = .returned (.bool r) ∧ Below w.heap.size w w' := by
  have eg : ∀ args w, (callFunc 150 args).run Try.prog w = .ok (.enter 150 args) w := enters_of Try.func150 (by kernel_rfl) rfl
  unfold impl_yportsOk.f at h
  by_cases hl : (l0.length : Int) ≤ 100
  · rw [if_pos hl] at h
    have hcon := portsOk_indexFunc A0 c0 l0 portsOkBad eg w (fun W' x _ => portsOk_closure W' x) hr0
    have hany : (!decide (0 ≤ Go.Proofs.Ytmajbehafgajmaa.Pl.idxFrom portsOkBad l0 0)) = r := by rw [Go.Proofs.Ytmajbehafgajmaa.Pl.idxFrom_any]; exact Option.some.inj h
    generalize Go.Proofs.Ytmajbehafgajmaa.Pl.idxFrom portsOkBad l0 0 = q at hcon hany
    have hl1 : decide ((l0.length : Int) ≤ 100) = true := decide_eq_true hl
    have hl2 : decide (l0.length ≤ 100) = true := decide_eq_true (by omega)
    clear hr0 h hl
    subst hany
    go_enter Try.func126, Try.ntmps126
    go_wp2_with (first | (go_at_call 158; refine hcon.mono ?_; rintro e w' ⟨rfl, hb'⟩) | go_in)
    go_ret
    exact ⟨by simp, hb'⟩
  · rw [if_neg hl] at h
    obtain rfl := Option.some.inj h
    have hl1 : decide ((l0.length : Int) ≤ 100) = false := decide_eq_false hl
    have hl2 : decide (l0.length ≤ 100) = false := decide_eq_false (by omega)
    clear hr0 h hl
    go_enter Try.func126, Try.ntmps126
    go_wp2
    go_ret
    exact ⟨rfl, Below.refl _ _⟩

/-! ### impl_MachineFault: function 86 -/
def inB (a lo hi : Int) : Bool := decide (lo ≤ a) && decide (a ≤ hi)
theorem yin_eq (a lo hi : Int) : impl_yin.f a lo hi = some (inB a lo hi) := by
  unfold impl_yin.f inB
  by_cases h : a ≥ lo
  · rw [if_pos h, decide_eq_true h]; rfl
  · rw [if_neg h, decide_eq_false h]; rfl
def wordB (x : Int) : Bool := decide (0 ≤ x) && decide (x < 4294967296)
theorem yword_eq (x : Int) : impl_yisWord.f x = some (wordB x) := by
  unfold impl_yisWord.f wordB
  by_cases h : x ≥ 0
  · rw [if_pos h, decide_eq_true h]; rfl
  · rw [if_neg h, decide_eq_false h]; rfl
def memB (s : ByteArray) : Bool := decide (256 ≤ (s.size : Int)) && (decide ((s.size : Int) ≤ 65536) && (((s.size : Int) % 256) == 0))
theorem ymem_eq (s : ByteArray) : impl_ymemOk.f s = some (memB s) := by
  unfold impl_ymemOk.f memB
  by_cases h : (s.size : Int) ≥ 256
  · rw [if_pos h, decide_eq_true h]
    by_cases h2 : (s.size : Int) ≤ 65536
    · rw [if_pos h2, decide_eq_true h2]; rfl
    · rw [if_neg h2, decide_eq_false h2]; rfl
  · rw [if_neg h, decide_eq_false h]; rfl
def wordsB (l : List Int) (n : Int) : Bool := decide ((l.length : Int) = n) && !(l.any wordBad)
theorem ywords_eq (l : List Int) (n : Int) : impl_ywordsOk.f l n = some (wordsB l n) := by
  unfold impl_ywordsOk.f wordsB
  by_cases h : (l.length : Int) = n
  · rw [if_pos h, decide_eq_true h]; rfl
  · rw [if_neg h, decide_eq_false h]; rfl
theorem wordsB_len {l : List Int} {n : Int} (h : wordsB l n = true) : (l.length : Int) = n := by
  unfold wordsB at h
  rw [Bool.and_eq_true] at h
  exact of_decide_eq_true h.1
def portsB (l : List (S185)) : Bool := decide ((l.length : Int) ≤ 100) && !(l.any portsOkBad)
theorem yports_eq (l : List (S185)) : impl_yportsOk.f l = some (portsB l) := by
  unfold impl_yportsOk.f portsB
  by_cases h : (l.length : Int) ≤ 100
  · rw [if_pos h, decide_eq_true h]; rfl
  · rw [if_neg h, decide_eq_false h]; rfl
def impl_MachineFault.f (a0_0 : Int) (l0_1 : List Int) (a0_2 : Int) (l0_3 : List Int) (l0_4 : List Int) (a0_5 : ByteArray) (a0_6 : Int) (a0_7 : Int) (a0_8 : Int) (l0_9 : List (S185)) (l0_10 : List (S185)) (a0_11 : Int) : Option (Int) := if (memB a0_5 && (wordB a0_0 && (wordsB l0_1 16 && ((rd l0_1 0 == 0) && (wordsB l0_3 12 && (wordsB l0_4 16 && (inB a0_2 0 1 && (inB a0_6 0 2 && (inB a0_7 0 1099511627776 && (inB a0_8 0 127 && (portsB l0_9 && (portsB l0_10 && (inB a0_11 0 2147483628 && (decide (rd l0_3 0 < 32) && ((rd l0_3 8 == 0) && ((rd l0_3 9 == 0) && ((rd l0_3 11 == 0)))))))))))))))))) = true then some 0 else some 1
set_option maxHeartbeats 64000000 in
set_option maxRecDepth 200000 in
theorem impl_MachineFault.calls (a0_0 : Int) (A0_1 : Option Addr) (c0_1 : Nat) (l0_1 : List Int) (a0_2 : Int) (A0_3 : Option Addr) (c0_3 : Nat) (l0_3 : List Int) (A0_4 : Option Addr) (c0_4 : Nat) (l0_4 : List Int) (a0_5 : ByteArray) (a0_6 : Int) (a0_7 : Int) (a0_8 : Int) (A0_9 : Option Addr) (c0_9 : Nat) (l0_9 : List (S185)) (A0_10 : Option Addr) (c0_10 : Nat) (l0_10 : List (S185)) (a0_11 : Int) (r : Int) (w : World) (hr0_1 : Kd.C (Kd.int .i64) w A0_1 l0_1.length l0_1) (hc0_1 : l0_1.length ≤ c0_1) (hr0_3 : Kd.C (Kd.int .i64) w A0_3 l0_3.length l0_3) (hc0_3 : l0_3.length ≤ c0_3) (hr0_4 : Kd.C (Kd.int .i64) w A0_4 l0_4.length l0_4) (hc0_4 : l0_4.length ≤ c0_4) (hr0_9 : Kd.C k185 w A0_9 l0_9.length l0_9) (hc0_9 : l0_9.length ≤ c0_9) (hr0_10 : Kd.C k185 w A0_10 l0_10.length l0_10) (hc0_10 : l0_10.length ≤ c0_10) (h : impl_MachineFault.f a0_0 l0_1 a0_2 l0_3 l0_4 a0_5 a0_6 a0_7 a0_8 l0_9 l0_10 a0_11 = some r) :
    Calls Try.prog 86 #[.agg #[.int .i64 a0_0, .slice A0_1 l0_1.length c0_1, .int .i64 a0_2, .slice A0_3 l0_3.length c0_3, .slice A0_4 l0_4.length c0_4, .string a0_5, .int .i64 a0_6, .int .i64 a0_7, .int .i64 a0_8, .slice A0_9 l0_9.length c0_9, .slice A0_10 l0_10.length c0_10, .int .i64 a0_11]] w fun e w' => e = .returned (.int .i64 r) ∧ Below w.heap.size w w' := by
  unfold impl_MachineFault.f at h
  have HR1 := Aside0.mk hr0_1
  have HC1 := Aside0.mk hc0_1
  clear hr0_1 hc0_1
  have HR3 := Aside0.mk hr0_3
  have HC3 := Aside0.mk hc0_3
  clear hr0_3 hc0_3
  have HR4 := Aside0.mk hr0_4
  have HC4 := Aside0.mk hc0_4
  clear hr0_4 hc0_4
  have HR9 := Aside0.mk hr0_9
  have HC9 := Aside0.mk hc0_9
  clear hr0_9 hc0_9
  have HR10 := Aside0.mk hr0_10
  have HC10 := Aside0.mk hc0_10
  clear hr0_10 hc0_10
  have H := Aside0.mk h
  clear h
  obtain ⟨B, hB⟩ : ∃ B : World, B = (w.alloc (Obj.cells #[.int .i64 a0_0, .slice A0_1 l0_1.length c0_1, .int .i64 a0_2, .slice A0_3 l0_3.length c0_3, .slice A0_4 l0_4.length c0_4, .string a0_5, .int .i64 a0_6, .int .i64 a0_7, .int .i64 a0_8, .slice A0_9 l0_9.length c0_9, .slice A0_10 l0_10.length c0_10, .int .i64 a0_11] 71)) := ⟨_, rfl⟩
  have HBB := Aside0.mk hB
  have hwB : Below w.heap.size w B := by rw [hB]; exact below_alloc (Below.refl _ _) _
  have hszB : w.heap.size ≤ B.heap.size := hwB.size
  have HBX : ∀ W : World, Below B.heap.size B W → W.cell? ⟨w.heap.size, 0, none⟩ = some (.int .i64 a0_0) ∧ W.cell? ⟨w.heap.size, 1, none⟩ = some (.slice A0_1 l0_1.length c0_1) ∧ W.cell? ⟨w.heap.size, 2, none⟩ = some (.int .i64 a0_2) ∧ W.cell? ⟨w.heap.size, 3, none⟩ = some (.slice A0_3 l0_3.length c0_3) ∧ W.cell? ⟨w.heap.size, 4, none⟩ = some (.slice A0_4 l0_4.length c0_4) ∧ W.cell? ⟨w.heap.size, 5, none⟩ = some (.string a0_5) ∧ W.cell? ⟨w.heap.size, 6, none⟩ = some (.int .i64 a0_6) ∧ W.cell? ⟨w.heap.size, 7, none⟩ = some (.int .i64 a0_7) ∧ W.cell? ⟨w.heap.size, 8, none⟩ = some (.int .i64 a0_8) ∧ W.cell? ⟨w.heap.size, 9, none⟩ = some (.slice A0_9 l0_9.length c0_9) ∧ W.cell? ⟨w.heap.size, 10, none⟩ = some (.slice A0_10 l0_10.length c0_10) ∧ W.cell? ⟨w.heap.size, 11, none⟩ = some (.int .i64 a0_11) := fun W hb => by rw [hB] at hb; exact ⟨pw_cell_below hb (by simp), pw_cell_below hb (by simp), pw_cell_below hb (by simp), pw_cell_below hb (by simp), pw_cell_below hb (by simp), pw_cell_below hb (by simp), pw_cell_below hb (by simp), pw_cell_below hb (by simp), pw_cell_below hb (by simp), pw_cell_below hb (by simp), pw_cell_below hb (by simp), pw_cell_below hb (by simp)⟩
  have HWB := Aside0.mk hwB
  have HSZ := Aside0.mk hszB
  have hy0 := fun W => impl_ymemOk.calls a0_5 _ W (ymem_eq _)
  have hy1 := fun W => impl_yisWord.calls a0_0 _ W (yword_eq _)
  have hy2 : ∀ W : World, Below B.heap.size B W → Calls Try.prog 125 #[.slice A0_1 l0_1.length c0_1, .int .i64 16] W fun e w' => e = .returned (.bool (wordsB l0_1 16)) ∧ Aside0 (Below B.heap.size B w') ∧ w'.cell? ⟨w.heap.size, 0, none⟩ = some (.int .i64 a0_0) ∧ w'.cell? ⟨w.heap.size, 1, none⟩ = some (.slice A0_1 l0_1.length c0_1) ∧ w'.cell? ⟨w.heap.size, 2, none⟩ = some (.int .i64 a0_2) ∧ w'.cell? ⟨w.heap.size, 3, none⟩ = some (.slice A0_3 l0_3.length c0_3) ∧ w'.cell? ⟨w.heap.size, 4, none⟩ = some (.slice A0_4 l0_4.length c0_4) ∧ w'.cell? ⟨w.heap.size, 5, none⟩ = some (.string a0_5) ∧ w'.cell? ⟨w.heap.size, 6, none⟩ = some (.int .i64 a0_6) ∧ w'.cell? ⟨w.heap.size, 7, none⟩ = some (.int .i64 a0_7) ∧ w'.cell? ⟨w.heap.size, 8, none⟩ = some (.int .i64 a0_8) ∧ w'.cell? ⟨w.heap.size, 9, none⟩ = some (.slice A0_9 l0_9.length c0_9) ∧ w'.cell? ⟨w.heap.size, 10, none⟩ = some (.slice A0_10 l0_10.length c0_10) ∧ w'.cell? ⟨w.heap.size, 11, none⟩ = some (.int .i64 a0_11) := fun W hbx => by
    have hb : Below w.heap.size w W := hwB.trans (hbx.mono hszB)
    refine (impl_ywordsOk.calls A0_1 c0_1 l0_1 16 _ W (Kd.C_below HR1.out hb) HC1.out (ywords_eq l0_1 16)).mono ?_
    rintro e w' ⟨he, hb'⟩
    have hbx' : Below B.heap.size B w' := hbx.trans (hb'.mono hbx.size)
    exact ⟨he, ⟨hbx'⟩, HBX w' hbx'⟩
  have hy4 : ∀ W : World, Below B.heap.size B W → Calls Try.prog 125 #[.slice A0_3 l0_3.length c0_3, .int .i64 12] W fun e w' => e = .returned (.bool (wordsB l0_3 12)) ∧ Aside0 (Below B.heap.size B w') ∧ w'.cell? ⟨w.heap.size, 0, none⟩ = some (.int .i64 a0_0) ∧ w'.cell? ⟨w.heap.size, 1, none⟩ = some (.slice A0_1 l0_1.length c0_1) ∧ w'.cell? ⟨w.heap.size, 2, none⟩ = some (.int .i64 a0_2) ∧ w'.cell? ⟨w.heap.size, 3, none⟩ = some (.slice A0_3 l0_3.length c0_3) ∧ w'.cell? ⟨w.heap.size, 4, none⟩ = some (.slice A0_4 l0_4.length c0_4) ∧ w'.cell? ⟨w.heap.size, 5, none⟩ = some (.string a0_5) ∧ w'.cell? ⟨w.heap.size, 6, none⟩ = some (.int .i64 a0_6) ∧ w'.cell? ⟨w.heap.size, 7, none⟩ = some (.int .i64 a0_7) ∧ w'.cell? ⟨w.heap.size, 8, none⟩ = some (.int .i64 a0_8) ∧ w'.cell? ⟨w.heap.size, 9, none⟩ = some (.slice A0_9 l0_9.length c0_9) ∧ w'.cell? ⟨w.heap.size, 10, none⟩ = some (.slice A0_10 l0_10.length c0_10) ∧ w'.cell? ⟨w.heap.size, 11, none⟩ = some (.int .i64 a0_11) := fun W hbx => by
    have hb : Below w.heap.size w W := hwB.trans (hbx.mono hszB)
    refine (impl_ywordsOk.calls A0_3 c0_3 l0_3 12 _ W (Kd.C_below HR3.out hb) HC3.out (ywords_eq l0_3 12)).mono ?_
    rintro e w' ⟨he, hb'⟩
    have hbx' : Below B.heap.size B w' := hbx.trans (hb'.mono hbx.size)
    exact ⟨he, ⟨hbx'⟩, HBX w' hbx'⟩
  have hy5 : ∀ W : World, Below B.heap.size B W → Calls Try.prog 125 #[.slice A0_4 l0_4.length c0_4, .int .i64 16] W fun e w' => e = .returned (.bool (wordsB l0_4 16)) ∧ Aside0 (Below B.heap.size B w') ∧ w'.cell? ⟨w.heap.size, 0, none⟩ = some (.int .i64 a0_0) ∧ w'.cell? ⟨w.heap.size, 1, none⟩ = some (.slice A0_1 l0_1.length c0_1) ∧ w'.cell? ⟨w.heap.size, 2, none⟩ = some (.int .i64 a0_2) ∧ w'.cell? ⟨w.heap.size, 3, none⟩ = some (.slice A0_3 l0_3.length c0_3) ∧ w'.cell? ⟨w.heap.size, 4, none⟩ = some (.slice A0_4 l0_4.length c0_4) ∧ w'.cell? ⟨w.heap.size, 5, none⟩ = some (.string a0_5) ∧ w'.cell? ⟨w.heap.size, 6, none⟩ = some (.int .i64 a0_6) ∧ w'.cell? ⟨w.heap.size, 7, none⟩ = some (.int .i64 a0_7) ∧ w'.cell? ⟨w.heap.size, 8, none⟩ = some (.int .i64 a0_8) ∧ w'.cell? ⟨w.heap.size, 9, none⟩ = some (.slice A0_9 l0_9.length c0_9) ∧ w'.cell? ⟨w.heap.size, 10, none⟩ = some (.slice A0_10 l0_10.length c0_10) ∧ w'.cell? ⟨w.heap.size, 11, none⟩ = some (.int .i64 a0_11) := fun W hbx => by
    have hb : Below w.heap.size w W := hwB.trans (hbx.mono hszB)
    refine (impl_ywordsOk.calls A0_4 c0_4 l0_4 16 _ W (Kd.C_below HR4.out hb) HC4.out (ywords_eq l0_4 16)).mono ?_
    rintro e w' ⟨he, hb'⟩
    have hbx' : Below B.heap.size B w' := hbx.trans (hb'.mono hbx.size)
    exact ⟨he, ⟨hbx'⟩, HBX w' hbx'⟩
  have hy6 := fun W => impl_yin.calls a0_2 0 1 _ W (yin_eq _ _ _)
  have hy7 := fun W => impl_yin.calls a0_6 0 2 _ W (yin_eq _ _ _)
  have hy8 := fun W => impl_yin.calls a0_7 0 1099511627776 _ W (yin_eq _ _ _)
  have hy9 := fun W => impl_yin.calls a0_8 0 127 _ W (yin_eq _ _ _)
  have hy10 : ∀ W : World, Below B.heap.size B W → Calls Try.prog 126 #[.slice A0_9 l0_9.length c0_9] W fun e w' => e = .returned (.bool (portsB l0_9)) ∧ Aside0 (Below B.heap.size B w') ∧ w'.cell? ⟨w.heap.size, 0, none⟩ = some (.int .i64 a0_0) ∧ w'.cell? ⟨w.heap.size, 1, none⟩ = some (.slice A0_1 l0_1.length c0_1) ∧ w'.cell? ⟨w.heap.size, 2, none⟩ = some (.int .i64 a0_2) ∧ w'.cell? ⟨w.heap.size, 3, none⟩ = some (.slice A0_3 l0_3.length c0_3) ∧ w'.cell? ⟨w.heap.size, 4, none⟩ = some (.slice A0_4 l0_4.length c0_4) ∧ w'.cell? ⟨w.heap.size, 5, none⟩ = some (.string a0_5) ∧ w'.cell? ⟨w.heap.size, 6, none⟩ = some (.int .i64 a0_6) ∧ w'.cell? ⟨w.heap.size, 7, none⟩ = some (.int .i64 a0_7) ∧ w'.cell? ⟨w.heap.size, 8, none⟩ = some (.int .i64 a0_8) ∧ w'.cell? ⟨w.heap.size, 9, none⟩ = some (.slice A0_9 l0_9.length c0_9) ∧ w'.cell? ⟨w.heap.size, 10, none⟩ = some (.slice A0_10 l0_10.length c0_10) ∧ w'.cell? ⟨w.heap.size, 11, none⟩ = some (.int .i64 a0_11) := fun W hbx => by
    have hb : Below w.heap.size w W := hwB.trans (hbx.mono hszB)
    refine (impl_yportsOk.calls A0_9 c0_9 l0_9 _ W (Kd.C_below HR9.out hb) HC9.out (yports_eq l0_9)).mono ?_
    rintro e w' ⟨he, hb'⟩
    have hbx' : Below B.heap.size B w' := hbx.trans (hb'.mono hbx.size)
    exact ⟨he, ⟨hbx'⟩, HBX w' hbx'⟩
  have hy11 : ∀ W : World, Below B.heap.size B W → Calls Try.prog 126 #[.slice A0_10 l0_10.length c0_10] W fun e w' => e = .returned (.bool (portsB l0_10)) ∧ Aside0 (Below B.heap.size B w') ∧ w'.cell? ⟨w.heap.size, 0, none⟩ = some (.int .i64 a0_0) ∧ w'.cell? ⟨w.heap.size, 1, none⟩ = some (.slice A0_1 l0_1.length c0_1) ∧ w'.cell? ⟨w.heap.size, 2, none⟩ = some (.int .i64 a0_2) ∧ w'.cell? ⟨w.heap.size, 3, none⟩ = some (.slice A0_3 l0_3.length c0_3) ∧ w'.cell? ⟨w.heap.size, 4, none⟩ = some (.slice A0_4 l0_4.length c0_4) ∧ w'.cell? ⟨w.heap.size, 5, none⟩ = some (.string a0_5) ∧ w'.cell? ⟨w.heap.size, 6, none⟩ = some (.int .i64 a0_6) ∧ w'.cell? ⟨w.heap.size, 7, none⟩ = some (.int .i64 a0_7) ∧ w'.cell? ⟨w.heap.size, 8, none⟩ = some (.int .i64 a0_8) ∧ w'.cell? ⟨w.heap.size, 9, none⟩ = some (.slice A0_9 l0_9.length c0_9) ∧ w'.cell? ⟨w.heap.size, 10, none⟩ = some (.slice A0_10 l0_10.length c0_10) ∧ w'.cell? ⟨w.heap.size, 11, none⟩ = some (.int .i64 a0_11) := fun W hbx => by
    have hb : Below w.heap.size w W := hwB.trans (hbx.mono hszB)
    refine (impl_yportsOk.calls A0_10 c0_10 l0_10 _ W (Kd.C_below HR10.out hb) HC10.out (yports_eq l0_10)).mono ?_
    rintro e w' ⟨he, hb'⟩
    have hbx' : Below B.heap.size B w' := hbx.trans (hb'.mono hbx.size)
    exact ⟨he, ⟨hbx'⟩, HBX w' hbx'⟩
  have hy12 := fun W => impl_yin.calls a0_11 0 2147483628 _ W (yin_eq _ _ _)
  clear HBX hwB hszB
  go_enter Try.func86, Try.ntmps86
  go_wp2_with (fail)
  go_at_call 74
  with_reducible refine (hy0 _).mono ?_
  rintro e w' ⟨rfl, ⟨m0, rfl⟩⟩
  cases hb0 : memB a0_5
  case false =>
    have h := H.out
    simp only [hb0, Bool.false_and, Bool.and_false, Bool.false_eq_true, if_false, Option.some.injEq] at h
    subst h
    go_wp2
    go_ret
    refine ⟨rfl, HWB.out.trans (Below.mono ?_ HSZ.out)⟩
    repeat (first | exact BX11.out | exact BX10.out | exact BX5.out | exact BX4.out | exact BX2.out | (rw [← HBB.out]; exact Below.refl _ _) | exact Below.refl _ _ | apply pw_below_drewN)
  go_wp2_with (fail)
  go_at_call 124
  with_reducible refine (hy1 _).mono ?_
  rintro e w' ⟨rfl, ⟨m1, rfl⟩⟩
  cases hb1 : wordB a0_0
  case false =>
    have h := H.out
    simp only [hb1, Bool.false_and, Bool.and_false, Bool.false_eq_true, if_false, Option.some.injEq] at h
    subst h
    go_wp2
    go_ret
    refine ⟨rfl, HWB.out.trans (Below.mono ?_ HSZ.out)⟩
    repeat (first | exact BX11.out | exact BX10.out | exact BX5.out | exact BX4.out | exact BX2.out | (rw [← HBB.out]; exact Below.refl _ _) | exact Below.refl _ _ | apply pw_below_drewN)
  go_wp2_with (fail)
  go_at_call 125
  with_reducible refine (hy2 _ ?hbb).mono ?_
  (case hbb => repeat (first | exact BX11.out | exact BX10.out | exact BX5.out | exact BX4.out | (rw [← HBB.out]; exact Below.refl _ _) | exact Below.refl _ _ | apply pw_below_drewN))
  rintro e w2 ⟨rfl, BX2, h2_0, h2_1, h2_2, h2_3, h2_4, h2_5, h2_6, h2_7, h2_8, h2_9, h2_10, h2_11⟩
  cases hb2 : wordsB l0_1 16
  case false =>
    have h := H.out
    simp only [hb2, Bool.false_and, Bool.and_false, Bool.false_eq_true, if_false, Option.some.injEq] at h
    subst h
    go_wp2
    go_ret
    refine ⟨rfl, HWB.out.trans (Below.mono ?_ HSZ.out)⟩
    repeat (first | exact BX11.out | exact BX10.out | exact BX5.out | exact BX4.out | exact BX2.out | (rw [← HBB.out]; exact Below.refl _ _) | exact Below.refl _ _ | apply pw_below_drewN)
  have hlen2 := wordsB_len hb2
  obtain ⟨ad0, e_, hq0⟩ := Kd.at_int HR1.out 0 (by omega) (by omega)
  cases e_
  obtain ⟨x0, hrd0⟩ : ∃ x, rd l0_1 0 = x := ⟨_, rfl⟩
  rw [hrd0] at hq0
  have HRD0 := Aside0.mk hrd0
  clear hrd0
  replace hq0 : w.cell? ad0 = some (.int .i64 x0) := by simpa [Addr.add] using hq0
  have hq0z := pw_cell_below (HWB.out.trans (Below.mono BX2.out HSZ.out)) hq0
  by_cases hx0 : x0 = 0
  case neg =>
    have hn0a : (x0 != 0) = true := bne_iff_ne.mpr hx0
    have hbq : ((rd l0_1 0 == 0)) = false := by rw [HRD0.out]; exact beq_eq_false_iff_ne.mpr hx0
    have h := H.out
    simp only [hbq, Bool.false_and, Bool.and_false, Bool.false_eq_true, if_false, Option.some.injEq] at h
    subst h
    go_wp2
    go_ret
    refine ⟨rfl, HWB.out.trans (Below.mono ?_ HSZ.out)⟩
    repeat (first | exact BX11.out | exact BX10.out | exact BX5.out | exact BX4.out | exact BX2.out | (rw [← HBB.out]; exact Below.refl _ _) | exact Below.refl _ _ | apply pw_below_drewN)
  subst hx0
  go_wp2_with (fail)
  go_at_call 125
  with_reducible refine (hy4 _ ?hbb).mono ?_
  (case hbb => repeat (first | exact BX11.out | exact BX10.out | exact BX5.out | exact BX2.out | (rw [← HBB.out]; exact Below.refl _ _) | exact Below.refl _ _ | apply pw_below_drewN))
  rintro e w4 ⟨rfl, BX4, h4_0, h4_1, h4_2, h4_3, h4_4, h4_5, h4_6, h4_7, h4_8, h4_9, h4_10, h4_11⟩
  have hq0_4 := pw_cell_below (HWB.out.trans (Below.mono BX4.out HSZ.out)) hq0
  cases hb4 : wordsB l0_3 12
  case false =>
    have h := H.out
    simp only [hb4, Bool.false_and, Bool.and_false, Bool.false_eq_true, if_false, Option.some.injEq] at h
    subst h
    go_wp2
    go_ret
    refine ⟨rfl, HWB.out.trans (Below.mono ?_ HSZ.out)⟩
    repeat (first | exact BX11.out | exact BX10.out | exact BX5.out | exact BX4.out | exact BX2.out | (rw [← HBB.out]; exact Below.refl _ _) | exact Below.refl _ _ | apply pw_below_drewN)
  have hlen4 := wordsB_len hb4
  go_wp2_with (fail)
  go_at_call 125
  with_reducible refine (hy5 _ ?hbb).mono ?_
  (case hbb => repeat (first | exact BX11.out | exact BX10.out | exact BX4.out | exact BX2.out | (rw [← HBB.out]; exact Below.refl _ _) | exact Below.refl _ _ | apply pw_below_drewN))
  rintro e w5 ⟨rfl, BX5, h5_0, h5_1, h5_2, h5_3, h5_4, h5_5, h5_6, h5_7, h5_8, h5_9, h5_10, h5_11⟩
  have hq0_5 := pw_cell_below (HWB.out.trans (Below.mono BX5.out HSZ.out)) hq0
  cases hb5 : wordsB l0_4 16
  case false =>
    have h := H.out
    simp only [hb5, Bool.false_and, Bool.and_false, Bool.false_eq_true, if_false, Option.some.injEq] at h
    subst h
    go_wp2
    go_ret
    refine ⟨rfl, HWB.out.trans (Below.mono ?_ HSZ.out)⟩
    repeat (first | exact BX11.out | exact BX10.out | exact BX5.out | exact BX4.out | exact BX2.out | (rw [← HBB.out]; exact Below.refl _ _) | exact Below.refl _ _ | apply pw_below_drewN)
  have hlen5 := wordsB_len hb5
  go_wp2_with (fail)
  go_at_call 49
  with_reducible refine (hy6 _).mono ?_
  rintro e w' ⟨rfl, ⟨m6, rfl⟩⟩
  cases hb6 : inB a0_2 0 1
  case false =>
    have h := H.out
    simp only [hb6, Bool.false_and, Bool.and_false, Bool.false_eq_true, if_false, Option.some.injEq] at h
    subst h
    go_wp2
    go_ret
    refine ⟨rfl, HWB.out.trans (Below.mono ?_ HSZ.out)⟩
    repeat (first | exact BX11.out | exact BX10.out | exact BX5.out | exact BX4.out | exact BX2.out | (rw [← HBB.out]; exact Below.refl _ _) | exact Below.refl _ _ | apply pw_below_drewN)
  go_wp2_with (fail)
  go_at_call 49
  with_reducible refine (hy7 _).mono ?_
  rintro e w' ⟨rfl, ⟨m7, rfl⟩⟩
  cases hb7 : inB a0_6 0 2
  case false =>
    have h := H.out
    simp only [hb7, Bool.false_and, Bool.and_false, Bool.false_eq_true, if_false, Option.some.injEq] at h
    subst h
    go_wp2
    go_ret
    refine ⟨rfl, HWB.out.trans (Below.mono ?_ HSZ.out)⟩
    repeat (first | exact BX11.out | exact BX10.out | exact BX5.out | exact BX4.out | exact BX2.out | (rw [← HBB.out]; exact Below.refl _ _) | exact Below.refl _ _ | apply pw_below_drewN)
  go_wp2_with (fail)
  go_at_call 49
  with_reducible refine (hy8 _).mono ?_
  rintro e w' ⟨rfl, ⟨m8, rfl⟩⟩
  cases hb8 : inB a0_7 0 1099511627776
  case false =>
    have h := H.out
    simp only [hb8, Bool.false_and, Bool.and_false, Bool.false_eq_true, if_false, Option.some.injEq] at h
    subst h
    go_wp2
    go_ret
    refine ⟨rfl, HWB.out.trans (Below.mono ?_ HSZ.out)⟩
    repeat (first | exact BX11.out | exact BX10.out | exact BX5.out | exact BX4.out | exact BX2.out | (rw [← HBB.out]; exact Below.refl _ _) | exact Below.refl _ _ | apply pw_below_drewN)
  go_wp2_with (fail)
  go_at_call 49
  with_reducible refine (hy9 _).mono ?_
  rintro e w' ⟨rfl, ⟨m9, rfl⟩⟩
  cases hb9 : inB a0_8 0 127
  case false =>
    have h := H.out
    simp only [hb9, Bool.false_and, Bool.and_false, Bool.false_eq_true, if_false, Option.some.injEq] at h
    subst h
    go_wp2
    go_ret
    refine ⟨rfl, HWB.out.trans (Below.mono ?_ HSZ.out)⟩
    repeat (first | exact BX11.out | exact BX10.out | exact BX5.out | exact BX4.out | exact BX2.out | (rw [← HBB.out]; exact Below.refl _ _) | exact Below.refl _ _ | apply pw_below_drewN)
  go_wp2_with (fail)
  go_at_call 126
  with_reducible refine (hy10 _ ?hbb).mono ?_
  (case hbb => repeat (first | exact BX11.out | exact BX5.out | exact BX4.out | exact BX2.out | (rw [← HBB.out]; exact Below.refl _ _) | exact Below.refl _ _ | apply pw_below_drewN))
  rintro e w10 ⟨rfl, BX10, h10_0, h10_1, h10_2, h10_3, h10_4, h10_5, h10_6, h10_7, h10_8, h10_9, h10_10, h10_11⟩
  have hq0_10 := pw_cell_below (HWB.out.trans (Below.mono BX10.out HSZ.out)) hq0
  cases hb10 : portsB l0_9
  case false =>
    have h := H.out
    simp only [hb10, Bool.false_and, Bool.and_false, Bool.false_eq_true, if_false, Option.some.injEq] at h
    subst h
    go_wp2
    go_ret
    refine ⟨rfl, HWB.out.trans (Below.mono ?_ HSZ.out)⟩
    repeat (first | exact BX11.out | exact BX10.out | exact BX5.out | exact BX4.out | exact BX2.out | (rw [← HBB.out]; exact Below.refl _ _) | exact Below.refl _ _ | apply pw_below_drewN)
  go_wp2_with (fail)
  go_at_call 126
  with_reducible refine (hy11 _ ?hbb).mono ?_
  (case hbb => repeat (first | exact BX10.out | exact BX5.out | exact BX4.out | exact BX2.out | (rw [← HBB.out]; exact Below.refl _ _) | exact Below.refl _ _ | apply pw_below_drewN))
  rintro e w11 ⟨rfl, BX11, h11_0, h11_1, h11_2, h11_3, h11_4, h11_5, h11_6, h11_7, h11_8, h11_9, h11_10, h11_11⟩
  have hq0_11 := pw_cell_below (HWB.out.trans (Below.mono BX11.out HSZ.out)) hq0
  cases hb11 : portsB l0_10
  case false =>
    have h := H.out
    simp only [hb11, Bool.false_and, Bool.and_false, Bool.false_eq_true, if_false, Option.some.injEq] at h
    subst h
    go_wp2
    go_ret
    refine ⟨rfl, HWB.out.trans (Below.mono ?_ HSZ.out)⟩
    repeat (first | exact BX11.out | exact BX10.out | exact BX5.out | exact BX4.out | exact BX2.out | (rw [← HBB.out]; exact Below.refl _ _) | exact Below.refl _ _ | apply pw_below_drewN)
  go_wp2_with (fail)
  go_at_call 49
  with_reducible refine (hy12 _).mono ?_
  rintro e w' ⟨rfl, ⟨m12, rfl⟩⟩
  cases hb12 : inB a0_11 0 2147483628
  case false =>
    have h := H.out
    simp only [hb12, Bool.false_and, Bool.and_false, Bool.false_eq_true, if_false, Option.some.injEq] at h
    subst h
    go_wp2
    go_ret
    refine ⟨rfl, HWB.out.trans (Below.mono ?_ HSZ.out)⟩
    repeat (first | exact BX11.out | exact BX10.out | exact BX5.out | exact BX4.out | exact BX2.out | (rw [← HBB.out]; exact Below.refl _ _) | exact Below.refl _ _ | apply pw_below_drewN)
  obtain ⟨ad1, e_, hq1⟩ := Kd.at_int HR3.out 0 (by omega) (by omega)
  cases e_
  obtain ⟨x1, hrd1⟩ : ∃ x, rd l0_3 0 = x := ⟨_, rfl⟩
  rw [hrd1] at hq1
  have HRD1 := Aside0.mk hrd1
  clear hrd1
  replace hq1 : w.cell? ad1 = some (.int .i64 x1) := by simpa [Addr.add] using hq1
  have hq1z := pw_cell_below (HWB.out.trans (Below.mono BX11.out HSZ.out)) hq1
  by_cases hx1 : x1 < 32
  case neg =>
    have h13a : decide (32 ≤ x1) = true := decide_eq_true (by omega)
    have h13b : (32 ≤ x1) := by omega
    have hbq : (decide (rd l0_3 0 < 32)) = false := by rw [HRD1.out]; exact decide_eq_false hx1
    have h := H.out
    simp only [hbq, Bool.false_and, Bool.and_false, Bool.false_eq_true, if_false, Option.some.injEq] at h
    subst h
    go_wp2
    go_ret
    refine ⟨rfl, HWB.out.trans (Below.mono ?_ HSZ.out)⟩
    repeat (first | exact BX11.out | exact BX10.out | exact BX5.out | exact BX4.out | exact BX2.out | (rw [← HBB.out]; exact Below.refl _ _) | exact Below.refl _ _ | apply pw_below_drewN)
  have h13a : decide (32 ≤ x1) = false := decide_eq_false (by omega)
  have h13b : ¬ (32 ≤ x1) := by omega
  have hz13 := HRD1.out
  obtain ⟨ad2, e_, hq2⟩ := Kd.at_int HR3.out 8 (by omega) (by omega)
  obtain rfl := Option.some.inj e_
  obtain ⟨x2, hrd2⟩ : ∃ x, rd l0_3 8 = x := ⟨_, rfl⟩
  rw [hrd2] at hq2
  have HRD2 := Aside0.mk hrd2
  clear hrd2
  replace hq2 : w.cell? { block := ad1.block, off := ad1.off + 8, spot := none } = some (.int .i64 x2) := hq2
  have hq2z := pw_cell_below (HWB.out.trans (Below.mono BX11.out HSZ.out)) hq2
  by_cases hx2 : x2 = 0
  case neg =>
    have hn2a : (x2 != 0) = true := bne_iff_ne.mpr hx2
    have hbq : ((rd l0_3 8 == 0)) = false := by rw [HRD2.out]; exact beq_eq_false_iff_ne.mpr hx2
    have h := H.out
    simp only [hbq, Bool.false_and, Bool.and_false, Bool.false_eq_true, if_false, Option.some.injEq] at h
    subst h
    go_wp2
    go_ret
    refine ⟨rfl, HWB.out.trans (Below.mono ?_ HSZ.out)⟩
    repeat (first | exact BX11.out | exact BX10.out | exact BX5.out | exact BX4.out | exact BX2.out | (rw [← HBB.out]; exact Below.refl _ _) | exact Below.refl _ _ | apply pw_below_drewN)
  subst hx2
  obtain ⟨ad3, e_, hq3⟩ := Kd.at_int HR3.out 9 (by omega) (by omega)
  obtain rfl := Option.some.inj e_
  obtain ⟨x3, hrd3⟩ : ∃ x, rd l0_3 9 = x := ⟨_, rfl⟩
  rw [hrd3] at hq3
  have HRD3 := Aside0.mk hrd3
  clear hrd3
  replace hq3 : w.cell? { block := ad1.block, off := ad1.off + 9, spot := none } = some (.int .i64 x3) := hq3
  have hq3z := pw_cell_below (HWB.out.trans (Below.mono BX11.out HSZ.out)) hq3
  by_cases hx3 : x3 = 0
  case neg =>
    have hn3a : (x3 != 0) = true := bne_iff_ne.mpr hx3
    have hbq : ((rd l0_3 9 == 0)) = false := by rw [HRD3.out]; exact beq_eq_false_iff_ne.mpr hx3
    have h := H.out
    simp only [hbq, Bool.false_and, Bool.and_false, Bool.false_eq_true, if_false, Option.some.injEq] at h
    subst h
    go_wp2
    go_ret
    refine ⟨rfl, HWB.out.trans (Below.mono ?_ HSZ.out)⟩
    repeat (first | exact BX11.out | exact BX10.out | exact BX5.out | exact BX4.out | exact BX2.out | (rw [← HBB.out]; exact Below.refl _ _) | exact Below.refl _ _ | apply pw_below_drewN)
  subst hx3
  obtain ⟨ad4, e_, hq4⟩ := Kd.at_int HR3.out 11 (by omega) (by omega)
  obtain rfl := Option.some.inj e_
  obtain ⟨x4, hrd4⟩ : ∃ x, rd l0_3 11 = x := ⟨_, rfl⟩
  rw [hrd4] at hq4
  have HRD4 := Aside0.mk hrd4
  clear hrd4
  replace hq4 : w.cell? { block := ad1.block, off := ad1.off + 11, spot := none } = some (.int .i64 x4) := hq4
  have hq4z := pw_cell_below (HWB.out.trans (Below.mono BX11.out HSZ.out)) hq4
  by_cases hx4 : x4 = 0
  case neg =>
    have hn4a : (x4 != 0) = true := bne_iff_ne.mpr hx4
    have hbq : ((rd l0_3 11 == 0)) = false := by rw [HRD4.out]; exact beq_eq_false_iff_ne.mpr hx4
    have h := H.out
    simp only [hbq, Bool.false_and, Bool.and_false, Bool.false_eq_true, if_false, Option.some.injEq] at h
    subst h
    go_wp2
    go_ret
    refine ⟨rfl, HWB.out.trans (Below.mono ?_ HSZ.out)⟩
    repeat (first | exact BX11.out | exact BX10.out | exact BX5.out | exact BX4.out | exact BX2.out | (rw [← HBB.out]; exact Below.refl _ _) | exact Below.refl _ _ | apply pw_below_drewN)
  subst hx4
  have h := H.out
  have z0 : ((rd l0_1 0 == 0)) = true := by rw [HRD0.out]; rfl
  have z1 : decide (rd l0_3 0 < 32) = true := decide_eq_true (by rw [HRD1.out]; exact hx1)
  have z2 : (rd l0_3 8 == 0) = true := by rw [HRD2.out]; rfl
  have z3 : (rd l0_3 9 == 0) = true := by rw [HRD3.out]; rfl
  have z4 : (rd l0_3 11 == 0) = true := by rw [HRD4.out]; rfl
  simp only [hb0, hb1, hb2, hb4, hb5, hb6, hb7, hb8, hb9, hb10, hb11, hb12, z0, z1, z2, z3, z4, Bool.true_and, Bool.and_true, if_true, Option.some.injEq] at h
  subst h
  clear z0 z1 z2 z3 z4
  go_wp2
  go_ret
  refine ⟨rfl, HWB.out.trans (Below.mono ?_ HSZ.out)⟩
  repeat (first | exact BX11.out | exact BX10.out | exact BX5.out | exact BX4.out | exact BX2.out | (rw [← HBB.out]; exact Below.refl _ _) | exact Below.refl _ _ | apply pw_below_drewN)

/-! ### slices_Clone_int64_int64: function 78 -/
def slices_Clone_int64_int64.f (l0 : List Int) : Option (List Int) := if l0.length < 17592186044416 then some l0 else none
set_option maxHeartbeats 8000000 in
set_option maxRecDepth 100000 in
theorem slices_Clone_int64_int64.calls (A0 : Option Addr) (c0 : Nat) (l0 : List Int) (r : List Int) (w : World) (hr0 : Kd.C (Kd.int .i64) w A0 l0.length l0) (hc0 : l0.length ≤ c0) (h : slices_Clone_int64_int64.f l0 = some r) :
    Calls Try.prog 78 #[.slice A0 l0.length c0] w fun e w' => ∃ v0_ : Value, e = .returned (v0_) ∧ Kd.R (Kd.int .i64) 2 w' w.heap.size (fun _ => True) v0_ r ∧ Below w.heap.size w w' := by
  have HR0 := Aside0.mk hr0
  have HC0 := Aside0.mk hc0
  have hq := fun (w : World) (a : Option Addr) (n c : Nat) => run_eql_slice_nil (P := Try.prog) w 50 2 a n c Try.underlying50
  unfold slices_Clone_int64_int64.f at h
  by_cases c2 : l0.length < 17592186044416
  · rw [if_pos c2] at h
    obtain rfl := Option.some.inj h
    have LMc2 := Aside0.mk (show ([] : List Int).length + l0.length < 17592186044416 from by simpa using c2)
    clear h c2
    cases A0 with
    | none =>
      have hz : l0 = [] := by
        cases l0 with
        | nil => rfl
        | cons a t => exact absurd hr0 (by intro hh; obtain ⟨ad, e_, _⟩ := Kd.at_int hh 0 (by omega) (by simp); exact absurd e_ (by simp))
      subst hz
      clear hr0 hc0
      go_enter Try.func78, Try.ntmps78
      go_wp2
      go_ret
      exact ⟨_, rfl, Kd.R_nil _ _ _ _ _, Below.refl _ _⟩
    | some A =>
      clear hr0 hc0
      have HB := Aside0.mk (Below.refl w.heap.size w)
      obtain ⟨y113, hy113⟩ : ∃ y_ : List Int, y_ = (([] : List Int)) := ⟨_, rfl⟩
      obtain ⟨y116, hy116⟩ : ∃ y_ : List Int, y_ = (y113 ++ l0) := ⟨_, rfl⟩
      have hfin : y116 = l0 := by rw [hy116, hy113, List.nil_append]
      rw [← hy113] at LMc2
      have Ny113 := Aside0.mk hy113
      have Ny116 := Aside0.mk hy116
      have HFIN := Aside0.mk hfin
      clear hy113 hy116 hfin
      go_enter Try.func78, Try.ntmps78
      go_wp2_with (first | ((with_reducible refine gate_dst (N := 5) rfl ?_); refine Kd.R_lit (Kd.int .i64) _ 2 ?hg (N := 5) ?hd (xs := ([] : List Int)) (inner := []) (ok := fun _ => True) (okp := fun _ => True) ?hr ?hp (fun _ hk => hk) trivial (Below.refl _ _) (Nat.le_refl _) (by simp) ?_; (case hd => rfl); (case hg => rfl); (case hr => first | (go_simp; done) | (go_simp; rfl)); (case hp => exact (Reps.none _ _)); intro v114 w3 ho4 hb hg_ hnew_; clear hg_ hnew_; (first | rw [← Ny113.out] at ho4 | (simp only [Int.reduceToNat] at ho4; rw [← Ny113.out] at ho4)); have n0_ := Aside0.mk (Kd.R_lower ho4 (below_size (by repeat (first | (with_reducible first | exact HB.out | apply below_alloc | apply pw_below_drewN | apply below_drew1) | exact HB.out)))); have n1_ := Aside0.mk (below_step (by repeat (first | (with_reducible first | exact HB.out | apply below_alloc | apply pw_below_drewN | apply below_drew1) | exact HB.out)) hb); clear HB; have HO115 := n0_; have HB := n1_; clear n0_ n1_; clear hb ho4) | ((with_reducible refine gate_builtin (b := .append) (xs := #[.tmp 5, .tmp 6]) rfl ?_); at_builtin; refine Kd.R_append_rows (Kd.int .i64) (w0 := w) w.heap.size rfl (.tmp 5) (.tmp 6) 50 2 (.int .i64 0) 8 rfl Try.underlying50 info2 rfl (by decide) (by omega) v114 y113 l0 _ _ _ (fun _ => True) (fun _ => False) rfl rfl ?aO ?aR (fun _ _ h => h) (fun _ h => h.elim) ?aF ?aB ?aS ?aL ?_; (case aR => repeat (first | exact (Kd.C_below HR0.out HB.out) | (with_reducible refine Kd.C_alloc ?_ _) | (with_reducible refine Kd.C_drewN ?_ _) | (with_reducible refine Kd.C_drew ?_))); (case aB => exact (by repeat (first | (with_reducible first | exact HB.out | apply below_alloc | apply pw_below_drewN | apply below_drew1) | exact HB.out))); (case aF => exact (fun _ _ => trivial)); (case aO => exact (by (with_reducible repeat (first | apply Kd.R_alloc | apply Kd.R_drewN | apply Kd.R_drew)); exact HO115.out)); (case aS => exact (below_size (by repeat (first | (with_reducible first | exact HB.out | apply below_alloc | apply pw_below_drewN | apply below_drew1) | exact HB.out)))); (case aL => have := LMc2.out; omega); intro v117 w5 ho hb hg hat; rw [← Ny116.out] at ho; have n0_ := Aside0.mk (hb); have n1_ := Aside0.mk (ho); clear HB; clear HO115; have HB := n0_; have HO118 := n1_; clear n0_ n1_; clear ho hb hg hat))
      go_ret
      have HO := HO118.out
      rw [HFIN.out] at HO
      exact ⟨_, by first | rfl | (simp [errW_none, errW_some] <;> rfl) | (simp [*, errW_none, errW_some] <;> rfl), by (with_reducible repeat (first | apply Kd.R_alloc | apply Kd.R_drewN | apply Kd.R_drew)); exact HO, by repeat (first | (with_reducible first | exact HB.out | apply below_alloc | apply pw_below_drewN | apply below_drew1) | exact HB.out)⟩
  · rw [if_neg c2] at h; exact absurd h (by simp)

/-! ### impl_PortValue_127: function 127 -/
def impl_PortValue_127.f (l0 : List S185) : Option (List S185) := if l0.length < 8796093022208 then some l0 else none
set_option maxHeartbeats 8000000 in
set_option maxRecDepth 100000 in
theorem impl_PortValue_127.calls (A0 : Option Addr) (c0 : Nat) (l0 : List S185) (r : List S185) (w : World) (hr0 : Kd.C k185 w A0 l0.length l0) (hc0 : l0.length ≤ c0) (h : impl_PortValue_127.f l0 = some r) :
    Calls Try.prog 127 #[.slice A0 l0.length c0] w fun e w' => ∃ v0_ : Value, e = .returned (v0_) ∧ Kd.R k185 185 w' w.heap.size (fun _ => True) v0_ r ∧ Below w.heap.size w w' := by
  have HR0 := Aside0.mk hr0
  have HC0 := Aside0.mk hc0
  have hq := fun (w : World) (a : Option Addr) (n c : Nat) => run_eql_slice_nil (P := Try.prog) w 69 185 a n c Try.underlying69
  unfold impl_PortValue_127.f at h
  by_cases c2 : l0.length < 8796093022208
  · rw [if_pos c2] at h
    obtain rfl := Option.some.inj h
    have LMc2 := Aside0.mk (show ([] : List S185).length + l0.length < 8796093022208 from by simpa using c2)
    clear h c2
    cases A0 with
    | none =>
      have hz : l0 = [] := by
        cases l0 with
        | nil => rfl
        | cons a t => exact absurd hr0 (by intro hh; obtain ⟨ad, e_, _⟩ := hh.2.2 (by simp); exact absurd e_ (by simp))
      subst hz
      clear hr0 hc0
      go_enter Try.func127, Try.ntmps127
      go_wp2
      go_ret
      exact ⟨_, rfl, Kd.R_nil _ _ _ _ _, Below.refl _ _⟩
    | some A =>
      clear hr0 hc0
      have HB := Aside0.mk (Below.refl w.heap.size w)
      obtain ⟨y113, hy113⟩ : ∃ y_ : List S185, y_ = (([] : List S185)) := ⟨_, rfl⟩
      obtain ⟨y116, hy116⟩ : ∃ y_ : List S185, y_ = (y113 ++ l0) := ⟨_, rfl⟩
      have hfin : y116 = l0 := by rw [hy116, hy113, List.nil_append]
      rw [← hy113] at LMc2
      have Ny113 := Aside0.mk hy113
      have Ny116 := Aside0.mk hy116
      have HFIN := Aside0.mk hfin
      clear hy113 hy116 hfin
      go_enter Try.func127, Try.ntmps127
      go_wp2_with (first | ((with_reducible refine gate_dst (N := 5) rfl ?_); refine Kd.R_lit k185 _ 185 ?hg (N := 5) ?hd (xs := ([] : List S185)) (inner := []) (ok := fun _ => True) (okp := fun _ => True) ?hr ?hp (fun _ hk => hk) trivial (Below.refl _ _) (Nat.le_refl _) (by simp) ?_; (case hd => rfl); (case hg => rfl); (case hr => first | (go_simp; done) | (go_simp; rfl)); (case hp => exact (Reps.none _ _)); intro v114 w3 ho4 hb hg_ hnew_; clear hg_ hnew_; (first | rw [← Ny113.out] at ho4 | (simp only [Int.reduceToNat] at ho4; rw [← Ny113.out] at ho4)); have n0_ := Aside0.mk (Kd.R_lower ho4 (below_size (by repeat (first | (with_reducible first | exact HB.out | apply below_alloc | apply pw_below_drewN | apply below_drew1) | exact HB.out)))); have n1_ := Aside0.mk (below_step (by repeat (first | (with_reducible first | exact HB.out | apply below_alloc | apply pw_below_drewN | apply below_drew1) | exact HB.out)) hb); clear HB; have HO115 := n0_; have HB := n1_; clear n0_ n1_; clear hb ho4) | ((with_reducible refine gate_builtin (b := .append) (xs := #[.tmp 5, .tmp 6]) rfl ?_); at_builtin; refine Kd.R_append_rows k185 (w0 := w) w.heap.size rfl (.tmp 5) (.tmp 6) 69 185 (.agg #[(.int .i64 0), (.int .i64 0)]) 16 rfl Try.underlying69 info185 rfl (by decide) (by omega) v114 y113 l0 _ _ _ (fun _ => True) (fun _ => False) rfl rfl ?aO ?aR (fun _ _ h => h) (fun _ h => h.elim) ?aF ?aB ?aS ?aL ?_; (case aR => repeat (first | exact (Kd.C_below HR0.out HB.out) | (with_reducible refine Kd.C_alloc ?_ _) | (with_reducible refine Kd.C_drewN ?_ _) | (with_reducible refine Kd.C_drew ?_))); (case aB => exact (by repeat (first | (with_reducible first | exact HB.out | apply below_alloc | apply pw_below_drewN | apply below_drew1) | exact HB.out))); (case aF => exact (fun _ _ => trivial)); (case aO => exact (by (with_reducible repeat (first | apply Kd.R_alloc | apply Kd.R_drewN | apply Kd.R_drew)); exact HO115.out)); (case aS => exact (below_size (by repeat (first | (with_reducible first | exact HB.out | apply below_alloc | apply pw_below_drewN | apply below_drew1) | exact HB.out)))); (case aL => have := LMc2.out; omega); intro v117 w5 ho hb hg hat; rw [← Ny116.out] at ho; have n0_ := Aside0.mk (hb); have n1_ := Aside0.mk (ho); clear HB; clear HO115; have HB := n0_; have HO118 := n1_; clear n0_ n1_; clear ho hb hg hat))
      go_ret
      have HO := HO118.out
      rw [HFIN.out] at HO
      exact ⟨_, by first | rfl | (simp [errW_none, errW_some] <;> rfl) | (simp [*, errW_none, errW_some] <;> rfl), by (with_reducible repeat (first | apply Kd.R_alloc | apply Kd.R_drewN | apply Kd.R_drew)); exact HO, by repeat (first | (with_reducible first | exact HB.out | apply below_alloc | apply pw_below_drewN | apply below_drew1) | exact HB.out)⟩
  · rw [if_neg c2] at h; exact absurd h (by simp)

end Go.Proofs.Ytmajbehafgajmaa.QFnExactRaiseLine
