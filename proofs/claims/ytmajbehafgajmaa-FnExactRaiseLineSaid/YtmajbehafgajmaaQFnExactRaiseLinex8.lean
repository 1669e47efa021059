-- Written for this claim by this session's own driver (wip/xprint.py).
import Derived.Test.YtmajbehafgajmaaQFnExactRaiseLinex0
namespace Go.Proofs.Ytmajbehafgajmaa.QFnExactRaiseLine
open Go.RowKit Go.Proofs.YtmajbehafgajmaaW.PrintWords Go.Proofs.YtmajbehafgajmaaW.PrintLast Go.Proofs.YtmajbehafgajmaaW.PrintMore
attribute [local go_sem] max2_int min2_int max_two min_two max_three min_three max_four min_four   -- for this text's walks alone
set_option linter.unusedVariables false
set_option linter.unusedSimpArgs false

/-! ### laws_markInt64S: function 27 -/
def laws_markInt64S.l0 : Nat → List Int → Int → Int → Option (Int × List Int)
  | 0, _, _, _ => none
  | k + 1, x0, x1, x5 => if x5 < (x0.length : Int) then (if 0 ≤ x5 then (laws_markInt64S.l0 k (x0.set (x5 : Int).toNat x1) (wrap64 (x1 + 1)) (wrap64 (x5 + 1))) else (none)) else (some (x1, x0))
def laws_markInt64S.f (k : Nat) (l0 : List Int) (a1 : Int) : Option (Int × List Int) := laws_markInt64S.l0 k l0 a1 0
theorem laws_markInt64S.mono_l : ∀ k, (∀ y0 y1 y2, LeO (laws_markInt64S.l0 k y0 y1 y2) (laws_markInt64S.l0 (k + 1) y0 y1 y2))
  | 0 => fun _ _ _ r h => by simp [laws_markInt64S.l0] at h
  | k + 1 => by
    have ih0 := laws_markInt64S.mono_l k
    · intro y0 y1 y2
      unfold laws_markInt64S.l0
      repeat' first
      | (with_reducible exact ih0 _ _ _)
      | (with_reducible exact LeO.refl _)
      | (with_reducible exact LeO.none _)
      | (with_reducible refine LeO.ite ?_ ?_)
      | (with_reducible refine LeO.bind ?_ (fun _ => ?_))
      | exact ih0 _ _ _
      | exact LeO.none _
      | refine LeO.ite ?_ ?_
      | refine LeO.bind ?_ (fun _ => ?_)
theorem laws_markInt64S.mono : ∀ a0 a1 k, LeO (laws_markInt64S.f k a0 a1) (laws_markInt64S.f (k + 1) a0 a1) := by
  intro a0 a1 k
  have ih0 := laws_markInt64S.mono_l k
  unfold laws_markInt64S.f
  repeat' first
      | (with_reducible exact ih0 _ _ _)
      | (with_reducible exact LeO.refl _)
      | (with_reducible exact LeO.none _)
      | (with_reducible refine LeO.ite ?_ ?_)
      | (with_reducible refine LeO.bind ?_ (fun _ => ?_))
      | exact ih0 _ _ _
      | exact LeO.none _
      | refine LeO.ite ?_ ?_
      | refine LeO.bind ?_ (fun _ => ?_)
set_option maxHeartbeats 8000000 in
set_option maxRecDepth 100000 in
theorem laws_markInt64S.calls (k : Nat) (P0_ : Nat → Prop) (u9000_ : Value) (l0 : List Int) (a1 : Int) (r1 : Int) (r2 : List Int) (w0 w : World) (hB : Below w0.heap.size w0 w) (ho0 : Kd.R (Kd.int .i64) 2 w w0.heap.size P0_ u9000_ l0) (h : laws_markInt64S.f k l0 a1 = some (r1, r2)) :
    Calls Try.prog 27 #[u9000_, .int .i64 a1] w fun e w' => e = .returned (.int .i64 r1) ∧ Kd.R (Kd.int .i64) 2 w' w0.heap.size (fun k_ => (P0_ k_ ∨ w.heap.size ≤ k_)) u9000_ r2 ∧ Below w0.heap.size w0 w' ∧ Kept w w' (fun k_ => P0_ k_) := by
  have HO0 := Aside0.mk (show Kd.R (Kd.int .i64) 2 w w0.heap.size (fun k_ => (P0_ k_ ∨ w.heap.size ≤ k_)) u9000_ l0 from Kd.R_mono ho0 (fun k_ hk => (.inl hk)))
  have HK := Aside0.mk (Kept.refl w (fun k_ => P0_ k_))
  have HW0 := Aside0.mk hB.size
  have HB := Aside0.mk hB
  clear hB
  have H : (laws_markInt64S.l0 k l0 a1 0) = some (r1, r2) := h
  clear h
  have H' := Aside0.mk H
  clear H
  go_enter Try.func27, Try.ntmps27
  go_wp2
  go_loopg [1, 5] k (fun kq v1 v5 w' => ∃ (x0_1 : List Int) (x1_1 : Int) (x5_1 : Int), v1 = .int .i64 x1_1 ∧ v5 = .int .i64 x5_1 ∧ Aside0 (laws_markInt64S.l0 kq x0_1 x1_1 x5_1 = some (r1, r2)) ∧ Aside0 (kq ≤ k) ∧ Aside0 (Kd.R (Kd.int .i64) 2 w' w0.heap.size (fun k_ => (P0_ k_ ∨ w.heap.size ≤ k_)) u9000_ x0_1) ∧ Aside0 (Kept w w' (fun k_ => P0_ k_)) ∧ Aside0 (Below w0.heap.size w0 w'))
  case atStart => exact ⟨(l0), (a1), (0), (by first | rfl | (simp; done) | (simp [*]; done)), (by first | rfl | (simp; done) | (simp [*]; done)), H', ⟨Nat.le_refl _⟩, ⟨by (with_reducible repeat (first | apply Kd.R_alloc | apply Kd.R_drewN | apply Kd.R_drew)); exact HO0.out⟩, ⟨by repeat (first | (with_reducible first | exact HK.out | apply Kept.alloc | apply Kept.drewN | apply Kept.drew) | exact HK.out)⟩, ⟨by repeat (first | (with_reducible first | exact HB.out | apply below_alloc | apply pw_below_drewN | apply below_drew1) | exact HB.out)⟩⟩
  case round =>
    clear H'
    try clear c2
    try clear p2
    obtain ⟨x0_1, x1_1, x5_1, rfl, rfl, HA, HK1, HO_0, HK, HB⟩ := hrel
    cases gk with
    | zero => exact absurd HA.out (by simp [laws_markInt64S.l0])
    | succ k1 =>
      have H := HA.out
      clear HA
      simp only [laws_markInt64S.l0] at H
      by_cases c3 : x5_1 < (x0_1.length : Int)
      · rw [if_pos c3] at H
        have c3b0 : decide (x5_1 < (x0_1.length : Int)) = true := decide_eq_true c3
        clear c3
        by_cases c4 : 0 ≤ x5_1
        · rw [if_pos c4] at H
          have c4b0 : decide (0 ≤ x5_1) = true := decide_eq_true c4
          clear c4
          obtain ⟨y275, hy275⟩ : ∃ y_ : List Int, y_ = (x0_1.set (x5_1 : Int).toNat x1_1) := ⟨_, rfl⟩
          replace H : (laws_markInt64S.l0 k1 y275 (wrap64 (x1_1 + 1)) (wrap64 (x5_1 + 1))) = some (r1, r2) := by first | (rw [hy275]; with_reducible exact H) | (have H2_ := (Option.bind_some _ _).symm.trans H; rw [hy275]; with_reducible exact H2_) | (have H2_ := (Option.bind_some _ _).symm.trans H; with_reducible exact H2_) | with_reducible exact H | (rw [hy275]; exact H) | exact H
          have Ny275 := Aside0.mk hy275
          clear hy275
          have H' := Aside0.mk H
          clear H
          obtain ⟨Ao6, co6, eo6⟩ := Kd.R_slice HO_0.out
          subst eo6
          have p5 : 0 ≤ (x5_1 : Int) := of_decide_eq_true (by first | (with_reducible assumption) | assumption)
          have q5 : (x5_1 : Int) < ((x0_1.length : Int) : Int) := of_decide_eq_true (by first | (with_reducible assumption) | assumption)
          obtain ⟨go5, co5, eo5, gb5, gl5, cl5, HG5⟩ := Kd.R_form HO_0.out (by omega)
          (first | cases eo5 | (injection eo5 with ea_ en_ ec_; (first | subst ea_ | (injection ea_ with ea_; subst ea_)); subst ec_; clear en_))
          have GB5 := Aside0.mk gb5
          have GG5 := Aside0.mk HG5
          clear gb5 gl5 HG5
          have HMgo5 := Aside0.mk (show (P0_ go5 ∨ w.heap.size ≤ go5) from (HO_0.out.1 _ rfl))
          obtain ⟨hx5_0, hf5_0⟩ := Kd.R_celln 0 HO_0.out (x5_1 : Int) p5 q5
          replace p5 := eq_true p5
          replace q5 := eq_true q5
          have HP7 := Kd.R_putg HO_0.out (x5_1 : Int) x1_1
          go_wp2_with (first | ((with_reducible refine gate_store (t := 2) (p := 15) rfl ?_); refine store_event (t := 2) (p := 15) (v := ?vo_w8) (w1 := (wr.setCell ⟨go5, (x5_1 : Int).toNat, none⟩ (.int .i64 x1_1))) ?hg ?ho ?hn ?hr ?_; (case ho => rfl); (case hg => rfl); (case hn => rfl); (case hr => first | (go_simp; done) | (go_simp; rfl)); intro w8 hw; have hg : wr.grownBy w8 (some go5) := (by rw [hw]; exact HP7.2); have hp_ : Kd.R (Kd.int .i64) 2 w8 w0.heap.size (fun k_ => (P0_ k_ ∨ w.heap.size ≤ k_)) (.slice (some ⟨go5, 0, none⟩) x0_1.length co6) y275 := (by rw [hw, Ny275.out]; exact HP7.1); clear HP7; have n0_ := Aside0.mk (hp_); have n1_ := Aside0.mk ((by rw [hw]; exact below_set (HB.out) GB5.out : Below w0.heap.size w0 w8)); have n2_ := Aside0.mk (Kept.of_grown (S := (fun k_ => P0_ k_)) hg (by repeat (first | (with_reducible first | exact HK.out | apply Kept.alloc | apply Kept.drewN | apply Kept.drew) | exact HK.out)) (fun k_ e_ => (HO_0.out.1 k_ e_))); clear HO_0; clear HB; clear HK; have HO_0 := n0_; have HB := n1_; have HK := n2_; clear n0_ n1_ n2_; clear hg hw hp_))
          go_roundg k1
          case measure => have := HK1.out; omega
          case rel => exact ⟨(y275), (wrap64 (x1_1 + 1)), (wrap64 (x5_1 + 1)), (by first | rfl | (simp; done) | (simp [*]; done)), (by first | rfl | (simp; done) | (simp [*]; done)), H', ⟨by have := HK1.out; omega⟩, ⟨by (with_reducible repeat (first | apply Kd.R_alloc | apply Kd.R_drewN | apply Kd.R_drew)); exact HO_0.out⟩, ⟨by repeat (first | (with_reducible first | exact HK.out | apply Kept.alloc | apply Kept.drewN | apply Kept.drew) | exact HK.out)⟩, ⟨by repeat (first | (with_reducible first | exact HB.out | apply below_alloc | apply pw_below_drewN | apply below_drew1) | exact HB.out)⟩⟩
        · rw [if_neg c4] at H
          exact absurd H (by simp)
      · rw [if_neg c3] at H
        have c3b0 : decide (x5_1 < (x0_1.length : Int)) = false := decide_eq_false c3
        clear c3
        simp only [Option.some.injEq, Prod.mk.injEq] at H
        obtain ⟨rfl, rfl⟩ := H
        obtain ⟨Ao9, co9, eo9⟩ := Kd.R_slice HO_0.out
        subst eo9
        go_wp2
        go_ret
        exact ⟨by first | rfl | (simp [errW_none, errW_some] <;> rfl) | (simp [*, errW_none, errW_some] <;> rfl), by (with_reducible repeat (first | apply Kd.R_alloc | apply Kd.R_drewN | apply Kd.R_drew)); exact HO_0.out, by repeat (first | (with_reducible first | exact HB.out | apply below_alloc | apply pw_below_drewN | apply below_drew1) | exact HB.out), by repeat (first | (with_reducible first | exact HK.out | apply Kept.alloc | apply Kept.drewN | apply Kept.drew) | exact HK.out)⟩

/-! ### laws_markPortValueS: function 89 -/
def laws_markPortValueS.l0 : Nat → List (S185) → Int → Int → Option (Int × (List (S185)))
  | 0, _, _, _ => none
  | k + 1, x0, x1, x5 => if x5 < (x0.length : Int) then (if 0 ≤ x5 then ((some (x0.set (x5 : Int).toNat (⟨x1, (rd_T185 x0 x5).f1⟩ : S185) : List (S185))).bind fun y276 => (laws_markPortValueS.l0 k (y276.set (x5 : Int).toNat (⟨(rd_T185 y276 x5).f0, wrap64 (x1 + 1)⟩ : S185)) (wrap64 ((wrap64 (x1 + 1)) + 1)) (wrap64 (x5 + 1)))) else (none)) else (some (x1, x0))
def laws_markPortValueS.f (k : Nat) (l0 : List (S185)) (a1 : Int) : Option (Int × (List (S185))) := laws_markPortValueS.l0 k l0 a1 0
theorem laws_markPortValueS.mono_l : ∀ k, (∀ y0 y1 y2, LeO (laws_markPortValueS.l0 k y0 y1 y2) (laws_markPortValueS.l0 (k + 1) y0 y1 y2))
  | 0 => fun _ _ _ r h => by simp [laws_markPortValueS.l0] at h
  | k + 1 => by
    have ih0 := laws_markPortValueS.mono_l k
    · intro y0 y1 y2
      unfold laws_markPortValueS.l0
      repeat' first
      | (with_reducible exact ih0 _ _ _)
      | (with_reducible exact LeO.refl _)
      | (with_reducible exact LeO.none _)
      | (with_reducible refine LeO.ite ?_ ?_)
      | (with_reducible refine LeO.bind ?_ (fun _ => ?_))
      | exact ih0 _ _ _
      | exact LeO.none _
      | refine LeO.ite ?_ ?_
      | refine LeO.bind ?_ (fun _ => ?_)
theorem laws_markPortValueS.mono : ∀ a0 a1 k, LeO (laws_markPortValueS.f k a0 a1) (laws_markPortValueS.f (k + 1) a0 a1) := by
  intro a0 a1 k
  have ih0 := laws_markPortValueS.mono_l k
  unfold laws_markPortValueS.f
  repeat' first
      | (with_reducible exact ih0 _ _ _)
      | (with_reducible exact LeO.refl _)
      | (with_reducible exact LeO.none _)
      | (with_reducible refine LeO.ite ?_ ?_)
      | (with_reducible refine LeO.bind ?_ (fun _ => ?_))
      | exact ih0 _ _ _
      | exact LeO.none _
      | refine LeO.ite ?_ ?_
      | refine LeO.bind ?_ (fun _ => ?_)
set_option maxHeartbeats 8000000 in
set_option maxRecDepth 100000 in
theorem laws_markPortValueS.calls (k : Nat) (P0_ : Nat → Prop) (u9000_ : Value) (l0 : List (S185)) (a1 : Int) (r1 : Int) (r2 : List (S185)) (w0 w : World) (hB : Below w0.heap.size w0 w) (ho0 : Kd.R k185 185 w w0.heap.size P0_ u9000_ l0) (h : laws_markPortValueS.f k l0 a1 = some (r1, r2)) :
    Calls Try.prog 89 #[u9000_, .int .i64 a1] w fun e w' => e = .returned (.int .i64 r1) ∧ Kd.R k185 185 w' w0.heap.size (fun k_ => (P0_ k_ ∨ w.heap.size ≤ k_)) u9000_ r2 ∧ Below w0.heap.size w0 w' ∧ Kept w w' (fun k_ => P0_ k_) := by
  have HO0 := Aside0.mk (show Kd.R k185 185 w w0.heap.size (fun k_ => (P0_ k_ ∨ w.heap.size ≤ k_)) u9000_ l0 from Kd.R_mono ho0 (fun k_ hk => (.inl hk)))
  have HK := Aside0.mk (Kept.refl w (fun k_ => P0_ k_))
  have HW0 := Aside0.mk hB.size
  have HB := Aside0.mk hB
  clear hB
  have H : (laws_markPortValueS.l0 k l0 a1 0) = some (r1, r2) := h
  clear h
  have H' := Aside0.mk H
  clear H
  go_enter Try.func89, Try.ntmps89
  go_wp2
  go_loopg [1, 5] k (fun kq v1 v5 w' => ∃ (x0_1 : List (S185)) (x1_1 : Int) (x5_1 : Int), v1 = .int .i64 x1_1 ∧ v5 = .int .i64 x5_1 ∧ Aside0 (laws_markPortValueS.l0 kq x0_1 x1_1 x5_1 = some (r1, r2)) ∧ Aside0 (kq ≤ k) ∧ Aside0 (Kd.R k185 185 w' w0.heap.size (fun k_ => (P0_ k_ ∨ w.heap.size ≤ k_)) u9000_ x0_1) ∧ Aside0 (Kept w w' (fun k_ => P0_ k_)) ∧ Aside0 (Below w0.heap.size w0 w'))
  case atStart => exact ⟨(l0), (a1), (0), (by first | rfl | (simp; done) | (simp [*]; done)), (by first | rfl | (simp; done) | (simp [*]; done)), H', ⟨Nat.le_refl _⟩, ⟨by (with_reducible repeat (first | apply Kd.R_alloc | apply Kd.R_drewN | apply Kd.R_drew)); exact HO0.out⟩, ⟨by repeat (first | (with_reducible first | exact HK.out | apply Kept.alloc | apply Kept.drewN | apply Kept.drew) | exact HK.out)⟩, ⟨by repeat (first | (with_reducible first | exact HB.out | apply below_alloc | apply pw_below_drewN | apply below_drew1) | exact HB.out)⟩⟩
  case round =>
    clear H'
    try clear p2
    obtain ⟨x0_1, x1_1, x5_1, rfl, rfl, HA, HK1, HO_0, HK, HB⟩ := hrel
    cases gk with
    | zero => exact absurd HA.out (by simp [laws_markPortValueS.l0])
    | succ k1 =>
      have H := HA.out
      clear HA
      simp only [laws_markPortValueS.l0] at H
      by_cases c3 : x5_1 < (x0_1.length : Int)
      · rw [if_pos c3] at H
        have c3b0 : decide (x5_1 < (x0_1.length : Int)) = true := decide_eq_true c3
        clear c3
        by_cases c4 : 0 ≤ x5_1
        · rw [if_pos c4] at H
          have c4b0 : decide (0 ≤ x5_1) = true := decide_eq_true c4
          clear c4
          obtain ⟨y276, hy276⟩ : ∃ y_ : List (S185), y_ = (x0_1.set (x5_1 : Int).toNat (⟨x1_1, (rd_T185 x0_1 x5_1).f1⟩ : S185)) := ⟨_, rfl⟩
          replace H : (laws_markPortValueS.l0 k1 (y276.set (x5_1 : Int).toNat (⟨(rd_T185 y276 x5_1).f0, wrap64 (x1_1 + 1)⟩ : S185)) (wrap64 ((wrap64 (x1_1 + 1)) + 1)) (wrap64 (x5_1 + 1))) = some (r1, r2) := by first | (rw [hy276]; with_reducible exact H) | (have H2_ := (Option.bind_some _ _).symm.trans H; rw [hy276]; with_reducible exact H2_) | (have H2_ := (Option.bind_some _ _).symm.trans H; with_reducible exact H2_) | with_reducible exact H | (rw [hy276]; exact H) | exact H
          have Ny276 := Aside0.mk hy276
          clear hy276
          obtain ⟨y277, hy277⟩ : ∃ y_ : List (S185), y_ = (y276.set (x5_1 : Int).toNat (⟨(rd_T185 y276 x5_1).f0, wrap64 (x1_1 + 1)⟩ : S185)) := ⟨_, rfl⟩
          replace H : (laws_markPortValueS.l0 k1 y277 (wrap64 ((wrap64 (x1_1 + 1)) + 1)) (wrap64 (x5_1 + 1))) = some (r1, r2) := by first | (rw [hy277]; with_reducible exact H) | (have H2_ := (Option.bind_some _ _).symm.trans H; rw [hy277]; with_reducible exact H2_) | (have H2_ := (Option.bind_some _ _).symm.trans H; with_reducible exact H2_) | with_reducible exact H | (rw [hy277]; exact H) | exact H
          have Ny277 := Aside0.mk hy277
          clear hy277
          have H' := Aside0.mk H
          clear H
          obtain ⟨Ao7, co7, eo7⟩ := Kd.R_slice HO_0.out
          subst eo7
          have p5 : 0 ≤ (x5_1 : Int) := of_decide_eq_true (by first | (with_reducible assumption) | assumption)
          have q5 : (x5_1 : Int) < ((x0_1.length : Int) : Int) := of_decide_eq_true (by first | (with_reducible assumption) | assumption)
          obtain ⟨go5, co5, eo5, gb5, gl5, cl5, HG5⟩ := Kd.R_form HO_0.out (by omega)
          (first | cases eo5 | (injection eo5 with ea_ en_ ec_; (first | subst ea_ | (injection ea_ with ea_; subst ea_)); subst ec_; clear en_))
          have GB5 := Aside0.mk gb5
          have GG5 := Aside0.mk HG5
          clear gb5 gl5 HG5
          have HMgo5 := Aside0.mk (show (P0_ go5 ∨ w.heap.size ≤ go5) from (HO_0.out.1 _ rfl))
          obtain ⟨ce5, hcl5, hM5, hcc5, hfr5⟩ := Kd.R_elem HO_0.out z185 (x5_1 : Int) p5 q5
          obtain rfl := k185_openM hM5
          have hx5_0 : wr.cell? ⟨go5, (x5_1 : Int).toNat * 2, none⟩ = some (.int .i64 ((rd_T185 x0_1 x5_1).f0)) := hcc5 0 _ rfl
          have hx5_1 : wr.cell? ⟨go5, (x5_1 : Int).toNat * 2 + 1, none⟩ = some (.int .i64 ((rd_T185 x0_1 x5_1).f1)) := hcc5 1 _ rfl
          have hf5_0 : wr.frozen? ⟨go5, (x5_1 : Int).toNat * 2, none⟩ = false := hfr5 0
          have hf5_1 : wr.frozen? ⟨go5, (x5_1 : Int).toNat * 2 + 1, none⟩ = false := hfr5 1
          clear hcl5 hcc5 hfr5 hM5
          replace p5 := eq_true p5
          replace q5 := eq_true q5
          have HX8 := Aside0.mk (show Kd.R k185 185 wr w0.heap.size (fun k_ => (P0_ k_ ∨ w.heap.size ≤ k_)) (.slice (some ⟨go5, 0, none⟩) x0_1.length co7) x0_1 from (by (with_reducible repeat (first | apply Kd.R_alloc | apply Kd.R_drewN | apply Kd.R_drew)); exact HO_0.out))
          obtain ⟨ce8, hcl8, hM8, hcc8, hfr8⟩ := Kd.R_elem HX8.out z185 (x5_1 : Int) (of_decide_eq_true (by first | (with_reducible assumption) | assumption)) (by have h_ : (x5_1 : Int) < ((x0_1.length : Int) : Int) := of_decide_eq_true (by first | (with_reducible assumption) | assumption); first | exact h_ | (have e_ := (Kd.R_reads' HO_0.out).1; omega) | simpa using h_)
          obtain rfl := k185_openM hM8
          have HP8 := Kd.R_seg HX8.out (x5_1 : Int) (of_decide_eq_true (by first | (with_reducible assumption) | assumption)) (by have h_ : (x5_1 : Int) < ((x0_1.length : Int) : Int) := of_decide_eq_true (by first | (with_reducible assumption) | assumption); first | exact h_ | (have e_ := (Kd.R_reads' HO_0.out).1; omega) | simpa using h_) (seg := [.int .i64 x1_1]) (j := 0) hcl8 hcc8 (show 1 ≤ 2 from by decide) (x' := (⟨x1_1, (rd_T185 x0_1 x5_1).f1⟩ : S185)) (k185_mkM _ _ _ (⟨x1_1, (rd_T185 x0_1 x5_1).f1⟩ : S185) ) (fun _ hk => hk)
          have hx8_0 := hcc8 0 _ rfl
          (try simp only [show (k185).sz = 2 from rfl, Nat.mul_one, Nat.add_zero] at hx8_0)
          have hf8_0 := hfr8 0
          (try simp only [show (k185).sz = 2 from rfl, Nat.mul_one, Nat.add_zero] at hf8_0)
          clear hcl8 hcc8 hfr8 hM8
          go_wp2_with (first | ((with_reducible refine gate_store (t := 2) (p := 16) rfl ?_); refine store_event (t := 2) (p := 16) (v := ?vo_w9) (w1 := (wr.setCell ⟨go5, (x5_1 : Int).toNat * 2, none⟩ (.int .i64 x1_1))) ?hg ?ho ?hn ?hr ?_; (case ho => rfl); (case hg => rfl); (case hn => rfl); (case hr => first | (go_simp; done) | (go_simp; rfl)); intro w9 hw; have hg : wr.grownBy w9 (some go5) := (by rw [hw]; exact HP8.2); have hp_ : Kd.R k185 185 w9 w0.heap.size (fun k_ => (P0_ k_ ∨ w.heap.size ≤ k_)) (.slice (some ⟨go5, 0, none⟩) x0_1.length co7) y276 := (by rw [hw, Ny276.out]; exact HP8.1); clear HP8; have n0_ := Aside0.mk (hp_); have n1_ := Aside0.mk ((by rw [hw]; exact below_set (HB.out) GB5.out : Below w0.heap.size w0 w9)); have n2_ := Aside0.mk (Kept.of_grown (S := (fun k_ => P0_ k_)) hg (by repeat (first | (with_reducible first | exact HK.out | apply Kept.alloc | apply Kept.drewN | apply Kept.drew) | exact HK.out)) (fun k_ e_ => (HO_0.out.1 k_ e_))); clear HO_0; clear HB; clear HK; have HO_0 := n0_; have HB := n1_; have HK := n2_; clear n0_ n1_ n2_; clear hg hw hp_; have p6 : 0 ≤ (x5_1 : Int) := of_decide_eq_true (by first | (with_reducible assumption) | assumption); have q6 : (x5_1 : Int) < ((x0_1.length : Int) : Int) := of_decide_eq_true (by first | (with_reducible assumption) | assumption); obtain ⟨ce6, hcl6, hM6, hcc6, hfr6⟩ := Kd.R_elem HO_0.out z185 (x5_1 : Int) p6 q6; obtain rfl := k185_openM hM6; have hx6_0 : w9.cell? ⟨go5, (x5_1 : Int).toNat * 2, none⟩ = some (.int .i64 ((rd_T185 y276 x5_1).f0)) := hcc6 0 _ rfl; have hx6_1 : w9.cell? ⟨go5, (x5_1 : Int).toNat * 2 + 1, none⟩ = some (.int .i64 ((rd_T185 y276 x5_1).f1)) := hcc6 1 _ rfl; have hf6_0 : w9.frozen? ⟨go5, (x5_1 : Int).toNat * 2, none⟩ = false := hfr6 0; have hf6_1 : w9.frozen? ⟨go5, (x5_1 : Int).toNat * 2 + 1, none⟩ = false := hfr6 1; clear hcl6 hcc6 hfr6 hM6; replace p6 := eq_true p6; replace q6 := eq_true q6; have HX10 := Aside0.mk (show Kd.R k185 185 w9 w0.heap.size (fun k_ => (P0_ k_ ∨ w.heap.size ≤ k_)) (.slice (some ⟨go5, 0, none⟩) x0_1.length co7) y276 from (by (with_reducible repeat (first | apply Kd.R_alloc | apply Kd.R_drewN | apply Kd.R_drew)); exact HO_0.out)); obtain ⟨ce10, hcl10, hM10, hcc10, hfr10⟩ := Kd.R_elem HX10.out z185 (x5_1 : Int) (of_decide_eq_true (by first | (with_reducible assumption) | assumption)) (by have h_ : (x5_1 : Int) < ((x0_1.length : Int) : Int) := of_decide_eq_true (by first | (with_reducible assumption) | assumption); first | exact h_ | (have e_ := (Kd.R_reads' HO_0.out).1; omega) | simpa using h_); obtain rfl := k185_openM hM10; have HP10 := Kd.R_seg HX10.out (x5_1 : Int) (of_decide_eq_true (by first | (with_reducible assumption) | assumption)) (by have h_ : (x5_1 : Int) < ((x0_1.length : Int) : Int) := of_decide_eq_true (by first | (with_reducible assumption) | assumption); first | exact h_ | (have e_ := (Kd.R_reads' HO_0.out).1; omega) | simpa using h_) (seg := [.int .i64 (wrap64 (x1_1 + 1))]) (j := 1) hcl10 hcc10 (show 2 ≤ 2 from by decide) (x' := (⟨(rd_T185 y276 x5_1).f0, wrap64 (x1_1 + 1)⟩ : S185)) (k185_mkM _ _ _ (⟨(rd_T185 y276 x5_1).f0, wrap64 (x1_1 + 1)⟩ : S185) ) (fun _ hk => hk); have hx10_1 := hcc10 1 _ rfl; (try simp only [show (k185).sz = 2 from rfl, Nat.mul_one, Nat.add_zero] at hx10_1); have hf10_1 := hfr10 1; (try simp only [show (k185).sz = 2 from rfl, Nat.mul_one, Nat.add_zero] at hf10_1); clear hcl10 hcc10 hfr10 hM10) | ((with_reducible refine gate_store (t := 2) (p := 23) rfl ?_); refine store_event (t := 2) (p := 23) (v := ?vo_w11) (w1 := (w9.setCell ⟨go5, (x5_1 : Int).toNat * 2 + 1, none⟩ (.int .i64 (wrap64 (x1_1 + 1))))) ?hg ?ho ?hn ?hr ?_; (case ho => rfl); (case hg => rfl); (case hn => rfl); (case hr => first | (go_simp; done) | (go_simp; rfl)); intro w11 hw; have hg : w9.grownBy w11 (some go5) := (by rw [hw]; exact HP10.2); have hp_ : Kd.R k185 185 w11 w0.heap.size (fun k_ => (P0_ k_ ∨ w.heap.size ≤ k_)) (.slice (some ⟨go5, 0, none⟩) x0_1.length co7) y277 := (by rw [hw, Ny277.out]; exact HP10.1); clear HP10; have n0_ := Aside0.mk (hp_); have n1_ := Aside0.mk ((by rw [hw]; exact below_set (HB.out) GB5.out : Below w0.heap.size w0 w11)); have n2_ := Aside0.mk (Kept.of_grown (S := (fun k_ => P0_ k_)) hg (by repeat (first | (with_reducible first | exact HK.out | apply Kept.alloc | apply Kept.drewN | apply Kept.drew) | exact HK.out)) (fun k_ e_ => (HO_0.out.1 k_ e_))); clear HO_0; clear HB; clear HK; have HO_0 := n0_; have HB := n1_; have HK := n2_; clear n0_ n1_ n2_; clear hg hw hp_))
          go_roundg k1
          case measure => have := HK1.out; omega
          case rel => exact ⟨(y277), (wrap64 ((wrap64 (x1_1 + 1)) + 1)), (wrap64 (x5_1 + 1)), (by first | rfl | (simp; done) | (simp [*]; done)), (by first | rfl | (simp; done) | (simp [*]; done)), H', ⟨by have := HK1.out; omega⟩, ⟨by (with_reducible repeat (first | apply Kd.R_alloc | apply Kd.R_drewN | apply Kd.R_drew)); exact HO_0.out⟩, ⟨by repeat (first | (with_reducible first | exact HK.out | apply Kept.alloc | apply Kept.drewN | apply Kept.drew) | exact HK.out)⟩, ⟨by repeat (first | (with_reducible first | exact HB.out | apply below_alloc | apply pw_below_drewN | apply below_drew1) | exact HB.out)⟩⟩
        · rw [if_neg c4] at H
          exact absurd H (by simp)
      · rw [if_neg c3] at H
        have c3b0 : decide (x5_1 < (x0_1.length : Int)) = false := decide_eq_false c3
        clear c3
        simp only [Option.some.injEq, Prod.mk.injEq] at H
        obtain ⟨rfl, rfl⟩ := H
        obtain ⟨Ao12, co12, eo12⟩ := Kd.R_slice HO_0.out
        subst eo12
        go_wp2
        go_ret
        exact ⟨by first | rfl | (simp [errW_none, errW_some] <;> rfl) | (simp [*, errW_none, errW_some] <;> rfl), by (with_reducible repeat (first | apply Kd.R_alloc | apply Kd.R_drewN | apply Kd.R_drew)); exact HO_0.out, by repeat (first | (with_reducible first | exact HB.out | apply below_alloc | apply pw_below_drewN | apply below_drew1) | exact HB.out), by repeat (first | (with_reducible first | exact HK.out | apply Kept.alloc | apply Kept.drewN | apply Kept.drew) | exact HK.out)⟩

/-! ### laws_markMachine: function 35 -/
def laws_markMachine.f (k : Nat) (a0_0 : Int) (l0_1 : List Int) (a0_2 : Int) (l0_3 : List Int) (l0_4 : List Int) (a0_5 : ByteArray) (a0_6 : Int) (a0_7 : Int) (a0_8 : Int) (l0_9 : List (S185)) (l0_10 : List (S185)) (a0_11 : Int) (a1 : Int) : Option (Int × List Int × List Int × List Int × (List (S185)) × (List (S185))) := (laws_markInt64S.f k l0_1 a1).bind fun bt279 => ((laws_markInt64S.f k l0_3 bt279.1).bind fun bt281 => ((laws_markInt64S.f k l0_4 bt281.1).bind fun bt283 => ((laws_markPortValueS.f k l0_9 bt283.1).bind fun bt285 => ((laws_markPortValueS.f k l0_10 bt285.1).bind fun bt287 => (some (bt287.1, bt279.2, bt281.2, bt283.2, bt285.2, bt287.2))))))
theorem laws_markMachine.mono : ∀ a0 a1 a2 a3 a4 a5 a6 a7 a8 a9 a10 a11 a12 k, LeO (laws_markMachine.f k a0 a1 a2 a3 a4 a5 a6 a7 a8 a9 a10 a11 a12) (laws_markMachine.f (k + 1) a0 a1 a2 a3 a4 a5 a6 a7 a8 a9 a10 a11 a12) := by
 intro a0 a1 a2 a3 a4 a5 a6 a7 a8 a9 a10 a11 a12 k
 unfold laws_markMachine.f
 repeat' first
   | (with_reducible exact laws_markInt64S.mono _ _ _)
   | (with_reducible exact laws_markPortValueS.mono _ _ _)
   | (with_reducible exact LeO.refl _)
   | (with_reducible exact LeO.none _)
   | (with_reducible refine LeO.ite ?_ ?_)
   | (with_reducible refine LeO.bind ?_ (fun _ => ?_))
   | exact laws_markInt64S.mono _ _ _
   | exact laws_markPortValueS.mono _ _ _
   | exact LeO.none _
   | refine LeO.ite ?_ ?_
   | refine LeO.bind ?_ (fun _ => ?_)
set_option maxHeartbeats 8000000 in
set_option maxRecDepth 100000 in
theorem laws_markMachine.calls (k : Nat) (a0_0 : Int) (P0_1_ : Nat → Prop) (u9000_ : Value) (l0_1 : List Int) (a0_2 : Int) (P0_3_ : Nat → Prop) (u9001_ : Value) (l0_3 : List Int) (P0_4_ : Nat → Prop) (u9002_ : Value) (l0_4 : List Int) (a0_5 : ByteArray) (a0_6 : Int) (a0_7 : Int) (a0_8 : Int) (P0_9_ : Nat → Prop) (u9003_ : Value) (l0_9 : List (S185)) (P0_10_ : Nat → Prop) (u9004_ : Value) (l0_10 : List (S185)) (a0_11 : Int) (a1 : Int) (r1 : Int) (r2 : List Int) (r3 : List Int) (r4 : List Int) (r5 : List (S185)) (r6 : List (S185)) (w0 w : World) (hB : Below w0.heap.size w0 w) (ho0_1 : Kd.R (Kd.int .i64) 2 w w0.heap.size P0_1_ u9000_ l0_1) (hp0_1_0_3 : ∀ k_, P0_1_ k_ → ¬ P0_3_ k_) (hp0_1_0_4 : ∀ k_, P0_1_ k_ → ¬ P0_4_ k_) (ho0_3 : Kd.R (Kd.int .i64) 2 w w0.heap.size P0_3_ u9001_ l0_3) (hp0_3_0_1 : ∀ k_, P0_3_ k_ → ¬ P0_1_ k_) (hp0_3_0_4 : ∀ k_, P0_3_ k_ → ¬ P0_4_ k_) (ho0_4 : Kd.R (Kd.int .i64) 2 w w0.heap.size P0_4_ u9002_ l0_4) (hp0_4_0_1 : ∀ k_, P0_4_ k_ → ¬ P0_1_ k_) (hp0_4_0_3 : ∀ k_, P0_4_ k_ → ¬ P0_3_ k_) (ho0_9 : Kd.R k185 185 w w0.heap.size P0_9_ u9003_ l0_9) (hp0_9_0_10 : ∀ k_, P0_9_ k_ → ¬ P0_10_ k_) (ho0_10 : Kd.R k185 185 w w0.heap.size P0_10_ u9004_ l0_10) (hp0_10_0_9 : ∀ k_, P0_10_ k_ → ¬ P0_9_ k_) (h : laws_markMachine.f k a0_0 l0_1 a0_2 l0_3 l0_4 a0_5 a0_6 a0_7 a0_8 l0_9 l0_10 a0_11 a1 = some (r1, r2, r3, r4, r5, r6)) :
  Calls Try.prog 35 #[.agg #[.int .i64 a0_0, u9000_, .int .i64 a0_2, u9001_, u9002_, .string a0_5, .int .i64 a0_6, .int .i64 a0_7, .int .i64 a0_8, u9003_, u9004_, .int .i64 a0_11], .int .i64 a1] w fun e w' => e = .returned (.int .i64 r1) ∧ Kd.R (Kd.int .i64) 2 w' w0.heap.size (fun k_ => ((P0_1_ k_ ∨ P0_3_ k_ ∨ P0_4_ k_ ∨ P0_9_ k_ ∨ P0_10_ k_) ∨ w.heap.size ≤ k_)) u9000_ r2 ∧ Kd.R (Kd.int .i64) 2 w' w0.heap.size (fun k_ => ((P0_1_ k_ ∨ P0_3_ k_ ∨ P0_4_ k_ ∨ P0_9_ k_ ∨ P0_10_ k_) ∨ w.heap.size ≤ k_)) u9001_ r3 ∧ Kd.R (Kd.int .i64) 2 w' w0.heap.size (fun k_ => ((P0_1_ k_ ∨ P0_3_ k_ ∨ P0_4_ k_ ∨ P0_9_ k_ ∨ P0_10_ k_) ∨ w.heap.size ≤ k_)) u9002_ r4 ∧ Kd.R k185 185 w' w0.heap.size (fun k_ => ((P0_1_ k_ ∨ P0_3_ k_ ∨ P0_4_ k_ ∨ P0_9_ k_ ∨ P0_10_ k_) ∨ w.heap.size ≤ k_)) u9003_ r5 ∧ Kd.R k185 185 w' w0.heap.size (fun k_ => ((P0_1_ k_ ∨ P0_3_ k_ ∨ P0_4_ k_ ∨ P0_9_ k_ ∨ P0_10_ k_) ∨ w.heap.size ≤ k_)) u9004_ r6 ∧ Below w0.heap.size w0 w' ∧ Kept w w' (fun k_ => P0_1_ k_ ∨ P0_3_ k_ ∨ P0_4_ k_ ∨ P0_9_ k_ ∨ P0_10_ k_) := by
 have hu71 := Try.underlying71
 have HO0_1 := Sq.l (show Kd.R (Kd.int .i64) 2 w w0.heap.size (fun k_ => ((P0_1_ k_ ∨ P0_3_ k_ ∨ P0_4_ k_ ∨ P0_9_ k_ ∨ P0_10_ k_) ∨ w.heap.size ≤ k_) ∧ some k_ ≠ (u9001_ : Value).ownBlock ∧ some k_ ≠ (u9002_ : Value).ownBlock) u9000_ l0_1 from Sq.a3 ho0_1 (fun k_ hk => ⟨(.inl (.inl hk)), fun e_ => hp0_1_0_3 k_ hk (ho0_3.1 k_ e_.symm), fun e_ => hp0_1_0_4 k_ hk (ho0_4.1 k_ e_.symm)⟩))
 have HO0_3 := Sq.l (show Kd.R (Kd.int .i64) 2 w w0.heap.size (fun k_ => ((P0_1_ k_ ∨ P0_3_ k_ ∨ P0_4_ k_ ∨ P0_9_ k_ ∨ P0_10_ k_) ∨ w.heap.size ≤ k_) ∧ some k_ ≠ (u9000_ : Value).ownBlock ∧ some k_ ≠ (u9002_ : Value).ownBlock) u9001_ l0_3 from Sq.a3 ho0_3 (fun k_ hk => ⟨(.inl (.inr (.inl hk))), fun e_ => hp0_3_0_1 k_ hk (ho0_1.1 k_ e_.symm), fun e_ => hp0_3_0_4 k_ hk (ho0_4.1 k_ e_.symm)⟩))
 have HO0_4 := Sq.l (show Kd.R (Kd.int .i64) 2 w w0.heap.size (fun k_ => ((P0_1_ k_ ∨ P0_3_ k_ ∨ P0_4_ k_ ∨ P0_9_ k_ ∨ P0_10_ k_) ∨ w.heap.size ≤ k_) ∧ some k_ ≠ (u9000_ : Value).ownBlock ∧ some k_ ≠ (u9001_ : Value).ownBlock) u9002_ l0_4 from Sq.a3 ho0_4 (fun k_ hk => ⟨(.inl (.inr (.inr (.inl hk)))), fun e_ => hp0_4_0_1 k_ hk (ho0_1.1 k_ e_.symm), fun e_ => hp0_4_0_3 k_ hk (ho0_3.1 k_ e_.symm)⟩))
 have HO0_9 := Sq.l (show Kd.R k185 185 w w0.heap.size (fun k_ => ((P0_1_ k_ ∨ P0_3_ k_ ∨ P0_4_ k_ ∨ P0_9_ k_ ∨ P0_10_ k_) ∨ w.heap.size ≤ k_) ∧ some k_ ≠ (u9004_ : Value).ownBlock) u9003_ l0_9 from Sq.a3 ho0_9 (fun k_ hk => ⟨(.inl (.inr (.inr (.inr (.inl hk))))), fun e_ => hp0_9_0_10 k_ hk (ho0_10.1 k_ e_.symm)⟩))
 have HO0_10 := Sq.l (show Kd.R k185 185 w w0.heap.size (fun k_ => ((P0_1_ k_ ∨ P0_3_ k_ ∨ P0_4_ k_ ∨ P0_9_ k_ ∨ P0_10_ k_) ∨ w.heap.size ≤ k_) ∧ some k_ ≠ (u9003_ : Value).ownBlock) u9004_ l0_10 from Sq.a3 ho0_10 (fun k_ hk => ⟨(.inl (.inr (.inr (.inr (.inr hk))))), fun e_ => hp0_10_0_9 k_ hk (ho0_9.1 k_ e_.symm)⟩))
 have HK := Sq.l (Kept.refl w (fun k_ => P0_1_ k_ ∨ P0_3_ k_ ∨ P0_4_ k_ ∨ P0_9_ k_ ∨ P0_10_ k_))
 have HW0 := Sq.l hB.size
 have HB := Sq.l hB
 clear hB
 have H : ((laws_markInt64S.f k l0_1 a1).bind fun bt279 => ((laws_markInt64S.f k l0_3 bt279.1).bind fun bt281 => ((laws_markInt64S.f k l0_4 bt281.1).bind fun bt283 => ((laws_markPortValueS.f k l0_9 bt283.1).bind fun bt285 => ((laws_markPortValueS.f k l0_10 bt285.1).bind fun bt287 => (some (bt287.1, bt279.2, bt281.2, bt283.2, bt285.2, bt287.2))))))) = some (r1, r2, r3, r4, r5, r6) := h
 clear h
 replace H := Option.bind_eq_some_iff.mp H
 obtain ⟨⟨t279, t280⟩, A30, H⟩ := H
 replace H : ((laws_markInt64S.f k l0_3 t279).bind fun bt281 => ((laws_markInt64S.f k l0_4 bt281.1).bind fun bt283 => ((laws_markPortValueS.f k l0_9 bt283.1).bind fun bt285 => ((laws_markPortValueS.f k l0_10 bt285.1).bind fun bt287 => (some (bt287.1, t280, bt281.2, bt283.2, bt285.2, bt287.2)))))) = some (r1, r2, r3, r4, r5, r6) := H
 have A3 := Sq.l A30
 clear A30
 replace H := Option.bind_eq_some_iff.mp H
 obtain ⟨⟨t281, t282⟩, A40, H⟩ := H
 replace H : ((laws_markInt64S.f k l0_4 t281).bind fun bt283 => ((laws_markPortValueS.f k l0_9 bt283.1).bind fun bt285 => ((laws_markPortValueS.f k l0_10 bt285.1).bind fun bt287 => (some (bt287.1, t280, t282, bt283.2, bt285.2, bt287.2))))) = some (r1, r2, r3, r4, r5, r6) := H
 have A4 := Sq.l A40
 clear A40
 replace H := Option.bind_eq_some_iff.mp H
 obtain ⟨⟨t283, t284⟩, A50, H⟩ := H
 replace H : ((laws_markPortValueS.f k l0_9 t283).bind fun bt285 => ((laws_markPortValueS.f k l0_10 bt285.1).bind fun bt287 => (some (bt287.1, t280, t282, t284, bt285.2, bt287.2)))) = some (r1, r2, r3, r4, r5, r6) := H
 have A5 := Sq.l A50
 clear A50
 replace H := Option.bind_eq_some_iff.mp H
 obtain ⟨⟨t285, t286⟩, A60, H⟩ := H
 replace H : ((laws_markPortValueS.f k l0_10 t285).bind fun bt287 => (some (bt287.1, t280, t282, t284, t286, bt287.2))) = some (r1, r2, r3, r4, r5, r6) := H
 have A6 := Sq.l A60
 clear A60
 replace H := Option.bind_eq_some_iff.mp H
 obtain ⟨⟨t287, t288⟩, A70, H⟩ := H
 replace H : (some (t287, t280, t282, t284, t286, t288)) = some (r1, r2, r3, r4, r5, r6) := H
 have A7 := Sq.l A70
 clear A70
 simp only [Option.some.injEq, Prod.mk.injEq] at H
 obtain ⟨rfl, rfl, rfl, rfl, rfl, rfl⟩ := H
 obtain ⟨Ao8, co8, eo8⟩ := Kd.R_slice HO0_1.out
 subst eo8
 obtain ⟨Ao9, co9, eo9⟩ := Kd.R_slice HO0_3.out
 subst eo9
 obtain ⟨Ao10, co10, eo10⟩ := Kd.R_slice HO0_4.out
 subst eo10
 obtain ⟨Ao11, co11, eo11⟩ := Kd.R_slice HO0_9.out
 subst eo11
 obtain ⟨Ao12, co12, eo12⟩ := Kd.R_slice HO0_10.out
 subst eo12
 go_enter Try.func35, Try.ntmps35
 go_wp2_with (first | ((with_reducible refine gate_dst (N := 2) rfl ?_); refine box_event ?hg (N := 2) ?hd (cs := #[.int .i64 a0_0, .slice Ao8 l0_1.length co8, .int .i64 a0_2, .slice Ao9 l0_3.length co9, .slice Ao10 l0_4.length co10, .string a0_5, .int .i64 a0_6, .int .i64 a0_7, .int .i64 a0_8, .slice Ao11 l0_9.length co11, .slice Ao12 l0_10.length co12, .int .i64 a0_11]) (t := 71) ?hr ?_; (case hd => rfl); (case hg => rfl); (case hr => first | (go_simp; done) | (go_simp; rfl)); intro gb278 hg w13 hbox hb; have n0_ := Sq.l (Sq.n (Sq.U HO0_1.out) hb); have n1_ := Sq.l (Sq.n (Sq.U HO0_3.out) hb); have n2_ := Sq.l (Sq.n (Sq.U HO0_4.out) hb); have n3_ := Sq.l (Sq.n (Sq.U HO0_9.out) hb); have n4_ := Sq.l (Sq.n (Sq.U HO0_10.out) hb); have n5_ := Sq.l (Kept.below (S := (fun k_ => P0_1_ k_ ∨ P0_3_ k_ ∨ P0_4_ k_ ∨ P0_9_ k_ ∨ P0_10_ k_)) (by repeat (first | (with_reducible first | exact HK.out | apply Kept.alloc | apply Kept.drewN | apply Kept.drew) | exact HK.out)) hb); have n6_ := Sq.l (Sq.a4 (by repeat (first | (with_reducible first | exact HB.out | apply Sq.i | apply Sq.j | apply Sq.k) | exact HB.out)) hb); have n7_ := Sq.l (hbox); have n8_ := Sq.l ((by rw [hg]; exact (by first | exact HK.out.1 | exact (show Kept w _ (fun k_ => P0_1_ k_ ∨ P0_3_ k_ ∨ P0_4_ k_ ∨ P0_9_ k_ ∨ P0_10_ k_) from by repeat (first | (with_reducible first | exact HK.out | apply Kept.alloc | apply Kept.drewN | apply Kept.drew) | exact HK.out)).1) : w.heap.size ≤ gb278)); have n9_ := Sq.l ((by rw [hg]; exact (Sq.a5 (by repeat (first | (with_reducible first | exact HB.out | apply Sq.i | apply Sq.j | apply Sq.k) | exact HB.out))) : w0.heap.size ≤ gb278)); clear HO0_1 HO0_3 HO0_4 HO0_9 HO0_10 HK HB; have HO0_1 := n0_; have HO0_3 := n1_; have HO0_4 := n2_; have HO0_9 := n3_; have HO0_10 := n4_; have HK := n5_; have HB := n6_; have BK278 := n7_; have GW278 := n8_; have GE278 := n9_; clear n0_ n1_ n2_ n3_ n4_ n5_ n6_ n7_ n8_ n9_; clear hb hbox hg; obtain ⟨hcz14_0, hcz14_1, hcz14_2, hcz14_3, hcz14_4, hcz14_5, hcz14_6, hcz14_7, hcz14_8, hcz14_9, hcz14_10, hcz14_11⟩ := Sq.C12 BK278.out; obtain ⟨hfz14_0, hfz14_1, hfz14_2, hfz14_3, hfz14_4, hfz14_5, hfz14_6, hfz14_7, hfz14_8, hfz14_9, hfz14_10, hfz14_11⟩ := Sq.F12 BK278.out) | ((with_reducible refine gate_callee (f := 27) rfl ?_); refine goesL_ (some 8) rfl rfl Try.func27 (by kernel_rfl) rfl #[.slice Ao8 l0_1.length co8, .int .i64 a1] rfl (by (try simp only [List.map_toArray, List.map_cons, List.map_nil]); first | done | rfl | (simp only [List.length_drop, List.length_take]; rfl)) ?_; (with_reducible refine (laws_markInt64S.calls k (fun k_ => some k_ = (.slice Ao8 l0_1.length co8 : Value).ownBlock) (.slice Ao8 l0_1.length co8) l0_1 a1 t279 t280 w0 _ ?side1 ?side2 A3.out).mono ?_); (case side1 => repeat (first | (with_reducible first | exact HB.out | apply Sq.i | apply Sq.j | apply Sq.k | refine Sq.h ?_ GE278.out) | exact HB.out)); (case side2 => exact Kd.R_tight rfl HO0_1.out); rintro e w15 ⟨rfl, hy0, hb, hkp⟩; refine ⟨_, rfl, ?_⟩; have n0_ := Sq.l (Kd.R_reok rfl hy0 (fun k_ e_ => HO0_1.out.1 k_ e_)); have n1_ := Sq.l (Sq.a3 (ok' := fun k_ => ((P0_1_ k_ ∨ P0_3_ k_ ∨ P0_4_ k_ ∨ P0_9_ k_ ∨ P0_10_ k_) ∨ w.heap.size ≤ k_) ∧ some k_ ≠ (.slice Ao8 l0_1.length co8 : Value).ownBlock ∧ some k_ ≠ (.slice Ao10 l0_4.length co10 : Value).ownBlock) (Kd.R_keptB (HO0_3.out) hkp (fun k_ hk_ hs_ => (hk_.2.1) hs_)) (fun k_ hk_ => ⟨hk_.1.1, hk_.1.2.1, hk_.1.2.2⟩)); have n2_ := Sq.l (Sq.a3 (ok' := fun k_ => ((P0_1_ k_ ∨ P0_3_ k_ ∨ P0_4_ k_ ∨ P0_9_ k_ ∨ P0_10_ k_) ∨ w.heap.size ≤ k_) ∧ some k_ ≠ (.slice Ao8 l0_1.length co8 : Value).ownBlock ∧ some k_ ≠ (.slice Ao9 l0_3.length co9 : Value).ownBlock) (Kd.R_keptB (HO0_4.out) hkp (fun k_ hk_ hs_ => (hk_.2.1) hs_)) (fun k_ hk_ => ⟨hk_.1.1, hk_.1.2.1, hk_.1.2.2⟩)); have n3_ := Sq.l (Sq.a3 (ok' := fun k_ => ((P0_1_ k_ ∨ P0_3_ k_ ∨ P0_4_ k_ ∨ P0_9_ k_ ∨ P0_10_ k_) ∨ w.heap.size ≤ k_) ∧ some k_ ≠ (.slice Ao12 l0_10.length co12 : Value).ownBlock) (Kd.R_keptB ((Sq.b6 HO0_9.out (Sq.c3 HO0_1.out) (by decide))) hkp (fun k_ hk_ hs_ => (hk_.2) hs_)) (fun k_ hk_ => ⟨hk_.1.1.1, hk_.1.1.2⟩)); have n4_ := Sq.l (Sq.a3 (ok' := fun k_ => ((P0_1_ k_ ∨ P0_3_ k_ ∨ P0_4_ k_ ∨ P0_9_ k_ ∨ P0_10_ k_) ∨ w.heap.size ≤ k_) ∧ some k_ ≠ (.slice Ao11 l0_9.length co11 : Value).ownBlock) (Kd.R_keptB ((Sq.b6 HO0_10.out (Sq.c3 HO0_1.out) (by decide))) hkp (fun k_ hk_ hs_ => (hk_.2) hs_)) (fun k_ hk_ => ⟨hk_.1.1.1, hk_.1.1.2⟩)); have n5_ := Sq.l (blk_kept (Sq.W BK278.out) hkp (fun hs_ => (fun e_ => (Kd.R_ne HO0_1.out BK278.out (by decide)) e_) hs_)); have n6_ := Sq.l (Kept.then_ (S := (fun k_ => P0_1_ k_ ∨ P0_3_ k_ ∨ P0_4_ k_ ∨ P0_9_ k_ ∨ P0_10_ k_)) (by repeat (first | (with_reducible first | exact HK.out | apply Kept.alloc | apply Kept.drewN | apply Kept.drew | refine Kept.setCell ?_ (.inr GW278.out) _) | exact HK.out)) hkp (fun k_ hs_ => (fun e_ => (HO0_1.out.1 k_ e_.symm).1) hs_)); have n7_ := Sq.l (hb); clear HO0_1 HO0_3 HO0_4 HO0_9 HO0_10 BK278 HK HB; have HO0_1 := n0_; have HO0_3 := n1_; have HO0_4 := n2_; have HO0_9 := n3_; have HO0_10 := n4_; have BK278 := n5_; have HK := n6_; have HB := n7_; clear n0_ n1_ n2_ n3_ n4_ n5_ n6_ n7_; (try clear hb); (try clear hkp); (try clear hy0); obtain ⟨hcz16_0, hcz16_1, hcz16_2, hcz16_3, hcz16_4, hcz16_5, hcz16_6, hcz16_7, hcz16_8, hcz16_9, hcz16_10, hcz16_11⟩ := Sq.C12 BK278.out; obtain ⟨hfz16_0, hfz16_1, hfz16_2, hfz16_3, hfz16_4, hfz16_5, hfz16_6, hfz16_7, hfz16_8, hfz16_9, hfz16_10, hfz16_11⟩ := Sq.F12 BK278.out) | ((with_reducible refine gate_callee (f := 27) rfl ?_); refine goesL_ (some 12) rfl rfl Try.func27 (by kernel_rfl) rfl #[.slice Ao9 l0_3.length co9, .int .i64 t279] rfl (by (try simp only [List.map_toArray, List.map_cons, List.map_nil]); first | done | rfl | (simp only [List.length_drop, List.length_take]; rfl)) ?_; (with_reducible refine (laws_markInt64S.calls k (fun k_ => some k_ = (.slice Ao9 l0_3.length co9 : Value).ownBlock) (.slice Ao9 l0_3.length co9) l0_3 t279 t281 t282 w0 _ ?side1 ?side2 A4.out).mono ?_); (case side1 => repeat (first | (with_reducible first | exact HB.out | apply Sq.i | apply Sq.j | apply Sq.k | refine Sq.h ?_ GE278.out) | exact HB.out)); (case side2 => exact Kd.R_tight rfl HO0_3.out); rintro e w17 ⟨rfl, hy0, hb, hkp⟩; refine ⟨_, rfl, ?_⟩; have n0_ := Sq.l (Sq.a3 (ok' := fun k_ => ((P0_1_ k_ ∨ P0_3_ k_ ∨ P0_4_ k_ ∨ P0_9_ k_ ∨ P0_10_ k_) ∨ w.heap.size ≤ k_) ∧ some k_ ≠ (.slice Ao9 l0_3.length co9 : Value).ownBlock ∧ some k_ ≠ (.slice Ao10 l0_4.length co10 : Value).ownBlock) (Kd.R_keptB (HO0_1.out) hkp (fun k_ hk_ hs_ => (hk_.2.1) hs_)) (fun k_ hk_ => ⟨hk_.1.1, hk_.1.2.1, hk_.1.2.2⟩)); have n1_ := Sq.l (Kd.R_reok rfl hy0 (fun k_ e_ => HO0_3.out.1 k_ e_)); have n2_ := Sq.l (Sq.a3 (ok' := fun k_ => ((P0_1_ k_ ∨ P0_3_ k_ ∨ P0_4_ k_ ∨ P0_9_ k_ ∨ P0_10_ k_) ∨ w.heap.size ≤ k_) ∧ some k_ ≠ (.slice Ao8 l0_1.length co8 : Value).ownBlock ∧ some k_ ≠ (.slice Ao9 l0_3.length co9 : Value).ownBlock) (Kd.R_keptB (HO0_4.out) hkp (fun k_ hk_ hs_ => (hk_.2.2) hs_)) (fun k_ hk_ => ⟨hk_.1.1, hk_.1.2.1, hk_.1.2.2⟩)); have n3_ := Sq.l (Sq.a3 (ok' := fun k_ => ((P0_1_ k_ ∨ P0_3_ k_ ∨ P0_4_ k_ ∨ P0_9_ k_ ∨ P0_10_ k_) ∨ w.heap.size ≤ k_) ∧ some k_ ≠ (.slice Ao12 l0_10.length co12 : Value).ownBlock) (Kd.R_keptB ((Sq.b6 HO0_9.out (Sq.c3 HO0_3.out) (by decide))) hkp (fun k_ hk_ hs_ => (hk_.2) hs_)) (fun k_ hk_ => ⟨hk_.1.1.1, hk_.1.1.2⟩)); have n4_ := Sq.l (Sq.a3 (ok' := fun k_ => ((P0_1_ k_ ∨ P0_3_ k_ ∨ P0_4_ k_ ∨ P0_9_ k_ ∨ P0_10_ k_) ∨ w.heap.size ≤ k_) ∧ some k_ ≠ (.slice Ao11 l0_9.length co11 : Value).ownBlock) (Kd.R_keptB ((Sq.b6 HO0_10.out (Sq.c3 HO0_3.out) (by decide))) hkp (fun k_ hk_ hs_ => (hk_.2) hs_)) (fun k_ hk_ => ⟨hk_.1.1.1, hk_.1.1.2⟩)); have n5_ := Sq.l (blk_kept (Sq.W BK278.out) hkp (fun hs_ => (fun e_ => (Kd.R_ne HO0_3.out BK278.out (by decide)) e_) hs_)); have n6_ := Sq.l (Kept.then_ (S := (fun k_ => P0_1_ k_ ∨ P0_3_ k_ ∨ P0_4_ k_ ∨ P0_9_ k_ ∨ P0_10_ k_)) (by repeat (first | (with_reducible first | exact HK.out | apply Kept.alloc | apply Kept.drewN | apply Kept.drew | refine Kept.setCell ?_ (.inr GW278.out) _) | exact HK.out)) hkp (fun k_ hs_ => (fun e_ => (HO0_3.out.1 k_ e_.symm).1) hs_)); have n7_ := Sq.l (hb); clear HO0_1 HO0_3 HO0_4 HO0_9 HO0_10 BK278 HK HB; have HO0_1 := n0_; have HO0_3 := n1_; have HO0_4 := n2_; have HO0_9 := n3_; have HO0_10 := n4_; have BK278 := n5_; have HK := n6_; have HB := n7_; clear n0_ n1_ n2_ n3_ n4_ n5_ n6_ n7_; (try clear hb); (try clear hkp); (try clear hy0); obtain ⟨hcz18_0, hcz18_1, hcz18_2, hcz18_3, hcz18_4, hcz18_5, hcz18_6, hcz18_7, hcz18_8, hcz18_9, hcz18_10, hcz18_11⟩ := Sq.C12 BK278.out; obtain ⟨hfz18_0, hfz18_1, hfz18_2, hfz18_3, hfz18_4, hfz18_5, hfz18_6, hfz18_7, hfz18_8, hfz18_9, hfz18_10, hfz18_11⟩ := Sq.F12 BK278.out) | ((with_reducible refine gate_callee (f := 27) rfl ?_); refine goesL_ (some 16) rfl rfl Try.func27 (by kernel_rfl) rfl #[.slice Ao10 l0_4.length co10, .int .i64 t281] rfl (by (try simp only [List.map_toArray, List.map_cons, List.map_nil]); first | done | rfl | (simp only [List.length_drop, List.length_take]; rfl)) ?_; (with_reducible refine (laws_markInt64S.calls k (fun k_ => some k_ = (.slice Ao10 l0_4.length co10 : Value).ownBlock) (.slice Ao10 l0_4.length co10) l0_4 t281 t283 t284 w0 _ ?side1 ?side2 A5.out).mono ?_); (case side1 => repeat (first | (with_reducible first | exact HB.out | apply Sq.i | apply Sq.j | apply Sq.k | refine Sq.h ?_ GE278.out) | exact HB.out)); (case side2 => exact Kd.R_tight rfl HO0_4.out); rintro e w19 ⟨rfl, hy0, hb, hkp⟩; refine ⟨_, rfl, ?_⟩; have n0_ := Sq.l (Sq.a3 (ok' := fun k_ => ((P0_1_ k_ ∨ P0_3_ k_ ∨ P0_4_ k_ ∨ P0_9_ k_ ∨ P0_10_ k_) ∨ w.heap.size ≤ k_) ∧ some k_ ≠ (.slice Ao9 l0_3.length co9 : Value).ownBlock ∧ some k_ ≠ (.slice Ao10 l0_4.length co10 : Value).ownBlock) (Kd.R_keptB (HO0_1.out) hkp (fun k_ hk_ hs_ => (hk_.2.2) hs_)) (fun k_ hk_ => ⟨hk_.1.1, hk_.1.2.1, hk_.1.2.2⟩)); have n1_ := Sq.l (Sq.a3 (ok' := fun k_ => ((P0_1_ k_ ∨ P0_3_ k_ ∨ P0_4_ k_ ∨ P0_9_ k_ ∨ P0_10_ k_) ∨ w.heap.size ≤ k_) ∧ some k_ ≠ (.slice Ao8 l0_1.length co8 : Value).ownBlock ∧ some k_ ≠ (.slice Ao10 l0_4.length co10 : Value).ownBlock) (Kd.R_keptB (HO0_3.out) hkp (fun k_ hk_ hs_ => (hk_.2.2) hs_)) (fun k_ hk_ => ⟨hk_.1.1, hk_.1.2.1, hk_.1.2.2⟩)); have n2_ := Sq.l (Kd.R_reok rfl hy0 (fun k_ e_ => HO0_4.out.1 k_ e_)); have n3_ := Sq.l (Sq.a3 (ok' := fun k_ => ((P0_1_ k_ ∨ P0_3_ k_ ∨ P0_4_ k_ ∨ P0_9_ k_ ∨ P0_10_ k_) ∨ w.heap.size ≤ k_) ∧ some k_ ≠ (.slice Ao12 l0_10.length co12 : Value).ownBlock) (Kd.R_keptB ((Sq.b6 HO0_9.out (Sq.c3 HO0_4.out) (by decide))) hkp (fun k_ hk_ hs_ => (hk_.2) hs_)) (fun k_ hk_ => ⟨hk_.1.1.1, hk_.1.1.2⟩)); have n4_ := Sq.l (Sq.a3 (ok' := fun k_ => ((P0_1_ k_ ∨ P0_3_ k_ ∨ P0_4_ k_ ∨ P0_9_ k_ ∨ P0_10_ k_) ∨ w.heap.size ≤ k_) ∧ some k_ ≠ (.slice Ao11 l0_9.length co11 : Value).ownBlock) (Kd.R_keptB ((Sq.b6 HO0_10.out (Sq.c3 HO0_4.out) (by decide))) hkp (fun k_ hk_ hs_ => (hk_.2) hs_)) (fun k_ hk_ => ⟨hk_.1.1.1, hk_.1.1.2⟩)); have n5_ := Sq.l (blk_kept (Sq.W BK278.out) hkp (fun hs_ => (fun e_ => (Kd.R_ne HO0_4.out BK278.out (by decide)) e_) hs_)); have n6_ := Sq.l (Kept.then_ (S := (fun k_ => P0_1_ k_ ∨ P0_3_ k_ ∨ P0_4_ k_ ∨ P0_9_ k_ ∨ P0_10_ k_)) (by repeat (first | (with_reducible first | exact HK.out | apply Kept.alloc | apply Kept.drewN | apply Kept.drew | refine Kept.setCell ?_ (.inr GW278.out) _) | exact HK.out)) hkp (fun k_ hs_ => (fun e_ => (HO0_4.out.1 k_ e_.symm).1) hs_)); have n7_ := Sq.l (hb); clear HO0_1 HO0_3 HO0_4 HO0_9 HO0_10 BK278 HK HB; have HO0_1 := n0_; have HO0_3 := n1_; have HO0_4 := n2_; have HO0_9 := n3_; have HO0_10 := n4_; have BK278 := n5_; have HK := n6_; have HB := n7_; clear n0_ n1_ n2_ n3_ n4_ n5_ n6_ n7_; (try clear hb); (try clear hkp); (try clear hy0); obtain ⟨hcz20_0, hcz20_1, hcz20_2, hcz20_3, hcz20_4, hcz20_5, hcz20_6, hcz20_7, hcz20_8, hcz20_9, hcz20_10, hcz20_11⟩ := Sq.C12 BK278.out; obtain ⟨hfz20_0, hfz20_1, hfz20_2, hfz20_3, hfz20_4, hfz20_5, hfz20_6, hfz20_7, hfz20_8, hfz20_9, hfz20_10, hfz20_11⟩ := Sq.F12 BK278.out) | ((with_reducible refine gate_callee (f := 89) rfl ?_); refine goesL_ (some 20) rfl rfl Try.func89 (by kernel_rfl) rfl #[.slice Ao11 l0_9.length co11, .int .i64 t283] rfl (by (try simp only [List.map_toArray, List.map_cons, List.map_nil]); first | done | rfl | (simp only [List.length_drop, List.length_take]; rfl)) ?_; (with_reducible refine (laws_markPortValueS.calls k (fun k_ => some k_ = (.slice Ao11 l0_9.length co11 : Value).ownBlock) (.slice Ao11 l0_9.length co11) l0_9 t283 t285 t286 w0 _ ?side1 ?side2 A6.out).mono ?_); (case side1 => repeat (first | (with_reducible first | exact HB.out | apply Sq.i | apply Sq.j | apply Sq.k | refine Sq.h ?_ GE278.out) | exact HB.out)); (case side2 => exact Kd.R_tight rfl HO0_9.out); rintro e w21 ⟨rfl, hy0, hb, hkp⟩; refine ⟨_, rfl, ?_⟩; have n0_ := Sq.l (Sq.a3 (ok' := fun k_ => ((P0_1_ k_ ∨ P0_3_ k_ ∨ P0_4_ k_ ∨ P0_9_ k_ ∨ P0_10_ k_) ∨ w.heap.size ≤ k_) ∧ some k_ ≠ (.slice Ao9 l0_3.length co9 : Value).ownBlock ∧ some k_ ≠ (.slice Ao10 l0_4.length co10 : Value).ownBlock) (Kd.R_keptB ((Sq.b6 HO0_1.out (Sq.c3 HO0_9.out) (by decide))) hkp (fun k_ hk_ hs_ => (hk_.2) hs_)) (fun k_ hk_ => ⟨hk_.1.1.1, hk_.1.1.2.1, hk_.1.1.2.2⟩)); have n1_ := Sq.l (Sq.a3 (ok' := fun k_ => ((P0_1_ k_ ∨ P0_3_ k_ ∨ P0_4_ k_ ∨ P0_9_ k_ ∨ P0_10_ k_) ∨ w.heap.size ≤ k_) ∧ some k_ ≠ (.slice Ao8 l0_1.length co8 : Value).ownBlock ∧ some k_ ≠ (.slice Ao10 l0_4.length co10 : Value).ownBlock) (Kd.R_keptB ((Sq.b6 HO0_3.out (Sq.c3 HO0_9.out) (by decide))) hkp (fun k_ hk_ hs_ => (hk_.2) hs_)) (fun k_ hk_ => ⟨hk_.1.1.1, hk_.1.1.2.1, hk_.1.1.2.2⟩)); have n2_ := Sq.l (Sq.a3 (ok' := fun k_ => ((P0_1_ k_ ∨ P0_3_ k_ ∨ P0_4_ k_ ∨ P0_9_ k_ ∨ P0_10_ k_) ∨ w.heap.size ≤ k_) ∧ some k_ ≠ (.slice Ao8 l0_1.length co8 : Value).ownBlock ∧ some k_ ≠ (.slice Ao9 l0_3.length co9 : Value).ownBlock) (Kd.R_keptB ((Sq.b6 HO0_4.out (Sq.c3 HO0_9.out) (by decide))) hkp (fun k_ hk_ hs_ => (hk_.2) hs_)) (fun k_ hk_ => ⟨hk_.1.1.1, hk_.1.1.2.1, hk_.1.1.2.2⟩)); have n3_ := Sq.l (Kd.R_reok rfl hy0 (fun k_ e_ => HO0_9.out.1 k_ e_)); have n4_ := Sq.l (Sq.a3 (ok' := fun k_ => ((P0_1_ k_ ∨ P0_3_ k_ ∨ P0_4_ k_ ∨ P0_9_ k_ ∨ P0_10_ k_) ∨ w.heap.size ≤ k_) ∧ some k_ ≠ (.slice Ao11 l0_9.length co11 : Value).ownBlock) (Kd.R_keptB (HO0_10.out) hkp (fun k_ hk_ hs_ => (hk_.2) hs_)) (fun k_ hk_ => ⟨hk_.1.1, hk_.1.2⟩)); have n5_ := Sq.l (blk_kept (Sq.W BK278.out) hkp (fun hs_ => (fun e_ => (Kd.R_ne HO0_9.out BK278.out (by decide)) e_) hs_)); have n6_ := Sq.l (Kept.then_ (S := (fun k_ => P0_1_ k_ ∨ P0_3_ k_ ∨ P0_4_ k_ ∨ P0_9_ k_ ∨ P0_10_ k_)) (by repeat (first | (with_reducible first | exact HK.out | apply Kept.alloc | apply Kept.drewN | apply Kept.drew | refine Kept.setCell ?_ (.inr GW278.out) _) | exact HK.out)) hkp (fun k_ hs_ => (fun e_ => (HO0_9.out.1 k_ e_.symm).1) hs_)); have n7_ := Sq.l (hb); clear HO0_1 HO0_3 HO0_4 HO0_9 HO0_10 BK278 HK HB; have HO0_1 := n0_; have HO0_3 := n1_; have HO0_4 := n2_; have HO0_9 := n3_; have HO0_10 := n4_; have BK278 := n5_; have HK := n6_; have HB := n7_; clear n0_ n1_ n2_ n3_ n4_ n5_ n6_ n7_; (try clear hb); (try clear hkp); (try clear hy0); obtain ⟨hcz22_0, hcz22_1, hcz22_2, hcz22_3, hcz22_4, hcz22_5, hcz22_6, hcz22_7, hcz22_8, hcz22_9, hcz22_10, hcz22_11⟩ := Sq.C12 BK278.out; obtain ⟨hfz22_0, hfz22_1, hfz22_2, hfz22_3, hfz22_4, hfz22_5, hfz22_6, hfz22_7, hfz22_8, hfz22_9, hfz22_10, hfz22_11⟩ := Sq.F12 BK278.out) | ((with_reducible refine gate_callee (f := 89) rfl ?_); refine goesL_ (some 24) rfl rfl Try.func89 (by kernel_rfl) rfl #[.slice Ao12 l0_10.length co12, .int .i64 t285] rfl (by (try simp only [List.map_toArray, List.map_cons, List.map_nil]); first | done | rfl | (simp only [List.length_drop, List.length_take]; rfl)) ?_; (with_reducible refine (laws_markPortValueS.calls k (fun k_ => some k_ = (.slice Ao12 l0_10.length co12 : Value).ownBlock) (.slice Ao12 l0_10.length co12) l0_10 t285 t287 t288 w0 _ ?side1 ?side2 A7.out).mono ?_); (case side1 => repeat (first | (with_reducible first | exact HB.out | apply Sq.i | apply Sq.j | apply Sq.k | refine Sq.h ?_ GE278.out) | exact HB.out)); (case side2 => exact Kd.R_tight rfl HO0_10.out); rintro e w23 ⟨rfl, hy0, hb, hkp⟩; refine ⟨_, rfl, ?_⟩; have n0_ := Sq.l (Sq.a3 (ok' := fun k_ => ((P0_1_ k_ ∨ P0_3_ k_ ∨ P0_4_ k_ ∨ P0_9_ k_ ∨ P0_10_ k_) ∨ w.heap.size ≤ k_) ∧ some k_ ≠ (.slice Ao9 l0_3.length co9 : Value).ownBlock ∧ some k_ ≠ (.slice Ao10 l0_4.length co10 : Value).ownBlock) (Kd.R_keptB ((Sq.b6 HO0_1.out (Sq.c3 HO0_10.out) (by decide))) hkp (fun k_ hk_ hs_ => (hk_.2) hs_)) (fun k_ hk_ => ⟨hk_.1.1.1, hk_.1.1.2.1, hk_.1.1.2.2⟩)); have n1_ := Sq.l (Sq.a3 (ok' := fun k_ => ((P0_1_ k_ ∨ P0_3_ k_ ∨ P0_4_ k_ ∨ P0_9_ k_ ∨ P0_10_ k_) ∨ w.heap.size ≤ k_) ∧ some k_ ≠ (.slice Ao8 l0_1.length co8 : Value).ownBlock ∧ some k_ ≠ (.slice Ao10 l0_4.length co10 : Value).ownBlock) (Kd.R_keptB ((Sq.b6 HO0_3.out (Sq.c3 HO0_10.out) (by decide))) hkp (fun k_ hk_ hs_ => (hk_.2) hs_)) (fun k_ hk_ => ⟨hk_.1.1.1, hk_.1.1.2.1, hk_.1.1.2.2⟩)); have n2_ := Sq.l (Sq.a3 (ok' := fun k_ => ((P0_1_ k_ ∨ P0_3_ k_ ∨ P0_4_ k_ ∨ P0_9_ k_ ∨ P0_10_ k_) ∨ w.heap.size ≤ k_) ∧ some k_ ≠ (.slice Ao8 l0_1.length co8 : Value).ownBlock ∧ some k_ ≠ (.slice Ao9 l0_3.length co9 : Value).ownBlock) (Kd.R_keptB ((Sq.b6 HO0_4.out (Sq.c3 HO0_10.out) (by decide))) hkp (fun k_ hk_ hs_ => (hk_.2) hs_)) (fun k_ hk_ => ⟨hk_.1.1.1, hk_.1.1.2.1, hk_.1.1.2.2⟩)); have n3_ := Sq.l (Sq.a3 (ok' := fun k_ => ((P0_1_ k_ ∨ P0_3_ k_ ∨ P0_4_ k_ ∨ P0_9_ k_ ∨ P0_10_ k_) ∨ w.heap.size ≤ k_) ∧ some k_ ≠ (.slice Ao12 l0_10.length co12 : Value).ownBlock) (Kd.R_keptB (HO0_9.out) hkp (fun k_ hk_ hs_ => (hk_.2) hs_)) (fun k_ hk_ => ⟨hk_.1.1, hk_.1.2⟩)); have n4_ := Sq.l (Kd.R_reok rfl hy0 (fun k_ e_ => HO0_10.out.1 k_ e_)); have n5_ := Sq.l (blk_kept (Sq.W BK278.out) hkp (fun hs_ => (fun e_ => (Kd.R_ne HO0_10.out BK278.out (by decide)) e_) hs_)); have n6_ := Sq.l (Kept.then_ (S := (fun k_ => P0_1_ k_ ∨ P0_3_ k_ ∨ P0_4_ k_ ∨ P0_9_ k_ ∨ P0_10_ k_)) (by repeat (first | (with_reducible first | exact HK.out | apply Kept.alloc | apply Kept.drewN | apply Kept.drew | refine Kept.setCell ?_ (.inr GW278.out) _) | exact HK.out)) hkp (fun k_ hs_ => (fun e_ => (HO0_10.out.1 k_ e_.symm).1) hs_)); have n7_ := Sq.l (hb); clear HO0_1 HO0_3 HO0_4 HO0_9 HO0_10 BK278 HK HB; have HO0_1 := n0_; have HO0_3 := n1_; have HO0_4 := n2_; have HO0_9 := n3_; have HO0_10 := n4_; have BK278 := n5_; have HK := n6_; have HB := n7_; clear n0_ n1_ n2_ n3_ n4_ n5_ n6_ n7_; (try clear hb); (try clear hkp); (try clear hy0)))
 go_ret
 exact ⟨by first | rfl | (simp [errW_none, errW_some] <;> rfl) | (simp [*, errW_none, errW_some] <;> rfl), by (with_reducible repeat (first | apply Sq.a | apply Sq.b | apply Sq.c)); exact Sq.a3 HO0_1.out (fun _ hk => hk.1), by (with_reducible repeat (first | apply Sq.a | apply Sq.b | apply Sq.c)); exact Sq.a3 HO0_3.out (fun _ hk => hk.1), by (with_reducible repeat (first | apply Sq.a | apply Sq.b | apply Sq.c)); exact Sq.a3 HO0_4.out (fun _ hk => hk.1), by (with_reducible repeat (first | apply Sq.a | apply Sq.b | apply Sq.c)); exact Sq.a3 HO0_9.out (fun _ hk => hk.1), by (with_reducible repeat (first | apply Sq.a | apply Sq.b | apply Sq.c)); exact Sq.a3 HO0_10.out (fun _ hk => hk.1), by repeat (first | (with_reducible first | exact HB.out | apply Sq.i | apply Sq.j | apply Sq.k | refine Sq.h ?_ GE278.out) | exact HB.out), by repeat (first | (with_reducible first | exact HK.out | apply Kept.alloc | apply Kept.drewN | apply Kept.drew | refine Kept.setCell ?_ (.inr GW278.out) _) | exact HK.out)⟩

/-! ### laws_heldInt64S: function 80 -/
def laws_heldInt64S.l0 : Nat → List Int → Int → Int → Option (Int)
  | 0, _, _, _ => none
  | k + 1, x0, x1, x5 => if x5 < (x0.length : Int) then (if 0 ≤ x5 then (if (rd x0 x5) = x1 then (laws_heldInt64S.l0 k x0 (wrap64 (x1 + 1)) (wrap64 (x5 + 1))) else (some (-1))) else (none)) else (some x1)
def laws_heldInt64S.f (k : Nat) (l0 : List Int) (a1 : Int) : Option (Int) := laws_heldInt64S.l0 k l0 a1 0
theorem laws_heldInt64S.mono_l : ∀ k, (∀ y0 y1 y2, LeO (laws_heldInt64S.l0 k y0 y1 y2) (laws_heldInt64S.l0 (k + 1) y0 y1 y2))
  | 0 => fun _ _ _ r h => by simp [laws_heldInt64S.l0] at h
  | k + 1 => by
    have ih0 := laws_heldInt64S.mono_l k
    · intro y0 y1 y2
      unfold laws_heldInt64S.l0
      repeat' first
      | (with_reducible exact ih0 _ _ _)
      | (with_reducible exact LeO.refl _)
      | (with_reducible exact LeO.none _)
      | (with_reducible refine LeO.ite ?_ ?_)
      | (with_reducible refine LeO.bind ?_ (fun _ => ?_))
      | exact ih0 _ _ _
      | exact LeO.none _
      | refine LeO.ite ?_ ?_
      | refine LeO.bind ?_ (fun _ => ?_)
theorem laws_heldInt64S.mono : ∀ a0 a1 k, LeO (laws_heldInt64S.f k a0 a1) (laws_heldInt64S.f (k + 1) a0 a1) := by
  intro a0 a1 k
  have ih0 := laws_heldInt64S.mono_l k
  unfold laws_heldInt64S.f
  repeat' first
      | (with_reducible exact ih0 _ _ _)
      | (with_reducible exact LeO.refl _)
      | (with_reducible exact LeO.none _)
      | (with_reducible refine LeO.ite ?_ ?_)
      | (with_reducible refine LeO.bind ?_ (fun _ => ?_))
      | exact ih0 _ _ _
      | exact LeO.none _
      | refine LeO.ite ?_ ?_
      | refine LeO.bind ?_ (fun _ => ?_)
set_option maxHeartbeats 8000000 in
set_option maxRecDepth 100000 in
theorem laws_heldInt64S.calls (k : Nat) (A0 : Option Addr) (c0 : Nat) (l0 : List Int) (a1 : Int) (r : Int) (w : World) (hr0 : Kd.C (Kd.int .i64) w A0 l0.length l0) (hc0 : l0.length ≤ c0) (h : laws_heldInt64S.f k l0 a1 = some r) :
    Calls Try.prog 80 #[.slice A0 l0.length c0, .int .i64 a1] w fun e w' => e = .returned (.int .i64 r) ∧ Drawn0 w w' := by
  have HR0 := Aside0.mk hr0
  have HC0 := Aside0.mk hc0
  clear hr0 hc0
  have H : (laws_heldInt64S.l0 k l0 a1 0) = some r := h
  clear h
  have H' := Aside0.mk H
  clear H
  go_enter Try.func80, Try.ntmps80
  go_wp2
  go_loopg [1, 5] k (fun kq v1 v5 w' => ∃ (x1_1 : Int) (x5_1 : Int), v1 = .int .i64 x1_1 ∧ v5 = .int .i64 x5_1 ∧ Aside0 (laws_heldInt64S.l0 kq l0 x1_1 x5_1 = some r) ∧ Aside0 (kq ≤ k) ∧ Drawn0 w w')
  case atStart => exact ⟨(a1), (0), (by first | rfl | (simp; done) | (simp [*]; done)), (by first | rfl | (simp; done) | (simp [*]; done)), H', ⟨Nat.le_refl _⟩, by repeat (first | exact Drawn0.refl _ | apply Drawn0.step)⟩
  case round =>
    clear H'
    try clear p2
    obtain ⟨x1_1, x5_1, rfl, rfl, HA, HK1, ⟨m1, rfl⟩⟩ := hrel
    cases gk with
    | zero => exact absurd HA.out (by simp [laws_heldInt64S.l0])
    | succ k1 =>
      have H := HA.out
      clear HA
      simp only [laws_heldInt64S.l0] at H
      by_cases c3 : x5_1 < (l0.length : Int)
      · rw [if_pos c3] at H
        have c3b0 : decide (x5_1 < (l0.length : Int)) = true := decide_eq_true c3
        clear c3
        by_cases c4 : 0 ≤ x5_1
        · rw [if_pos c4] at H
          have c4b0 : decide (0 ≤ x5_1) = true := decide_eq_true c4
          clear c4
          by_cases c5 : (rd l0 x5_1) = x1_1
          · rw [if_pos c5] at H
            have c5b0 : ((rd l0 x5_1) == x1_1) = true := beq_iff_eq.mpr c5
            have c5b1 : ((rd l0 x5_1) != x1_1) = false := bne_eq_false_iff_eq.mpr c5
            clear c5
            have H' := Aside0.mk H
            clear H
            have p289 : 0 ≤ (x5_1 : Int) := of_decide_eq_true (by first | (with_reducible assumption) | assumption)
            have q289 : x5_1 < (l0.length : Int) := of_decide_eq_true (by first | (with_reducible assumption) | assumption)
            obtain ⟨ad289, e289, hx289_0⟩ := Kd.at_int HR0.out x5_1 p289 q289
            cases e289
            replace p289 := eq_true p289
            replace q289 := eq_true q289
            go_wp2
            go_roundg k1
            case measure => have := HK1.out; omega
            case rel => exact ⟨(wrap64 (x1_1 + 1)), (wrap64 (x5_1 + 1)), (by first | rfl | (simp; done) | (simp [*]; done)), (by first | rfl | (simp; done) | (simp [*]; done)), H', ⟨by have := HK1.out; omega⟩, by repeat (first | exact Drawn0.refl _ | apply Drawn0.step)⟩
          · rw [if_neg c5] at H
            have c5b0 : ((rd l0 x5_1) == x1_1) = false := beq_eq_false_iff_ne.mpr c5
            have c5b1 : ((rd l0 x5_1) != x1_1) = true := bne_iff_ne.mpr c5
            obtain rfl := Option.some.inj H
            have p289 : 0 ≤ (x5_1 : Int) := of_decide_eq_true (by first | (with_reducible assumption) | assumption)
            have q289 : x5_1 < (l0.length : Int) := of_decide_eq_true (by first | (with_reducible assumption) | assumption)
            obtain ⟨ad289, e289, hx289_0⟩ := Kd.at_int HR0.out x5_1 p289 q289
            cases e289
            replace p289 := eq_true p289
            replace q289 := eq_true q289
            go_wp2
            go_ret
            exact ⟨by first | rfl | (simp; done) | (simp [*]; done), by repeat (first | exact Drawn0.refl _ | apply Drawn0.step)⟩
        · rw [if_neg c4] at H
          exact absurd H (by simp)
      · rw [if_neg c3] at H
        have c3b0 : decide (x5_1 < (l0.length : Int)) = false := decide_eq_false c3
        clear c3
        obtain rfl := Option.some.inj H
        go_wp2
        go_ret
        exact ⟨by first | rfl | (simp; done) | (simp [*]; done), by repeat (first | exact Drawn0.refl _ | apply Drawn0.step)⟩

/-! ### laws_heldPortValueS: function 90 -/
def laws_heldPortValueS.l0 : Nat → List (S185) → Int → Int → Option (Int)
  | 0, _, _, _ => none
  | k + 1, x0, x1, x5 => if x5 < (x0.length : Int) then (if 0 ≤ x5 then (if ((rd_T185 x0 x5).f0) = x1 then (if ((rd_T185 x0 x5).f1) = (wrap64 (x1 + 1)) then (laws_heldPortValueS.l0 k x0 (wrap64 ((wrap64 (x1 + 1)) + 1)) (wrap64 (x5 + 1))) else (some (-1))) else (some (-1))) else (none)) else (some x1)
def laws_heldPortValueS.f (k : Nat) (l0 : List (S185)) (a1 : Int) : Option (Int) := laws_heldPortValueS.l0 k l0 a1 0
theorem laws_heldPortValueS.mono_l : ∀ k, (∀ y0 y1 y2, LeO (laws_heldPortValueS.l0 k y0 y1 y2) (laws_heldPortValueS.l0 (k + 1) y0 y1 y2))
  | 0 => fun _ _ _ r h => by simp [laws_heldPortValueS.l0] at h
  | k + 1 => by
    have ih0 := laws_heldPortValueS.mono_l k
    · intro y0 y1 y2
      unfold laws_heldPortValueS.l0
      repeat' first
      | (with_reducible exact ih0 _ _ _)
      | (with_reducible exact LeO.refl _)
      | (with_reducible exact LeO.none _)
      | (with_reducible refine LeO.ite ?_ ?_)
      | (with_reducible refine LeO.bind ?_ (fun _ => ?_))
      | exact ih0 _ _ _
      | exact LeO.none _
      | refine LeO.ite ?_ ?_
      | refine LeO.bind ?_ (fun _ => ?_)
theorem laws_heldPortValueS.mono : ∀ a0 a1 k, LeO (laws_heldPortValueS.f k a0 a1) (laws_heldPortValueS.f (k + 1) a0 a1) := by
  intro a0 a1 k
  have ih0 := laws_heldPortValueS.mono_l k
  unfold laws_heldPortValueS.f
  repeat' first
      | (with_reducible exact ih0 _ _ _)
      | (with_reducible exact LeO.refl _)
      | (with_reducible exact LeO.none _)
      | (with_reducible refine LeO.ite ?_ ?_)
      | (with_reducible refine LeO.bind ?_ (fun _ => ?_))
      | exact ih0 _ _ _
      | exact LeO.none _
      | refine LeO.ite ?_ ?_
      | refine LeO.bind ?_ (fun _ => ?_)
set_option maxHeartbeats 8000000 in
set_option maxRecDepth 100000 in
theorem laws_heldPortValueS.calls (k : Nat) (A0 : Option Addr) (c0 : Nat) (l0 : List (S185)) (a1 : Int) (r : Int) (w : World) (hr0 : Kd.C k185 w A0 l0.length l0) (hc0 : l0.length ≤ c0) (h : laws_heldPortValueS.f k l0 a1 = some r) :
    Calls Try.prog 90 #[.slice A0 l0.length c0, .int .i64 a1] w fun e w' => e = .returned (.int .i64 r) ∧ Drawn0 w w' := by
  have HR0 := Aside0.mk hr0
  have HC0 := Aside0.mk hc0
  clear hr0 hc0
  have H : (laws_heldPortValueS.l0 k l0 a1 0) = some r := h
  clear h
  have H' := Aside0.mk H
  clear H
  go_enter Try.func90, Try.ntmps90
  go_wp2
  go_loopg [1, 5] k (fun kq v1 v5 w' => ∃ (x1_1 : Int) (x5_1 : Int), v1 = .int .i64 x1_1 ∧ v5 = .int .i64 x5_1 ∧ Aside0 (laws_heldPortValueS.l0 kq l0 x1_1 x5_1 = some r) ∧ Aside0 (kq ≤ k) ∧ Drawn0 w w')
  case atStart => exact ⟨(a1), (0), (by first | rfl | (simp; done) | (simp [*]; done)), (by first | rfl | (simp; done) | (simp [*]; done)), H', ⟨Nat.le_refl _⟩, by repeat (first | exact Drawn0.refl _ | apply Drawn0.step)⟩
  case round =>
    clear H'
    try clear p2
    obtain ⟨x1_1, x5_1, rfl, rfl, HA, HK1, ⟨m1, rfl⟩⟩ := hrel
    cases gk with
    | zero => exact absurd HA.out (by simp [laws_heldPortValueS.l0])
    | succ k1 =>
      have H := HA.out
      clear HA
      simp only [laws_heldPortValueS.l0] at H
      by_cases c3 : x5_1 < (l0.length : Int)
      · rw [if_pos c3] at H
        have c3b0 : decide (x5_1 < (l0.length : Int)) = true := decide_eq_true c3
        clear c3
        by_cases c4 : 0 ≤ x5_1
        · rw [if_pos c4] at H
          have c4b0 : decide (0 ≤ x5_1) = true := decide_eq_true c4
          clear c4
          by_cases c5 : ((rd_T185 l0 x5_1).f0) = x1_1
          · rw [if_pos c5] at H
            have c5b0 : (((rd_T185 l0 x5_1).f0) == x1_1) = true := beq_iff_eq.mpr c5
            have c5b1 : (((rd_T185 l0 x5_1).f0) != x1_1) = false := bne_eq_false_iff_eq.mpr c5
            clear c5
            by_cases c6 : ((rd_T185 l0 x5_1).f1) = (wrap64 (x1_1 + 1))
            · rw [if_pos c6] at H
              have c6b0 : (((rd_T185 l0 x5_1).f1) == (wrap64 (x1_1 + 1))) = true := beq_iff_eq.mpr c6
              have c6b1 : (((rd_T185 l0 x5_1).f1) != (wrap64 (x1_1 + 1))) = false := bne_eq_false_iff_eq.mpr c6
              clear c6
              have H' := Aside0.mk H
              clear H
              have p290 : 0 ≤ (x5_1 : Int) := of_decide_eq_true (by first | (with_reducible assumption) | assumption)
              have q290 : x5_1 < (l0.length : Int) := of_decide_eq_true (by first | (with_reducible assumption) | assumption)
              obtain ⟨ad290, e290, hx290_0, hx290_1⟩ := at_T185 HR0.out x5_1 p290 q290
              cases e290
              replace p290 := eq_true p290
              replace q290 := eq_true q290
              have p291 : 0 ≤ (x5_1 : Int) := of_decide_eq_true (by first | (with_reducible assumption) | assumption)
              have q291 : x5_1 < (l0.length : Int) := of_decide_eq_true (by first | (with_reducible assumption) | assumption)
              obtain ⟨ad291, e291, hx291_0, hx291_1⟩ := at_T185 HR0.out x5_1 p291 q291
              obtain rfl : ad290 = ad291 := (by injection e291)
              replace p291 := eq_true p291
              replace q291 := eq_true q291
              go_wp2
              go_roundg k1
              case measure => have := HK1.out; omega
              case rel => exact ⟨(wrap64 ((wrap64 (x1_1 + 1)) + 1)), (wrap64 (x5_1 + 1)), (by first | rfl | (simp; done) | (simp [*]; done)), (by first | rfl | (simp; done) | (simp [*]; done)), H', ⟨by have := HK1.out; omega⟩, by repeat (first | exact Drawn0.refl _ | apply Drawn0.step)⟩
            · rw [if_neg c6] at H
              have c6b0 : (((rd_T185 l0 x5_1).f1) == (wrap64 (x1_1 + 1))) = false := beq_eq_false_iff_ne.mpr c6
              have c6b1 : (((rd_T185 l0 x5_1).f1) != (wrap64 (x1_1 + 1))) = true := bne_iff_ne.mpr c6
              obtain rfl := Option.some.inj H
              have p290 : 0 ≤ (x5_1 : Int) := of_decide_eq_true (by first | (with_reducible assumption) | assumption)
              have q290 : x5_1 < (l0.length : Int) := of_decide_eq_true (by first | (with_reducible assumption) | assumption)
              obtain ⟨ad290, e290, hx290_0, hx290_1⟩ := at_T185 HR0.out x5_1 p290 q290
              cases e290
              replace p290 := eq_true p290
              replace q290 := eq_true q290
              have p291 : 0 ≤ (x5_1 : Int) := of_decide_eq_true (by first | (with_reducible assumption) | assumption)
              have q291 : x5_1 < (l0.length : Int) := of_decide_eq_true (by first | (with_reducible assumption) | assumption)
              obtain ⟨ad291, e291, hx291_0, hx291_1⟩ := at_T185 HR0.out x5_1 p291 q291
              obtain rfl : ad290 = ad291 := (by injection e291)
              replace p291 := eq_true p291
              replace q291 := eq_true q291
              go_wp2
              go_ret
              exact ⟨by first | rfl | (simp; done) | (simp [*]; done), by repeat (first | exact Drawn0.refl _ | apply Drawn0.step)⟩
          · rw [if_neg c5] at H
            have c5b0 : (((rd_T185 l0 x5_1).f0) == x1_1) = false := beq_eq_false_iff_ne.mpr c5
            have c5b1 : (((rd_T185 l0 x5_1).f0) != x1_1) = true := bne_iff_ne.mpr c5
            obtain rfl := Option.some.inj H
            have p290 : 0 ≤ (x5_1 : Int) := of_decide_eq_true (by first | (with_reducible assumption) | assumption)
            have q290 : x5_1 < (l0.length : Int) := of_decide_eq_true (by first | (with_reducible assumption) | assumption)
            obtain ⟨ad290, e290, hx290_0, hx290_1⟩ := at_T185 HR0.out x5_1 p290 q290
            cases e290
            replace p290 := eq_true p290
            replace q290 := eq_true q290
            go_wp2
            go_ret
            exact ⟨by first | rfl | (simp; done) | (simp [*]; done), by repeat (first | exact Drawn0.refl _ | apply Drawn0.step)⟩
        · rw [if_neg c4] at H
          exact absurd H (by simp)
      · rw [if_neg c3] at H
        have c3b0 : decide (x5_1 < (l0.length : Int)) = false := decide_eq_false c3
        clear c3
        obtain rfl := Option.some.inj H
        go_wp2
        go_ret
        exact ⟨by first | rfl | (simp; done) | (simp [*]; done), by repeat (first | exact Drawn0.refl _ | apply Drawn0.step)⟩

/-! ### laws_heldMachine: function 36 -/
def laws_heldMachine.f (k : Nat) (a0_0 : Int) (l0_1 : List Int) (a0_2 : Int) (l0_3 : List Int) (l0_4 : List Int) (a0_5 : ByteArray) (a0_6 : Int) (a0_7 : Int) (a0_8 : Int) (l0_9 : List (S185)) (l0_10 : List (S185)) (a0_11 : Int) (a1 : Int) : Option (Int) := (laws_heldInt64S.f k l0_1 a1).bind fun t293 => (if t293 < 0 then (some (-1)) else ((laws_heldInt64S.f k l0_3 t293).bind fun t294 => (if t294 < 0 then (some (-1)) else ((laws_heldInt64S.f k l0_4 t294).bind fun t295 => (if t295 < 0 then (some (-1)) else ((laws_heldPortValueS.f k l0_9 t295).bind fun t296 => (if t296 < 0 then (some (-1)) else ((laws_heldPortValueS.f k l0_10 t296).bind fun t297 => (if t297 < 0 then (some (-1)) else (some t297))))))))))
theorem laws_heldMachine.mono : ∀ a0 a1 a2 a3 a4 a5 a6 a7 a8 a9 a10 a11 a12 k, LeO (laws_heldMachine.f k a0 a1 a2 a3 a4 a5 a6 a7 a8 a9 a10 a11 a12) (laws_heldMachine.f (k + 1) a0 a1 a2 a3 a4 a5 a6 a7 a8 a9 a10 a11 a12) := by
 intro a0 a1 a2 a3 a4 a5 a6 a7 a8 a9 a10 a11 a12 k
 unfold laws_heldMachine.f
 repeat' first
   | (with_reducible exact laws_heldInt64S.mono _ _ _)
   | (with_reducible exact laws_heldPortValueS.mono _ _ _)
   | (with_reducible exact LeO.refl _)
   | (with_reducible exact LeO.none _)
   | (with_reducible refine LeO.ite ?_ ?_)
   | (with_reducible refine LeO.bind ?_ (fun _ => ?_))
   | exact laws_heldInt64S.mono _ _ _
   | exact laws_heldPortValueS.mono _ _ _
   | exact LeO.none _
   | refine LeO.ite ?_ ?_
   | refine LeO.bind ?_ (fun _ => ?_)
set_option maxHeartbeats 8000000 in
set_option maxRecDepth 100000 in
theorem laws_heldMachine.calls (k : Nat) (a0_0 : Int) (A0_1 : Option Addr) (c0_1 : Nat) (l0_1 : List Int) (a0_2 : Int) (A0_3 : Option Addr) (c0_3 : Nat) (l0_3 : List Int) (A0_4 : Option Addr) (c0_4 : Nat) (l0_4 : List Int) (a0_5 : ByteArray) (a0_6 : Int) (a0_7 : Int) (a0_8 : Int) (A0_9 : Option Addr) (c0_9 : Nat) (l0_9 : List (S185)) (A0_10 : Option Addr) (c0_10 : Nat) (l0_10 : List (S185)) (a0_11 : Int) (a1 : Int) (r : Int) (w : World) (hr0_1 : Kd.C (Kd.int .i64) w A0_1 l0_1.length l0_1) (hc0_1 : l0_1.length ≤ c0_1) (hr0_3 : Kd.C (Kd.int .i64) w A0_3 l0_3.length l0_3) (hc0_3 : l0_3.length ≤ c0_3) (hr0_4 : Kd.C (Kd.int .i64) w A0_4 l0_4.length l0_4) (hc0_4 : l0_4.length ≤ c0_4) (hr0_9 : Kd.C k185 w A0_9 l0_9.length l0_9) (hc0_9 : l0_9.length ≤ c0_9) (hr0_10 : Kd.C k185 w A0_10 l0_10.length l0_10) (hc0_10 : l0_10.length ≤ c0_10) (h : laws_heldMachine.f k a0_0 l0_1 a0_2 l0_3 l0_4 a0_5 a0_6 a0_7 a0_8 l0_9 l0_10 a0_11 a1 = some r) :
  Calls Try.prog 36 #[.agg #[.int .i64 a0_0, .slice A0_1 l0_1.length c0_1, .int .i64 a0_2, .slice A0_3 l0_3.length c0_3, .slice A0_4 l0_4.length c0_4, .string a0_5, .int .i64 a0_6, .int .i64 a0_7, .int .i64 a0_8, .slice A0_9 l0_9.length c0_9, .slice A0_10 l0_10.length c0_10, .int .i64 a0_11], .int .i64 a1] w fun e w' => e = .returned (.int .i64 r) ∧ Below w.heap.size w w' := by
 have hu71 := Try.underlying71
 have HR0_1 := Sq.l hr0_1
 have HC0_1 := Sq.l hc0_1
 clear hr0_1 hc0_1
 have HR0_3 := Sq.l hr0_3
 have HC0_3 := Sq.l hc0_3
 clear hr0_3 hc0_3
 have HR0_4 := Sq.l hr0_4
 have HC0_4 := Sq.l hc0_4
 clear hr0_4 hc0_4
 have HR0_9 := Sq.l hr0_9
 have HC0_9 := Sq.l hc0_9
 clear hr0_9 hc0_9
 have HR0_10 := Sq.l hr0_10
 have HC0_10 := Sq.l hc0_10
 clear hr0_10 hc0_10
 have HB := Sq.l (Below.refl w.heap.size w)
 have H : ((laws_heldInt64S.f k l0_1 a1).bind fun t293 => (if t293 < 0 then (some (-1)) else ((laws_heldInt64S.f k l0_3 t293).bind fun t294 => (if t294 < 0 then (some (-1)) else ((laws_heldInt64S.f k l0_4 t294).bind fun t295 => (if t295 < 0 then (some (-1)) else ((laws_heldPortValueS.f k l0_9 t295).bind fun t296 => (if t296 < 0 then (some (-1)) else ((laws_heldPortValueS.f k l0_10 t296).bind fun t297 => (if t297 < 0 then (some (-1)) else (some t297))))))))))) = some r := h
 clear h
 replace H := Option.bind_eq_some_iff.mp H
 obtain ⟨t293, A30, H⟩ := H
 (try dsimp only at H)
 have A3 := Sq.l A30
 clear A30
 by_cases c4 : t293 < 0
 ·rw [if_pos c4] at H
  have c4b0 : decide (t293 < 0) = true := decide_eq_true c4
  clear c4
  obtain rfl := Option.some.inj H
  go_enter Try.func36, Try.ntmps36
  go_wp2_with (first | ((with_reducible refine gate_dst (N := 2) rfl ?_); refine box_event ?hg (N := 2) ?hd (cs := #[.int .i64 a0_0, .slice A0_1 l0_1.length c0_1, .int .i64 a0_2, .slice A0_3 l0_3.length c0_3, .slice A0_4 l0_4.length c0_4, .string a0_5, .int .i64 a0_6, .int .i64 a0_7, .int .i64 a0_8, .slice A0_9 l0_9.length c0_9, .slice A0_10 l0_10.length c0_10, .int .i64 a0_11]) (t := 71) ?hr ?_; (case hd => rfl); (case hg => rfl); (case hr => first | (go_simp; done) | (go_simp; rfl)); intro gb292 hg w5 hbox hb; have n0_ := Sq.l (Sq.a4 (by repeat (first | (with_reducible first | exact HB.out | apply Sq.i | apply Sq.j | apply Sq.k) | exact HB.out)) hb); have n1_ := Sq.l (hbox); have n2_ := Sq.l ((by rw [hg]; exact (Sq.a5 (by repeat (first | (with_reducible first | exact HB.out | apply Sq.i | apply Sq.j | apply Sq.k) | exact HB.out))) : w.heap.size ≤ gb292)); have n3_ := Sq.l ((by rw [hg]; exact (Sq.a5 (by repeat (first | (with_reducible first | exact HB.out | apply Sq.i | apply Sq.j | apply Sq.k) | exact HB.out))) : w.heap.size ≤ gb292)); clear HB; have HB := n0_; have BK292 := n1_; have GW292 := n2_; have GE292 := n3_; clear n0_ n1_ n2_ n3_; clear hb hbox hg; obtain ⟨hcz6_0, hcz6_1, hcz6_2, hcz6_3, hcz6_4, hcz6_5, hcz6_6, hcz6_7, hcz6_8, hcz6_9, hcz6_10, hcz6_11⟩ := Sq.C12 BK292.out; obtain ⟨hfz6_0, hfz6_1, hfz6_2, hfz6_3, hfz6_4, hfz6_5, hfz6_6, hfz6_7, hfz6_8, hfz6_9, hfz6_10, hfz6_11⟩ := Sq.F12 BK292.out) | ((with_reducible refine gate_callee (f := 80) rfl ?_); refine goesL_ (some 8) rfl rfl Try.func80 (by kernel_rfl) rfl #[.slice A0_1 l0_1.length c0_1, .int .i64 a1] rfl (by (try simp only [List.map_toArray, List.map_cons, List.map_nil]); first | done | rfl | (simp only [List.length_drop, List.length_take]; rfl)) ?_; (with_reducible refine (laws_heldInt64S.calls k _ _ l0_1 a1 t293 _ ?side1 ?side2 A3.out).mono ?_); (case side1 => repeat (first | exact (Sq.a1 HR0_1.out HB.out) | (with_reducible refine Sq.s ?_ _) | (with_reducible refine Sq.t ?_ _) | (with_reducible refine Sq.u ?_))); (case side2 => exact HC0_1.out); rintro e w' ⟨rfl, ⟨nd, rfl⟩⟩; refine ⟨_, rfl, ?_⟩))
  go_ret
  exact ⟨by first | rfl | (simp [errW_none, errW_some] <;> rfl) | (simp [*, errW_none, errW_some] <;> rfl), by repeat (first | (with_reducible first | exact HB.out | apply Sq.i | apply Sq.j | apply Sq.k | refine Sq.h ?_ GE292.out) | exact HB.out)⟩
 ·rw [if_neg c4] at H
  have c4b0 : decide (t293 < 0) = false := decide_eq_false c4
  clear c4
  replace H := Option.bind_eq_some_iff.mp H
  obtain ⟨t294, A70, H⟩ := H
  (try dsimp only at H)
  have A7 := Sq.l A70
  clear A70
  by_cases c8 : t294 < 0
  ·rw [if_pos c8] at H
   have c8b0 : decide (t294 < 0) = true := decide_eq_true c8
   clear c8
   obtain rfl := Option.some.inj H
   go_enter Try.func36, Try.ntmps36
   go_wp2_with (first | ((with_reducible refine gate_dst (N := 2) rfl ?_); refine box_event ?hg (N := 2) ?hd (cs := #[.int .i64 a0_0, .slice A0_1 l0_1.length c0_1, .int .i64 a0_2, .slice A0_3 l0_3.length c0_3, .slice A0_4 l0_4.length c0_4, .string a0_5, .int .i64 a0_6, .int .i64 a0_7, .int .i64 a0_8, .slice A0_9 l0_9.length c0_9, .slice A0_10 l0_10.length c0_10, .int .i64 a0_11]) (t := 71) ?hr ?_; (case hd => rfl); (case hg => rfl); (case hr => first | (go_simp; done) | (go_simp; rfl)); intro gb292 hg w9 hbox hb; have n0_ := Sq.l (Sq.a4 (by repeat (first | (with_reducible first | exact HB.out | apply Sq.i | apply Sq.j | apply Sq.k) | exact HB.out)) hb); have n1_ := Sq.l (hbox); have n2_ := Sq.l ((by rw [hg]; exact (Sq.a5 (by repeat (first | (with_reducible first | exact HB.out | apply Sq.i | apply Sq.j | apply Sq.k) | exact HB.out))) : w.heap.size ≤ gb292)); have n3_ := Sq.l ((by rw [hg]; exact (Sq.a5 (by repeat (first | (with_reducible first | exact HB.out | apply Sq.i | apply Sq.j | apply Sq.k) | exact HB.out))) : w.heap.size ≤ gb292)); clear HB; have HB := n0_; have BK292 := n1_; have GW292 := n2_; have GE292 := n3_; clear n0_ n1_ n2_ n3_; clear hb hbox hg; obtain ⟨hcz10_0, hcz10_1, hcz10_2, hcz10_3, hcz10_4, hcz10_5, hcz10_6, hcz10_7, hcz10_8, hcz10_9, hcz10_10, hcz10_11⟩ := Sq.C12 BK292.out; obtain ⟨hfz10_0, hfz10_1, hfz10_2, hfz10_3, hfz10_4, hfz10_5, hfz10_6, hfz10_7, hfz10_8, hfz10_9, hfz10_10, hfz10_11⟩ := Sq.F12 BK292.out) | ((with_reducible refine gate_callee (f := 80) rfl ?_); refine goesL_ (some 8) rfl rfl Try.func80 (by kernel_rfl) rfl #[.slice A0_1 l0_1.length c0_1, .int .i64 a1] rfl (by (try simp only [List.map_toArray, List.map_cons, List.map_nil]); first | done | rfl | (simp only [List.length_drop, List.length_take]; rfl)) ?_; (with_reducible refine (laws_heldInt64S.calls k _ _ l0_1 a1 t293 _ ?side1 ?side2 A3.out).mono ?_); (case side1 => repeat (first | exact (Sq.a1 HR0_1.out HB.out) | (with_reducible refine Sq.s ?_ _) | (with_reducible refine Sq.t ?_ _) | (with_reducible refine Sq.u ?_))); (case side2 => exact HC0_1.out); rintro e w' ⟨rfl, ⟨nd, rfl⟩⟩; refine ⟨_, rfl, ?_⟩) | ((with_reducible refine gate_callee (f := 80) rfl ?_); refine goesL_ (some 14) rfl rfl Try.func80 (by kernel_rfl) rfl #[.slice A0_3 l0_3.length c0_3, .int .i64 t293] rfl (by (try simp only [List.map_toArray, List.map_cons, List.map_nil]); first | done | rfl | (simp only [List.length_drop, List.length_take]; rfl)) ?_; (with_reducible refine (laws_heldInt64S.calls k _ _ l0_3 t293 t294 _ ?side1 ?side2 A7.out).mono ?_); (case side1 => repeat (first | exact (Sq.a1 HR0_3.out (by repeat (first | (with_reducible first | exact HB.out | apply Sq.i | apply Sq.j | apply Sq.k | refine Sq.h ?_ GE292.out) | exact HB.out))) | (with_reducible refine Sq.s ?_ _) | (with_reducible refine Sq.t ?_ _) | (with_reducible refine Sq.u ?_))); (case side2 => exact HC0_3.out); rintro e w' ⟨rfl, ⟨nd, rfl⟩⟩; refine ⟨_, rfl, ?_⟩))
   go_ret
   exact ⟨by first | rfl | (simp [errW_none, errW_some] <;> rfl) | (simp [*, errW_none, errW_some] <;> rfl), by repeat (first | (with_reducible first | exact HB.out | apply Sq.i | apply Sq.j | apply Sq.k | refine Sq.h ?_ GE292.out) | exact HB.out)⟩
  ·rw [if_neg c8] at H
   have c8b0 : decide (t294 < 0) = false := decide_eq_false c8
   clear c8
   replace H := Option.bind_eq_some_iff.mp H
   obtain ⟨t295, A110, H⟩ := H
   (try dsimp only at H)
   have A11 := Sq.l A110
   clear A110
   by_cases c12 : t295 < 0
   ·rw [if_pos c12] at H
    have c12b0 : decide (t295 < 0) = true := decide_eq_true c12
    clear c12
    obtain rfl := Option.some.inj H
    go_enter Try.func36, Try.ntmps36
    go_wp2_with (first | ((with_reducible refine gate_dst (N := 2) rfl ?_); refine box_event ?hg (N := 2) ?hd (cs := #[.int .i64 a0_0, .slice A0_1 l0_1.length c0_1, .int .i64 a0_2, .slice A0_3 l0_3.length c0_3, .slice A0_4 l0_4.length c0_4, .string a0_5, .int .i64 a0_6, .int .i64 a0_7, .int .i64 a0_8, .slice A0_9 l0_9.length c0_9, .slice A0_10 l0_10.length c0_10, .int .i64 a0_11]) (t := 71) ?hr ?_; (case hd => rfl); (case hg => rfl); (case hr => first | (go_simp; done) | (go_simp; rfl)); intro gb292 hg w13 hbox hb; have n0_ := Sq.l (Sq.a4 (by repeat (first | (with_reducible first | exact HB.out | apply Sq.i | apply Sq.j | apply Sq.k) | exact HB.out)) hb); have n1_ := Sq.l (hbox); have n2_ := Sq.l ((by rw [hg]; exact (Sq.a5 (by repeat (first | (with_reducible first | exact HB.out | apply Sq.i | apply Sq.j | apply Sq.k) | exact HB.out))) : w.heap.size ≤ gb292)); have n3_ := Sq.l ((by rw [hg]; exact (Sq.a5 (by repeat (first | (with_reducible first | exact HB.out | apply Sq.i | apply Sq.j | apply Sq.k) | exact HB.out))) : w.heap.size ≤ gb292)); clear HB; have HB := n0_; have BK292 := n1_; have GW292 := n2_; have GE292 := n3_; clear n0_ n1_ n2_ n3_; clear hb hbox hg; obtain ⟨hcz14_0, hcz14_1, hcz14_2, hcz14_3, hcz14_4, hcz14_5, hcz14_6, hcz14_7, hcz14_8, hcz14_9, hcz14_10, hcz14_11⟩ := Sq.C12 BK292.out; obtain ⟨hfz14_0, hfz14_1, hfz14_2, hfz14_3, hfz14_4, hfz14_5, hfz14_6, hfz14_7, hfz14_8, hfz14_9, hfz14_10, hfz14_11⟩ := Sq.F12 BK292.out) | ((with_reducible refine gate_callee (f := 80) rfl ?_); refine goesL_ (some 8) rfl rfl Try.func80 (by kernel_rfl) rfl #[.slice A0_1 l0_1.length c0_1, .int .i64 a1] rfl (by (try simp only [List.map_toArray, List.map_cons, List.map_nil]); first | done | rfl | (simp only [List.length_drop, List.length_take]; rfl)) ?_; (with_reducible refine (laws_heldInt64S.calls k _ _ l0_1 a1 t293 _ ?side1 ?side2 A3.out).mono ?_); (case side1 => repeat (first | exact (Sq.a1 HR0_1.out HB.out) | (with_reducible refine Sq.s ?_ _) | (with_reducible refine Sq.t ?_ _) | (with_reducible refine Sq.u ?_))); (case side2 => exact HC0_1.out); rintro e w' ⟨rfl, ⟨nd, rfl⟩⟩; refine ⟨_, rfl, ?_⟩) | ((with_reducible refine gate_callee (f := 80) rfl ?_); refine goesL_ (some 14) rfl rfl Try.func80 (by kernel_rfl) rfl #[.slice A0_3 l0_3.length c0_3, .int .i64 t293] rfl (by (try simp only [List.map_toArray, List.map_cons, List.map_nil]); first | done | rfl | (simp only [List.length_drop, List.length_take]; rfl)) ?_; (with_reducible refine (laws_heldInt64S.calls k _ _ l0_3 t293 t294 _ ?side1 ?side2 A7.out).mono ?_); (case side1 => repeat (first | exact (Sq.a1 HR0_3.out (by repeat (first | (with_reducible first | exact HB.out | apply Sq.i | apply Sq.j | apply Sq.k | refine Sq.h ?_ GE292.out) | exact HB.out))) | (with_reducible refine Sq.s ?_ _) | (with_reducible refine Sq.t ?_ _) | (with_reducible refine Sq.u ?_))); (case side2 => exact HC0_3.out); rintro e w' ⟨rfl, ⟨nd, rfl⟩⟩; refine ⟨_, rfl, ?_⟩) | ((with_reducible refine gate_callee (f := 80) rfl ?_); refine goesL_ (some 20) rfl rfl Try.func80 (by kernel_rfl) rfl #[.slice A0_4 l0_4.length c0_4, .int .i64 t294] rfl (by (try simp only [List.map_toArray, List.map_cons, List.map_nil]); first | done | rfl | (simp only [List.length_drop, List.length_take]; rfl)) ?_; (with_reducible refine (laws_heldInt64S.calls k _ _ l0_4 t294 t295 _ ?side1 ?side2 A11.out).mono ?_); (case side1 => repeat (first | exact (Sq.a1 HR0_4.out (by repeat (first | (with_reducible first | exact HB.out | apply Sq.i | apply Sq.j | apply Sq.k | refine Sq.h ?_ GE292.out) | exact HB.out))) | (with_reducible refine Sq.s ?_ _) | (with_reducible refine Sq.t ?_ _) | (with_reducible refine Sq.u ?_))); (case side2 => exact HC0_4.out); rintro e w' ⟨rfl, ⟨nd, rfl⟩⟩; refine ⟨_, rfl, ?_⟩))
    go_ret
    exact ⟨by first | rfl | (simp [errW_none, errW_some] <;> rfl) | (simp [*, errW_none, errW_some] <;> rfl), by repeat (first | (with_reducible first | exact HB.out | apply Sq.i | apply Sq.j | apply Sq.k | refine Sq.h ?_ GE292.out) | exact HB.out)⟩
   ·rw [if_neg c12] at H
    have c12b0 : decide (t295 < 0) = false := decide_eq_false c12
    clear c12
    replace H := Option.bind_eq_some_iff.mp H
    obtain ⟨t296, A150, H⟩ := H
    (try dsimp only at H)
    have A15 := Sq.l A150
    clear A150
    by_cases c16 : t296 < 0
    ·rw [if_pos c16] at H
     have c16b0 : decide (t296 < 0) = true := decide_eq_true c16
     clear c16
     obtain rfl := Option.some.inj H
     go_enter Try.func36, Try.ntmps36
     go_wp2_with (first | ((with_reducible refine gate_dst (N := 2) rfl ?_); refine box_event ?hg (N := 2) ?hd (cs := #[.int .i64 a0_0, .slice A0_1 l0_1.length c0_1, .int .i64 a0_2, .slice A0_3 l0_3.length c0_3, .slice A0_4 l0_4.length c0_4, .string a0_5, .int .i64 a0_6, .int .i64 a0_7, .int .i64 a0_8, .slice A0_9 l0_9.length c0_9, .slice A0_10 l0_10.length c0_10, .int .i64 a0_11]) (t := 71) ?hr ?_; (case hd => rfl); (case hg => rfl); (case hr => first | (go_simp; done) | (go_simp; rfl)); intro gb292 hg w17 hbox hb; have n0_ := Sq.l (Sq.a4 (by repeat (first | (with_reducible first | exact HB.out | apply Sq.i | apply Sq.j | apply Sq.k) | exact HB.out)) hb); have n1_ := Sq.l (hbox); have n2_ := Sq.l ((by rw [hg]; exact (Sq.a5 (by repeat (first | (with_reducible first | exact HB.out | apply Sq.i | apply Sq.j | apply Sq.k) | exact HB.out))) : w.heap.size ≤ gb292)); have n3_ := Sq.l ((by rw [hg]; exact (Sq.a5 (by repeat (first | (with_reducible first | exact HB.out | apply Sq.i | apply Sq.j | apply Sq.k) | exact HB.out))) : w.heap.size ≤ gb292)); clear HB; have HB := n0_; have BK292 := n1_; have GW292 := n2_; have GE292 := n3_; clear n0_ n1_ n2_ n3_; clear hb hbox hg; obtain ⟨hcz18_0, hcz18_1, hcz18_2, hcz18_3, hcz18_4, hcz18_5, hcz18_6, hcz18_7, hcz18_8, hcz18_9, hcz18_10, hcz18_11⟩ := Sq.C12 BK292.out; obtain ⟨hfz18_0, hfz18_1, hfz18_2, hfz18_3, hfz18_4, hfz18_5, hfz18_6, hfz18_7, hfz18_8, hfz18_9, hfz18_10, hfz18_11⟩ := Sq.F12 BK292.out) | ((with_reducible refine gate_callee (f := 80) rfl ?_); refine goesL_ (some 8) rfl rfl Try.func80 (by kernel_rfl) rfl #[.slice A0_1 l0_1.length c0_1, .int .i64 a1] rfl (by (try simp only [List.map_toArray, List.map_cons, List.map_nil]); first | done | rfl | (simp only [List.length_drop, List.length_take]; rfl)) ?_; (with_reducible refine (laws_heldInt64S.calls k _ _ l0_1 a1 t293 _ ?side1 ?side2 A3.out).mono ?_); (case side1 => repeat (first | exact (Sq.a1 HR0_1.out HB.out) | (with_reducible refine Sq.s ?_ _) | (with_reducible refine Sq.t ?_ _) | (with_reducible refine Sq.u ?_))); (case side2 => exact HC0_1.out); rintro e w' ⟨rfl, ⟨nd, rfl⟩⟩; refine ⟨_, rfl, ?_⟩) | ((with_reducible refine gate_callee (f := 80) rfl ?_); refine goesL_ (some 14) rfl rfl Try.func80 (by kernel_rfl) rfl #[.slice A0_3 l0_3.length c0_3, .int .i64 t293] rfl (by (try simp only [List.map_toArray, List.map_cons, List.map_nil]); first | done | rfl | (simp only [List.length_drop, List.length_take]; rfl)) ?_; (with_reducible refine (laws_heldInt64S.calls k _ _ l0_3 t293 t294 _ ?side1 ?side2 A7.out).mono ?_); (case side1 => repeat (first | exact (Sq.a1 HR0_3.out (by repeat (first | (with_reducible first | exact HB.out | apply Sq.i | apply Sq.j | apply Sq.k | refine Sq.h ?_ GE292.out) | exact HB.out))) | (with_reducible refine Sq.s ?_ _) | (with_reducible refine Sq.t ?_ _) | (with_reducible refine Sq.u ?_))); (case side2 => exact HC0_3.out); rintro e w' ⟨rfl, ⟨nd, rfl⟩⟩; refine ⟨_, rfl, ?_⟩) | ((with_reducible refine gate_callee (f := 80) rfl ?_); refine goesL_ (some 20) rfl rfl Try.func80 (by kernel_rfl) rfl #[.slice A0_4 l0_4.length c0_4, .int .i64 t294] rfl (by (try simp only [List.map_toArray, List.map_cons, List.map_nil]); first | done | rfl | (simp only [List.length_drop, List.length_take]; rfl)) ?_; (with_reducible refine (laws_heldInt64S.calls k _ _ l0_4 t294 t295 _ ?side1 ?side2 A11.out).mono ?_); (case side1 => repeat (first | exact (Sq.a1 HR0_4.out (by repeat (first | (with_reducible first | exact HB.out | apply Sq.i | apply Sq.j | apply Sq.k | refine Sq.h ?_ GE292.out) | exact HB.out))) | (with_reducible refine Sq.s ?_ _) | (with_reducible refine Sq.t ?_ _) | (with_reducible refine Sq.u ?_))); (case side2 => exact HC0_4.out); rintro e w' ⟨rfl, ⟨nd, rfl⟩⟩; refine ⟨_, rfl, ?_⟩) | ((with_reducible refine gate_callee (f := 90) rfl ?_); refine goesL_ (some 26) rfl rfl Try.func90 (by kernel_rfl) rfl #[.slice A0_9 l0_9.length c0_9, .int .i64 t295] rfl (by (try simp only [List.map_toArray, List.map_cons, List.map_nil]); first | done | rfl | (simp only [List.length_drop, List.length_take]; rfl)) ?_; (with_reducible refine (laws_heldPortValueS.calls k _ _ l0_9 t295 t296 _ ?side1 ?side2 A15.out).mono ?_); (case side1 => repeat (first | exact (Sq.a1 HR0_9.out (by repeat (first | (with_reducible first | exact HB.out | apply Sq.i | apply Sq.j | apply Sq.k | refine Sq.h ?_ GE292.out) | exact HB.out))) | (with_reducible refine Sq.s ?_ _) | (with_reducible refine Sq.t ?_ _) | (with_reducible refine Sq.u ?_))); (case side2 => exact HC0_9.out); rintro e w' ⟨rfl, ⟨nd, rfl⟩⟩; refine ⟨_, rfl, ?_⟩))
     go_ret
     exact ⟨by first | rfl | (simp [errW_none, errW_some] <;> rfl) | (simp [*, errW_none, errW_some] <;> rfl), by repeat (first | (with_reducible first | exact HB.out | apply Sq.i | apply Sq.j | apply Sq.k | refine Sq.h ?_ GE292.out) | exact HB.out)⟩
    ·rw [if_neg c16] at H
     have c16b0 : decide (t296 < 0) = false := decide_eq_false c16
     clear c16
     replace H := Option.bind_eq_some_iff.mp H
     obtain ⟨t297, A190, H⟩ := H
     (try dsimp only at H)
     have A19 := Sq.l A190
     clear A190
     by_cases c20 : t297 < 0
     ·rw [if_pos c20] at H
      have c20b0 : decide (t297 < 0) = true := decide_eq_true c20
      clear c20
      obtain rfl := Option.some.inj H
      go_enter Try.func36, Try.ntmps36
      go_wp2_with (first | ((with_reducible refine gate_dst (N := 2) rfl ?_); refine box_event ?hg (N := 2) ?hd (cs := #[.int .i64 a0_0, .slice A0_1 l0_1.length c0_1, .int .i64 a0_2, .slice A0_3 l0_3.length c0_3, .slice A0_4 l0_4.length c0_4, .string a0_5, .int .i64 a0_6, .int .i64 a0_7, .int .i64 a0_8, .slice A0_9 l0_9.length c0_9, .slice A0_10 l0_10.length c0_10, .int .i64 a0_11]) (t := 71) ?hr ?_; (case hd => rfl); (case hg => rfl); (case hr => first | (go_simp; done) | (go_simp; rfl)); intro gb292 hg w21 hbox hb; have n0_ := Sq.l (Sq.a4 (by repeat (first | (with_reducible first | exact HB.out | apply Sq.i | apply Sq.j | apply Sq.k) | exact HB.out)) hb); have n1_ := Sq.l (hbox); have n2_ := Sq.l ((by rw [hg]; exact (Sq.a5 (by repeat (first | (with_reducible first | exact HB.out | apply Sq.i | apply Sq.j | apply Sq.k) | exact HB.out))) : w.heap.size ≤ gb292)); have n3_ := Sq.l ((by rw [hg]; exact (Sq.a5 (by repeat (first | (with_reducible first | exact HB.out | apply Sq.i | apply Sq.j | apply Sq.k) | exact HB.out))) : w.heap.size ≤ gb292)); clear HB; have HB := n0_; have BK292 := n1_; have GW292 := n2_; have GE292 := n3_; clear n0_ n1_ n2_ n3_; clear hb hbox hg; obtain ⟨hcz22_0, hcz22_1, hcz22_2, hcz22_3, hcz22_4, hcz22_5, hcz22_6, hcz22_7, hcz22_8, hcz22_9, hcz22_10, hcz22_11⟩ := Sq.C12 BK292.out; obtain ⟨hfz22_0, hfz22_1, hfz22_2, hfz22_3, hfz22_4, hfz22_5, hfz22_6, hfz22_7, hfz22_8, hfz22_9, hfz22_10, hfz22_11⟩ := Sq.F12 BK292.out) | ((with_reducible refine gate_callee (f := 80) rfl ?_); refine goesL_ (some 8) rfl rfl Try.func80 (by kernel_rfl) rfl #[.slice A0_1 l0_1.length c0_1, .int .i64 a1] rfl (by (try simp only [List.map_toArray, List.map_cons, List.map_nil]); first | done | rfl | (simp only [List.length_drop, List.length_take]; rfl)) ?_; (with_reducible refine (laws_heldInt64S.calls k _ _ l0_1 a1 t293 _ ?side1 ?side2 A3.out).mono ?_); (case side1 => repeat (first | exact (Sq.a1 HR0_1.out HB.out) | (with_reducible refine Sq.s ?_ _) | (with_reducible refine Sq.t ?_ _) | (with_reducible refine Sq.u ?_))); (case side2 => exact HC0_1.out); rintro e w' ⟨rfl, ⟨nd, rfl⟩⟩; refine ⟨_, rfl, ?_⟩) | ((with_reducible refine gate_callee (f := 80) rfl ?_); refine goesL_ (some 14) rfl rfl Try.func80 (by kernel_rfl) rfl #[.slice A0_3 l0_3.length c0_3, .int .i64 t293] rfl (by (try simp only [List.map_toArray, List.map_cons, List.map_nil]); first | done | rfl | (simp only [List.length_drop, List.length_take]; rfl)) ?_; (with_reducible refine (laws_heldInt64S.calls k _ _ l0_3 t293 t294 _ ?side1 ?side2 A7.out).mono ?_); (case side1 => repeat (first | exact (Sq.a1 HR0_3.out (by repeat (first | (with_reducible first | exact HB.out | apply Sq.i | apply Sq.j | apply Sq.k | refine Sq.h ?_ GE292.out) | exact HB.out))) | (with_reducible refine Sq.s ?_ _) | (with_reducible refine Sq.t ?_ _) | (with_reducible refine Sq.u ?_))); (case side2 => exact HC0_3.out); rintro e w' ⟨rfl, ⟨nd, rfl⟩⟩; refine ⟨_, rfl, ?_⟩) | ((with_reducible refine gate_callee (f := 80) rfl ?_); refine goesL_ (some 20) rfl rfl Try.func80 (by kernel_rfl) rfl #[.slice A0_4 l0_4.length c0_4, .int .i64 t294] rfl (by (try simp only [List.map_toArray, List.map_cons, List.map_nil]); first | done | rfl | (simp only [List.length_drop, List.length_take]; rfl)) ?_; (with_reducible refine (laws_heldInt64S.calls k _ _ l0_4 t294 t295 _ ?side1 ?side2 A11.out).mono ?_); (case side1 => repeat (first | exact (Sq.a1 HR0_4.out (by repeat (first | (with_reducible first | exact HB.out | apply Sq.i | apply Sq.j | apply Sq.k | refine Sq.h ?_ GE292.out) | exact HB.out))) | (with_reducible refine Sq.s ?_ _) | (with_reducible refine Sq.t ?_ _) | (with_reducible refine Sq.u ?_))); (case side2 => exact HC0_4.out); rintro e w' ⟨rfl, ⟨nd, rfl⟩⟩; refine ⟨_, rfl, ?_⟩) | ((with_reducible refine gate_callee (f := 90) rfl ?_); refine goesL_ (some 26) rfl rfl Try.func90 (by kernel_rfl) rfl #[.slice A0_9 l0_9.length c0_9, .int .i64 t295] rfl (by (try simp only [List.map_toArray, List.map_cons, List.map_nil]); first | done | rfl | (simp only [List.length_drop, List.length_take]; rfl)) ?_; (with_reducible refine (laws_heldPortValueS.calls k _ _ l0_9 t295 t296 _ ?side1 ?side2 A15.out).mono ?_); (case side1 => repeat (first | exact (Sq.a1 HR0_9.out (by repeat (first | (with_reducible first | exact HB.out | apply Sq.i | apply Sq.j | apply Sq.k | refine Sq.h ?_ GE292.out) | exact HB.out))) | (with_reducible refine Sq.s ?_ _) | (with_reducible refine Sq.t ?_ _) | (with_reducible refine Sq.u ?_))); (case side2 => exact HC0_9.out); rintro e w' ⟨rfl, ⟨nd, rfl⟩⟩; refine ⟨_, rfl, ?_⟩) | ((with_reducible refine gate_callee (f := 90) rfl ?_); refine goesL_ (some 32) rfl rfl Try.func90 (by kernel_rfl) rfl #[.slice A0_10 l0_10.length c0_10, .int .i64 t296] rfl (by (try simp only [List.map_toArray, List.map_cons, List.map_nil]); first | done | rfl | (simp only [List.length_drop, List.length_take]; rfl)) ?_; (with_reducible refine (laws_heldPortValueS.calls k _ _ l0_10 t296 t297 _ ?side1 ?side2 A19.out).mono ?_); (case side1 => repeat (first | exact (Sq.a1 HR0_10.out (by repeat (first | (with_reducible first | exact HB.out | apply Sq.i | apply Sq.j | apply Sq.k | refine Sq.h ?_ GE292.out) | exact HB.out))) | (with_reducible refine Sq.s ?_ _) | (with_reducible refine Sq.t ?_ _) | (with_reducible refine Sq.u ?_))); (case side2 => exact HC0_10.out); rintro e w' ⟨rfl, ⟨nd, rfl⟩⟩; refine ⟨_, rfl, ?_⟩))
      go_ret
      exact ⟨by first | rfl | (simp [errW_none, errW_some] <;> rfl) | (simp [*, errW_none, errW_some] <;> rfl), by repeat (first | (with_reducible first | exact HB.out | apply Sq.i | apply Sq.j | apply Sq.k | refine Sq.h ?_ GE292.out) | exact HB.out)⟩
     ·rw [if_neg c20] at H
      have c20b0 : decide (t297 < 0) = false := decide_eq_false c20
      clear c20
      obtain rfl := Option.some.inj H
      go_enter Try.func36, Try.ntmps36
      go_wp2_with (first | ((with_reducible refine gate_dst (N := 2) rfl ?_); refine box_event ?hg (N := 2) ?hd (cs := #[.int .i64 a0_0, .slice A0_1 l0_1.length c0_1, .int .i64 a0_2, .slice A0_3 l0_3.length c0_3, .slice A0_4 l0_4.length c0_4, .string a0_5, .int .i64 a0_6, .int .i64 a0_7, .int .i64 a0_8, .slice A0_9 l0_9.length c0_9, .slice A0_10 l0_10.length c0_10, .int .i64 a0_11]) (t := 71) ?hr ?_; (case hd => rfl); (case hg => rfl); (case hr => first | (go_simp; done) | (go_simp; rfl)); intro gb292 hg w23 hbox hb; have n0_ := Sq.l (Sq.a4 (by repeat (first | (with_reducible first | exact HB.out | apply Sq.i | apply Sq.j | apply Sq.k) | exact HB.out)) hb); have n1_ := Sq.l (hbox); have n2_ := Sq.l ((by rw [hg]; exact (Sq.a5 (by repeat (first | (with_reducible first | exact HB.out | apply Sq.i | apply Sq.j | apply Sq.k) | exact HB.out))) : w.heap.size ≤ gb292)); have n3_ := Sq.l ((by rw [hg]; exact (Sq.a5 (by repeat (first | (with_reducible first | exact HB.out | apply Sq.i | apply Sq.j | apply Sq.k) | exact HB.out))) : w.heap.size ≤ gb292)); clear HB; have HB := n0_; have BK292 := n1_; have GW292 := n2_; have GE292 := n3_; clear n0_ n1_ n2_ n3_; clear hb hbox hg; obtain ⟨hcz24_0, hcz24_1, hcz24_2, hcz24_3, hcz24_4, hcz24_5, hcz24_6, hcz24_7, hcz24_8, hcz24_9, hcz24_10, hcz24_11⟩ := Sq.C12 BK292.out; obtain ⟨hfz24_0, hfz24_1, hfz24_2, hfz24_3, hfz24_4, hfz24_5, hfz24_6, hfz24_7, hfz24_8, hfz24_9, hfz24_10, hfz24_11⟩ := Sq.F12 BK292.out) | ((with_reducible refine gate_callee (f := 80) rfl ?_); refine goesL_ (some 8) rfl rfl Try.func80 (by kernel_rfl) rfl #[.slice A0_1 l0_1.length c0_1, .int .i64 a1] rfl (by (try simp only [List.map_toArray, List.map_cons, List.map_nil]); first | done | rfl | (simp only [List.length_drop, List.length_take]; rfl)) ?_; (with_reducible refine (laws_heldInt64S.calls k _ _ l0_1 a1 t293 _ ?side1 ?side2 A3.out).mono ?_); (case side1 => repeat (first | exact (Sq.a1 HR0_1.out HB.out) | (with_reducible refine Sq.s ?_ _) | (with_reducible refine Sq.t ?_ _) | (with_reducible refine Sq.u ?_))); (case side2 => exact HC0_1.out); rintro e w' ⟨rfl, ⟨nd, rfl⟩⟩; refine ⟨_, rfl, ?_⟩) | ((with_reducible refine gate_callee (f := 80) rfl ?_); refine goesL_ (some 14) rfl rfl Try.func80 (by kernel_rfl) rfl #[.slice A0_3 l0_3.length c0_3, .int .i64 t293] rfl (by (try simp only [List.map_toArray, List.map_cons, List.map_nil]); first | done | rfl | (simp only [List.length_drop, List.length_take]; rfl)) ?_; (with_reducible refine (laws_heldInt64S.calls k _ _ l0_3 t293 t294 _ ?side1 ?side2 A7.out).mono ?_); (case side1 => repeat (first | exact (Sq.a1 HR0_3.out (by repeat (first | (with_reducible first | exact HB.out | apply Sq.i | apply Sq.j | apply Sq.k | refine Sq.h ?_ GE292.out) | exact HB.out))) | (with_reducible refine Sq.s ?_ _) | (with_reducible refine Sq.t ?_ _) | (with_reducible refine Sq.u ?_))); (case side2 => exact HC0_3.out); rintro e w' ⟨rfl, ⟨nd, rfl⟩⟩; refine ⟨_, rfl, ?_⟩) | ((with_reducible refine gate_callee (f := 80) rfl ?_); refine goesL_ (some 20) rfl rfl Try.func80 (by kernel_rfl) rfl #[.slice A0_4 l0_4.length c0_4, .int .i64 t294] rfl (by (try simp only [List.map_toArray, List.map_cons, List.map_nil]); first | done | rfl | (simp only [List.length_drop, List.length_take]; rfl)) ?_; (with_reducible refine (laws_heldInt64S.calls k _ _ l0_4 t294 t295 _ ?side1 ?side2 A11.out).mono ?_); (case side1 => repeat (first | exact (Sq.a1 HR0_4.out (by repeat (first | (with_reducible first | exact HB.out | apply Sq.i | apply Sq.j | apply Sq.k | refine Sq.h ?_ GE292.out) | exact HB.out))) | (with_reducible refine Sq.s ?_ _) | (with_reducible refine Sq.t ?_ _) | (with_reducible refine Sq.u ?_))); (case side2 => exact HC0_4.out); rintro e w' ⟨rfl, ⟨nd, rfl⟩⟩; refine ⟨_, rfl, ?_⟩) | ((with_reducible refine gate_callee (f := 90) rfl ?_); refine goesL_ (some 26) rfl rfl Try.func90 (by kernel_rfl) rfl #[.slice A0_9 l0_9.length c0_9, .int .i64 t295] rfl (by (try simp only [List.map_toArray, List.map_cons, List.map_nil]); first | done | rfl | (simp only [List.length_drop, List.length_take]; rfl)) ?_; (with_reducible refine (laws_heldPortValueS.calls k _ _ l0_9 t295 t296 _ ?side1 ?side2 A15.out).mono ?_); (case side1 => repeat (first | exact (Sq.a1 HR0_9.out (by repeat (first | (with_reducible first | exact HB.out | apply Sq.i | apply Sq.j | apply Sq.k | refine Sq.h ?_ GE292.out) | exact HB.out))) | (with_reducible refine Sq.s ?_ _) | (with_reducible refine Sq.t ?_ _) | (with_reducible refine Sq.u ?_))); (case side2 => exact HC0_9.out); rintro e w' ⟨rfl, ⟨nd, rfl⟩⟩; refine ⟨_, rfl, ?_⟩) | ((with_reducible refine gate_callee (f := 90) rfl ?_); refine goesL_ (some 32) rfl rfl Try.func90 (by kernel_rfl) rfl #[.slice A0_10 l0_10.length c0_10, .int .i64 t296] rfl (by (try simp only [List.map_toArray, List.map_cons, List.map_nil]); first | done | rfl | (simp only [List.length_drop, List.length_take]; rfl)) ?_; (with_reducible refine (laws_heldPortValueS.calls k _ _ l0_10 t296 t297 _ ?side1 ?side2 A19.out).mono ?_); (case side1 => repeat (first | exact (Sq.a1 HR0_10.out (by repeat (first | (with_reducible first | exact HB.out | apply Sq.i | apply Sq.j | apply Sq.k | refine Sq.h ?_ GE292.out) | exact HB.out))) | (with_reducible refine Sq.s ?_ _) | (with_reducible refine Sq.t ?_ _) | (with_reducible refine Sq.u ?_))); (case side2 => exact HC0_10.out); rintro e w' ⟨rfl, ⟨nd, rfl⟩⟩; refine ⟨_, rfl, ?_⟩))
      go_ret
      exact ⟨by first | rfl | (simp [errW_none, errW_some] <;> rfl) | (simp [*, errW_none, errW_some] <;> rfl), by repeat (first | (with_reducible first | exact HB.out | apply Sq.i | apply Sq.j | apply Sq.k | refine Sq.h ?_ GE292.out) | exact HB.out)⟩

end Go.Proofs.Ytmajbehafgajmaa.QFnExactRaiseLine
