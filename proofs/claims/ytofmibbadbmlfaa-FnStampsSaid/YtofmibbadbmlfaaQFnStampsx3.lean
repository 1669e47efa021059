-- Written for this claim by this session's own driver (wip/xprint.py).
import Derived.Test.YtofmibbadbmlfaaQFnStampsx0
import Derived.Test.YtofmibbadbmlfaaQFnStampsx2
namespace Go.Proofs.Ytofmibbadbmlfaa.QFnStamps
open Go.RowKit Go.Proofs.YtofmibbadbmlfaaW.PrintWords Go.Proofs.YtofmibbadbmlfaaW.PrintLast Go.Proofs.YtofmibbadbmlfaaW.PrintMore
attribute [local go_sem] max2_int min2_int max_two min_two max_three min_three max_four min_four   -- for this text's walks alone
set_option linter.unusedVariables false
set_option linter.unusedSimpArgs false

/-! ### spec_StampOf: function 30 -/
mutual
def spec_StampOf.j0 : Nat → Int → Bool → Option (Int × Int × Int × Int)
  | 0, _, _ => none
  | k + 1, x0, x10 => if x10 = true then (some (0, 0, 0, 0)) else (spec_StampOf.l0 k (wrap64 (Int.tdiv x0 86400)) 2000 1 0 (Int.tmod x0 86400))
def spec_StampOf.l0 : Nat → Int → Int → Int → Int → Int → Option (Int × Int × Int × Int)
  | 0, _, _, _, _, _ => none
  | k + 1, x3, x121000, x121001, x121002, x121003 => (spec_l09Days.f x121000 x121001).bind fun t121 => (if x3 ≥ t121 then ((spec_l09Days.f x121000 x121001).bind fun t122 => (if (wrap64 (x121001 + 1)) > 12 then (spec_StampOf.l0 k (wrap64 (x3 - t122)) (wrap64 (x121000 + 1)) 1 x121002 x121003) else (spec_StampOf.l0 k (wrap64 (x3 - t122)) x121000 (wrap64 (x121001 + 1)) x121002 x121003))) else (some (x121000, x121001, wrap64 (x3 + 1), x121003)))
end
def spec_StampOf.f (k : Nat) (a0 : Int) : Option (Int × Int × Int × Int) := if a0 < 0 then (spec_StampOf.j0 k a0 true) else (spec_StampOf.j0 k a0 (decide (a0 ≥ 3155760000)))
theorem spec_StampOf.mono_l : ∀ k, (∀ y0 y1, LeO (spec_StampOf.j0 k y0 y1) (spec_StampOf.j0 (k + 1) y0 y1)) ∧ (∀ y0 y1 y2 y3 y4, LeO (spec_StampOf.l0 k y0 y1 y2 y3 y4) (spec_StampOf.l0 (k + 1) y0 y1 y2 y3 y4))
  | 0 => ⟨fun _ _ r h => by simp [spec_StampOf.j0] at h, fun _ _ _ _ _ r h => by simp [spec_StampOf.l0] at h⟩
  | k + 1 => by
    obtain ⟨ih0, ih1⟩ := spec_StampOf.mono_l k
    refine ⟨?_, ?_⟩
    · intro y0 y1
      unfold spec_StampOf.j0
      repeat' first
      | (with_reducible exact ih0 _ _)
      | (with_reducible exact ih1 _ _ _ _ _)
      | (with_reducible exact LeO.refl _)
      | (with_reducible exact LeO.none _)
      | (with_reducible refine LeO.ite ?_ ?_)
      | (with_reducible refine LeO.bind ?_ (fun _ => ?_))
      | exact ih0 _ _
      | exact ih1 _ _ _ _ _
      | exact LeO.none _
      | refine LeO.ite ?_ ?_
      | refine LeO.bind ?_ (fun _ => ?_)
    · intro y0 y1 y2 y3 y4
      unfold spec_StampOf.l0
      repeat' first
      | (with_reducible exact ih0 _ _)
      | (with_reducible exact ih1 _ _ _ _ _)
      | (with_reducible exact LeO.refl _)
      | (with_reducible exact LeO.none _)
      | (with_reducible refine LeO.ite ?_ ?_)
      | (with_reducible refine LeO.bind ?_ (fun _ => ?_))
      | exact ih0 _ _
      | exact ih1 _ _ _ _ _
      | exact LeO.none _
      | refine LeO.ite ?_ ?_
      | refine LeO.bind ?_ (fun _ => ?_)
theorem spec_StampOf.mono : ∀ a0 k, LeO (spec_StampOf.f k a0) (spec_StampOf.f (k + 1) a0) := by
  intro a0 k
  obtain ⟨ih0, ih1⟩ := spec_StampOf.mono_l k
  unfold spec_StampOf.f
  repeat' first
      | (with_reducible exact ih0 _ _)
      | (with_reducible exact ih1 _ _ _ _ _)
      | (with_reducible exact LeO.refl _)
      | (with_reducible exact LeO.none _)
      | (with_reducible refine LeO.ite ?_ ?_)
      | (with_reducible refine LeO.bind ?_ (fun _ => ?_))
      | exact ih0 _ _
      | exact ih1 _ _ _ _ _
      | exact LeO.none _
      | refine LeO.ite ?_ ?_
      | refine LeO.bind ?_ (fun _ => ?_)
set_option maxHeartbeats 8000000 in
set_option maxRecDepth 100000 in
theorem spec_StampOf.calls (k : Nat) (a0 : Int) (r1 : Int) (r2 : Int) (r3 : Int) (r4 : Int) (w : World) (h : spec_StampOf.f k a0 = some (r1, r2, r3, r4)) :
    Calls Try.prog 30 #[.int .i64 a0] w fun e w' => e = .returned (.agg #[.int .i64 r1, .int .i64 r2, .int .i64 r3, .int .i64 r4]) ∧ Below w.heap.size w w' := by
  have hu33 := Try.underlying33
  have HB := Aside0.mk (Below.refl w.heap.size w)
  have H : (if a0 < 0 then (spec_StampOf.j0 k a0 true) else (spec_StampOf.j0 k a0 (decide (a0 ≥ 3155760000)))) = some (r1, r2, r3, r4) := h
  clear h
  have HC2 := Aside0.mk H
  clear H
  go_enter Try.func30, Try.ntmps30
  go_upto_region 1 with (first | ((with_reducible refine gate_dst (N := 2) rfl ?_); refine box_event ?hg (N := 2) ?hd (cs := #[.int .i64 0, .int .i64 0, .int .i64 0, .int .i64 0]) (t := 33) ?hr ?_; (case hd => rfl); (case hg => rfl); (case hr => first | (go_simp; done) | (go_simp; rfl)); intro gb119 hg w3 hbox hb; have n0_ := Aside0.mk (below_step (by repeat (first | (with_reducible first | exact HB.out | apply below_alloc | apply pw_below_drewN | apply below_drew1) | exact HB.out)) hb); have n1_ := Aside0.mk (hbox); have n2_ := Aside0.mk ((by rw [hg]; exact (below_size (by repeat (first | (with_reducible first | exact HB.out | apply below_alloc | apply pw_below_drewN | apply below_drew1) | exact HB.out))) : w.heap.size ≤ gb119)); have n3_ := Aside0.mk ((by rw [hg]; exact (below_size (by repeat (first | (with_reducible first | exact HB.out | apply below_alloc | apply pw_below_drewN | apply below_drew1) | exact HB.out))) : w.heap.size ≤ gb119)); clear HB; have HB := n0_; have BK119 := n1_; have GW119 := n2_; have GE119 := n3_; clear n0_ n1_ n2_ n3_; clear hb hbox hg))
  (try simp only [Act.put, List.setIfInBounds_toArray, List.set_cons_zero, List.set_cons_succ])
  go_cut [10] (fun v10 wc => ∃ (kq : Nat) (x10_1 : Bool), v10 = .bool x10_1 ∧ Aside0 (spec_StampOf.j0 kq a0 x10_1 = some (r1, r2, r3, r4)) ∧ Aside0 (kq ≤ k) ∧ Aside0 (wc.heap[gb119]? = some (.cells #[.int .i64 0, .int .i64 0, .int .i64 0, .int .i64 0] 33 (0, 0))) ∧ Aside0 (Below w.heap.size w wc))
  case first =>
    have H := HC2.out
    clear HC2
    by_cases c4 : a0 < 0
    · rw [if_pos c4] at H
      have c4b0 : decide (a0 < 0) = true := decide_eq_true c4
      clear c4
      (first | rw [c4b0] | (simp only [i64_w, i32_w]; rw [c4b0]) | skip)
      have H' := Aside0.mk H
      clear H
      go_wp2
      go_meet
      case rel => exact ⟨_, (true), (by first | rfl | (simp; done) | (simp [*]; done)), H', ⟨by first | omega | exact Nat.le_refl _⟩, ⟨by (with_reducible repeat (first | refine blk_drewN ?_ _ | refine blk_drew ?_ | refine blk_alloc ?_ _)); exact BK119.out⟩, ⟨by repeat (first | (with_reducible first | exact HB.out | apply below_alloc | apply pw_below_drewN | apply below_drew1 | refine below_set ?_ GE119.out) | exact HB.out)⟩⟩
    · rw [if_neg c4] at H
      have c4b0 : decide (a0 < 0) = false := decide_eq_false c4
      clear c4
      (first | rw [c4b0] | (simp only [i64_w, i32_w]; rw [c4b0]) | skip)
      have H' := Aside0.mk H
      clear H
      go_wp2
      go_meet
      case rel => exact ⟨_, (decide (a0 ≥ 3155760000)), (by first | rfl | (simp; done) | (simp [*]; done)), H', ⟨by first | omega | exact Nat.le_refl _⟩, ⟨by (with_reducible repeat (first | refine blk_drewN ?_ _ | refine blk_drew ?_ | refine blk_alloc ?_ _)); exact BK119.out⟩, ⟨by repeat (first | (with_reducible first | exact HB.out | apply below_alloc | apply pw_below_drewN | apply below_drew1 | refine below_set ?_ GE119.out) | exact HB.out)⟩⟩
  case rest =>
    clear HC2
    try clear p2
    try clear c3
    try clear c4
    try clear c4b0
    obtain ⟨kq, x10_1, rfl, HA, HJ1, BK119, HB⟩ := hcut
    cases kq with
    | zero => exact absurd HA.out (by simp [spec_StampOf.j0])
    | succ kj1 =>
      have H := HA.out
      clear HA
      simp only [spec_StampOf.j0] at H
      by_cases c5 : x10_1 = true
      · subst c5
        have H1 : (some (0, 0, 0, 0)) = some (r1, r2, r3, r4) := by rw [if_pos rfl] at H; exact H
        clear H
        have H := H1
        clear H1
        simp only [Option.some.injEq, Prod.mk.injEq] at H
        obtain ⟨rfl, rfl, rfl, rfl⟩ := H
        have hcz6_0 : wc.cell? ⟨gb119, 0, none⟩ = some (.int .i64 0) := (blk_cell BK119.out 0).trans rfl
        have hcz6_1 : wc.cell? ⟨gb119, 1, none⟩ = some (.int .i64 0) := (blk_cell BK119.out 1).trans rfl
        have hcz6_2 : wc.cell? ⟨gb119, 2, none⟩ = some (.int .i64 0) := (blk_cell BK119.out 2).trans rfl
        have hcz6_3 : wc.cell? ⟨gb119, 3, none⟩ = some (.int .i64 0) := (blk_cell BK119.out 3).trans rfl
        have hfz6_0 := blk_frozen BK119.out 0
        have hfz6_1 := blk_frozen BK119.out 1
        have hfz6_2 := blk_frozen BK119.out 2
        have hfz6_3 := blk_frozen BK119.out 3
        go_wp2
        refine bodyPost_ret (results_cell_row rfl _ _ gb119 33 #[.int .i64 0, .int .i64 0, .int .i64 0, .int .i64 0] (0, 0) _ rfl (by (with_reducible repeat (first | refine blk_drewN ?_ _ | refine blk_drew ?_ | refine blk_alloc ?_ _)); refine blk_put (cs := #[.int .i64 0, .int .i64 0, .int .i64 0, .int .i64 0]) ?_ 3 _ rfl; (with_reducible repeat (first | refine blk_drewN ?_ _ | refine blk_drew ?_ | refine blk_alloc ?_ _)); refine blk_put (cs := #[.int .i64 0, .int .i64 0, .int .i64 0, .int .i64 0]) ?_ 2 _ rfl; (with_reducible repeat (first | refine blk_drewN ?_ _ | refine blk_drew ?_ | refine blk_alloc ?_ _)); refine blk_put (cs := #[.int .i64 0, .int .i64 0, .int .i64 0, .int .i64 0]) ?_ 1 _ rfl; (with_reducible repeat (first | refine blk_drewN ?_ _ | refine blk_drew ?_ | refine blk_alloc ?_ _)); refine blk_put (cs := #[.int .i64 0, .int .i64 0, .int .i64 0, .int .i64 0]) ?_ 0 _ rfl; (with_reducible repeat (first | refine blk_drewN ?_ _ | refine blk_drew ?_ | refine blk_alloc ?_ _)); exact BK119.out) Try.underlying33 rfl (by kernel_rfl)) rfl ?_
        exact ⟨by first | rfl | (simp [errW_none, errW_some] <;> rfl) | (simp [*, errW_none, errW_some] <;> rfl), by repeat (first | (with_reducible first | exact HB.out | apply below_alloc | apply pw_below_drewN | apply below_drew1 | refine below_set ?_ GE119.out) | exact HB.out)⟩
      · replace c5 := Bool.eq_false_iff.mpr c5
        subst c5
        have H1 : (spec_StampOf.l0 kj1 (wrap64 (Int.tdiv a0 86400)) 2000 1 0 (Int.tmod a0 86400)) = some (r1, r2, r3, r4) := by rw [if_neg (show ¬ (false = true) by decide)] at H; exact H
        clear H
        have H := H1
        clear H1
        have H' := Aside0.mk H
        clear H
        go_wp2_with (first | ((with_reducible refine gate_dst (N := 4) rfl ?_); refine box_event ?hg (N := 4) ?hd (cs := #[.int .i64 0, .int .i64 0, .int .i64 0, .int .i64 0]) (t := 33) ?hr ?_; (case hd => rfl); (case hg => rfl); (case hr => first | (go_simp; done) | (go_simp; rfl)); intro gb120 hg w7 hbox hb; have n0_ := Aside0.mk (blk_below (g := gb119) (o := .cells #[.int .i64 0, .int .i64 0, .int .i64 0, .int .i64 0] 33 (0, 0)) (by (with_reducible repeat (first | refine blk_drewN ?_ _ | refine blk_drew ?_ | refine blk_alloc ?_ _)); exact BK119.out) hb); have n1_ := Aside0.mk (below_step (by repeat (first | (with_reducible first | exact HB.out | apply below_alloc | apply pw_below_drewN | apply below_drew1 | refine below_set ?_ GE119.out) | exact HB.out)) hb); have n2_ := Aside0.mk (hbox); have n3_ := Aside0.mk ((by rw [hg]; exact (below_size (by repeat (first | (with_reducible first | exact HB.out | apply below_alloc | apply pw_below_drewN | apply below_drew1 | refine below_set ?_ GE119.out) | exact HB.out))) : w.heap.size ≤ gb120)); have n4_ := Aside0.mk ((by rw [hg]; exact (below_size (by repeat (first | (with_reducible first | exact HB.out | apply below_alloc | apply pw_below_drewN | apply below_drew1 | refine below_set ?_ GE119.out) | exact HB.out))) : w.heap.size ≤ gb120)); have n5_ := Aside0.mk ((by rw [hg]; exact Nat.ne_of_lt (blk_lt (g := gb119) (o := .cells #[.int .i64 0, .int .i64 0, .int .i64 0, .int .i64 0] 33 (0, 0)) (by (with_reducible repeat (first | refine blk_drewN ?_ _ | refine blk_drew ?_ | refine blk_alloc ?_ _)); exact BK119.out)) : gb119 ≠ gb120)); have n6_ := Aside0.mk ((by rw [hg]; exact Nat.ne_of_gt (blk_lt (g := gb119) (o := .cells #[.int .i64 0, .int .i64 0, .int .i64 0, .int .i64 0] 33 (0, 0)) (by (with_reducible repeat (first | refine blk_drewN ?_ _ | refine blk_drew ?_ | refine blk_alloc ?_ _)); exact BK119.out)) : gb120 ≠ gb119)); clear BK119; clear HB; have BK119 := n0_; have HB := n1_; have BK120 := n2_; have GW120 := n3_; have GE120 := n4_; have NB119_120 := n5_; have NB120_119 := n6_; clear n0_ n1_ n2_ n3_ n4_ n5_ n6_; clear hb hbox hg; have hnb8 := NB120_119.out; have hnc8 := NB119_120.out; have hcz9_0 : w7.cell? ⟨gb120, 0, none⟩ = some (.int .i64 0) := (blk_cell BK120.out 0).trans rfl; have hcz9_1 : w7.cell? ⟨gb120, 1, none⟩ = some (.int .i64 0) := (blk_cell BK120.out 1).trans rfl; have hcz9_2 : w7.cell? ⟨gb120, 2, none⟩ = some (.int .i64 0) := (blk_cell BK120.out 2).trans rfl; have hcz9_3 : w7.cell? ⟨gb120, 3, none⟩ = some (.int .i64 0) := (blk_cell BK120.out 3).trans rfl; have hfz9_0 := blk_frozen BK120.out 0; have hfz9_1 := blk_frozen BK120.out 1; have hfz9_2 := blk_frozen BK120.out 2; have hfz9_3 := blk_frozen BK120.out 3))
        go_loopg [3] kj1 (fun kq v3 w' => ∃ (x3_2 : Int) (x121000_2 : Int) (x121001_2 : Int), v3 = .int .i64 x3_2 ∧ Aside0 (spec_StampOf.l0 kq x3_2 x121000_2 x121001_2 0 (Int.tmod a0 86400) = some (r1, r2, r3, r4)) ∧ Aside0 (kq ≤ kj1) ∧ Aside0 (w'.heap[gb119]? = some (.cells #[.int .i64 0, .int .i64 0, .int .i64 0, .int .i64 0] 33 (0, 0))) ∧ Aside0 (w'.heap[gb120]? = some (.cells #[.int .i64 x121000_2, .int .i64 x121001_2, .int .i64 0, .int .i64 (Int.tmod a0 86400)] 33 (0, 0))) ∧ Aside0 (Below w.heap.size w w'))
        case atStart => exact ⟨(wrap64 (Int.tdiv a0 86400)), (2000), (1), (by first | rfl | (simp; done) | (simp [*]; done)), H', ⟨Nat.le_refl _⟩, ⟨by (with_reducible repeat (first | refine blk_drewN ?_ _ | refine blk_drew ?_ | refine blk_alloc ?_ _)); refine blk_far ?_ NB119_120.out _; (with_reducible repeat (first | refine blk_drewN ?_ _ | refine blk_drew ?_ | refine blk_alloc ?_ _)); refine blk_far ?_ NB119_120.out _; (with_reducible repeat (first | refine blk_drewN ?_ _ | refine blk_drew ?_ | refine blk_alloc ?_ _)); refine blk_far ?_ NB119_120.out _; (with_reducible repeat (first | refine blk_drewN ?_ _ | refine blk_drew ?_ | refine blk_alloc ?_ _)); refine blk_far ?_ NB119_120.out _; (with_reducible repeat (first | refine blk_drewN ?_ _ | refine blk_drew ?_ | refine blk_alloc ?_ _)); exact BK119.out⟩, ⟨by (with_reducible repeat (first | refine blk_drewN ?_ _ | refine blk_drew ?_ | refine blk_alloc ?_ _)); refine blk_put (cs := #[.int .i64 2000, .int .i64 1, .int .i64 0, .int .i64 0]) ?_ 3 _ rfl; (with_reducible repeat (first | refine blk_drewN ?_ _ | refine blk_drew ?_ | refine blk_alloc ?_ _)); refine blk_put (cs := #[.int .i64 2000, .int .i64 1, .int .i64 0, .int .i64 0]) ?_ 2 _ rfl; (with_reducible repeat (first | refine blk_drewN ?_ _ | refine blk_drew ?_ | refine blk_alloc ?_ _)); refine blk_put (cs := #[.int .i64 2000, .int .i64 0, .int .i64 0, .int .i64 0]) ?_ 1 _ rfl; (with_reducible repeat (first | refine blk_drewN ?_ _ | refine blk_drew ?_ | refine blk_alloc ?_ _)); refine blk_put (cs := #[.int .i64 0, .int .i64 0, .int .i64 0, .int .i64 0]) ?_ 0 _ rfl; (with_reducible repeat (first | refine blk_drewN ?_ _ | refine blk_drew ?_ | refine blk_alloc ?_ _)); exact BK120.out⟩, ⟨by repeat (first | (with_reducible first | exact HB.out | apply below_alloc | apply pw_below_drewN | apply below_drew1 | refine below_set ?_ GE119.out | refine below_set ?_ GE120.out) | exact HB.out)⟩⟩
        case round =>
          clear H'
          try clear p2
          try clear c3
          try clear c4
          try clear c4b0
          try clear c5
          try clear p6
          try clear c8
          try clear hcz6_0
          try clear hcz6_1
          try clear hcz6_2
          try clear hcz6_3
          try clear hcz9_0
          try clear hcz9_1
          try clear hcz9_2
          try clear hcz9_3
          try clear hfz6_0
          try clear hfz6_1
          try clear hfz6_2
          try clear hfz6_3
          try clear hfz9_0
          try clear hfz9_1
          try clear hfz9_2
          try clear hfz9_3
          try clear p2
          obtain ⟨x3_2, x121000_2, x121001_2, rfl, HA, HK2, BK119, BK120, HB⟩ := hrel
          cases gk with
          | zero => exact absurd HA.out (by simp [spec_StampOf.l0])
          | succ k2 =>
            have H := HA.out
            clear HA
            simp only [spec_StampOf.l0] at H
            replace H := Option.bind_eq_some_iff.mp H
            obtain ⟨t121, A100, H⟩ := H
            replace H : (if x3_2 ≥ t121 then ((spec_l09Days.f x121000_2 x121001_2).bind fun t122 => (if (wrap64 (x121001_2 + 1)) > 12 then (spec_StampOf.l0 k2 (wrap64 (x3_2 - t122)) (wrap64 (x121000_2 + 1)) 1 0 (Int.tmod a0 86400)) else (spec_StampOf.l0 k2 (wrap64 (x3_2 - t122)) x121000_2 (wrap64 (x121001_2 + 1)) 0 (Int.tmod a0 86400)))) else (some (x121000_2, x121001_2, wrap64 (x3_2 + 1), (Int.tmod a0 86400)))) = some (r1, r2, r3, r4) := H
            have A10 := Aside0.mk A100
            clear A100
            by_cases c11 : x3_2 ≥ t121
            · rw [if_pos c11] at H
              have c11b0 : decide (t121 ≤ x3_2) = true := decide_eq_true c11
              clear c11
              replace H := Option.bind_eq_some_iff.mp H
              obtain ⟨t122, A120, H⟩ := H
              replace H : (if (wrap64 (x121001_2 + 1)) > 12 then (spec_StampOf.l0 k2 (wrap64 (x3_2 - t122)) (wrap64 (x121000_2 + 1)) 1 0 (Int.tmod a0 86400)) else (spec_StampOf.l0 k2 (wrap64 (x3_2 - t122)) x121000_2 (wrap64 (x121001_2 + 1)) 0 (Int.tmod a0 86400))) = some (r1, r2, r3, r4) := H
              have A12 := Aside0.mk A120
              clear A120
              by_cases c13 : (wrap64 (x121001_2 + 1)) > 12
              · rw [if_pos c13] at H
                have c13b0 : decide (12 < (wrap64 (x121001_2 + 1))) = true := decide_eq_true c13
                clear c13
                have H' := Aside0.mk H
                clear H
                have hnb14 := NB120_119.out
                have hnc14 := NB119_120.out
                have hcz15_0 : wr.cell? ⟨gb120, 0, none⟩ = some (.int .i64 x121000_2) := (blk_cell BK120.out 0).trans rfl
                have hcz15_1 : wr.cell? ⟨gb120, 1, none⟩ = some (.int .i64 x121001_2) := (blk_cell BK120.out 1).trans rfl
                have hcz15_2 : wr.cell? ⟨gb120, 2, none⟩ = some (.int .i64 0) := (blk_cell BK120.out 2).trans rfl
                have hcz15_3 : wr.cell? ⟨gb120, 3, none⟩ = some (.int .i64 (Int.tmod a0 86400)) := (blk_cell BK120.out 3).trans rfl
                have hfz15_0 := blk_frozen BK120.out 0
                have hfz15_1 := blk_frozen BK120.out 1
                have hfz15_2 := blk_frozen BK120.out 2
                have hfz15_3 := blk_frozen BK120.out 3
                go_wp2_with (first | ((with_reducible refine gate_callee (f := 64) rfl ?_); refine goesL_ (some 22) rfl rfl Try.func64 (by kernel_rfl) rfl #[.int .i64 x121000_2, .int .i64 x121001_2] rfl (by (try simp only [List.map_toArray, List.map_cons, List.map_nil]); first | done | rfl | (simp only [List.length_drop, List.length_take]; rfl)) ?_; (with_reducible refine (spec_l09Days.calls x121000_2 x121001_2 t121 _ A10.out).mono ?_); rintro e w16 ⟨rfl, hb⟩; refine ⟨_, rfl, ?_⟩; have n0_ := Aside0.mk (blk_below (g := gb119) (o := .cells #[.int .i64 0, .int .i64 0, .int .i64 0, .int .i64 0] 33 (0, 0)) (by (with_reducible repeat (first | refine blk_drewN ?_ _ | refine blk_drew ?_ | refine blk_alloc ?_ _)); exact BK119.out) hb); have n1_ := Aside0.mk (blk_below (g := gb120) (o := .cells #[.int .i64 x121000_2, .int .i64 x121001_2, .int .i64 0, .int .i64 (Int.tmod a0 86400)] 33 (0, 0)) (by (with_reducible repeat (first | refine blk_drewN ?_ _ | refine blk_drew ?_ | refine blk_alloc ?_ _)); exact BK120.out) hb); have n2_ := Aside0.mk (below_step (by repeat (first | (with_reducible first | exact HB.out | apply below_alloc | apply pw_below_drewN | apply below_drew1 | refine below_set ?_ GE119.out | refine below_set ?_ GE120.out) | exact HB.out)) hb); clear BK119; clear BK120; clear HB; have BK119 := n0_; have BK120 := n1_; have HB := n2_; clear n0_ n1_ n2_; (try clear hb); (try clear hb2); (try clear hk); (try clear hi); have hcz17_0 : w16.cell? ⟨gb120, 0, none⟩ = some (.int .i64 x121000_2) := (blk_cell BK120.out 0).trans rfl; have hcz17_1 : w16.cell? ⟨gb120, 1, none⟩ = some (.int .i64 x121001_2) := (blk_cell BK120.out 1).trans rfl; have hcz17_2 : w16.cell? ⟨gb120, 2, none⟩ = some (.int .i64 0) := (blk_cell BK120.out 2).trans rfl; have hcz17_3 : w16.cell? ⟨gb120, 3, none⟩ = some (.int .i64 (Int.tmod a0 86400)) := (blk_cell BK120.out 3).trans rfl; have hfz17_0 := blk_frozen BK120.out 0; have hfz17_1 := blk_frozen BK120.out 1; have hfz17_2 := blk_frozen BK120.out 2; have hfz17_3 := blk_frozen BK120.out 3) | ((with_reducible refine gate_callee (f := 64) rfl ?_); refine goesL_ (some 29) rfl rfl Try.func64 (by kernel_rfl) rfl #[.int .i64 x121000_2, .int .i64 x121001_2] rfl (by (try simp only [List.map_toArray, List.map_cons, List.map_nil]); first | done | rfl | (simp only [List.length_drop, List.length_take]; rfl)) ?_; (with_reducible refine (spec_l09Days.calls x121000_2 x121001_2 t122 _ A12.out).mono ?_); rintro e w18 ⟨rfl, hb⟩; refine ⟨_, rfl, ?_⟩; have n0_ := Aside0.mk (blk_below (g := gb119) (o := .cells #[.int .i64 0, .int .i64 0, .int .i64 0, .int .i64 0] 33 (0, 0)) (by (with_reducible repeat (first | refine blk_drewN ?_ _ | refine blk_drew ?_ | refine blk_alloc ?_ _)); exact BK119.out) hb); have n1_ := Aside0.mk (blk_below (g := gb120) (o := .cells #[.int .i64 x121000_2, .int .i64 x121001_2, .int .i64 0, .int .i64 (Int.tmod a0 86400)] 33 (0, 0)) (by (with_reducible repeat (first | refine blk_drewN ?_ _ | refine blk_drew ?_ | refine blk_alloc ?_ _)); exact BK120.out) hb); have n2_ := Aside0.mk (below_step (by repeat (first | (with_reducible first | exact HB.out | apply below_alloc | apply pw_below_drewN | apply below_drew1 | refine below_set ?_ GE119.out | refine below_set ?_ GE120.out) | exact HB.out)) hb); clear BK119; clear BK120; clear HB; have BK119 := n0_; have BK120 := n1_; have HB := n2_; clear n0_ n1_ n2_; (try clear hb); (try clear hb2); (try clear hk); (try clear hi); have hcz19_0 : w18.cell? ⟨gb120, 0, none⟩ = some (.int .i64 x121000_2) := (blk_cell BK120.out 0).trans rfl; have hcz19_1 : w18.cell? ⟨gb120, 1, none⟩ = some (.int .i64 x121001_2) := (blk_cell BK120.out 1).trans rfl; have hcz19_2 : w18.cell? ⟨gb120, 2, none⟩ = some (.int .i64 0) := (blk_cell BK120.out 2).trans rfl; have hcz19_3 : w18.cell? ⟨gb120, 3, none⟩ = some (.int .i64 (Int.tmod a0 86400)) := (blk_cell BK120.out 3).trans rfl; have hfz19_0 := blk_frozen BK120.out 0; have hfz19_1 := blk_frozen BK120.out 1; have hfz19_2 := blk_frozen BK120.out 2; have hfz19_3 := blk_frozen BK120.out 3))
                go_roundg k2
                case measure => have := HJ1.out; have := HK2.out; omega
                case rel => exact ⟨(wrap64 (x3_2 - t122)), (wrap64 (x121000_2 + 1)), (1), (by first | rfl | (simp; done) | (simp [*]; done)), H', ⟨by have := HJ1.out; have := HK2.out; omega⟩, ⟨by (with_reducible repeat (first | refine blk_drewN ?_ _ | refine blk_drew ?_ | refine blk_alloc ?_ _)); refine blk_far ?_ NB119_120.out _; (with_reducible repeat (first | refine blk_drewN ?_ _ | refine blk_drew ?_ | refine blk_alloc ?_ _)); refine blk_far ?_ NB119_120.out _; (with_reducible repeat (first | refine blk_drewN ?_ _ | refine blk_drew ?_ | refine blk_alloc ?_ _)); refine blk_far ?_ NB119_120.out _; (with_reducible repeat (first | refine blk_drewN ?_ _ | refine blk_drew ?_ | refine blk_alloc ?_ _)); exact BK119.out⟩, ⟨by (with_reducible repeat (first | refine blk_drewN ?_ _ | refine blk_drew ?_ | refine blk_alloc ?_ _)); refine blk_put (cs := #[.int .i64 x121000_2, .int .i64 1, .int .i64 0, .int .i64 (Int.tmod a0 86400)]) ?_ 0 _ rfl; (with_reducible repeat (first | refine blk_drewN ?_ _ | refine blk_drew ?_ | refine blk_alloc ?_ _)); refine blk_put (cs := #[.int .i64 x121000_2, .int .i64 (wrap64 (x121001_2 + 1)), .int .i64 0, .int .i64 (Int.tmod a0 86400)]) ?_ 1 _ rfl; (with_reducible repeat (first | refine blk_drewN ?_ _ | refine blk_drew ?_ | refine blk_alloc ?_ _)); refine blk_put (cs := #[.int .i64 x121000_2, .int .i64 x121001_2, .int .i64 0, .int .i64 (Int.tmod a0 86400)]) ?_ 1 _ rfl; (with_reducible repeat (first | refine blk_drewN ?_ _ | refine blk_drew ?_ | refine blk_alloc ?_ _)); exact BK120.out⟩, ⟨by repeat (first | (with_reducible first | exact HB.out | apply below_alloc | apply pw_below_drewN | apply below_drew1 | refine below_set ?_ GE119.out | refine below_set ?_ GE120.out) | exact HB.out)⟩⟩
              · rw [if_neg c13] at H
                have c13b0 : decide (12 < (wrap64 (x121001_2 + 1))) = false := decide_eq_false c13
                clear c13
                have H' := Aside0.mk H
                clear H
                have hnb20 := NB120_119.out
                have hnc20 := NB119_120.out
                have hcz21_0 : wr.cell? ⟨gb120, 0, none⟩ = some (.int .i64 x121000_2) := (blk_cell BK120.out 0).trans rfl
                have hcz21_1 : wr.cell? ⟨gb120, 1, none⟩ = some (.int .i64 x121001_2) := (blk_cell BK120.out 1).trans rfl
                have hcz21_2 : wr.cell? ⟨gb120, 2, none⟩ = some (.int .i64 0) := (blk_cell BK120.out 2).trans rfl
                have hcz21_3 : wr.cell? ⟨gb120, 3, none⟩ = some (.int .i64 (Int.tmod a0 86400)) := (blk_cell BK120.out 3).trans rfl
                have hfz21_0 := blk_frozen BK120.out 0
                have hfz21_1 := blk_frozen BK120.out 1
                have hfz21_2 := blk_frozen BK120.out 2
                have hfz21_3 := blk_frozen BK120.out 3
                go_wp2_with (first | ((with_reducible refine gate_callee (f := 64) rfl ?_); refine goesL_ (some 22) rfl rfl Try.func64 (by kernel_rfl) rfl #[.int .i64 x121000_2, .int .i64 x121001_2] rfl (by (try simp only [List.map_toArray, List.map_cons, List.map_nil]); first | done | rfl | (simp only [List.length_drop, List.length_take]; rfl)) ?_; (with_reducible refine (spec_l09Days.calls x121000_2 x121001_2 t121 _ A10.out).mono ?_); rintro e w22 ⟨rfl, hb⟩; refine ⟨_, rfl, ?_⟩; have n0_ := Aside0.mk (blk_below (g := gb119) (o := .cells #[.int .i64 0, .int .i64 0, .int .i64 0, .int .i64 0] 33 (0, 0)) (by (with_reducible repeat (first | refine blk_drewN ?_ _ | refine blk_drew ?_ | refine blk_alloc ?_ _)); exact BK119.out) hb); have n1_ := Aside0.mk (blk_below (g := gb120) (o := .cells #[.int .i64 x121000_2, .int .i64 x121001_2, .int .i64 0, .int .i64 (Int.tmod a0 86400)] 33 (0, 0)) (by (with_reducible repeat (first | refine blk_drewN ?_ _ | refine blk_drew ?_ | refine blk_alloc ?_ _)); exact BK120.out) hb); have n2_ := Aside0.mk (below_step (by repeat (first | (with_reducible first | exact HB.out | apply below_alloc | apply pw_below_drewN | apply below_drew1 | refine below_set ?_ GE119.out | refine below_set ?_ GE120.out) | exact HB.out)) hb); clear BK119; clear BK120; clear HB; have BK119 := n0_; have BK120 := n1_; have HB := n2_; clear n0_ n1_ n2_; (try clear hb); (try clear hb2); (try clear hk); (try clear hi); have hcz23_0 : w22.cell? ⟨gb120, 0, none⟩ = some (.int .i64 x121000_2) := (blk_cell BK120.out 0).trans rfl; have hcz23_1 : w22.cell? ⟨gb120, 1, none⟩ = some (.int .i64 x121001_2) := (blk_cell BK120.out 1).trans rfl; have hcz23_2 : w22.cell? ⟨gb120, 2, none⟩ = some (.int .i64 0) := (blk_cell BK120.out 2).trans rfl; have hcz23_3 : w22.cell? ⟨gb120, 3, none⟩ = some (.int .i64 (Int.tmod a0 86400)) := (blk_cell BK120.out 3).trans rfl; have hfz23_0 := blk_frozen BK120.out 0; have hfz23_1 := blk_frozen BK120.out 1; have hfz23_2 := blk_frozen BK120.out 2; have hfz23_3 := blk_frozen BK120.out 3) | ((with_reducible refine gate_callee (f := 64) rfl ?_); refine goesL_ (some 29) rfl rfl Try.func64 (by kernel_rfl) rfl #[.int .i64 x121000_2, .int .i64 x121001_2] rfl (by (try simp only [List.map_toArray, List.map_cons, List.map_nil]); first | done | rfl | (simp only [List.length_drop, List.length_take]; rfl)) ?_; (with_reducible refine (spec_l09Days.calls x121000_2 x121001_2 t122 _ A12.out).mono ?_); rintro e w24 ⟨rfl, hb⟩; refine ⟨_, rfl, ?_⟩; have n0_ := Aside0.mk (blk_below (g := gb119) (o := .cells #[.int .i64 0, .int .i64 0, .int .i64 0, .int .i64 0] 33 (0, 0)) (by (with_reducible repeat (first | refine blk_drewN ?_ _ | refine blk_drew ?_ | refine blk_alloc ?_ _)); exact BK119.out) hb); have n1_ := Aside0.mk (blk_below (g := gb120) (o := .cells #[.int .i64 x121000_2, .int .i64 x121001_2, .int .i64 0, .int .i64 (Int.tmod a0 86400)] 33 (0, 0)) (by (with_reducible repeat (first | refine blk_drewN ?_ _ | refine blk_drew ?_ | refine blk_alloc ?_ _)); exact BK120.out) hb); have n2_ := Aside0.mk (below_step (by repeat (first | (with_reducible first | exact HB.out | apply below_alloc | apply pw_below_drewN | apply below_drew1 | refine below_set ?_ GE119.out | refine below_set ?_ GE120.out) | exact HB.out)) hb); clear BK119; clear BK120; clear HB; have BK119 := n0_; have BK120 := n1_; have HB := n2_; clear n0_ n1_ n2_; (try clear hb); (try clear hb2); (try clear hk); (try clear hi); have hcz25_0 : w24.cell? ⟨gb120, 0, none⟩ = some (.int .i64 x121000_2) := (blk_cell BK120.out 0).trans rfl; have hcz25_1 : w24.cell? ⟨gb120, 1, none⟩ = some (.int .i64 x121001_2) := (blk_cell BK120.out 1).trans rfl; have hcz25_2 : w24.cell? ⟨gb120, 2, none⟩ = some (.int .i64 0) := (blk_cell BK120.out 2).trans rfl; have hcz25_3 : w24.cell? ⟨gb120, 3, none⟩ = some (.int .i64 (Int.tmod a0 86400)) := (blk_cell BK120.out 3).trans rfl; have hfz25_0 := blk_frozen BK120.out 0; have hfz25_1 := blk_frozen BK120.out 1; have hfz25_2 := blk_frozen BK120.out 2; have hfz25_3 := blk_frozen BK120.out 3))
                go_roundg k2
                case measure => have := HJ1.out; have := HK2.out; omega
                case rel => exact ⟨(wrap64 (x3_2 - t122)), (x121000_2), (wrap64 (x121001_2 + 1)), (by first | rfl | (simp; done) | (simp [*]; done)), H', ⟨by have := HJ1.out; have := HK2.out; omega⟩, ⟨by (with_reducible repeat (first | refine blk_drewN ?_ _ | refine blk_drew ?_ | refine blk_alloc ?_ _)); refine blk_far ?_ NB119_120.out _; (with_reducible repeat (first | refine blk_drewN ?_ _ | refine blk_drew ?_ | refine blk_alloc ?_ _)); exact BK119.out⟩, ⟨by (with_reducible repeat (first | refine blk_drewN ?_ _ | refine blk_drew ?_ | refine blk_alloc ?_ _)); refine blk_put (cs := #[.int .i64 x121000_2, .int .i64 x121001_2, .int .i64 0, .int .i64 (Int.tmod a0 86400)]) ?_ 1 _ rfl; (with_reducible repeat (first | refine blk_drewN ?_ _ | refine blk_drew ?_ | refine blk_alloc ?_ _)); exact BK120.out⟩, ⟨by repeat (first | (with_reducible first | exact HB.out | apply below_alloc | apply pw_below_drewN | apply below_drew1 | refine below_set ?_ GE119.out | refine below_set ?_ GE120.out) | exact HB.out)⟩⟩
            · rw [if_neg c11] at H
              have c11b0 : decide (t121 ≤ x3_2) = false := decide_eq_false c11
              clear c11
              simp only [Option.some.injEq, Prod.mk.injEq] at H
              obtain ⟨rfl, rfl, rfl, rfl⟩ := H
              have hnb26 := NB120_119.out
              have hnc26 := NB119_120.out
              have hcz27_0 : wr.cell? ⟨gb120, 0, none⟩ = some (.int .i64 x121000_2) := (blk_cell BK120.out 0).trans rfl
              have hcz27_1 : wr.cell? ⟨gb120, 1, none⟩ = some (.int .i64 x121001_2) := (blk_cell BK120.out 1).trans rfl
              have hcz27_2 : wr.cell? ⟨gb120, 2, none⟩ = some (.int .i64 0) := (blk_cell BK120.out 2).trans rfl
              have hcz27_3 : wr.cell? ⟨gb120, 3, none⟩ = some (.int .i64 (Int.tmod a0 86400)) := (blk_cell BK120.out 3).trans rfl
              have hfz27_0 := blk_frozen BK120.out 0
              have hfz27_1 := blk_frozen BK120.out 1
              have hfz27_2 := blk_frozen BK120.out 2
              have hfz27_3 := blk_frozen BK120.out 3
              go_wp2_with (first | ((with_reducible refine gate_callee (f := 64) rfl ?_); refine goesL_ (some 22) rfl rfl Try.func64 (by kernel_rfl) rfl #[.int .i64 x121000_2, .int .i64 x121001_2] rfl (by (try simp only [List.map_toArray, List.map_cons, List.map_nil]); first | done | rfl | (simp only [List.length_drop, List.length_take]; rfl)) ?_; (with_reducible refine (spec_l09Days.calls x121000_2 x121001_2 t121 _ A10.out).mono ?_); rintro e w28 ⟨rfl, hb⟩; refine ⟨_, rfl, ?_⟩; have n0_ := Aside0.mk (blk_below (g := gb119) (o := .cells #[.int .i64 0, .int .i64 0, .int .i64 0, .int .i64 0] 33 (0, 0)) (by (with_reducible repeat (first | refine blk_drewN ?_ _ | refine blk_drew ?_ | refine blk_alloc ?_ _)); exact BK119.out) hb); have n1_ := Aside0.mk (blk_below (g := gb120) (o := .cells #[.int .i64 x121000_2, .int .i64 x121001_2, .int .i64 0, .int .i64 (Int.tmod a0 86400)] 33 (0, 0)) (by (with_reducible repeat (first | refine blk_drewN ?_ _ | refine blk_drew ?_ | refine blk_alloc ?_ _)); exact BK120.out) hb); have n2_ := Aside0.mk (below_step (by repeat (first | (with_reducible first | exact HB.out | apply below_alloc | apply pw_below_drewN | apply below_drew1 | refine below_set ?_ GE119.out | refine below_set ?_ GE120.out) | exact HB.out)) hb); clear BK119; clear BK120; clear HB; have BK119 := n0_; have BK120 := n1_; have HB := n2_; clear n0_ n1_ n2_; (try clear hb); (try clear hb2); (try clear hk); (try clear hi); have hcz29_0 : w28.cell? ⟨gb120, 0, none⟩ = some (.int .i64 x121000_2) := (blk_cell BK120.out 0).trans rfl; have hcz29_1 : w28.cell? ⟨gb120, 1, none⟩ = some (.int .i64 x121001_2) := (blk_cell BK120.out 1).trans rfl; have hcz29_2 : w28.cell? ⟨gb120, 2, none⟩ = some (.int .i64 0) := (blk_cell BK120.out 2).trans rfl; have hcz29_3 : w28.cell? ⟨gb120, 3, none⟩ = some (.int .i64 (Int.tmod a0 86400)) := (blk_cell BK120.out 3).trans rfl; have hfz29_0 := blk_frozen BK120.out 0; have hfz29_1 := blk_frozen BK120.out 1; have hfz29_2 := blk_frozen BK120.out 2; have hfz29_3 := blk_frozen BK120.out 3; have hcz30_0 : w28.cell? ⟨gb119, 0, none⟩ = some (.int .i64 0) := (blk_cell BK119.out 0).trans rfl; have hcz30_1 : w28.cell? ⟨gb119, 1, none⟩ = some (.int .i64 0) := (blk_cell BK119.out 1).trans rfl; have hcz30_2 : w28.cell? ⟨gb119, 2, none⟩ = some (.int .i64 0) := (blk_cell BK119.out 2).trans rfl; have hcz30_3 : w28.cell? ⟨gb119, 3, none⟩ = some (.int .i64 0) := (blk_cell BK119.out 3).trans rfl; have hfz30_0 := blk_frozen BK119.out 0; have hfz30_1 := blk_frozen BK119.out 1; have hfz30_2 := blk_frozen BK119.out 2; have hfz30_3 := blk_frozen BK119.out 3))
              refine bodyPost_ret (results_cell_row rfl _ _ gb119 33 #[.int .i64 x121000_2, .int .i64 x121001_2, .int .i64 (wrap64 (x3_2 + 1)), .int .i64 (Int.tmod a0 86400)] (0, 0) _ rfl (by (with_reducible repeat (first | refine blk_drewN ?_ _ | refine blk_drew ?_ | refine blk_alloc ?_ _)); refine blk_put (cs := #[.int .i64 x121000_2, .int .i64 x121001_2, .int .i64 (wrap64 (x3_2 + 1)), .int .i64 0]) ?_ 3 _ rfl; (with_reducible repeat (first | refine blk_drewN ?_ _ | refine blk_drew ?_ | refine blk_alloc ?_ _)); refine blk_put (cs := #[.int .i64 x121000_2, .int .i64 x121001_2, .int .i64 0, .int .i64 0]) ?_ 2 _ rfl; (with_reducible repeat (first | refine blk_drewN ?_ _ | refine blk_drew ?_ | refine blk_alloc ?_ _)); refine blk_put (cs := #[.int .i64 x121000_2, .int .i64 0, .int .i64 0, .int .i64 0]) ?_ 1 _ rfl; (with_reducible repeat (first | refine blk_drewN ?_ _ | refine blk_drew ?_ | refine blk_alloc ?_ _)); refine blk_put (cs := #[.int .i64 0, .int .i64 0, .int .i64 0, .int .i64 0]) ?_ 0 _ rfl; (with_reducible repeat (first | refine blk_drewN ?_ _ | refine blk_drew ?_ | refine blk_alloc ?_ _)); refine blk_far ?_ NB119_120.out _; (with_reducible repeat (first | refine blk_drewN ?_ _ | refine blk_drew ?_ | refine blk_alloc ?_ _)); exact BK119.out) Try.underlying33 rfl (by kernel_rfl)) rfl ?_
              exact ⟨by first | rfl | (simp [errW_none, errW_some] <;> rfl) | (simp [*, errW_none, errW_some] <;> rfl), by repeat (first | (with_reducible first | exact HB.out | apply below_alloc | apply pw_below_drewN | apply below_drew1 | refine below_set ?_ GE119.out | refine below_set ?_ GE120.out) | exact HB.out)⟩

/-! ### impl_StampOf: function 31 -/
mutual
def impl_StampOf.l0 : Nat → Int → Int → Int → Int → Int → Option (Int × Int × Int × Int)
  | 0, _, _, _, _, _ => none
  | k + 1, x3, x126000, x126001, x126002, x126003 => (impl_yyearDays.f x126000).bind fun t126 => (if x3 ≥ t126 then ((impl_yyearDays.f x126000).bind fun t127 => (impl_StampOf.l0 k (wrap64 (x3 - t127)) (wrap64 (x126000 + 1)) x126001 x126002 x126003)) else (impl_StampOf.l1 k x3 x126000 x126001 x126002 x126003))
def impl_StampOf.l1 : Nat → Int → Int → Int → Int → Int → Option (Int × Int × Int × Int)
  | 0, _, _, _, _, _ => none
  | k + 1, x3, x126000, x126001, x126002, x126003 => (impl_ymonthDays.f x126000 x126001).bind fun t128 => (if x3 ≥ t128 then ((impl_ymonthDays.f x126000 x126001).bind fun t129 => (impl_StampOf.l1 k (wrap64 (x3 - t129)) x126000 (wrap64 (x126001 + 1)) x126002 x126003)) else (some (x126000, x126001, wrap64 (x3 + 1), x126003)))
end
def impl_StampOf.f (k : Nat) (a0 : Int) : Option (Int × Int × Int × Int) := (impl_yin.f a0 0 3155759999).bind fun t124 => (if t124 = true then (impl_StampOf.l0 k (wrap64 (Int.tdiv a0 86400)) 2000 1 0 (Int.tmod a0 86400)) else (some (0, 0, 0, 0)))
theorem impl_StampOf.mono_l : ∀ k, (∀ y0 y1 y2 y3 y4, LeO (impl_StampOf.l0 k y0 y1 y2 y3 y4) (impl_StampOf.l0 (k + 1) y0 y1 y2 y3 y4)) ∧ (∀ y0 y1 y2 y3 y4, LeO (impl_StampOf.l1 k y0 y1 y2 y3 y4) (impl_StampOf.l1 (k + 1) y0 y1 y2 y3 y4))
  | 0 => ⟨fun _ _ _ _ _ r h => by simp [impl_StampOf.l0] at h, fun _ _ _ _ _ r h => by simp [impl_StampOf.l1] at h⟩
  | k + 1 => by
    obtain ⟨ih0, ih1⟩ := impl_StampOf.mono_l k
    refine ⟨?_, ?_⟩
    · intro y0 y1 y2 y3 y4
      unfold impl_StampOf.l0
      repeat' first
      | (with_reducible exact ih0 _ _ _ _ _)
      | (with_reducible exact ih1 _ _ _ _ _)
      | (with_reducible exact LeO.refl _)
      | (with_reducible exact LeO.none _)
      | (with_reducible refine LeO.ite ?_ ?_)
      | (with_reducible refine LeO.bind ?_ (fun _ => ?_))
      | exact ih0 _ _ _ _ _
      | exact ih1 _ _ _ _ _
      | exact LeO.none _
      | refine LeO.ite ?_ ?_
      | refine LeO.bind ?_ (fun _ => ?_)
    · intro y0 y1 y2 y3 y4
      unfold impl_StampOf.l1
      repeat' first
      | (with_reducible exact ih0 _ _ _ _ _)
      | (with_reducible exact ih1 _ _ _ _ _)
      | (with_reducible exact LeO.refl _)
      | (with_reducible exact LeO.none _)
      | (with_reducible refine LeO.ite ?_ ?_)
      | (with_reducible refine LeO.bind ?_ (fun _ => ?_))
      | exact ih0 _ _ _ _ _
      | exact ih1 _ _ _ _ _
      | exact LeO.none _
      | refine LeO.ite ?_ ?_
      | refine LeO.bind ?_ (fun _ => ?_)
theorem impl_StampOf.mono : ∀ a0 k, LeO (impl_StampOf.f k a0) (impl_StampOf.f (k + 1) a0) := by
  intro a0 k
  obtain ⟨ih0, ih1⟩ := impl_StampOf.mono_l k
  unfold impl_StampOf.f
  repeat' first
      | (with_reducible exact ih0 _ _ _ _ _)
      | (with_reducible exact ih1 _ _ _ _ _)
      | (with_reducible exact LeO.refl _)
      | (with_reducible exact LeO.none _)
      | (with_reducible refine LeO.ite ?_ ?_)
      | (with_reducible refine LeO.bind ?_ (fun _ => ?_))
      | exact ih0 _ _ _ _ _
      | exact ih1 _ _ _ _ _
      | exact LeO.none _
      | refine LeO.ite ?_ ?_
      | refine LeO.bind ?_ (fun _ => ?_)
set_option maxHeartbeats 8000000 in
set_option maxRecDepth 100000 in
theorem impl_StampOf.calls (k : Nat) (a0 : Int) (r1 : Int) (r2 : Int) (r3 : Int) (r4 : Int) (w : World) (h : impl_StampOf.f k a0 = some (r1, r2, r3, r4)) :
    Calls Try.prog 31 #[.int .i64 a0] w fun e w' => e = .returned (.agg #[.int .i64 r1, .int .i64 r2, .int .i64 r3, .int .i64 r4]) ∧ Below w.heap.size w w' := by
  have hu33 := Try.underlying33
  have HB := Aside0.mk (Below.refl w.heap.size w)
  have H : ((impl_yin.f a0 0 3155759999).bind fun t124 => (if t124 = true then (impl_StampOf.l0 k (wrap64 (Int.tdiv a0 86400)) 2000 1 0 (Int.tmod a0 86400)) else (some (0, 0, 0, 0)))) = some (r1, r2, r3, r4) := h
  clear h
  replace H := Option.bind_eq_some_iff.mp H
  obtain ⟨t124, A20, H⟩ := H
  replace H : (if t124 = true then (impl_StampOf.l0 k (wrap64 (Int.tdiv a0 86400)) 2000 1 0 (Int.tmod a0 86400)) else (some (0, 0, 0, 0))) = some (r1, r2, r3, r4) := H
  have A2 := Aside0.mk A20
  clear A20
  by_cases c3 : t124 = true
  · subst c3
    have H1 : (impl_StampOf.l0 k (wrap64 (Int.tdiv a0 86400)) 2000 1 0 (Int.tmod a0 86400)) = some (r1, r2, r3, r4) := by rw [if_pos rfl] at H; exact H
    clear H
    have H := H1
    clear H1
    have H' := Aside0.mk H
    clear H
    go_enter Try.func31, Try.ntmps31
    go_wp2_with (first | ((with_reducible refine gate_dst (N := 2) rfl ?_); refine box_event ?hg (N := 2) ?hd (cs := #[.int .i64 0, .int .i64 0, .int .i64 0, .int .i64 0]) (t := 33) ?hr ?_; (case hd => rfl); (case hg => rfl); (case hr => first | (go_simp; done) | (go_simp; rfl)); intro gb123 hg w4 hbox hb; have n0_ := Aside0.mk (below_step (by repeat (first | (with_reducible first | exact HB.out | apply below_alloc | apply pw_below_drewN | apply below_drew1) | exact HB.out)) hb); have n1_ := Aside0.mk (hbox); have n2_ := Aside0.mk ((by rw [hg]; exact (below_size (by repeat (first | (with_reducible first | exact HB.out | apply below_alloc | apply pw_below_drewN | apply below_drew1) | exact HB.out))) : w.heap.size ≤ gb123)); have n3_ := Aside0.mk ((by rw [hg]; exact (below_size (by repeat (first | (with_reducible first | exact HB.out | apply below_alloc | apply pw_below_drewN | apply below_drew1) | exact HB.out))) : w.heap.size ≤ gb123)); clear HB; have HB := n0_; have BK123 := n1_; have GW123 := n2_; have GE123 := n3_; clear n0_ n1_ n2_ n3_; clear hb hbox hg) | ((with_reducible refine gate_callee (f := 67) rfl ?_); refine goesL_ (some 6) rfl rfl Try.func67 (by kernel_rfl) rfl #[.int .i64 a0, .int .i64 0, .int .i64 3155759999] rfl (by (try simp only [List.map_toArray, List.map_cons, List.map_nil]); first | done | rfl | (simp only [List.length_drop, List.length_take]; rfl)) ?_; (with_reducible refine (impl_yin.calls a0 0 3155759999 true _ A2.out).mono ?_); rintro e w' ⟨rfl, ⟨nd, rfl⟩⟩; refine ⟨_, rfl, ?_⟩) | ((with_reducible refine gate_dst (N := 4) rfl ?_); refine box_event ?hg (N := 4) ?hd (cs := #[.int .i64 0, .int .i64 0, .int .i64 0, .int .i64 0]) (t := 33) ?hr ?_; (case hd => rfl); (case hg => rfl); (case hr => first | (go_simp; done) | (go_simp; rfl)); intro gb125 hg w5 hbox hb; have n0_ := Aside0.mk (blk_below (g := gb123) (o := .cells #[.int .i64 0, .int .i64 0, .int .i64 0, .int .i64 0] 33 (0, 0)) (by (with_reducible repeat (first | refine blk_drewN ?_ _ | refine blk_drew ?_ | refine blk_alloc ?_ _)); exact BK123.out) hb); have n1_ := Aside0.mk (below_step (by repeat (first | (with_reducible first | exact HB.out | apply below_alloc | apply pw_below_drewN | apply below_drew1 | refine below_set ?_ GE123.out) | exact HB.out)) hb); have n2_ := Aside0.mk (hbox); have n3_ := Aside0.mk ((by rw [hg]; exact (below_size (by repeat (first | (with_reducible first | exact HB.out | apply below_alloc | apply pw_below_drewN | apply below_drew1 | refine below_set ?_ GE123.out) | exact HB.out))) : w.heap.size ≤ gb125)); have n4_ := Aside0.mk ((by rw [hg]; exact (below_size (by repeat (first | (with_reducible first | exact HB.out | apply below_alloc | apply pw_below_drewN | apply below_drew1 | refine below_set ?_ GE123.out) | exact HB.out))) : w.heap.size ≤ gb125)); have n5_ := Aside0.mk ((by rw [hg]; exact Nat.ne_of_lt (blk_lt (g := gb123) (o := .cells #[.int .i64 0, .int .i64 0, .int .i64 0, .int .i64 0] 33 (0, 0)) (by (with_reducible repeat (first | refine blk_drewN ?_ _ | refine blk_drew ?_ | refine blk_alloc ?_ _)); exact BK123.out)) : gb123 ≠ gb125)); have n6_ := Aside0.mk ((by rw [hg]; exact Nat.ne_of_gt (blk_lt (g := gb123) (o := .cells #[.int .i64 0, .int .i64 0, .int .i64 0, .int .i64 0] 33 (0, 0)) (by (with_reducible repeat (first | refine blk_drewN ?_ _ | refine blk_drew ?_ | refine blk_alloc ?_ _)); exact BK123.out)) : gb125 ≠ gb123)); clear BK123; clear HB; have BK123 := n0_; have HB := n1_; have BK125 := n2_; have GW125 := n3_; have GE125 := n4_; have NB123_125 := n5_; have NB125_123 := n6_; clear n0_ n1_ n2_ n3_ n4_ n5_ n6_; clear hb hbox hg; have hnb6 := NB125_123.out; have hnc6 := NB123_125.out; have hcz7_0 : w5.cell? ⟨gb125, 0, none⟩ = some (.int .i64 0) := (blk_cell BK125.out 0).trans rfl; have hcz7_1 : w5.cell? ⟨gb125, 1, none⟩ = some (.int .i64 0) := (blk_cell BK125.out 1).trans rfl; have hcz7_2 : w5.cell? ⟨gb125, 2, none⟩ = some (.int .i64 0) := (blk_cell BK125.out 2).trans rfl; have hcz7_3 : w5.cell? ⟨gb125, 3, none⟩ = some (.int .i64 0) := (blk_cell BK125.out 3).trans rfl; have hfz7_0 := blk_frozen BK125.out 0; have hfz7_1 := blk_frozen BK125.out 1; have hfz7_2 := blk_frozen BK125.out 2; have hfz7_3 := blk_frozen BK125.out 3))
    go_loopg [3] k (fun kq v3 w' => ∃ (x3_1 : Int) (x126000_1 : Int), v3 = .int .i64 x3_1 ∧ Aside0 (impl_StampOf.l0 kq x3_1 x126000_1 1 0 (Int.tmod a0 86400) = some (r1, r2, r3, r4)) ∧ Aside0 (kq ≤ k) ∧ Aside0 (w'.heap[gb123]? = some (.cells #[.int .i64 0, .int .i64 0, .int .i64 0, .int .i64 0] 33 (0, 0))) ∧ Aside0 (w'.heap[gb125]? = some (.cells #[.int .i64 x126000_1, .int .i64 1, .int .i64 0, .int .i64 (Int.tmod a0 86400)] 33 (0, 0))) ∧ Aside0 (Below w.heap.size w w'))
    case atStart => exact ⟨(wrap64 (Int.tdiv a0 86400)), (2000), (by first | rfl | (simp; done) | (simp [*]; done)), H', ⟨Nat.le_refl _⟩, ⟨by (with_reducible repeat (first | refine blk_drewN ?_ _ | refine blk_drew ?_ | refine blk_alloc ?_ _)); refine blk_far ?_ NB123_125.out _; (with_reducible repeat (first | refine blk_drewN ?_ _ | refine blk_drew ?_ | refine blk_alloc ?_ _)); refine blk_far ?_ NB123_125.out _; (with_reducible repeat (first | refine blk_drewN ?_ _ | refine blk_drew ?_ | refine blk_alloc ?_ _)); refine blk_far ?_ NB123_125.out _; (with_reducible repeat (first | refine blk_drewN ?_ _ | refine blk_drew ?_ | refine blk_alloc ?_ _)); refine blk_far ?_ NB123_125.out _; (with_reducible repeat (first | refine blk_drewN ?_ _ | refine blk_drew ?_ | refine blk_alloc ?_ _)); exact BK123.out⟩, ⟨by (with_reducible repeat (first | refine blk_drewN ?_ _ | refine blk_drew ?_ | refine blk_alloc ?_ _)); refine blk_put (cs := #[.int .i64 2000, .int .i64 1, .int .i64 0, .int .i64 0]) ?_ 3 _ rfl; (with_reducible repeat (first | refine blk_drewN ?_ _ | refine blk_drew ?_ | refine blk_alloc ?_ _)); refine blk_put (cs := #[.int .i64 2000, .int .i64 1, .int .i64 0, .int .i64 0]) ?_ 2 _ rfl; (with_reducible repeat (first | refine blk_drewN ?_ _ | refine blk_drew ?_ | refine blk_alloc ?_ _)); refine blk_put (cs := #[.int .i64 2000, .int .i64 0, .int .i64 0, .int .i64 0]) ?_ 1 _ rfl; (with_reducible repeat (first | refine blk_drewN ?_ _ | refine blk_drew ?_ | refine blk_alloc ?_ _)); refine blk_put (cs := #[.int .i64 0, .int .i64 0, .int .i64 0, .int .i64 0]) ?_ 0 _ rfl; (with_reducible repeat (first | refine blk_drewN ?_ _ | refine blk_drew ?_ | refine blk_alloc ?_ _)); exact BK125.out⟩, ⟨by repeat (first | (with_reducible first | exact HB.out | apply below_alloc | apply pw_below_drewN | apply below_drew1 | refine below_set ?_ GE123.out | refine below_set ?_ GE125.out) | exact HB.out)⟩⟩
    case round =>
      clear H'
      try clear p2
      try clear c3
      try clear c6
      try clear p6
      try clear hcz7_0
      try clear hcz7_1
      try clear hcz7_2
      try clear hcz7_3
      try clear hfz7_0
      try clear hfz7_1
      try clear hfz7_2
      try clear hfz7_3
      obtain ⟨x3_1, x126000_1, rfl, HA, HK1, BK123, BK125, HB⟩ := hrel
      cases gk with
      | zero => exact absurd HA.out (by simp [impl_StampOf.l0])
      | succ k1 =>
        have H := HA.out
        clear HA
        simp only [impl_StampOf.l0] at H
        replace H := Option.bind_eq_some_iff.mp H
        obtain ⟨t126, A80, H⟩ := H
        replace H : (if x3_1 ≥ t126 then ((impl_yyearDays.f x126000_1).bind fun t127 => (impl_StampOf.l0 k1 (wrap64 (x3_1 - t127)) (wrap64 (x126000_1 + 1)) 1 0 (Int.tmod a0 86400))) else (impl_StampOf.l1 k1 x3_1 x126000_1 1 0 (Int.tmod a0 86400))) = some (r1, r2, r3, r4) := H
        have A8 := Aside0.mk A80
        clear A80
        by_cases c9 : x3_1 ≥ t126
        · rw [if_pos c9] at H
          have c9b0 : decide (t126 ≤ x3_1) = true := decide_eq_true c9
          clear c9
          replace H := Option.bind_eq_some_iff.mp H
          obtain ⟨t127, A100, H⟩ := H
          replace H : (impl_StampOf.l0 k1 (wrap64 (x3_1 - t127)) (wrap64 (x126000_1 + 1)) 1 0 (Int.tmod a0 86400)) = some (r1, r2, r3, r4) := H
          have A10 := Aside0.mk A100
          clear A100
          have H' := Aside0.mk H
          clear H
          have hnb11 := NB125_123.out
          have hnc11 := NB123_125.out
          have hcz12_0 : wr.cell? ⟨gb125, 0, none⟩ = some (.int .i64 x126000_1) := (blk_cell BK125.out 0).trans rfl
          have hcz12_1 : wr.cell? ⟨gb125, 1, none⟩ = some (.int .i64 1) := (blk_cell BK125.out 1).trans rfl
          have hcz12_2 : wr.cell? ⟨gb125, 2, none⟩ = some (.int .i64 0) := (blk_cell BK125.out 2).trans rfl
          have hcz12_3 : wr.cell? ⟨gb125, 3, none⟩ = some (.int .i64 (Int.tmod a0 86400)) := (blk_cell BK125.out 3).trans rfl
          have hfz12_0 := blk_frozen BK125.out 0
          have hfz12_1 := blk_frozen BK125.out 1
          have hfz12_2 := blk_frozen BK125.out 2
          have hfz12_3 := blk_frozen BK125.out 3
          go_wp2_with (first | ((with_reducible refine gate_callee (f := 69) rfl ?_); refine goesL_ (some 17) rfl rfl Try.func69 (by kernel_rfl) rfl #[.int .i64 x126000_1] rfl (by (try simp only [List.map_toArray, List.map_cons, List.map_nil]); first | done | rfl | (simp only [List.length_drop, List.length_take]; rfl)) ?_; (with_reducible refine (impl_yyearDays.calls x126000_1 t126 _ A8.out).mono ?_); rintro e w' ⟨rfl, ⟨nd, rfl⟩⟩; refine ⟨_, rfl, ?_⟩) | ((with_reducible refine gate_callee (f := 69) rfl ?_); refine goesL_ (some 22) rfl rfl Try.func69 (by kernel_rfl) rfl #[.int .i64 x126000_1] rfl (by (try simp only [List.map_toArray, List.map_cons, List.map_nil]); first | done | rfl | (simp only [List.length_drop, List.length_take]; rfl)) ?_; (with_reducible refine (impl_yyearDays.calls x126000_1 t127 _ A10.out).mono ?_); rintro e w' ⟨rfl, ⟨nd, rfl⟩⟩; refine ⟨_, rfl, ?_⟩))
          go_roundg k1
          case measure => have := HK1.out; omega
          case rel => exact ⟨(wrap64 (x3_1 - t127)), (wrap64 (x126000_1 + 1)), (by first | rfl | (simp; done) | (simp [*]; done)), H', ⟨by have := HK1.out; omega⟩, ⟨by (with_reducible repeat (first | refine blk_drewN ?_ _ | refine blk_drew ?_ | refine blk_alloc ?_ _)); refine blk_far ?_ NB123_125.out _; (with_reducible repeat (first | refine blk_drewN ?_ _ | refine blk_drew ?_ | refine blk_alloc ?_ _)); exact BK123.out⟩, ⟨by (with_reducible repeat (first | refine blk_drewN ?_ _ | refine blk_drew ?_ | refine blk_alloc ?_ _)); refine blk_put (cs := #[.int .i64 x126000_1, .int .i64 1, .int .i64 0, .int .i64 (Int.tmod a0 86400)]) ?_ 0 _ rfl; (with_reducible repeat (first | refine blk_drewN ?_ _ | refine blk_drew ?_ | refine blk_alloc ?_ _)); exact BK125.out⟩, ⟨by repeat (first | (with_reducible first | exact HB.out | apply below_alloc | apply pw_below_drewN | apply below_drew1 | refine below_set ?_ GE123.out | refine below_set ?_ GE125.out) | exact HB.out)⟩⟩
        · rw [if_neg c9] at H
          have c9b0 : decide (t126 ≤ x3_1) = false := decide_eq_false c9
          clear c9
          have H' := Aside0.mk H
          clear H
          have hnb13 := NB125_123.out
          have hnc13 := NB123_125.out
          have hcz14_0 : wr.cell? ⟨gb125, 0, none⟩ = some (.int .i64 x126000_1) := (blk_cell BK125.out 0).trans rfl
          have hcz14_1 : wr.cell? ⟨gb125, 1, none⟩ = some (.int .i64 1) := (blk_cell BK125.out 1).trans rfl
          have hcz14_2 : wr.cell? ⟨gb125, 2, none⟩ = some (.int .i64 0) := (blk_cell BK125.out 2).trans rfl
          have hcz14_3 : wr.cell? ⟨gb125, 3, none⟩ = some (.int .i64 (Int.tmod a0 86400)) := (blk_cell BK125.out 3).trans rfl
          have hfz14_0 := blk_frozen BK125.out 0
          have hfz14_1 := blk_frozen BK125.out 1
          have hfz14_2 := blk_frozen BK125.out 2
          have hfz14_3 := blk_frozen BK125.out 3
          go_wp2_with (first | ((with_reducible refine gate_callee (f := 69) rfl ?_); refine goesL_ (some 17) rfl rfl Try.func69 (by kernel_rfl) rfl #[.int .i64 x126000_1] rfl (by (try simp only [List.map_toArray, List.map_cons, List.map_nil]); first | done | rfl | (simp only [List.length_drop, List.length_take]; rfl)) ?_; (with_reducible refine (impl_yyearDays.calls x126000_1 t126 _ A8.out).mono ?_); rintro e w' ⟨rfl, ⟨nd, rfl⟩⟩; refine ⟨_, rfl, ?_⟩))
          go_loopg [3] k1 (fun kq v3 w' => ∃ (x3_2 : Int) (x126001_2 : Int), v3 = .int .i64 x3_2 ∧ Aside0 (impl_StampOf.l1 kq x3_2 x126000_1 x126001_2 0 (Int.tmod a0 86400) = some (r1, r2, r3, r4)) ∧ Aside0 (kq ≤ k1) ∧ Aside0 (w'.heap[gb123]? = some (.cells #[.int .i64 0, .int .i64 0, .int .i64 0, .int .i64 0] 33 (0, 0))) ∧ Aside0 (w'.heap[gb125]? = some (.cells #[.int .i64 x126000_1, .int .i64 x126001_2, .int .i64 0, .int .i64 (Int.tmod a0 86400)] 33 (0, 0))) ∧ Aside0 (Below w.heap.size w w'))
          case atStart => exact ⟨(x3_1), (1), (by first | rfl | (simp; done) | (simp [*]; done)), H', ⟨Nat.le_refl _⟩, ⟨by (with_reducible repeat (first | refine blk_drewN ?_ _ | refine blk_drew ?_ | refine blk_alloc ?_ _)); exact BK123.out⟩, ⟨by (with_reducible repeat (first | refine blk_drewN ?_ _ | refine blk_drew ?_ | refine blk_alloc ?_ _)); exact BK125.out⟩, ⟨by repeat (first | (with_reducible first | exact HB.out | apply below_alloc | apply pw_below_drewN | apply below_drew1 | refine below_set ?_ GE123.out | refine below_set ?_ GE125.out) | exact HB.out)⟩⟩
          case round =>
            clear H'
            try clear c1
            try clear p2
            try clear c3
            try clear c6
            try clear p6
            try clear c9
            try clear c9b0
            try clear c11
            try clear c13
            try clear hcz12_0
            try clear hcz12_1
            try clear hcz12_2
            try clear hcz12_3
            try clear hcz14_0
            try clear hcz14_1
            try clear hcz14_2
            try clear hcz14_3
            try clear hcz7_0
            try clear hcz7_1
            try clear hcz7_2
            try clear hcz7_3
            try clear hfz12_0
            try clear hfz12_1
            try clear hfz12_2
            try clear hfz12_3
            try clear hfz14_0
            try clear hfz14_1
            try clear hfz14_2
            try clear hfz14_3
            try clear hfz7_0
            try clear hfz7_1
            try clear hfz7_2
            try clear hfz7_3
            try clear p2
            try clear p6
            obtain ⟨x3_2, x126001_2, rfl, HA, HK2, BK123, BK125, HB⟩ := hrel
            cases gk with
            | zero => exact absurd HA.out (by simp [impl_StampOf.l1])
            | succ k2 =>
              have H := HA.out
              clear HA
              simp only [impl_StampOf.l1] at H
              replace H := Option.bind_eq_some_iff.mp H
              obtain ⟨t128, A150, H⟩ := H
              replace H : (if x3_2 ≥ t128 then ((impl_ymonthDays.f x126000_1 x126001_2).bind fun t129 => (impl_StampOf.l1 k2 (wrap64 (x3_2 - t129)) x126000_1 (wrap64 (x126001_2 + 1)) 0 (Int.tmod a0 86400))) else (some (x126000_1, x126001_2, wrap64 (x3_2 + 1), (Int.tmod a0 86400)))) = some (r1, r2, r3, r4) := H
              have A15 := Aside0.mk A150
              clear A150
              by_cases c16 : x3_2 ≥ t128
              · rw [if_pos c16] at H
                have c16b0 : decide (t128 ≤ x3_2) = true := decide_eq_true c16
                clear c16
                replace H := Option.bind_eq_some_iff.mp H
                obtain ⟨t129, A170, H⟩ := H
                replace H : (impl_StampOf.l1 k2 (wrap64 (x3_2 - t129)) x126000_1 (wrap64 (x126001_2 + 1)) 0 (Int.tmod a0 86400)) = some (r1, r2, r3, r4) := H
                have A17 := Aside0.mk A170
                clear A170
                have H' := Aside0.mk H
                clear H
                have hnb18 := NB125_123.out
                have hnc18 := NB123_125.out
                have hcz19_0 : wr.cell? ⟨gb125, 0, none⟩ = some (.int .i64 x126000_1) := (blk_cell BK125.out 0).trans rfl
                have hcz19_1 : wr.cell? ⟨gb125, 1, none⟩ = some (.int .i64 x126001_2) := (blk_cell BK125.out 1).trans rfl
                have hcz19_2 : wr.cell? ⟨gb125, 2, none⟩ = some (.int .i64 0) := (blk_cell BK125.out 2).trans rfl
                have hcz19_3 : wr.cell? ⟨gb125, 3, none⟩ = some (.int .i64 (Int.tmod a0 86400)) := (blk_cell BK125.out 3).trans rfl
                have hfz19_0 := blk_frozen BK125.out 0
                have hfz19_1 := blk_frozen BK125.out 1
                have hfz19_2 := blk_frozen BK125.out 2
                have hfz19_3 := blk_frozen BK125.out 3
                go_wp2_with (first | ((with_reducible refine gate_callee (f := 68) rfl ?_); refine goesL_ (some 33) rfl rfl Try.func68 (by kernel_rfl) rfl #[.int .i64 x126000_1, .int .i64 x126001_2] rfl (by (try simp only [List.map_toArray, List.map_cons, List.map_nil]); first | done | rfl | (simp only [List.length_drop, List.length_take]; rfl)) ?_; (with_reducible refine (impl_ymonthDays.calls x126000_1 x126001_2 t128 _ A15.out).mono ?_); rintro e w' ⟨rfl, ⟨nd, rfl⟩⟩; refine ⟨_, rfl, ?_⟩) | ((with_reducible refine gate_callee (f := 68) rfl ?_); refine goesL_ (some 40) rfl rfl Try.func68 (by kernel_rfl) rfl #[.int .i64 x126000_1, .int .i64 x126001_2] rfl (by (try simp only [List.map_toArray, List.map_cons, List.map_nil]); first | done | rfl | (simp only [List.length_drop, List.length_take]; rfl)) ?_; (with_reducible refine (impl_ymonthDays.calls x126000_1 x126001_2 t129 _ A17.out).mono ?_); rintro e w' ⟨rfl, ⟨nd, rfl⟩⟩; refine ⟨_, rfl, ?_⟩))
                go_roundg k2
                case measure => have := HK1.out; have := HK2.out; omega
                case rel => exact ⟨(wrap64 (x3_2 - t129)), (wrap64 (x126001_2 + 1)), (by first | rfl | (simp; done) | (simp [*]; done)), H', ⟨by have := HK1.out; have := HK2.out; omega⟩, ⟨by (with_reducible repeat (first | refine blk_drewN ?_ _ | refine blk_drew ?_ | refine blk_alloc ?_ _)); refine blk_far ?_ NB123_125.out _; (with_reducible repeat (first | refine blk_drewN ?_ _ | refine blk_drew ?_ | refine blk_alloc ?_ _)); exact BK123.out⟩, ⟨by (with_reducible repeat (first | refine blk_drewN ?_ _ | refine blk_drew ?_ | refine blk_alloc ?_ _)); refine blk_put (cs := #[.int .i64 x126000_1, .int .i64 x126001_2, .int .i64 0, .int .i64 (Int.tmod a0 86400)]) ?_ 1 _ rfl; (with_reducible repeat (first | refine blk_drewN ?_ _ | refine blk_drew ?_ | refine blk_alloc ?_ _)); exact BK125.out⟩, ⟨by repeat (first | (with_reducible first | exact HB.out | apply below_alloc | apply pw_below_drewN | apply below_drew1 | refine below_set ?_ GE123.out | refine below_set ?_ GE125.out) | exact HB.out)⟩⟩
              · rw [if_neg c16] at H
                have c16b0 : decide (t128 ≤ x3_2) = false := decide_eq_false c16
                clear c16
                simp only [Option.some.injEq, Prod.mk.injEq] at H
                obtain ⟨rfl, rfl, rfl, rfl⟩ := H
                have hnb20 := NB125_123.out
                have hnc20 := NB123_125.out
                have hcz21_0 : wr.cell? ⟨gb125, 0, none⟩ = some (.int .i64 x126000_1) := (blk_cell BK125.out 0).trans rfl
                have hcz21_1 : wr.cell? ⟨gb125, 1, none⟩ = some (.int .i64 x126001_2) := (blk_cell BK125.out 1).trans rfl
                have hcz21_2 : wr.cell? ⟨gb125, 2, none⟩ = some (.int .i64 0) := (blk_cell BK125.out 2).trans rfl
                have hcz21_3 : wr.cell? ⟨gb125, 3, none⟩ = some (.int .i64 (Int.tmod a0 86400)) := (blk_cell BK125.out 3).trans rfl
                have hfz21_0 := blk_frozen BK125.out 0
                have hfz21_1 := blk_frozen BK125.out 1
                have hfz21_2 := blk_frozen BK125.out 2
                have hfz21_3 := blk_frozen BK125.out 3
                go_wp2_with (first | ((with_reducible refine gate_callee (f := 68) rfl ?_); refine goesL_ (some 33) rfl rfl Try.func68 (by kernel_rfl) rfl #[.int .i64 x126000_1, .int .i64 x126001_2] rfl (by (try simp only [List.map_toArray, List.map_cons, List.map_nil]); first | done | rfl | (simp only [List.length_drop, List.length_take]; rfl)) ?_; (with_reducible refine (impl_ymonthDays.calls x126000_1 x126001_2 t128 _ A15.out).mono ?_); rintro e w' ⟨rfl, ⟨nd, rfl⟩⟩; refine ⟨_, rfl, ?_⟩; have hcz22_0 : wr.cell? ⟨gb123, 0, none⟩ = some (.int .i64 0) := (blk_cell BK123.out 0).trans rfl; have hcz22_1 : wr.cell? ⟨gb123, 1, none⟩ = some (.int .i64 0) := (blk_cell BK123.out 1).trans rfl; have hcz22_2 : wr.cell? ⟨gb123, 2, none⟩ = some (.int .i64 0) := (blk_cell BK123.out 2).trans rfl; have hcz22_3 : wr.cell? ⟨gb123, 3, none⟩ = some (.int .i64 0) := (blk_cell BK123.out 3).trans rfl; have hfz22_0 := blk_frozen BK123.out 0; have hfz22_1 := blk_frozen BK123.out 1; have hfz22_2 := blk_frozen BK123.out 2; have hfz22_3 := blk_frozen BK123.out 3))
                refine bodyPost_ret (results_cell_row rfl _ _ gb123 33 #[.int .i64 x126000_1, .int .i64 x126001_2, .int .i64 (wrap64 (x3_2 + 1)), .int .i64 (Int.tmod a0 86400)] (0, 0) _ rfl (by (with_reducible repeat (first | refine blk_drewN ?_ _ | refine blk_drew ?_ | refine blk_alloc ?_ _)); refine blk_put (cs := #[.int .i64 x126000_1, .int .i64 x126001_2, .int .i64 (wrap64 (x3_2 + 1)), .int .i64 0]) ?_ 3 _ rfl; (with_reducible repeat (first | refine blk_drewN ?_ _ | refine blk_drew ?_ | refine blk_alloc ?_ _)); refine blk_put (cs := #[.int .i64 x126000_1, .int .i64 x126001_2, .int .i64 0, .int .i64 0]) ?_ 2 _ rfl; (with_reducible repeat (first | refine blk_drewN ?_ _ | refine blk_drew ?_ | refine blk_alloc ?_ _)); refine blk_put (cs := #[.int .i64 x126000_1, .int .i64 0, .int .i64 0, .int .i64 0]) ?_ 1 _ rfl; (with_reducible repeat (first | refine blk_drewN ?_ _ | refine blk_drew ?_ | refine blk_alloc ?_ _)); refine blk_put (cs := #[.int .i64 0, .int .i64 0, .int .i64 0, .int .i64 0]) ?_ 0 _ rfl; (with_reducible repeat (first | refine blk_drewN ?_ _ | refine blk_drew ?_ | refine blk_alloc ?_ _)); refine blk_far ?_ NB123_125.out _; (with_reducible repeat (first | refine blk_drewN ?_ _ | refine blk_drew ?_ | refine blk_alloc ?_ _)); exact BK123.out) Try.underlying33 rfl (by kernel_rfl)) rfl ?_
                exact ⟨by first | rfl | (simp [errW_none, errW_some] <;> rfl) | (simp [*, errW_none, errW_some] <;> rfl), by repeat (first | (with_reducible first | exact HB.out | apply below_alloc | apply pw_below_drewN | apply below_drew1 | refine below_set ?_ GE123.out | refine below_set ?_ GE125.out) | exact HB.out)⟩
  · replace c3 := Bool.eq_false_iff.mpr c3
    subst c3
    have H1 : (some (0, 0, 0, 0)) = some (r1, r2, r3, r4) := by rw [if_neg (show ¬ (false = true) by decide)] at H; exact H
    clear H
    have H := H1
    clear H1
    simp only [Option.some.injEq, Prod.mk.injEq] at H
    obtain ⟨rfl, rfl, rfl, rfl⟩ := H
    go_enter Try.func31, Try.ntmps31
    go_wp2_with (first | ((with_reducible refine gate_dst (N := 2) rfl ?_); refine box_event ?hg (N := 2) ?hd (cs := #[.int .i64 0, .int .i64 0, .int .i64 0, .int .i64 0]) (t := 33) ?hr ?_; (case hd => rfl); (case hg => rfl); (case hr => first | (go_simp; done) | (go_simp; rfl)); intro gb123 hg w23 hbox hb; have n0_ := Aside0.mk (below_step (by repeat (first | (with_reducible first | exact HB.out | apply below_alloc | apply pw_below_drewN | apply below_drew1) | exact HB.out)) hb); have n1_ := Aside0.mk (hbox); have n2_ := Aside0.mk ((by rw [hg]; exact (below_size (by repeat (first | (with_reducible first | exact HB.out | apply below_alloc | apply pw_below_drewN | apply below_drew1) | exact HB.out))) : w.heap.size ≤ gb123)); have n3_ := Aside0.mk ((by rw [hg]; exact (below_size (by repeat (first | (with_reducible first | exact HB.out | apply below_alloc | apply pw_below_drewN | apply below_drew1) | exact HB.out))) : w.heap.size ≤ gb123)); clear HB; have HB := n0_; have BK123 := n1_; have GW123 := n2_; have GE123 := n3_; clear n0_ n1_ n2_ n3_; clear hb hbox hg) | ((with_reducible refine gate_callee (f := 67) rfl ?_); refine goesL_ (some 6) rfl rfl Try.func67 (by kernel_rfl) rfl #[.int .i64 a0, .int .i64 0, .int .i64 3155759999] rfl (by (try simp only [List.map_toArray, List.map_cons, List.map_nil]); first | done | rfl | (simp only [List.length_drop, List.length_take]; rfl)) ?_; (with_reducible refine (impl_yin.calls a0 0 3155759999 false _ A2.out).mono ?_); rintro e w' ⟨rfl, ⟨nd, rfl⟩⟩; refine ⟨_, rfl, ?_⟩; have hcz24_0 : w23.cell? ⟨gb123, 0, none⟩ = some (.int .i64 0) := (blk_cell BK123.out 0).trans rfl; have hcz24_1 : w23.cell? ⟨gb123, 1, none⟩ = some (.int .i64 0) := (blk_cell BK123.out 1).trans rfl; have hcz24_2 : w23.cell? ⟨gb123, 2, none⟩ = some (.int .i64 0) := (blk_cell BK123.out 2).trans rfl; have hcz24_3 : w23.cell? ⟨gb123, 3, none⟩ = some (.int .i64 0) := (blk_cell BK123.out 3).trans rfl; have hfz24_0 := blk_frozen BK123.out 0; have hfz24_1 := blk_frozen BK123.out 1; have hfz24_2 := blk_frozen BK123.out 2; have hfz24_3 := blk_frozen BK123.out 3))
    refine bodyPost_ret (results_cell_row rfl _ _ gb123 33 #[.int .i64 0, .int .i64 0, .int .i64 0, .int .i64 0] (0, 0) _ rfl (by (with_reducible repeat (first | refine blk_drewN ?_ _ | refine blk_drew ?_ | refine blk_alloc ?_ _)); refine blk_put (cs := #[.int .i64 0, .int .i64 0, .int .i64 0, .int .i64 0]) ?_ 3 _ rfl; (with_reducible repeat (first | refine blk_drewN ?_ _ | refine blk_drew ?_ | refine blk_alloc ?_ _)); refine blk_put (cs := #[.int .i64 0, .int .i64 0, .int .i64 0, .int .i64 0]) ?_ 2 _ rfl; (with_reducible repeat (first | refine blk_drewN ?_ _ | refine blk_drew ?_ | refine blk_alloc ?_ _)); refine blk_put (cs := #[.int .i64 0, .int .i64 0, .int .i64 0, .int .i64 0]) ?_ 1 _ rfl; (with_reducible repeat (first | refine blk_drewN ?_ _ | refine blk_drew ?_ | refine blk_alloc ?_ _)); refine blk_put (cs := #[.int .i64 0, .int .i64 0, .int .i64 0, .int .i64 0]) ?_ 0 _ rfl; (with_reducible repeat (first | refine blk_drewN ?_ _ | refine blk_drew ?_ | refine blk_alloc ?_ _)); exact BK123.out) Try.underlying33 rfl (by kernel_rfl)) rfl ?_
    exact ⟨by first | rfl | (simp [errW_none, errW_some] <;> rfl) | (simp [*, errW_none, errW_some] <;> rfl), by repeat (first | (with_reducible first | exact HB.out | apply below_alloc | apply pw_below_drewN | apply below_drew1 | refine below_set ?_ GE123.out) | exact HB.out)⟩

/-- A state of type 87 at block g of W; what its slices lead to came in by w0. -/
def IsS87 (w0 W : World) (g : Nat) (f0 : List Int) (f1 : Int) (f2 : Int) (f3 : Int) : Prop := ∃ A0 c0, W.heap[g]? = some (.cells #[.slice A0 f0.length c0, .int .i64 f1, .int .u64 f2, .int .i64 f3] 87 (0, 0)) ∧ w0.heap.size ≤ g ∧ Kd.C (Kd.int .u8) w0 A0 f0.length f0
theorem IsS87.grown {w0 W : World} {g : Nat} {f0 : List Int} {f1 : Int} {f2 : Int} {f3 : Int} {W1 : World} {row : Option Nat} (h : IsS87 w0 W g f0 f1 f2 f3) (hw : W.grownBy W1 row) (hne : some g ≠ row) : IsS87 w0 W1 g f0 f1 f2 f3 := by
  obtain ⟨A0, c0, hb, hg, hr0⟩ := h
  exact ⟨A0, c0, blk_grown hb hw hne, hg, hr0⟩
theorem IsS87.own_neN {w0 W : World} {g : Nat} {f0 : List Int} {f1 : Int} {f2 : Int} {f3 : Int} {α : Type} {d : Kd α} {e : Nat} {base : Nat} {ok : Nat → Prop} {v : Value} {xs : List α} (h : IsS87 w0 W g f0 f1 f2 f3) (ho : Kd.N d e W base ok v xs) (ht : e ≠ 87) : some g ≠ v.ownBlock := by
  obtain ⟨A0, c0, hb, hg, hr0⟩ := h
  exact Kd.N_ne ho hb ht
theorem IsS87.fresh {w0 W : World} {g : Nat} {f0 : List Int} {f1 : Int} {f2 : Int} {f3 : Int} (h : IsS87 w0 W g f0 f1 f2 f3) : ∀ k, W.heap.size ≤ k → k ≠ g := by
  obtain ⟨A0, c0, hb, hg, hr0⟩ := h
  exact Kd.freshB hb
theorem IsS87.kept {w0 W : World} {g : Nat} {f0 : List Int} {f1 : Int} {f2 : Int} {f3 : Int} {W1 : World} {S : Nat → Prop} (h : IsS87 w0 W g f0 f1 f2 f3) (hk : Kept W W1 S) (hne : ¬ S g) : IsS87 w0 W1 g f0 f1 f2 f3 := by
  obtain ⟨A0, c0, hb, hg, hr0⟩ := h
  exact ⟨A0, c0, blk_kept hb hk hne, hg, hr0⟩
theorem IsS87.below {w0 W : World} {g : Nat} {f0 : List Int} {f1 : Int} {f2 : Int} {f3 : Int} {W1 : World} (h : IsS87 w0 W g f0 f1 f2 f3) (hw : Below W.heap.size W W1) : IsS87 w0 W1 g f0 f1 f2 f3 := h.grown (grown_of_below hw none) (by simp)
theorem IsS87.alloc {w0 W : World} {g : Nat} {f0 : List Int} {f1 : Int} {f2 : Int} {f3 : Int} (h : IsS87 w0 W g f0 f1 f2 f3) (o : Obj) : IsS87 w0 (W.alloc o) g f0 f1 f2 f3 := h.below (below_alloc (Below.refl _ _) o)
theorem IsS87.drewN {w0 W : World} {g : Nat} {f0 : List Int} {f1 : Int} {f2 : Int} {f3 : Int} (h : IsS87 w0 W g f0 f1 f2 f3) (m : Nat) : IsS87 w0 (W.drewN m) g f0 f1 f2 f3 := h
theorem IsS87.drew {w0 W : World} {g : Nat} {f0 : List Int} {f1 : Int} {f2 : Int} {f3 : Int} (h : IsS87 w0 W g f0 f1 f2 f3) : IsS87 w0 W.drew g f0 f1 f2 f3 := h
theorem IsS87.at_ {w0 W : World} {g : Nat} {f0 : List Int} {f1 : Int} {f2 : Int} {f3 : Int} {w' : World} {m : Nat} (hq : W.drewN m = w') (h : IsS87 w0 W g f0 f1 f2 f3) : IsS87 w0 w' g f0 f1 f2 f3 := by subst hq; exact IsS87.drewN h m
theorem IsS87.apart {w0 W : World} {g : Nat} {f0 : List Int} {f1 : Int} {f2 : Int} {f3 : Int} {α : Type} {d : Kd α} {e : Nat} {base : Nat} {ok : Nat → Prop} {v : Value} {xs : List α} (h : IsS87 w0 W g f0 f1 f2 f3) (ho : d.R e W base ok v xs) (ht : ∀ q, q ∈ e :: d.E → q ≠ 87) : d.R e W base (fun k => ok k ∧ k ≠ g) v xs := by
  obtain ⟨A0, c0, hb, hg, hr0⟩ := h
  exact Kd.R_types ho hb ht
theorem IsS87.own_ne {w0 W : World} {g : Nat} {f0 : List Int} {f1 : Int} {f2 : Int} {f3 : Int} {α : Type} {d : Kd α} {e : Nat} {base : Nat} {ok : Nat → Prop} {v : Value} {xs : List α} (h : IsS87 w0 W g f0 f1 f2 f3) (ho : d.R e W base ok v xs) (ht : e ≠ 87) : some g ≠ v.ownBlock := by
  obtain ⟨A0, c0, hb, hg, hr0⟩ := h
  exact Kd.R_ne ho hb ht
theorem IsS87.apartQ {w0 W : World} {g : Nat} {f0 : List Int} {f1 : Int} {f2 : Int} {f3 : Int} {α : Type} {d : Kd α} {e : Nat} {base : Nat} {ok : Nat → Prop} {v : Value} {xs : List α} (h : IsS87 w0 W g f0 f1 f2 f3) (ho : d.Q e W base ok v xs) (ht : ∀ q, q ∈ e :: d.E → q ≠ 87) : d.Q e W base (fun k => ok k ∧ k ≠ g) v xs := by
  obtain ⟨A0, c0, hb, hg, hr0⟩ := h
  exact Kd.Q_types ho hb ht
theorem IsS87.own_neQ {w0 W : World} {g : Nat} {f0 : List Int} {f1 : Int} {f2 : Int} {f3 : Int} {α : Type} {d : Kd α} {e : Nat} {base : Nat} {ok : Nat → Prop} {v : Value} {xs : List α} (h : IsS87 w0 W g f0 f1 f2 f3) (ho : d.Q e W base ok v xs) (ht : e ≠ 87) : some g ≠ v.ownBlock := by
  obtain ⟨A0, c0, hb, hg, hr0⟩ := h
  exact Kd.Q_ne ho hb ht
theorem IsS87.apartS {w0 W : World} {g : Nat} {f0 : List Int} {f1 : Int} {f2 : Int} {f3 : Int} {α : Type} {d : Kd α} {e : Nat} {base : Nat} {ok : Nat → Prop} {v : Value} {xs : List α} (h : IsS87 w0 W g f0 f1 f2 f3) (ho : d.S e W base ok v xs) (ht : ∀ q, q ∈ e :: d.E → q ≠ 87) : d.S e W base (fun k => ok k ∧ k ≠ g) v xs := by
  obtain ⟨A0, c0, hb, hg, hr0⟩ := h
  exact Kd.S_types ho hb ht
theorem IsS87.own_neS {w0 W : World} {g : Nat} {f0 : List Int} {f1 : Int} {f2 : Int} {f3 : Int} {α : Type} {d : Kd α} {e : Nat} {base : Nat} {ok : Nat → Prop} {v : Value} {xs : List α} (h : IsS87 w0 W g f0 f1 f2 f3) (ho : d.S e W base ok v xs) (ht : e ≠ 87) : some g ≠ v.ownBlock := by
  obtain ⟨A0, c0, hb, hg, hr0⟩ := h
  exact Kd.S_ne ho hb ht
theorem IsS87.lt {w0 W : World} {g : Nat} {f0 : List Int} {f1 : Int} {f2 : Int} {f3 : Int} (h : IsS87 w0 W g f0 f1 f2 f3) : g < W.heap.size := by
  obtain ⟨A0, c0, hb, hg, hr0⟩ := h
  exact blk_lt hb
theorem IsS87.ge {w0 W : World} {g : Nat} {f0 : List Int} {f1 : Int} {f2 : Int} {f3 : Int} (h : IsS87 w0 W g f0 f1 f2 f3) : w0.heap.size ≤ g := by
  obtain ⟨A0, c0, hb, hg, hr0⟩ := h
  exact hg
theorem IsS87.ne_blk {w0 W : World} {g : Nat} {f0 : List Int} {f1 : Int} {f2 : Int} {f3 : Int} {a : Nat} {cs : Array Value} {t : TypeId} {fr : Nat × Nat} (h : IsS87 w0 W g f0 f1 f2 f3) (hb2 : W.heap[a]? = some (.cells cs t fr)) (ht : t ≠ 87) : g ≠ a := by
  obtain ⟨A0, c0, hb, hg, hr0⟩ := h
  rintro rfl
  rw [hb] at hb2
  injection hb2 with hb2
  injection hb2 with _ ht2
  exact ht ht2.symm
theorem IsS87.far {w0 W : World} {g : Nat} {f0 : List Int} {f1 : Int} {f2 : Int} {f3 : Int} {p : Addr} (h : IsS87 w0 W g f0 f1 f2 f3) (hne : g ≠ p.block) (u : Value) : IsS87 w0 (W.setCell p u) g f0 f1 f2 f3 := by
  obtain ⟨A0, c0, hb, hg, hr0⟩ := h
  exact ⟨A0, c0, blk_far hb hne u, hg, hr0⟩
theorem cellS87_0 {W : World} {g : Nat} {A0 : Option Addr} {c0 : Nat} {f0 : List Int} {f1 : Int} {f2 : Int} {f3 : Int} (h : W.heap[g]? = some (.cells #[.slice A0 f0.length c0, .int .i64 f1, .int .u64 f2, .int .i64 f3] 87 (0, 0))) : W.cell? ⟨g, 0, none⟩ = some (.slice A0 f0.length c0) := (blk_cell h 0).trans rfl
theorem cellS87_1 {W : World} {g : Nat} {A0 : Option Addr} {c0 : Nat} {f0 : List Int} {f1 : Int} {f2 : Int} {f3 : Int} (h : W.heap[g]? = some (.cells #[.slice A0 f0.length c0, .int .i64 f1, .int .u64 f2, .int .i64 f3] 87 (0, 0))) : W.cell? ⟨g, 1, none⟩ = some (.int .i64 f1) := (blk_cell h 1).trans rfl
theorem IsS87.set_1 {w0 W : World} {g : Nat} {f0 : List Int} {f1 : Int} {f2 : Int} {f3 : Int} (h : IsS87 w0 W g f0 f1 f2 f3) (x : Int) : IsS87 w0 (W.setCell ⟨g, 1, none⟩ (.int .i64 x)) g f0 x f2 f3 := by
  obtain ⟨A0, c0, hb, hg, hr0⟩ := h
  exact ⟨A0, c0, by simpa using blk_set hb 1 (.int .i64 x), hg, hr0⟩
theorem cellS87_2 {W : World} {g : Nat} {A0 : Option Addr} {c0 : Nat} {f0 : List Int} {f1 : Int} {f2 : Int} {f3 : Int} (h : W.heap[g]? = some (.cells #[.slice A0 f0.length c0, .int .i64 f1, .int .u64 f2, .int .i64 f3] 87 (0, 0))) : W.cell? ⟨g, 2, none⟩ = some (.int .u64 f2) := (blk_cell h 2).trans rfl
theorem IsS87.set_2 {w0 W : World} {g : Nat} {f0 : List Int} {f1 : Int} {f2 : Int} {f3 : Int} (h : IsS87 w0 W g f0 f1 f2 f3) (x : Int) : IsS87 w0 (W.setCell ⟨g, 2, none⟩ (.int .u64 x)) g f0 f1 x f3 := by
  obtain ⟨A0, c0, hb, hg, hr0⟩ := h
  exact ⟨A0, c0, by simpa using blk_set hb 2 (.int .u64 x), hg, hr0⟩
theorem cellS87_3 {W : World} {g : Nat} {A0 : Option Addr} {c0 : Nat} {f0 : List Int} {f1 : Int} {f2 : Int} {f3 : Int} (h : W.heap[g]? = some (.cells #[.slice A0 f0.length c0, .int .i64 f1, .int .u64 f2, .int .i64 f3] 87 (0, 0))) : W.cell? ⟨g, 3, none⟩ = some (.int .i64 f3) := (blk_cell h 3).trans rfl
theorem IsS87.set_3 {w0 W : World} {g : Nat} {f0 : List Int} {f1 : Int} {f2 : Int} {f3 : Int} (h : IsS87 w0 W g f0 f1 f2 f3) (x : Int) : IsS87 w0 (W.setCell ⟨g, 3, none⟩ (.int .i64 x)) g f0 f1 f2 x := by
  obtain ⟨A0, c0, hb, hg, hr0⟩ := h
  exact ⟨A0, c0, by simpa using blk_set hb 3 (.int .i64 x), hg, hr0⟩
theorem IsS87.new (w0 W : World) (A0 : Option Addr) (c0 : Nat) (f0 : List Int) (f1 : Int) (f2 : Int) (f3 : Int) (hB : Below w0.heap.size w0 W) (hr0 : Kd.C (Kd.int .u8) w0 A0 f0.length f0) : IsS87 w0 (W.alloc (.cells #[.slice A0 f0.length c0, .int .i64 f1, .int .u64 f2, .int .i64 f3] 87)) W.heap.size f0 f1 f2 f3 := ⟨A0, c0, by simpa using heap_alloc_new W _, hB.size, hr0⟩

/-! ### spec_l01Source: function 75 -/
def srcStep (m b : Int) : Int := IntKind.u64.wrap (Go.bits .xor .u64 m (IntKind.u64.wrap b) * 1099511628211)
def srcSeed (l : List Int) : Nat → Int
  | 0 => 88172645463325252
  | n + 1 => srcStep (srcSeed l n) (rd l n)
def spec_l01Source.f (l0 : List Int) : Option (List Int × Int × Int × Int) := some (l0, 0, srcSeed l0 (min l0.length 64), min (l0.length : Int) 12)
set_option maxHeartbeats 4000000 in
set_option maxRecDepth 100000 in
theorem spec_l01Source.calls (A0 : Option Addr) (c0 : Nat) (l0 : List Int) (r1 : List Int) (r2 : Int) (r3 : Int) (r4 : Int) (w0 w : World) (hB : Below w0.heap.size w0 w) (hr0 : Kd.C (Kd.int .u8) w0 A0 l0.length l0) (hc0 : l0.length ≤ c0) (h : spec_l01Source.f l0 = some (r1, r2, r3, r4)) :
    Calls Try.prog 75 #[.slice A0 l0.length c0] w fun e w' => ∃ g_ : Nat, e = .returned (.pointer (some ⟨g_, 0, none⟩)) ∧ IsS87 w0 w' g_ r1 r2 r3 r4 ∧ Below w0.heap.size w0 w' ∧ Below w.heap.size w w' := by
  unfold spec_l01Source.f at h
  simp only [Option.some.injEq, Prod.mk.injEq] at h
  obtain ⟨rfl, rfl, rfl, rfl⟩ := h
  have HR := Aside0.mk hr0
  have HB0 := Aside0.mk hB
  have hmx := hr0.2.1
  clear hr0 hB
  have hge : Aside0 (w0.heap.size ≤ w.heap.size) := ⟨HB0.out.size⟩
  go_enter Try.func75, Try.ntmps75
  go_wp2
  go_loopg [4] l0.length (fun gq v4 wr => ∃ j : Nat, v4 = .int .i64 j ∧ Aside0 (j ≤ l0.length) ∧ Aside0 (j ≤ 64) ∧ Aside0 (l0.length - j ≤ gq) ∧ Aside0 (wr.heap[w.heap.size]? = some (.cells #[.slice A0 l0.length c0, .int .i64 0, .int .u64 (srcSeed l0 j), .int .i64 0] 87 (0, 0))) ∧ Aside0 (Below w.heap.size w wr))
  case atStart => exact ⟨0, rfl, ⟨Nat.zero_le _⟩, ⟨Nat.zero_le _⟩, ⟨by omega⟩, ⟨blk_new _ _⟩, ⟨below_alloc (Below.refl _ _) _⟩⟩
  case round =>
    obtain ⟨j, rfl, hj, hj64, hg, BK, HB⟩ := hrel
    by_cases c1 : j < l0.length
    · by_cases c2 : j < 64
      · have c1b : decide (j < l0.length) = true := decide_eq_true c1
        have c1c : ((j : Int) < (l0.length : Int)) := by omega
        have c2b : decide (j < 64) = true := decide_eq_true c2
        have c2c : decide ((j : Int) < 64) = true := decide_eq_true (by omega)
        obtain ⟨ad, e_, hx⟩ := Kd.at_int HR.out (j : Int) (by omega) (by omega)
        cases e_
        replace hx := pw_cell_below HB.out (pw_cell_below HB0.out hx)
        rw [Int.toNat_natCast] at hx
        have hm : wr.cell? ⟨w.heap.size, 2, none⟩ = some (.int .u64 (srcSeed l0 j)) := (blk_cell BK.out 2).trans rfl
        have hf : wr.frozen? ⟨w.heap.size, 2, none⟩ = false := blk_frozen BK.out 2
        obtain ⟨m, hmm⟩ : ∃ m, srcSeed l0 j = m := ⟨_, rfl⟩
        obtain ⟨x, hxx⟩ : ∃ x, rd l0 j = x := ⟨_, rfl⟩
        have HM := Aside0.mk hmm
        have HX := Aside0.mk hxx
        rw [hmm] at hm
        rw [hxx] at hx
        have hj1 : ((j : Int) + 1) = ((j + 1 : Nat) : Int) := by omega
        clear hmm hxx
        have HJ1 := Aside0.mk hj1
        clear hj1
        go_wp2
        go_region
        go_wp2
        go_roundg (l0.length - (j + 1))
        case measure => have := hg.out; omega
        case rel =>
          refine ⟨j + 1, by first | rfl | (rw [← HJ1.out]), ⟨c1⟩, ⟨by omega⟩, ⟨by omega⟩, ⟨?_⟩, ⟨?_⟩⟩
          · rw [show srcSeed l0 (j + 1) = srcStep m x from by simp only [srcSeed]; rw [HM.out, HX.out]]
            have hs := blk_set BK.out 2 (.int .u64 (srcStep m x))
            exact blk_drew (by simpa [srcStep] using hs)
          · repeat (first | (with_reducible first | exact HB.out | apply below_drew1) | refine below_set ?_ (Nat.le_refl _))
      · have c1b : decide (j < l0.length) = true := decide_eq_true c1
        have c2b : decide (j < 64) = false := decide_eq_false c2
        have c2c : decide ((j : Int) < 64) = false := decide_eq_false (by omega)
        have hjj : j = min l0.length 64 := by have := hj64.out; omega
        have HJ := Aside0.mk hjj
        clear hjj
        have c12 : decide (12 < l0.length) = true := decide_eq_true (by have := hj64.out; omega)
        have c12b : decide (12 < (l0.length : Int)) = true := decide_eq_true (by have := hj64.out; omega)
        have c12c := Aside0.mk (show 12 ≤ l0.length by have := hj64.out; omega)
        have hm : wr.cell? ⟨w.heap.size, 3, none⟩ = some (.int .i64 0) := (blk_cell BK.out 3).trans rfl
        have hf : wr.frozen? ⟨w.heap.size, 3, none⟩ = false := blk_frozen BK.out 3
        have h1 : (wr.setCell ⟨w.heap.size, 3, none⟩ (.int .i64 l0.length)).cell? ⟨w.heap.size, 3, none⟩ = some (.int .i64 l0.length) := World.cell?_setCell_same _ _ _ hm
        go_wp2
        go_ret
        refine ⟨w.heap.size, rfl, ⟨A0, c0, ?_, hge.out, HR.out⟩, ?_, ?_⟩
        · rw [← HJ.out, show min (l0.length : Int) 12 = 12 from by have := c12c.out; omega]
          have hs := blk_set (blk_set BK.out 3 (.int .i64 l0.length)) 3 (.int .i64 12)
          simpa using hs
        · repeat (first | (with_reducible first | exact HB0.out.trans (HB.out.mono hge.out)) | refine below_set ?_ hge.out)
        · repeat (first | (with_reducible first | exact HB.out) | refine below_set ?_ (Nat.le_refl _))
    · have c1b : decide (j < l0.length) = false := decide_eq_false c1
      have c1c : ¬ ((j : Int) < (l0.length : Int)) := by omega
      have hjj : j = min l0.length 64 := by have := hj.out; have := hj64.out; omega
      have HJ := Aside0.mk hjj
      clear hjj
      have hm : wr.cell? ⟨w.heap.size, 3, none⟩ = some (.int .i64 0) := (blk_cell BK.out 3).trans rfl
      have hf : wr.frozen? ⟨w.heap.size, 3, none⟩ = false := blk_frozen BK.out 3
      have h1 : (wr.setCell ⟨w.heap.size, 3, none⟩ (.int .i64 l0.length)).cell? ⟨w.heap.size, 3, none⟩ = some (.int .i64 l0.length) := World.cell?_setCell_same _ _ _ hm
      by_cases c3 : 12 < l0.length
      · have c12 : decide (12 < l0.length) = true := decide_eq_true c3
        have c12b : decide (12 < (l0.length : Int)) = true := decide_eq_true (by omega)
        have c12c := Aside0.mk (show 12 ≤ l0.length by omega)
        go_wp2
        go_ret
        refine ⟨w.heap.size, rfl, ⟨A0, c0, ?_, hge.out, HR.out⟩, ?_, ?_⟩
        · rw [← HJ.out, show min (l0.length : Int) 12 = 12 from by have := c12c.out; omega]
          have hs := blk_set (blk_set BK.out 3 (.int .i64 l0.length)) 3 (.int .i64 12)
          simpa using hs
        · repeat (first | (with_reducible first | exact HB0.out.trans (HB.out.mono hge.out)) | refine below_set ?_ hge.out)
        · repeat (first | (with_reducible first | exact HB.out) | refine below_set ?_ (Nat.le_refl _))
      · have c12 : decide (12 < l0.length) = false := decide_eq_false c3
        have c12b : decide (12 < (l0.length : Int)) = false := decide_eq_false (by omega)
        have c12c := Aside0.mk (show l0.length ≤ 12 by omega)
        go_wp2
        go_ret
        refine ⟨w.heap.size, rfl, ⟨A0, c0, ?_, hge.out, HR.out⟩, ?_, ?_⟩
        · rw [← HJ.out, show min (l0.length : Int) 12 = (l0.length : Int) from by have := c12c.out; omega]
          have hs := blk_set BK.out 3 (.int .i64 l0.length)
          simpa using hs
        · repeat (first | (with_reducible first | exact HB0.out.trans (HB.out.mono hge.out)) | refine below_set ?_ hge.out)
        · repeat (first | (with_reducible first | exact HB.out) | refine below_set ?_ (Nat.le_refl _))

/-! ### spec_l01Src_n: function 78 -/
def srcShift1 (m : Int) : Int := Go.bits .xor .u64 m (IntKind.u64.wrap (m * 8192))
def srcShift2 (m : Int) : Int := Go.bits .xor .u64 m (m / 128)
def srcShift3 (m : Int) : Int := Go.bits .xor .u64 m (IntKind.u64.wrap (m * 131072))
def srcMix (m : Int) : Int := srcShift3 (srcShift2 (srcShift1 m))
def srcOut (v m a1 : Int) : Int := wrap64 (Int.tmod (IntKind.u64.wrap (v + m / 1048576)) (IntKind.u64.wrap a1))
def spec_l01Src_n.f (s0_0 : List Int) (s0_1 : Int) (s0_2 : Int) (s0_3 : Int) (a1 : Int) : Option (Int × Int × Int × Int) :=
  if a1 ≤ 1 then some (0, s0_1, s0_2, s0_3) else
  if IntKind.u64.wrap a1 = 0 then none else
  if s0_1 < (s0_0.length : Int) then (if 0 ≤ s0_1 then some (srcOut (IntKind.u64.wrap (rd s0_0 s0_1)) (srcMix s0_2) a1, wrap64 (s0_1 + 1), srcMix s0_2, s0_3) else none)
  else some (srcOut 0 (srcMix s0_2) a1, s0_1, srcMix s0_2, s0_3)
set_option maxHeartbeats 4000000 in
set_option maxRecDepth 100000 in
theorem spec_l01Src_n.calls (g : Nat) (s0_0 : List Int) (s0_1 : Int) (s0_2 : Int) (s0_3 : Int) (a1 : Int) (r1 : Int) (r2 : Int) (r3 : Int) (r4 : Int) (w0 w : World) (hI : IsS87 w0 w g s0_0 s0_1 s0_2 s0_3) (hB : Below w0.heap.size w0 w) (h : spec_l01Src_n.f s0_0 s0_1 s0_2 s0_3 a1 = some (r1, r2, r3, r4)) :
    Calls Try.prog 78 #[.pointer (some ⟨g, 0, none⟩), .int .i64 a1] w fun e w' => e = .returned (.int .i64 r1) ∧ IsS87 w0 w' g s0_0 r2 r3 r4 ∧ Below w0.heap.size w0 w' ∧ KeepBut w w' g none := by
  unfold spec_l01Src_n.f at h
  by_cases c1 : a1 ≤ 1
  · rw [if_pos c1] at h
    have c1b : decide (a1 ≤ 1) = true := decide_eq_true c1
    simp only [Option.some.injEq, Prod.mk.injEq] at h
    obtain ⟨rfl, rfl, rfl, rfl⟩ := h
    clear c1
    have HI := Aside0.mk hI
    clear hI
    go_enter Try.func78, Try.ntmps78
    go_wp2
    go_ret
    exact ⟨rfl, HI.out, hB, KeepBut.refl _ _ _⟩
  · rw [if_neg c1] at h
    have c1b : decide (a1 ≤ 1) = false := decide_eq_false c1
    by_cases c9 : IntKind.u64.wrap a1 = 0
    · rw [if_pos c9] at h
      exact absurd h (by simp)
    · rw [if_neg c9] at h
      have c9b : (IntKind.u64.wrap a1 == 0) = false := beq_eq_false_iff_ne.mpr c9
      have HI := Aside0.mk hI
      have HB := Aside0.mk hB
      obtain ⟨A0, c0, hb, hg, hr0⟩ := hI
      have HR := Aside0.mk hr0
      have hlt := blk_lt hb
      have f0 := cellS87_0 hb
      have f1 := cellS87_1 hb
      have f2 := cellS87_2 hb
      have fz1 : w.frozen? ⟨g, 1, none⟩ = false := blk_frozen hb 1
      have fz2 : w.frozen? ⟨g, 2, none⟩ = false := blk_frozen hb 2
      have hS : srcMix s0_2 = srcShift3 (srcShift2 (srcShift1 s0_2)) := rfl
      obtain ⟨m1, hm1⟩ : ∃ m, srcShift1 s0_2 = m := ⟨_, rfl⟩
      rw [hm1] at hS
      obtain ⟨m2, hm2⟩ : ∃ m, srcShift2 m1 = m := ⟨_, rfl⟩
      rw [hm2] at hS
      obtain ⟨m3, hm3⟩ : ∃ m, srcShift3 m2 = m := ⟨_, rfl⟩
      rw [hm3] at hS
      rw [hS] at h
      clear hS
      unfold srcShift1 at hm1
      unfold srcShift2 at hm2
      unfold srcShift3 at hm3
      by_cases c2 : s0_1 < (s0_0.length : Int)
      · rw [if_pos c2] at h
        by_cases c3 : 0 ≤ s0_1
        · rw [if_pos c3] at h
          have c2b : decide (s0_1 < (s0_0.length : Int)) = true := decide_eq_true c2
          simp only [Option.some.injEq, Prod.mk.injEq] at h
          obtain ⟨rfl, rfl, rfl, rfl⟩ := h
          obtain ⟨ad, e_, hx⟩ := Kd.at_int HR.out s0_1 c3 c2
          cases e_
          replace hx := pw_cell_below HB.out hx
          have c3b := eq_true c3
          have c2c := eq_true c2
          obtain ⟨x, hxx⟩ : ∃ x, rd s0_0 s0_1 = x := ⟨_, rfl⟩
          rw [hxx] at hx ⊢
          clear hxx
          have HX := Aside0.mk (Eq.refl (srcOut (IntKind.u64.wrap x) m3 a1))
          have e0 : (w.setCell ⟨g, 1, none⟩ (.int .i64 (wrap64 (s0_1 + 1)))).cell? ⟨g, 2, none⟩ = some (.int .u64 s0_2) := (World.cell?_setCell_other w _ _ _ (by simp)).trans f2
          have e1 : ((w.setCell ⟨g, 1, none⟩ (.int .i64 (wrap64 (s0_1 + 1)))).setCell ⟨g, 2, none⟩ (.int .u64 m1)).cell? ⟨g, 2, none⟩ = some (.int .u64 m1) := World.cell?_setCell_same _ _ _ e0
          have e2 : (((w.setCell ⟨g, 1, none⟩ (.int .i64 (wrap64 (s0_1 + 1)))).setCell ⟨g, 2, none⟩ (.int .u64 m1)).setCell ⟨g, 2, none⟩ (.int .u64 m2)).cell? ⟨g, 2, none⟩ = some (.int .u64 m2) := World.cell?_setCell_same _ _ _ e1
          have e3 : ((((w.setCell ⟨g, 1, none⟩ (.int .i64 (wrap64 (s0_1 + 1)))).setCell ⟨g, 2, none⟩ (.int .u64 m1)).setCell ⟨g, 2, none⟩ (.int .u64 m2)).setCell ⟨g, 2, none⟩ (.int .u64 m3)).cell? ⟨g, 2, none⟩ = some (.int .u64 m3) := World.cell?_setCell_same _ _ _ e2
          clear hB hb hr0 c1 c2 c3
          go_enter Try.func78, Try.ntmps78
          go_wp2
          go_region
          go_wp2
          go_region
          go_wp2
          go_region
          go_wp2
          go_region
          go_wp2
          go_region
          go_wp2
          go_ret
          exact ⟨by first | rfl | (unfold srcOut; rfl) | (unfold srcOut; simp), by repeat (first | (with_reducible first | exact HI.out | apply IsS87.drew | apply IsS87.set_1 | apply IsS87.set_2) | exact HI.out), by repeat (first | (with_reducible first | exact HB.out | apply below_drew1 | refine below_set ?_ (IsS87.ge HI.out)) | exact HB.out), by repeat (first | (with_reducible first | exact KeepBut.refl _ _ _ | apply KeepBut.set_ | apply keep_drew) | exact KeepBut.refl _ _ _)⟩
        · rw [if_neg c3] at h
          exact absurd h (by simp)
      · rw [if_neg c2] at h
        have c2b : decide (s0_1 < (s0_0.length : Int)) = false := decide_eq_false c2
        simp only [Option.some.injEq, Prod.mk.injEq] at h
        obtain ⟨rfl, rfl, rfl, rfl⟩ := h
        have e1 : (w.setCell ⟨g, 2, none⟩ (.int .u64 m1)).cell? ⟨g, 2, none⟩ = some (.int .u64 m1) := World.cell?_setCell_same _ _ _ f2
        have e2 : ((w.setCell ⟨g, 2, none⟩ (.int .u64 m1)).setCell ⟨g, 2, none⟩ (.int .u64 m2)).cell? ⟨g, 2, none⟩ = some (.int .u64 m2) := World.cell?_setCell_same _ _ _ e1
        have e3 : (((w.setCell ⟨g, 2, none⟩ (.int .u64 m1)).setCell ⟨g, 2, none⟩ (.int .u64 m2)).setCell ⟨g, 2, none⟩ (.int .u64 m3)).cell? ⟨g, 2, none⟩ = some (.int .u64 m3) := World.cell?_setCell_same _ _ _ e2
        clear hB hb hr0 c2 c1
        go_enter Try.func78, Try.ntmps78
        go_wp2
        go_region
        go_wp2
        go_region
        go_wp2
        go_region
        go_wp2
        go_region
        go_wp2
        go_ret
        exact ⟨by first | rfl | (unfold srcOut; rfl) | (unfold srcOut; simp), by repeat (first | (with_reducible first | exact HI.out | apply IsS87.drew | apply IsS87.set_1 | apply IsS87.set_2) | exact HI.out), by repeat (first | (with_reducible first | exact HB.out | apply below_drew1 | refine below_set ?_ (IsS87.ge HI.out)) | exact HB.out), by repeat (first | (with_reducible first | exact KeepBut.refl _ _ _ | apply KeepBut.set_ | apply keep_drew) | exact KeepBut.refl _ _ _)⟩

/-! ### spec_DrawStampOf: function 44 -/
def spec_DrawStampOf.f (l0 : List Int) : Option (Int) := (spec_l01Source.f l0).bind fun bt130 => ((spec_l01Src_n.f bt130.1 bt130.2.1 bt130.2.2.1 bt130.2.2.2 36525).bind fun bt135 => ((some (([0, 58, 59, 60, 365, 366, 1460, 1461, 36524, 36525, bt135.1, (-1)] : List Int) : List Int)).bind fun y139 => ((spec_l01Src_n.f bt130.1 bt135.2.1 bt135.2.2.1 bt135.2.2.2 12).bind fun bt142 => (if 0 ≤ bt142.1 then (if bt142.1 < (y139.length : Int) then ((spec_l01Src_n.f bt130.1 bt142.2.1 bt142.2.2.1 bt142.2.2.2 86400).bind fun bt147 => ((some (([0, 86399, bt147.1] : List Int) : List Int)).bind fun y151 => ((spec_l01Src_n.f bt130.1 bt147.2.1 bt147.2.2.1 bt147.2.2.2 3).bind fun bt154 => (if 0 ≤ bt154.1 then (if bt154.1 < (y151.length : Int) then (some (wrap64 ((wrap64 ((rd y139 bt142.1) * 86400)) + (rd y151 bt154.1)))) else (none)) else (none))))) else (none)) else (none)))))
set_option maxHeartbeats 8000000 in
set_option maxRecDepth 100000 in
theorem spec_DrawStampOf.calls (A0 : Option Addr) (c0 : Nat) (l0 : List Int) (r : Int) (w : World) (hr0 : Kd.C (Kd.int .u8) w A0 l0.length l0) (hc0 : l0.length ≤ c0) (h : spec_DrawStampOf.f l0 = some r) :
    Calls Try.prog 44 #[.slice A0 l0.length c0] w fun e w' => e = .returned (.int .i64 r) ∧ Below w.heap.size w w' := by
  have HR0 := Aside0.mk hr0
  have HC0 := Aside0.mk hc0
  clear hr0 hc0
  have HB := Aside0.mk (Below.refl w.heap.size w)
  have H : ((spec_l01Source.f l0).bind fun bt130 => ((spec_l01Src_n.f bt130.1 bt130.2.1 bt130.2.2.1 bt130.2.2.2 36525).bind fun bt135 => ((some (([0, 58, 59, 60, 365, 366, 1460, 1461, 36524, 36525, bt135.1, (-1)] : List Int) : List Int)).bind fun y139 => ((spec_l01Src_n.f bt130.1 bt135.2.1 bt135.2.2.1 bt135.2.2.2 12).bind fun bt142 => (if 0 ≤ bt142.1 then (if bt142.1 < (y139.length : Int) then ((spec_l01Src_n.f bt130.1 bt142.2.1 bt142.2.2.1 bt142.2.2.2 86400).bind fun bt147 => ((some (([0, 86399, bt147.1] : List Int) : List Int)).bind fun y151 => ((spec_l01Src_n.f bt130.1 bt147.2.1 bt147.2.2.1 bt147.2.2.2 3).bind fun bt154 => (if 0 ≤ bt154.1 then (if bt154.1 < (y151.length : Int) then (some (wrap64 ((wrap64 ((rd y139 bt142.1) * 86400)) + (rd y151 bt154.1)))) else (none)) else (none))))) else (none)) else (none)))))) = some r := h
  clear h
  replace H := Option.bind_eq_some_iff.mp H
  obtain ⟨⟨t130, t131, t132, t133⟩, A20, H⟩ := H
  replace H : ((spec_l01Src_n.f t130 t131 t132 t133 36525).bind fun bt135 => ((some (([0, 58, 59, 60, 365, 366, 1460, 1461, 36524, 36525, bt135.1, (-1)] : List Int) : List Int)).bind fun y139 => ((spec_l01Src_n.f t130 bt135.2.1 bt135.2.2.1 bt135.2.2.2 12).bind fun bt142 => (if 0 ≤ bt142.1 then (if bt142.1 < (y139.length : Int) then ((spec_l01Src_n.f t130 bt142.2.1 bt142.2.2.1 bt142.2.2.2 86400).bind fun bt147 => ((some (([0, 86399, bt147.1] : List Int) : List Int)).bind fun y151 => ((spec_l01Src_n.f t130 bt147.2.1 bt147.2.2.1 bt147.2.2.2 3).bind fun bt154 => (if 0 ≤ bt154.1 then (if bt154.1 < (y151.length : Int) then (some (wrap64 ((wrap64 ((rd y139 bt142.1) * 86400)) + (rd y151 bt154.1)))) else (none)) else (none))))) else (none)) else (none))))) = some r := H
  have A2 := Aside0.mk A20
  clear A20
  replace H := Option.bind_eq_some_iff.mp H
  obtain ⟨⟨t135, t136, t137, t138⟩, A30, H⟩ := H
  replace H : ((some (([0, 58, 59, 60, 365, 366, 1460, 1461, 36524, 36525, t135, (-1)] : List Int) : List Int)).bind fun y139 => ((spec_l01Src_n.f t130 t136 t137 t138 12).bind fun bt142 => (if 0 ≤ bt142.1 then (if bt142.1 < (y139.length : Int) then ((spec_l01Src_n.f t130 bt142.2.1 bt142.2.2.1 bt142.2.2.2 86400).bind fun bt147 => ((some (([0, 86399, bt147.1] : List Int) : List Int)).bind fun y151 => ((spec_l01Src_n.f t130 bt147.2.1 bt147.2.2.1 bt147.2.2.2 3).bind fun bt154 => (if 0 ≤ bt154.1 then (if bt154.1 < (y151.length : Int) then (some (wrap64 ((wrap64 ((rd y139 bt142.1) * 86400)) + (rd y151 bt154.1)))) else (none)) else (none))))) else (none)) else (none)))) = some r := H
  have A3 := Aside0.mk A30
  clear A30
  obtain ⟨y139, hy139⟩ : ∃ y_ : List Int, y_ = (([0, 58, 59, 60, 365, 366, 1460, 1461, 36524, 36525, t135, (-1)] : List Int)) := ⟨_, rfl⟩
  replace H : ((spec_l01Src_n.f t130 t136 t137 t138 12).bind fun bt142 => (if 0 ≤ bt142.1 then (if bt142.1 < (y139.length : Int) then ((spec_l01Src_n.f t130 bt142.2.1 bt142.2.2.1 bt142.2.2.2 86400).bind fun bt147 => ((some (([0, 86399, bt147.1] : List Int) : List Int)).bind fun y151 => ((spec_l01Src_n.f t130 bt147.2.1 bt147.2.2.1 bt147.2.2.2 3).bind fun bt154 => (if 0 ≤ bt154.1 then (if bt154.1 < (y151.length : Int) then (some (wrap64 ((wrap64 ((rd y139 bt142.1) * 86400)) + (rd y151 bt154.1)))) else (none)) else (none))))) else (none)) else (none))) = some r := by first | (rw [hy139]; with_reducible exact H) | (have H2_ := (Option.bind_some _ _).symm.trans H; rw [hy139]; with_reducible exact H2_) | (have H2_ := (Option.bind_some _ _).symm.trans H; with_reducible exact H2_) | with_reducible exact H | (rw [hy139]; exact H) | exact H
  have Ny139 := Aside0.mk hy139
  clear hy139
  replace H := Option.bind_eq_some_iff.mp H
  obtain ⟨⟨t142, t143, t144, t145⟩, A40, H⟩ := H
  replace H : (if 0 ≤ t142 then (if t142 < (y139.length : Int) then ((spec_l01Src_n.f t130 t143 t144 t145 86400).bind fun bt147 => ((some (([0, 86399, bt147.1] : List Int) : List Int)).bind fun y151 => ((spec_l01Src_n.f t130 bt147.2.1 bt147.2.2.1 bt147.2.2.2 3).bind fun bt154 => (if 0 ≤ bt154.1 then (if bt154.1 < (y151.length : Int) then (some (wrap64 ((wrap64 ((rd y139 t142) * 86400)) + (rd y151 bt154.1)))) else (none)) else (none))))) else (none)) else (none)) = some r := H
  have A4 := Aside0.mk A40
  clear A40
  by_cases c5 : 0 ≤ t142
  · rw [if_pos c5] at H
    have c5b0 : decide (0 ≤ t142) = true := decide_eq_true c5
    clear c5
    by_cases c6 : t142 < (y139.length : Int)
    · rw [if_pos c6] at H
      have c6b0 : decide (t142 < (y139.length : Int)) = true := decide_eq_true c6
      clear c6
      replace H := Option.bind_eq_some_iff.mp H
      obtain ⟨⟨t147, t148, t149, t150⟩, A70, H⟩ := H
      replace H : ((some (([0, 86399, t147] : List Int) : List Int)).bind fun y151 => ((spec_l01Src_n.f t130 t148 t149 t150 3).bind fun bt154 => (if 0 ≤ bt154.1 then (if bt154.1 < (y151.length : Int) then (some (wrap64 ((wrap64 ((rd y139 t142) * 86400)) + (rd y151 bt154.1)))) else (none)) else (none)))) = some r := H
      have A7 := Aside0.mk A70
      clear A70
      obtain ⟨y151, hy151⟩ : ∃ y_ : List Int, y_ = (([0, 86399, t147] : List Int)) := ⟨_, rfl⟩
      replace H : ((spec_l01Src_n.f t130 t148 t149 t150 3).bind fun bt154 => (if 0 ≤ bt154.1 then (if bt154.1 < (y151.length : Int) then (some (wrap64 ((wrap64 ((rd y139 t142) * 86400)) + (rd y151 bt154.1)))) else (none)) else (none))) = some r := by first | (rw [hy151]; with_reducible exact H) | (have H2_ := (Option.bind_some _ _).symm.trans H; rw [hy151]; with_reducible exact H2_) | (have H2_ := (Option.bind_some _ _).symm.trans H; with_reducible exact H2_) | with_reducible exact H | (rw [hy151]; exact H) | exact H
      have Ny151 := Aside0.mk hy151
      clear hy151
      replace H := Option.bind_eq_some_iff.mp H
      obtain ⟨⟨t154, t155, t156, t157⟩, A80, H⟩ := H
      replace H : (if 0 ≤ t154 then (if t154 < (y151.length : Int) then (some (wrap64 ((wrap64 ((rd y139 t142) * 86400)) + (rd y151 t154)))) else (none)) else (none)) = some r := H
      have A8 := Aside0.mk A80
      clear A80
      by_cases c9 : 0 ≤ t154
      · rw [if_pos c9] at H
        have c9b0 : decide (0 ≤ t154) = true := decide_eq_true c9
        clear c9
        by_cases c10 : t154 < (y151.length : Int)
        · rw [if_pos c10] at H
          have c10b0 : decide (t154 < (y151.length : Int)) = true := decide_eq_true c10
          clear c10
          obtain rfl := Option.some.inj H
          go_enter Try.func44, Try.ntmps44
          go_wp2_with (first | ((with_reducible refine gate_callee (f := 75) rfl ?_); refine goesL_ (some 6) rfl rfl Try.func75 (by kernel_rfl) rfl #[.slice A0 l0.length c0] rfl (by (try simp only [List.map_toArray, List.map_cons, List.map_nil]); first | done | rfl | (simp only [List.length_drop, List.length_take]; rfl)) ?_; (with_reducible refine (spec_l01Source.calls _ _ l0 t130 t131 t132 t133 w _ ?side1 ?side2 ?side3 A2.out).mono ?_); (case side1 => repeat (first | (with_reducible first | exact HB.out | apply below_alloc | apply pw_below_drewN | apply below_drew1) | exact HB.out)); (case side2 => exact HR0.out); (case side3 => exact HC0.out); rintro e w11 ⟨g134, rfl, hi, hb, hb2⟩; refine ⟨_, rfl, ?_⟩; have n0_ := Aside0.mk (hb); have n1_ := Aside0.mk (hi); clear HB; have HB := n0_; have HI134 := n1_; clear n0_ n1_; (try clear hb); (try clear hb2); (try clear hk); (try clear hi)) | ((with_reducible refine gate_callee (f := 78) rfl ?_); refine goesL_ (some 8) rfl rfl Try.func78 (by kernel_rfl) rfl #[.pointer (some ⟨g134, 0, none⟩), .int .i64 36525] rfl (by (try simp only [List.map_toArray, List.map_cons, List.map_nil]); first | done | rfl | (simp only [List.length_drop, List.length_take]; rfl)) ?_; (with_reducible refine (spec_l01Src_n.calls g134 t130 t131 t132 t133 36525 t135 t136 t137 t138 w _ ?side1 ?side2 A3.out).mono ?_); (case side1 => repeat (first | (with_reducible first | exact HI134.out | apply IsS87.alloc | apply IsS87.drewN | apply IsS87.drew | apply IsS87.set_1 | apply IsS87.set_2 | apply IsS87.set_3) | exact HI134.out)); (case side2 => repeat (first | (with_reducible first | exact HB.out | apply below_alloc | apply pw_below_drewN | apply below_drew1 | refine below_set ?_ (IsS87.ge HI134.out)) | exact HB.out)); rintro e w12 ⟨rfl, hi, hb, hk⟩; refine ⟨_, rfl, ?_⟩; have n0_ := Aside0.mk (hb); have n1_ := Aside0.mk (hi); clear HB; clear HI134; have HB := n0_; have HI134 := n1_; clear n0_ n1_; (try clear hb); (try clear hb2); (try clear hk); (try clear hi)) | ((with_reducible refine gate_dst (N := 9) rfl ?_); refine Kd.R_lit (Kd.int .i64) _ 2 ?hg (N := 9) ?hd (xs := ([0, 58, 59, 60, 365, 366, 1460, 1461, 36524, 36525, t135, (-1)] : List Int)) (inner := [.int .i64 0, .int .i64 58, .int .i64 59, .int .i64 60, .int .i64 365, .int .i64 366, .int .i64 1460, .int .i64 1461, .int .i64 36524, .int .i64 36525, .int .i64 t135, .int .i64 (-1)]) (ok := fun _ => True) (okp := fun _ => True) ?hr ?hp (fun _ hk => hk) trivial (Below.refl _ _) (Nat.le_refl _) (by simp) ?_; (case hd => rfl); (case hg => rfl); (case hr => first | (go_simp; done) | (go_simp; rfl)); (case hp => exact (Reps.one (show Kd.M (Kd.int .i64) _ _ _ 0 [.int .i64 0] from rfl) (Reps.one (show Kd.M (Kd.int .i64) _ _ _ 58 [.int .i64 58] from rfl) (Reps.one (show Kd.M (Kd.int .i64) _ _ _ 59 [.int .i64 59] from rfl) (Reps.one (show Kd.M (Kd.int .i64) _ _ _ 60 [.int .i64 60] from rfl) (Reps.one (show Kd.M (Kd.int .i64) _ _ _ 365 [.int .i64 365] from rfl) (Reps.one (show Kd.M (Kd.int .i64) _ _ _ 366 [.int .i64 366] from rfl) (Reps.one (show Kd.M (Kd.int .i64) _ _ _ 1460 [.int .i64 1460] from rfl) (Reps.one (show Kd.M (Kd.int .i64) _ _ _ 1461 [.int .i64 1461] from rfl) (Reps.one (show Kd.M (Kd.int .i64) _ _ _ 36524 [.int .i64 36524] from rfl) (Reps.one (show Kd.M (Kd.int .i64) _ _ _ 36525 [.int .i64 36525] from rfl) (Reps.one (show Kd.M (Kd.int .i64) _ _ _ t135 [.int .i64 t135] from rfl) (Reps.one (show Kd.M (Kd.int .i64) _ _ _ (-1) [.int .i64 (-1)] from rfl) (Reps.none _ _)))))))))))))); intro v140 w13 ho14 hb hg_ hnew_; clear hg_ hnew_; (first | rw [← Ny139.out] at ho14 | (simp only [Int.reduceToNat] at ho14; rw [← Ny139.out] at ho14)); have n0_ := Aside0.mk (Kd.R_lower ho14 (below_size (by repeat (first | (with_reducible first | exact HB.out | apply below_alloc | apply pw_below_drewN | apply below_drew1 | refine below_set ?_ (IsS87.ge HI134.out)) | exact HB.out)))); have n1_ := Aside0.mk (IsS87.below (by repeat (first | (with_reducible first | exact HI134.out | apply IsS87.alloc | apply IsS87.drewN | apply IsS87.drew | apply IsS87.set_1 | apply IsS87.set_2 | apply IsS87.set_3) | exact HI134.out)) hb); have n2_ := Aside0.mk (below_step (by repeat (first | (with_reducible first | exact HB.out | apply below_alloc | apply pw_below_drewN | apply below_drew1 | refine below_set ?_ (IsS87.ge HI134.out)) | exact HB.out)) hb); clear HI134; clear HB; have HO141 := n0_; have HI134 := n1_; have HB := n2_; clear n0_ n1_ n2_; clear hb ho14) | ((with_reducible refine gate_callee (f := 78) rfl ?_); refine goesL_ (some 11) rfl rfl Try.func78 (by kernel_rfl) rfl #[.pointer (some ⟨g134, 0, none⟩), .int .i64 12] rfl (by (try simp only [List.map_toArray, List.map_cons, List.map_nil]); first | done | rfl | (simp only [List.length_drop, List.length_take]; rfl)) ?_; (with_reducible refine (spec_l01Src_n.calls g134 t130 t136 t137 t138 12 t142 t143 t144 t145 w _ ?side1 ?side2 A4.out).mono ?_); (case side1 => repeat (first | (with_reducible first | exact HI134.out | apply IsS87.alloc | apply IsS87.drewN | apply IsS87.drew | apply IsS87.set_1 | apply IsS87.set_2 | apply IsS87.set_3) | exact HI134.out)); (case side2 => repeat (first | (with_reducible first | exact HB.out | apply below_alloc | apply pw_below_drewN | apply below_drew1 | refine below_set ?_ (IsS87.ge HI134.out)) | exact HB.out)); rintro e w15 ⟨rfl, hi, hb, hk⟩; refine ⟨_, rfl, ?_⟩; have n0_ := Aside0.mk (Kd.R_mono (Kd.R_keep (IsS87.apart (show IsS87 w _ g134 t130 t136 t137 t138 from by repeat (first | (with_reducible first | exact HI134.out | apply IsS87.alloc | apply IsS87.drewN | apply IsS87.drew | apply IsS87.set_1 | apply IsS87.set_2 | apply IsS87.set_3) | exact HI134.out)) (by (with_reducible repeat (first | apply Kd.R_alloc | apply Kd.R_drewN | apply Kd.R_drew)); exact HO141.out) (by decide)) hk (fun _ h => h.2)) (fun _ h => h.1)); have n1_ := Aside0.mk (hb); have n2_ := Aside0.mk (hi); clear HO141; clear HB; clear HI134; have HO141 := n0_; have HB := n1_; have HI134 := n2_; clear n0_ n1_ n2_; (try clear hb); (try clear hb2); (try clear hk); (try clear hi); obtain ⟨Ao16, co16, eo16⟩ := Kd.R_slice HO141.out; subst eo16; have p146 : 0 ≤ (t142 : Int) := of_decide_eq_true (by first | (with_reducible assumption) | assumption); have q146 : t142 < (y139.length : Int) := of_decide_eq_true (by first | (with_reducible assumption) | assumption); obtain ⟨ad146, e146, hx146_0⟩ := Kd.at_int (Kd.R_reads' HO141.out).2.2 t142 p146 q146; cases e146; replace p146 := eq_true p146; replace q146 := eq_true q146) | ((with_reducible refine gate_callee (f := 78) rfl ?_); refine goesL_ (some 17) rfl rfl Try.func78 (by kernel_rfl) rfl #[.pointer (some ⟨g134, 0, none⟩), .int .i64 86400] rfl (by (try simp only [List.map_toArray, List.map_cons, List.map_nil]); first | done | rfl | (simp only [List.length_drop, List.length_take]; rfl)) ?_; (with_reducible refine (spec_l01Src_n.calls g134 t130 t143 t144 t145 86400 t147 t148 t149 t150 w _ ?side1 ?side2 A7.out).mono ?_); (case side1 => repeat (first | (with_reducible first | exact HI134.out | apply IsS87.alloc | apply IsS87.drewN | apply IsS87.drew | apply IsS87.set_1 | apply IsS87.set_2 | apply IsS87.set_3) | exact HI134.out)); (case side2 => repeat (first | (with_reducible first | exact HB.out | apply below_alloc | apply pw_below_drewN | apply below_drew1 | refine below_set ?_ (IsS87.ge HI134.out)) | exact HB.out)); rintro e w17 ⟨rfl, hi, hb, hk⟩; refine ⟨_, rfl, ?_⟩; have n0_ := Aside0.mk (Kd.R_mono (Kd.R_keep (IsS87.apart (show IsS87 w _ g134 t130 t143 t144 t145 from by repeat (first | (with_reducible first | exact HI134.out | apply IsS87.alloc | apply IsS87.drewN | apply IsS87.drew | apply IsS87.set_1 | apply IsS87.set_2 | apply IsS87.set_3) | exact HI134.out)) (by (with_reducible repeat (first | apply Kd.R_alloc | apply Kd.R_drewN | apply Kd.R_drew)); exact HO141.out) (by decide)) hk (fun _ h => h.2)) (fun _ h => h.1)); have n1_ := Aside0.mk (hb); have n2_ := Aside0.mk (hi); clear HO141; clear HB; clear HI134; have HO141 := n0_; have HB := n1_; have HI134 := n2_; clear n0_ n1_ n2_; (try clear hb); (try clear hb2); (try clear hk); (try clear hi)) | ((with_reducible refine gate_dst (N := 18) rfl ?_); refine Kd.R_lit (Kd.int .i64) _ 2 ?hg (N := 18) ?hd (xs := ([0, 86399, t147] : List Int)) (inner := [.int .i64 0, .int .i64 86399, .int .i64 t147]) (ok := fun _ => True) (okp := fun _ => True) ?hr ?hp (fun _ hk => hk) trivial (Below.refl _ _) (Nat.le_refl _) (by simp) ?_; (case hd => rfl); (case hg => rfl); (case hr => first | (go_simp; done) | (go_simp; rfl)); (case hp => exact (Reps.one (show Kd.M (Kd.int .i64) _ _ _ 0 [.int .i64 0] from rfl) (Reps.one (show Kd.M (Kd.int .i64) _ _ _ 86399 [.int .i64 86399] from rfl) (Reps.one (show Kd.M (Kd.int .i64) _ _ _ t147 [.int .i64 t147] from rfl) (Reps.none _ _))))); intro v152 w18 ho19 hb hg_ hnew_; clear hg_ hnew_; (first | rw [← Ny151.out] at ho19 | (simp only [Int.reduceToNat] at ho19; rw [← Ny151.out] at ho19)); have n0_ := Aside0.mk (Kd.R_elder' (by (with_reducible repeat (first | apply Kd.R_alloc | apply Kd.R_drewN | apply Kd.R_drew)); exact HO141.out) (Kd.R_base ho19) hb); have n1_ := Aside0.mk (Kd.R_lower (Kd.R_new' ho19 (Kd.R_lt (by (with_reducible repeat (first | apply Kd.R_alloc | apply Kd.R_drewN | apply Kd.R_drew)); exact HO141.out))) (below_size (by repeat (first | (with_reducible first | exact HB.out | apply below_alloc | apply pw_below_drewN | apply below_drew1 | refine below_set ?_ (IsS87.ge HI134.out)) | exact HB.out)))); have n2_ := Aside0.mk (IsS87.below (by repeat (first | (with_reducible first | exact HI134.out | apply IsS87.alloc | apply IsS87.drewN | apply IsS87.drew | apply IsS87.set_1 | apply IsS87.set_2 | apply IsS87.set_3) | exact HI134.out)) hb); have n3_ := Aside0.mk (below_step (by repeat (first | (with_reducible first | exact HB.out | apply below_alloc | apply pw_below_drewN | apply below_drew1 | refine below_set ?_ (IsS87.ge HI134.out)) | exact HB.out)) hb); clear HO141; clear HI134; clear HB; have HO141 := n0_; have HO153 := n1_; have HI134 := n2_; have HB := n3_; clear n0_ n1_ n2_ n3_; clear hb ho19) | ((with_reducible refine gate_callee (f := 78) rfl ?_); refine goesL_ (some 20) rfl rfl Try.func78 (by kernel_rfl) rfl #[.pointer (some ⟨g134, 0, none⟩), .int .i64 3] rfl (by (try simp only [List.map_toArray, List.map_cons, List.map_nil]); first | done | rfl | (simp only [List.length_drop, List.length_take]; rfl)) ?_; (with_reducible refine (spec_l01Src_n.calls g134 t130 t148 t149 t150 3 t154 t155 t156 t157 w _ ?side1 ?side2 A8.out).mono ?_); (case side1 => repeat (first | (with_reducible first | exact HI134.out | apply IsS87.alloc | apply IsS87.drewN | apply IsS87.drew | apply IsS87.set_1 | apply IsS87.set_2 | apply IsS87.set_3) | exact HI134.out)); (case side2 => repeat (first | (with_reducible first | exact HB.out | apply below_alloc | apply pw_below_drewN | apply below_drew1 | refine below_set ?_ (IsS87.ge HI134.out)) | exact HB.out)); rintro e w20 ⟨rfl, hi, hb, hk⟩; refine ⟨_, rfl, ?_⟩; have n0_ := Aside0.mk (Kd.R_mono (Kd.R_keep (IsS87.apart (show IsS87 w _ g134 t130 t148 t149 t150 from by repeat (first | (with_reducible first | exact HI134.out | apply IsS87.alloc | apply IsS87.drewN | apply IsS87.drew | apply IsS87.set_1 | apply IsS87.set_2 | apply IsS87.set_3) | exact HI134.out)) (by (with_reducible repeat (first | apply Kd.R_alloc | apply Kd.R_drewN | apply Kd.R_drew)); exact HO141.out) (by decide)) hk (fun _ h => h.2)) (fun _ h => h.1)); have n1_ := Aside0.mk (Kd.R_mono (Kd.R_keep (IsS87.apart (show IsS87 w _ g134 t130 t148 t149 t150 from by repeat (first | (with_reducible first | exact HI134.out | apply IsS87.alloc | apply IsS87.drewN | apply IsS87.drew | apply IsS87.set_1 | apply IsS87.set_2 | apply IsS87.set_3) | exact HI134.out)) (by (with_reducible repeat (first | apply Kd.R_alloc | apply Kd.R_drewN | apply Kd.R_drew)); exact HO153.out) (by decide)) hk (fun _ h => h.2)) (fun _ h => h.1)); have n2_ := Aside0.mk (hb); have n3_ := Aside0.mk (hi); clear HO141; clear HO153; clear HB; clear HI134; have HO141 := n0_; have HO153 := n1_; have HB := n2_; have HI134 := n3_; clear n0_ n1_ n2_ n3_; (try clear hb); (try clear hb2); (try clear hk); (try clear hi); obtain ⟨Ao21, co21, eo21⟩ := Kd.R_slice HO153.out; subst eo21; have p158 : 0 ≤ (t154 : Int) := of_decide_eq_true (by first | (with_reducible assumption) | assumption); have q158 : t154 < (y151.length : Int) := of_decide_eq_true (by first | (with_reducible assumption) | assumption); obtain ⟨ad158, e158, hx158_0⟩ := Kd.at_int (Kd.R_reads' HO153.out).2.2 t154 p158 q158; cases e158; replace p158 := eq_true p158; replace q158 := eq_true q158))
          go_ret
          exact ⟨by first | rfl | (simp [errW_none, errW_some] <;> rfl) | (simp [*, errW_none, errW_some] <;> rfl), by repeat (first | (with_reducible first | exact HB.out | apply below_alloc | apply pw_below_drewN | apply below_drew1 | refine below_set ?_ (IsS87.ge HI134.out)) | exact HB.out)⟩
        · rw [if_neg c10] at H
          exact absurd H (by simp)
      · rw [if_neg c9] at H
        exact absurd H (by simp)
    · rw [if_neg c6] at H
      exact absurd H (by simp)
  · rw [if_neg c5] at H
    exact absurd H (by simp)

end Go.Proofs.Ytofmibbadbmlfaa.QFnStamps
