-- Written for this claim by this session's own driver (wip/xprint.py).
import Derived.Test.YtopeblicjgbfcaaQFnSpreadx0
import Derived.Test.YtopeblicjgbfcaaQFnSpreadx1
namespace Go.Proofs.Ytopeblicjgbfcaa.QFnSpread
open Go.RowKit Go.Proofs.YtopeblicjgbfcaaW.PrintWords Go.Proofs.YtopeblicjgbfcaaW.PrintLast Go.Proofs.YtopeblicjgbfcaaW.PrintMore
attribute [local go_sem] max2_int min2_int max_two min_two max_three min_three max_four min_four   -- for this text's walks alone
set_option linter.unusedVariables false
set_option linter.unusedSimpArgs false

/-! ### spec_l01Src_bufs: function 9 -/
def bufE1 : List Int := [0, 1, 16, 20, 64, 65]
def bufE2 : List Int := [1270, 4000, 4294967295, 1280]
def spec_l01Src_bufs.l0 : Nat → List S28 → Int → Int → List Int → Int → Int → Int → Option (List S28 × Int × Int × Int)
  | 0, _, _, _, _, _, _, _ => none
  | k + 1, out, j, n, s0, s1, s2, s3 => if j < n then
      ((spec_l01Src_n.f s0 s1 s2 s3 11).bind fun b1 => (spec_l01Src_n.f s0 b1.2.1 b1.2.2.1 b1.2.2.2 6).bind fun b2 => if 0 ≤ b2.1 then (if b2.1 < 6 then
        ((if j > 0 then spec_l01Src_one.f s0 b2.2.1 b2.2.2.1 b2.2.2.2 2 else some (false, b2.2.1, b2.2.2.1, b2.2.2.2)).bind fun b3 =>
        (if (0 < out.length && (rd_T28 out ((out.length : Int) - 1)).f2) = true then (spec_l01Src_one.f s0 b3.2.1 b3.2.2.1 b3.2.2.2 10).bind (fun b => some (b3.1 || !b.1, b.2.1, b.2.2.1, b.2.2.2)) else some b3).bind fun b4 =>
        (spec_l01Src_one.f s0 b4.2.1 b4.2.2.1 b4.2.2.2 25).bind fun b5 =>
        (if b5.1 = true then (spec_l01Src_n.f s0 b5.2.1 b5.2.2.1 b5.2.2.2 4).bind (fun b => if 0 ≤ b.1 then (if b.1 < 4 then some (rd bufE2 b.1, b.2.1, b.2.2.1, b.2.2.2) else none) else none) else some (wrap64 (512 + wrap64 (64 * b1.1)), b5.2.1, b5.2.2.1, b5.2.2.2)).bind fun b6 =>
        if out.length < 1000 then spec_l01Src_bufs.l0 k (out ++ [⟨b6.1, rd bufE1 b2.1, b4.1⟩]) (wrap64 (j + 1)) n s0 b6.2.1 b6.2.2.1 b6.2.2.2 else none) else none) else none)
    else some (out, s1, s2, s3)
def spec_l01Src_bufs.f (k : Nat) (s0_0 : List Int) (s0_1 : Int) (s0_2 : Int) (s0_3 : Int) (a1 : Int) : Option (List S28 × Int × Int × Int) := spec_l01Src_bufs.l0 k [] 0 a1 s0_0 s0_1 s0_2 s0_3
def spec_l01Src_bufs.T5 : Bool × List (List Nat × List Nat) := (true, [([], []), ([0], [0]), ([1], [1]), ([2], [2]), ([], []), ([], []), ([5, 1], [5]), ([4, 6], [4, 6]), ([7], [7]), ([], []), ([9], [9]), ([10, 6], [10]), ([11], [11]), ([12, 11, 11], [11, 12]), ([11, 13], [11, 13]), ([3, 8, 14], [3, 8, 14]), ([], []), ([16, 15, 13, 0, 1, 2, 3, 4, 5, 6, 7, 8, 9, 10, 11, 12, 13, 14, 15, 16], [15, 16])])
def spec_l01Src_bufs.B5 : List Nat := [0, 1, 3, 7, 0, 0, 35, 115, 243, 0, 512, 1635, 3683, 7779, 15971, 32767, 0, 131071]
theorem spec_l01Src_bufs.tab5 : rtab .any (opsOf Try.f9 5) = spec_l01Src_bufs.T5 := by kernel_rfl
theorem spec_l01Src_bufs.bits5 : waitsOk spec_l01Src_bufs.T5.2 spec_l01Src_bufs.B5 = true := by kernel_rfl
theorem bufs_at {W : World} {g : Nat} {t : Int} (h : W.heap[g]? = some (.cells #[.int .i64 0, .int .i64 1, .int .i64 16, .int .i64 20, .int .i64 64, .int .i64 65] 2 (0, 0))) (h0 : 0 ≤ t) (h1 : t < 6) : W.cell? ⟨g, t.toNat, none⟩ = some (.int .i64 (rd bufE1 t)) := by
  rw [blk_cell h]
  obtain ⟨n, rfl⟩ := Int.eq_ofNat_of_zero_le h0
  rw [Int.toNat_natCast]
  match n, h1 with
  | 0, _ => rfl
  | 1, _ => rfl
  | 2, _ => rfl
  | 3, _ => rfl
  | 4, _ => rfl
  | 5, _ => rfl
  | n + 6, h => omega
theorem bufsInfo : (Try.prog.info? 28).map (fun i => (i.zero, i.size, i.bytes)) = some (some (.agg #[(.int .i64 0), (.int .i64 0), (.bool false)]), 3, 24) := by kernel_rfl
theorem bufs_at2 {W : World} {g : Nat} {t : Int} (h : W.heap[g]? = some (.cells #[.int .i64 1270, .int .i64 4000, .int .i64 4294967295, .int .i64 1280] 2 (0, 0))) (h0 : 0 ≤ t) (h1 : t < 4) : W.cell? ⟨g, t.toNat, none⟩ = some (.int .i64 (rd bufE2 t)) := by
  rw [blk_cell h]
  obtain ⟨n, rfl⟩ := Int.eq_ofNat_of_zero_le h0
  rw [Int.toNat_natCast]
  match n, h1 with
  | 0, _ => rfl
  | 1, _ => rfl
  | 2, _ => rfl
  | 3, _ => rfl
  | n + 4, h => omega
theorem LeO_bind {α β : Type} {x y : Option α} {f g : α → Option β} (h : LeO x y) (hf : ∀ a, LeO (f a) (g a)) : LeO (x.bind f) (y.bind g) := by
  intro r hr
  obtain ⟨a, ha, hb⟩ := Option.bind_eq_some_iff.mp hr
  exact Option.bind_eq_some_iff.mpr ⟨a, h a ha, hf a r hb⟩
theorem spec_l01Src_bufs.mono_l : ∀ k y0 y1 y2 y3 y4 y5 y6, LeO (spec_l01Src_bufs.l0 k y0 y1 y2 y3 y4 y5 y6) (spec_l01Src_bufs.l0 (k + 1) y0 y1 y2 y3 y4 y5 y6)
  | 0, _, _, _, _, _, _, _ => fun r h => by simp [spec_l01Src_bufs.l0] at h
  | k + 1, y0, y1, y2, y3, y4, y5, y6 => by
    rw [spec_l01Src_bufs.l0, spec_l01Src_bufs.l0]
    split
    · refine LeO_bind (fun _ h => h) (fun b1 => LeO_bind (fun _ h => h) (fun b2 => ?_))
      split
      · split
        · refine LeO_bind (fun _ h => h) (fun b3 => LeO_bind (fun _ h => h) (fun b4 => LeO_bind (fun _ h => h) (fun b5 => LeO_bind (fun _ h => h) (fun b6 => ?_))))
          split
          · exact spec_l01Src_bufs.mono_l k _ _ _ _ _ _ _
          · exact fun _ h => h
        · exact fun _ h => h
      · exact fun _ h => h
    · exact fun _ h => h
theorem spec_l01Src_bufs.mono : ∀ a0 a1 a2 a3 a4 k, LeO (spec_l01Src_bufs.f k a0 a1 a2 a3 a4) (spec_l01Src_bufs.f (k + 1) a0 a1 a2 a3 a4) := fun a0 a1 a2 a3 a4 k => spec_l01Src_bufs.mono_l k _ _ _ _ _ _ _
/-- Blocks other than the source's own stay. -/
theorem bufs_R {w W W' : World} {g : Nat} {v : Value} {l : List S28} (h : Kd.R k28 28 W w.heap.size (fun k => k ≠ g) v l) (hk : KeepBut W W' g none) : Kd.R k28 28 W' w.heap.size (fun k => k ≠ g) v l := Kd.R_step h (fun k ho hlt => hk.2 k hlt ho (by simp))
set_option maxHeartbeats 32000000 in
set_option maxRecDepth 100000 in
theorem spec_l01Src_bufs.calls (k : Nat) (g : Nat) (s0_0 : List Int) (s0_1 : Int) (s0_2 : Int) (s0_3 : Int) (a1 : Int) (r1 : List (S28)) (r2 : Int) (r3 : Int) (r4 : Int) (w0 w : World) (hI : IsS42 w0 w g s0_0 s0_1 s0_2 s0_3) (hB : Below w0.heap.size w0 w) (h : spec_l01Src_bufs.f k s0_0 s0_1 s0_2 s0_3 a1 = some (r1, r2, r3, r4)) :
    Calls Try.prog 9 #[.pointer (some ⟨g, 0, none⟩), .int .i64 a1] w fun e w' => ∃ v0_ : Value, e = .returned (v0_) ∧ Kd.R k28 28 w' w.heap.size (fun _ => True) v0_ r1 ∧ IsS42 w0 w' g s0_0 r2 r3 r4 ∧ Below w0.heap.size w0 w' ∧ KeepBut w w' g none := by
  unfold spec_l01Src_bufs.f at h
  have HI := Aside0.mk hI
  have HB := Aside0.mk hB
  have HL := Aside0.mk hB.size
  have H := Aside0.mk h
  clear hI hB h
  go_enter Try.func9, Try.ntmps9
  go_wp2_with (first | ((with_reducible refine gate_dst (N := 8) rfl ?_); refine Kd.R_lit (k28) _ 28 ?hg (N := 8) ?hd (xs := ([] : List S28)) (inner := []) (ok := fun k => k ≠ g) (okp := fun k => k ≠ g) ?hr ?hp (fun _ hk => hk) (IsS42.fresh HI.out _ (Nat.le_refl _)) (Below.refl _ _) (Nat.le_refl _) (by simp) ?_; (case hd => rfl); (case hg => rfl); (case hr => first | (go_simp; done) | (go_simp; rfl)); (case hp => exact (Reps.none _ _)); intro v8 w3 ho4 hb hg_ hnew_; have HO := Aside0.mk ho4; have HB3 := Aside0.mk hb; have HG3 := Aside0.mk hg_; clear ho4 hb hg_ hnew_))
  have HI3 : Aside0 (IsS42 w0 w3 g s0_0 s0_1 s0_2 s0_3) := ⟨HI.out.grown HG3.out (by simp)⟩
  have HK3 : Aside0 (KeepBut w w3 g none) := ⟨KeepBut.of_grown HG3.out g⟩
  have HB3' : Aside0 (Below w0.heap.size w0 w3) := ⟨HB.out.trans (HB3.out.mono HL.out)⟩
  go_loopg [5, 6] k (fun kq v5 v6 wr => ∃ (out : List S28) (j s1 s2 s3 : Int), v6 = .int .i64 j ∧ Aside0 (spec_l01Src_bufs.l0 kq out j a1 s0_0 s1 s2 s3 = some (r1, r2, r3, r4)) ∧ Aside0 (Kd.R k28 28 wr w.heap.size (fun k => k ≠ g) v5 out) ∧ Aside0 (IsS42 w0 wr g s0_0 s1 s2 s3) ∧ Aside0 (Below w0.heap.size w0 wr) ∧ Aside0 (KeepBut w wr g none))
  case atStart => exact ⟨[], 0, s0_1, s0_2, s0_3, rfl, H, HO, HI3, HB3', HK3⟩
  case round =>
    obtain ⟨out, j, s1, s2, s3, rfl, HA, HO, HI, HB, HK⟩ := hrel
    cases gk with
    | zero => exact absurd HA.out (by simp [spec_l01Src_bufs.l0])
    | succ k1 =>
    have H := HA.out
    clear HA
    simp only [spec_l01Src_bufs.l0] at H
    by_cases c1 : j < a1
    case neg =>
      rw [if_neg c1] at H
      have c1b : decide (j < a1) = false := decide_eq_false c1
      simp only [Option.some.injEq, Prod.mk.injEq] at H
      obtain ⟨rfl, rfl, rfl, rfl⟩ := H
      go_wp2
      go_ret
      exact ⟨_, rfl, Kd.R_mono HO.out (fun _ _ => trivial), HI.out, HB.out, HK.out⟩
    rw [if_pos c1] at H
    have c1b : decide (j < a1) = true := decide_eq_true c1
    clear c1
    obtain ⟨⟨t1, p1, m1, z1⟩, A1, H⟩ := Option.bind_eq_some_iff.mp H
    obtain ⟨⟨t2, p2, m2, z2⟩, A2, H⟩ := Option.bind_eq_some_iff.mp H
    simp only at A2 H
    by_cases c2 : 0 ≤ t2
    case neg => rw [if_neg c2] at H; exact absurd H (by simp)
    rw [if_pos c2] at H
    by_cases c3 : t2 < 6
    case neg => rw [if_neg c3] at H; exact absurd H (by simp)
    rw [if_pos c3] at H
    obtain ⟨⟨t3, p3, m3, z3⟩, A3, H⟩ := Option.bind_eq_some_iff.mp H
    simp only at A3 H
    have H' := Aside0.mk H
    clear H
    have hn1 : ∀ W : World, Aside0 (IsS42 w0 W g s0_0 s1 s2 s3) → Aside0 (Below w0.heap.size w0 W) → Calls Try.prog 10 #[.pointer (some ⟨g, 0, none⟩), .int .i64 11] W fun e w' => e = .returned (.int .i64 t1) ∧ Aside0 (IsS42 w0 w' g s0_0 p1 m1 z1) ∧ Aside0 (Below w0.heap.size w0 w') ∧ Aside0 (KeepBut W w' g none) := fun W h1 h2 => (spec_l01Src_n.calls g s0_0 s1 s2 s3 11 t1 p1 m1 z1 w0 W h1.out h2.out A1).mono fun e w' ⟨a, b, c, d⟩ => ⟨a, ⟨b⟩, ⟨c⟩, ⟨d⟩⟩
    have hn2 : ∀ W : World, Aside0 (IsS42 w0 W g s0_0 p1 m1 z1) → Aside0 (Below w0.heap.size w0 W) → Calls Try.prog 10 #[.pointer (some ⟨g, 0, none⟩), .int .i64 6] W fun e w' => e = .returned (.int .i64 t2) ∧ Aside0 (IsS42 w0 w' g s0_0 p2 m2 z2) ∧ Aside0 (Below w0.heap.size w0 w') ∧ Aside0 (KeepBut W w' g none) := fun W h1 h2 => (spec_l01Src_n.calls g s0_0 p1 m1 z1 6 t2 p2 m2 z2 w0 W h1.out h2.out A2).mono fun e w' ⟨a, b, c, d⟩ => ⟨a, ⟨b⟩, ⟨c⟩, ⟨d⟩⟩
    have HN1 := Aside0.mk hn1
    have HN2 := Aside0.mk hn2
    have H3 := Aside0.mk A3
    clear hn1 hn2 A1 A2 A3
    rename World => W1
    have C2 := Aside0.mk c2
    have C3 := Aside0.mk c3
    have HL1 : Aside0 (w0.heap.size ≤ W1.heap.size) := ⟨HB.out.size⟩
    clear c2 c3
    go_upto_region 5 with (fail)
    go_cut [7] (fun s7 wc => ∃ gb : Nat, s7 = .pointer (some ⟨gb, 0, none⟩) ∧ Aside0 (wc.heap[gb]? = some (.cells #[.int .i64 (wrap64 (512 + wrap64 (64 * t1))), .int .i64 (rd bufE1 t2), .bool t3] 28 (0, 0)) ∧ gb ≠ g ∧ W1.heap.size ≤ gb) ∧ Aside0 (IsS42 w0 wc g s0_0 p3 m3 z3) ∧ Aside0 (Below w0.heap.size w0 wc) ∧ Aside0 (KeepBut W1 wc g none))
    case first =>
      have HI0 : Aside0 (IsS42 w0 W1.drew g s0_0 s1 s2 s3) := ⟨HI.out⟩
      have HBd : Aside0 (Below w0.heap.size w0 W1.drew) := ⟨below_drew1 HB.out⟩
      have HKK : Aside0 (KeepBut W1 W1.drew g none) := ⟨keep_drew (KeepBut.refl W1 g none)⟩
      have HG : Aside0 (g < W1.drew.heap.size) := ⟨IsS42.lt HI.out⟩
      clear HI HB HO HK
      have HB := HBd
      clear HBd
      by_cases c4 : j > 0
      · have c4b : decide (0 < j) = true := decide_eq_true c4
        have h3 := H3.out
        rw [if_pos c4] at h3
        have HN3 : Aside0 (∀ W : World, Aside0 (IsS42 w0 W g s0_0 p2 m2 z2) → Aside0 (Below w0.heap.size w0 W) → Calls Try.prog 18 #[.pointer (some ⟨g, 0, none⟩), .int .i64 2] W fun e w' => e = .returned (.bool t3) ∧ Aside0 (IsS42 w0 w' g s0_0 p3 m3 z3) ∧ Aside0 (Below w0.heap.size w0 w') ∧ Aside0 (KeepBut W w' g none)) := ⟨fun W h1 h2 => (spec_l01Src_one.calls g s0_0 p2 m2 z2 2 t3 p3 m3 z3 w0 W h1.out h2.out h3).mono fun e w' ⟨a, b, c, d⟩ => ⟨a, ⟨b⟩, ⟨c⟩, ⟨d⟩⟩⟩
        clear h3 c4
        (try go_wp2)
        refine start_ (n := 18) (S := fun w' => True) (ds := []) #[false, false, false, false, false, false, false, false, false, false, false, false, false, false, false, false, false, false] (by kernel_rfl) rfl rfl trivial (fun hHeld => ?_)
        refine with_tabW spec_l01Src_bufs.tab5 spec_l01Src_bufs.bits5 (fun HT_ HW_ => ?_)
        refine pure_ (i := 0) (N := some 14) (v := ?_) (a' := ?_) #[true, false, false, false, false, false, false, false, false, false, false, false, false, false, false, false, false, false] rfl rfl (any_of HT_.out (by kernel_rfl)) (fun _ _ _ h => h) (Or.inl ⟨by rfl, ?_⟩) ?_ ?_
        rotate_left
        · intro w'
          go_simp
          with_reducible rfl
        rotate_left
        · simp only [Act.put, List.setIfInBounds_toArray, List.set_cons_zero, List.set_cons_succ, i64_w, i32_w]
          rfl
        refine pure_ (i := 5) (N := some 19) (v := ?_) (a' := ?_) #[true, false, false, false, false, true, false, false, false, false, false, false, false, false, false, false, false, false] rfl rfl (any_of HT_.out (by kernel_rfl)) (fun _ _ _ h => h) (Or.inl ⟨by rfl, ?_⟩) ?_ ?_
        rotate_left
        · intro w'
          go_simp
          with_reducible rfl
        rotate_left
        · simp only [Act.put, List.setIfInBounds_toArray, List.set_cons_zero, List.set_cons_succ, i64_w, i32_w]
          rfl
        refine pure_ (i := 9) (N := some 23) (v := ?_) (a' := ?_) #[true, false, false, false, false, true, false, false, false, true, false, false, false, false, false, false, false, false] rfl rfl (any_of HT_.out (by kernel_rfl)) (fun _ _ _ h => h) (Or.inl ⟨by rfl, ?_⟩) ?_ ?_
        rotate_left
        · intro w'
          go_simp
          with_reducible rfl
        rotate_left
        · simp only [Act.put, List.setIfInBounds_toArray, List.set_cons_zero, List.set_cons_succ, i64_w, i32_w]
          rfl
        refine pure_ (i := 10) (N := some 24) (v := ?_) (a' := ?_) #[true, false, false, false, false, true, false, false, false, true, true, false, false, false, false, false, false, false] rfl rfl (any_of HT_.out (by kernel_rfl)) (fun _ _ _ h => h) (Or.inl ⟨by rfl, ?_⟩) ?_ ?_
        rotate_left
        · intro w'
          go_simp
          with_reducible rfl
        rotate_left
        · simp only [Act.put, List.setIfInBounds_toArray, List.set_cons_zero, List.set_cons_succ, i64_w, i32_w]
          rfl
        refine inv_at [1, 2, 3, 4, 6, 7, 8, 11, 12, 13, 14, 15, 16, 17] (fun a0_ b a w' => ∃ (g18 : Nat) (gb : Nat) (m4_ : Value) (m7_ : Value) (m16_ : Value), a = putSel a0_ b [(1, 15, .int .i64 t1), (2, 16, .int .i64 (wrap64 (64 * t1))), (3, 17, .int .i64 (wrap64 (512 + wrap64 (64 * t1)))), (4, 18, m4_), (6, 20, .int .i64 t2), (7, 21, m7_), (8, 22, .int .i64 (rd bufE1 t2)), (11, 25, .bool true), (12, 26, .pointer (some ⟨g, 0, none⟩)), (13, 27, .bool t3), (14, 28, .bool t3), (15, 29, .agg #[.int .i64 (wrap64 (512 + wrap64 (64 * t1))), .int .i64 (rd bufE1 t2), .bool t3]), (16, 7, m16_)] ∧ (b 1 = false → IsS42 w0 w' g s0_0 s1 s2 s3) ∧ (b 1 = true → b 6 = false → IsS42 w0 w' g s0_0 p1 m1 z1) ∧ (b 6 = true → b 13 = false → IsS42 w0 w' g s0_0 p2 m2 z2) ∧ (b 13 = true → IsS42 w0 w' g s0_0 p3 m3 z3) ∧ (Below w0.heap.size w0 w') ∧ (KeepBut W1 w' g none) ∧ (g < w'.heap.size) ∧ (b 4 = true → b 17 = false → (w'.heap[g18]? = some (.cells #[.int .i64 0, .int .i64 1, .int .i64 16, .int .i64 20, .int .i64 64, .int .i64 65] 2 (0, 0)) ∧ g18 ≠ g)) ∧ (b 16 = true → b 17 = false → (w'.heap[gb]? = some (.cells #[.int .i64 0, .int .i64 0, .bool false] 28 (0, 0)) ∧ gb ≠ g ∧ W1.heap.size ≤ gb)) ∧ (b 17 = true → (w'.heap[gb]? = some (.cells #[.int .i64 (wrap64 (512 + wrap64 (64 * t1))), .int .i64 (rd bufE1 t2), .bool t3] 28 (0, 0)) ∧ gb ≠ g ∧ W1.heap.size ≤ gb)) ∧ (b 4 = true → (m4_ : Value) = .slice (some ⟨g18, 0, none⟩) 6 6) ∧ (b 7 = true → (m7_ : Value) = .pointer (some ⟨g18, t2.toNat, none⟩)) ∧ (b 16 = true → (m16_ : Value) = .pointer (some ⟨gb, 0, none⟩))) HT_.out HW_.out (by kernel_rfl) (by kernel_rfl) ?_ ?_ ?_
        · exact ⟨0, 0, .bool false, .bool false, .bool false, by simp only [putSel, Bool.false_eq_true, if_false], fun _ => HI0.out, fun h_ => absurd h_ (by decide), fun h_ => absurd h_ (by decide), fun h_ => absurd h_ (by decide), HB.out, HKK.out, HG.out, fun h_ => absurd h_ (by decide), fun h_ => absurd h_ (by decide), fun h_ => absurd h_ (by decide), fun h_ => absurd h_ (by decide), fun h_ => absurd h_ (by decide), fun h_ => absurd h_ (by decide)⟩
        · skip
          clear HB HG HI0 HKK
          refine steps_cons ?_ ?_
          · rintro b a w' ⟨g18, gb, m4_, m7_, m16_, ha, Q_HI0, Q_HI1, Q_HI2, Q_HI3, Q_HB, Q_HKK, Q_HG, Q_HA, Q_HX, Q_HY, Q_X4_, Q_X7_, Q_X16_⟩ hb_ hon hoff
            refine ⟨_, rfl, fun K hK => ?_⟩
            have e14 : a.tmps[14]? = some (.pointer (some ⟨g, 0, none⟩)) := by rw [ha]; exact (putSel_off rfl).trans rfl
            replace ha := Aside0.mk ha
            have HI0 := Aside0.mk (Q_HI0 hb_)
            have HB := Aside0.mk Q_HB
            have HKK := Aside0.mk Q_HKK
            have HG := Aside0.mk Q_HG
            refine goes_ (N := some 15) Try.func10 (by kernel_rfl) rfl #[.pointer (some ⟨g, 0, none⟩), .int .i64 11] (by rfl) rfl rfl (by first | (simp only [List.map_toArray, List.map_cons, List.map_nil, Act.eval, Array.getD_eq_getD_getElem?, Option.getD_some, e14]; done) | (simp only [List.map_toArray, List.map_cons, List.map_nil, Act.eval, Array.getD_eq_getD_getElem?, Option.getD_some, e14]; rfl)) ?_
            refine (HN1.out _ HI0 HB).mono ?_
            rintro e w1 ⟨rfl, I_, B_, K_⟩
            refine ⟨_, rfl, ?_⟩
            refine hK.out _ _ ⟨g18, gb, m4_, m7_, m16_, (by rw [ha.out]; exact putSel_upk 0 hb_ rfl rfl rfl), fun h0_ => absurd ((up_self b 1).symm.trans h0_) (by decide), fun _ _ => I_.out, fun h0_ _ => absurd ((hoff 6 (by kernel_rfl)).symm.trans h0_) (by decide), fun h0_ => absurd ((hoff 13 (by kernel_rfl)).symm.trans h0_) (by decide), B_.out, HKK.out.trans K_.out (.inl rfl), Nat.lt_of_lt_of_le HG.out K_.out.1, fun h0_ h1_ => ⟨K_.out.blk (Q_HA h0_ h1_).1 (Q_HA h0_ h1_).2 (by simp), (Q_HA h0_ h1_).2⟩, fun h0_ h1_ => ⟨K_.out.blk (Q_HX h0_ h1_).1 (Q_HX h0_ h1_).2.1 (by simp), (Q_HX h0_ h1_).2⟩, fun h0_ => absurd ((hoff 17 (by kernel_rfl)).symm.trans h0_) (by decide), Q_X4_, fun h0_ => absurd ((hoff 7 (by kernel_rfl)).symm.trans h0_) (by decide), Q_X16_⟩
          refine steps_cons ?_ ?_
          · rintro b a w' ⟨g18, gb, m4_, m7_, m16_, ha, Q_HI0, Q_HI1, Q_HI2, Q_HI3, Q_HB, Q_HKK, Q_HG, Q_HA, Q_HX, Q_HY, Q_X4_, Q_X7_, Q_X16_⟩ hb_ hon hoff
            refine ⟨_, rfl, fun K hK => ?_⟩
            have e15 : a.tmps[15]? = some (.int .i64 t1) := by rw [ha]; exact putSel_on (e := (1, 15, .int .i64 t1)) 0 rfl rfl (hon 1 (by kernel_rfl)) rfl
            replace ha := Aside0.mk ha
            have HB := Aside0.mk Q_HB
            have HKK := Aside0.mk Q_HKK
            have HG := Aside0.mk Q_HG
            refine value_ (w1 := w') (v := .int .i64 (wrap64 (64 * t1))) (by rfl) rfl ?_ ?_
            · go_simp
              (try simp only [i64_w])
              try rfl
            refine hK.out _ _ ⟨g18, gb, m4_, m7_, m16_, (by rw [ha.out]; exact putSel_upk 1 hb_ rfl rfl rfl), fun h0_ => absurd ((hon 1 (by kernel_rfl)).symm.trans h0_) (by decide), Q_HI1, Q_HI2, Q_HI3, Q_HB, Q_HKK, Q_HG, Q_HA, Q_HX, fun h0_ => absurd ((hoff 17 (by kernel_rfl)).symm.trans h0_) (by decide), Q_X4_, Q_X7_, Q_X16_⟩
          refine steps_cons ?_ ?_
          · rintro b a w' ⟨g18, gb, m4_, m7_, m16_, ha, Q_HI0, Q_HI1, Q_HI2, Q_HI3, Q_HB, Q_HKK, Q_HG, Q_HA, Q_HX, Q_HY, Q_X4_, Q_X7_, Q_X16_⟩ hb_ hon hoff
            refine ⟨_, rfl, fun K hK => ?_⟩
            have e16 : a.tmps[16]? = some (.int .i64 (wrap64 (64 * t1))) := by rw [ha]; exact putSel_on (e := (2, 16, .int .i64 (wrap64 (64 * t1)))) 1 rfl rfl (hon 2 (by kernel_rfl)) rfl
            replace ha := Aside0.mk ha
            have HB := Aside0.mk Q_HB
            have HKK := Aside0.mk Q_HKK
            have HG := Aside0.mk Q_HG
            refine value_ (w1 := w') (v := .int .i64 (wrap64 (512 + wrap64 (64 * t1)))) (by rfl) rfl ?_ ?_
            · go_simp
              (try simp only [i64_w])
              try rfl
            refine hK.out _ _ ⟨g18, gb, m4_, m7_, m16_, (by rw [ha.out]; exact putSel_upk 2 hb_ rfl rfl rfl), fun h0_ => absurd ((hon 1 (by kernel_rfl)).symm.trans h0_) (by decide), Q_HI1, Q_HI2, Q_HI3, Q_HB, Q_HKK, Q_HG, Q_HA, Q_HX, fun h0_ => absurd ((hoff 17 (by kernel_rfl)).symm.trans h0_) (by decide), Q_X4_, Q_X7_, Q_X16_⟩
          refine steps_cons ?_ ?_
          · rintro b a w' ⟨g18, gb, m4_, m7_, m16_, ha, Q_HI0, Q_HI1, Q_HI2, Q_HI3, Q_HB, Q_HKK, Q_HG, Q_HA, Q_HX, Q_HY, Q_X4_, Q_X7_, Q_X16_⟩ hb_ hon hoff
            refine ⟨_, rfl, fun K hK => ?_⟩
            replace ha := Aside0.mk ha
            have HB := Aside0.mk Q_HB
            have HKK := Aside0.mk Q_HKK
            have HG := Aside0.mk Q_HG
            refine value_ (w1 := w'.alloc (Obj.cells #[.int .i64 0, .int .i64 1, .int .i64 16, .int .i64 20, .int .i64 64, .int .i64 65] 2)) (v := .slice (some ⟨w'.heap.size, 0, none⟩) 6 6) (by rfl) rfl (by go_simp; try rfl) ?_
            refine hK.out _ _ ⟨w'.heap.size, gb, (.slice (some ⟨w'.heap.size, 0, none⟩) 6 6), m7_, m16_, (by rw [ha.out]; exact putSel_upk 3 hb_ rfl rfl rfl), fun h0_ => IsS42.alloc (Q_HI0 h0_) _, fun h0_ h1_ => IsS42.alloc (Q_HI1 h0_ h1_) _, fun h0_ h1_ => IsS42.alloc (Q_HI2 h0_ h1_) _, fun h0_ => IsS42.alloc (Q_HI3 h0_) _, below_alloc HB.out _, keep_alloc HKK.out _, Nat.lt_of_lt_of_le HG.out (by simp), fun _ _ => ⟨blk_new _ _, by have := HG.out; omega⟩, fun h0_ h1_ => ⟨blk_alloc (Q_HX h0_ h1_).1 _, (Q_HX h0_ h1_).2⟩, fun h0_ => absurd ((hoff 17 (by kernel_rfl)).symm.trans h0_) (by decide), fun _ => rfl, fun h0_ => absurd ((hoff 7 (by kernel_rfl)).symm.trans h0_) (by decide), Q_X16_⟩
          refine steps_cons ?_ ?_
          · rintro b a w' ⟨g18, gb, m4_, m7_, m16_, ha, Q_HI0, Q_HI1, Q_HI2, Q_HI3, Q_HB, Q_HKK, Q_HG, Q_HA, Q_HX, Q_HY, Q_X4_, Q_X7_, Q_X16_⟩ hb_ hon hoff
            refine ⟨_, rfl, fun K hK => ?_⟩
            have e19 : a.tmps[19]? = some (.pointer (some ⟨g, 0, none⟩)) := by rw [ha]; exact (putSel_off rfl).trans rfl
            replace ha := Aside0.mk ha
            have HI1 := Aside0.mk (Q_HI1 (hon 1 (by kernel_rfl)) hb_)
            have HB := Aside0.mk Q_HB
            have HKK := Aside0.mk Q_HKK
            have HG := Aside0.mk Q_HG
            refine goes_ (N := some 20) Try.func10 (by kernel_rfl) rfl #[.pointer (some ⟨g, 0, none⟩), .int .i64 6] (by rfl) rfl rfl (by first | (simp only [List.map_toArray, List.map_cons, List.map_nil, Act.eval, Array.getD_eq_getD_getElem?, Option.getD_some, e19]; done) | (simp only [List.map_toArray, List.map_cons, List.map_nil, Act.eval, Array.getD_eq_getD_getElem?, Option.getD_some, e19]; rfl)) ?_
            refine (HN2.out _ HI1 HB).mono ?_
            rintro e w1 ⟨rfl, I_, B_, K_⟩
            refine ⟨_, rfl, ?_⟩
            refine hK.out _ _ ⟨g18, gb, m4_, m7_, m16_, (by rw [ha.out]; exact putSel_upk 4 hb_ rfl rfl rfl), fun h0_ => absurd ((hon 1 (by kernel_rfl)).symm.trans h0_) (by decide), fun _ h1_ => absurd ((up_self b 6).symm.trans h1_) (by decide), fun _ _ => I_.out, fun h0_ => absurd ((hoff 13 (by kernel_rfl)).symm.trans h0_) (by decide), B_.out, HKK.out.trans K_.out (.inl rfl), Nat.lt_of_lt_of_le HG.out K_.out.1, fun h0_ h1_ => ⟨K_.out.blk (Q_HA h0_ h1_).1 (Q_HA h0_ h1_).2 (by simp), (Q_HA h0_ h1_).2⟩, fun h0_ h1_ => ⟨K_.out.blk (Q_HX h0_ h1_).1 (Q_HX h0_ h1_).2.1 (by simp), (Q_HX h0_ h1_).2⟩, fun h0_ => absurd ((hoff 17 (by kernel_rfl)).symm.trans h0_) (by decide), Q_X4_, fun h0_ => absurd ((hoff 7 (by kernel_rfl)).symm.trans h0_) (by decide), Q_X16_⟩
          refine steps_cons ?_ ?_
          · rintro b a w' ⟨g18, gb, m4_, m7_, m16_, ha, Q_HI0, Q_HI1, Q_HI2, Q_HI3, Q_HB, Q_HKK, Q_HG, Q_HA, Q_HX, Q_HY, Q_X4_, Q_X7_, Q_X16_⟩ hb_ hon hoff
            refine ⟨_, rfl, fun K hK => ?_⟩
            have e18 : a.tmps[18]? = some (m4_) := by rw [ha]; exact putSel_on (e := (4, 18, m4_)) 3 rfl rfl (hon 4 (by kernel_rfl)) rfl
            rw [Q_X4_ (hon 4 (by kernel_rfl))] at e18
            have e20 : a.tmps[20]? = some (.int .i64 t2) := by rw [ha]; exact putSel_on (e := (6, 20, .int .i64 t2)) 4 rfl rfl (hon 6 (by kernel_rfl)) rfl
            replace ha := Aside0.mk ha
            have HB := Aside0.mk Q_HB
            have HKK := Aside0.mk Q_HKK
            have HG := Aside0.mk Q_HG
            have HA := Aside0.mk (Q_HA (hon 4 (by kernel_rfl)) (hoff 17 (by kernel_rfl)))
            have hc2_ := C2.out
            have hc3_ := C3.out
            refine value_ (w1 := w') (v := .pointer (some ⟨g18, t2.toNat, none⟩)) (by rfl) rfl ?_ ?_
            · go_simp
              (try simp only [i64_w])
              try rfl
            refine hK.out _ _ ⟨g18, gb, m4_, (.pointer (some ⟨g18, t2.toNat, none⟩)), m16_, (by rw [ha.out]; exact putSel_upk 5 hb_ rfl rfl rfl), fun h0_ => absurd ((hon 1 (by kernel_rfl)).symm.trans h0_) (by decide), fun _ h1_ => absurd ((hon 6 (by kernel_rfl)).symm.trans h1_) (by decide), Q_HI2, Q_HI3, Q_HB, Q_HKK, Q_HG, Q_HA, Q_HX, fun h0_ => absurd ((hoff 17 (by kernel_rfl)).symm.trans h0_) (by decide), Q_X4_, fun _ => rfl, Q_X16_⟩
          refine steps_cons ?_ ?_
          · rintro b a w' ⟨g18, gb, m4_, m7_, m16_, ha, Q_HI0, Q_HI1, Q_HI2, Q_HI3, Q_HB, Q_HKK, Q_HG, Q_HA, Q_HX, Q_HY, Q_X4_, Q_X7_, Q_X16_⟩ hb_ hon hoff
            refine ⟨_, rfl, fun K hK => ?_⟩
            have e21 : a.tmps[21]? = some (m7_) := by rw [ha]; exact putSel_on (e := (7, 21, m7_)) 5 rfl rfl (hon 7 (by kernel_rfl)) rfl
            rw [Q_X7_ (hon 7 (by kernel_rfl))] at e21
            replace ha := Aside0.mk ha
            have HB := Aside0.mk Q_HB
            have HKK := Aside0.mk Q_HKK
            have HG := Aside0.mk Q_HG
            have HA := Aside0.mk (Q_HA (hon 4 (by kernel_rfl)) (hoff 17 (by kernel_rfl)))
            have hs_ : w'.cell? ⟨g18, t2.toNat, none⟩ = some (.int .i64 (rd bufE1 t2)) := bufs_at HA.out.1 C2.out C3.out
            refine value_ (w1 := w') (v := .int .i64 (rd bufE1 t2)) (by rfl) rfl ?_ ?_
            · go_simp
              (try simp only [i64_w])
              try rfl
            refine hK.out _ _ ⟨g18, gb, m4_, m7_, m16_, (by rw [ha.out]; exact putSel_upk 6 hb_ rfl rfl rfl), fun h0_ => absurd ((hon 1 (by kernel_rfl)).symm.trans h0_) (by decide), fun _ h1_ => absurd ((hon 6 (by kernel_rfl)).symm.trans h1_) (by decide), Q_HI2, Q_HI3, Q_HB, Q_HKK, Q_HG, Q_HA, Q_HX, fun h0_ => absurd ((hoff 17 (by kernel_rfl)).symm.trans h0_) (by decide), Q_X4_, Q_X7_, Q_X16_⟩
          refine steps_cons ?_ ?_
          · rintro b a w' ⟨g18, gb, m4_, m7_, m16_, ha, Q_HI0, Q_HI1, Q_HI2, Q_HI3, Q_HB, Q_HKK, Q_HG, Q_HA, Q_HX, Q_HY, Q_X4_, Q_X7_, Q_X16_⟩ hb_ hon hoff
            refine ⟨_, rfl, fun K hK => ?_⟩
            have e24 : a.tmps[24]? = some (.bool true) := by rw [ha]; exact (putSel_off rfl).trans rfl
            replace ha := Aside0.mk ha
            have HI2 := Aside0.mk (Q_HI2 (hon 6 (by kernel_rfl)) (hoff 13 (by kernel_rfl)))
            have HB := Aside0.mk Q_HB
            have HKK := Aside0.mk Q_HKK
            have HG := Aside0.mk Q_HG
            refine value_ (w1 := w') (v := .bool true) (by rfl) rfl ?_ ?_
            · go_simp
              (try simp only [i64_w])
              try rfl
            refine hK.out _ _ ⟨g18, gb, m4_, m7_, m16_, (by rw [ha.out]; exact putSel_upk 7 hb_ rfl rfl rfl), fun h0_ => absurd ((hon 1 (by kernel_rfl)).symm.trans h0_) (by decide), fun _ h1_ => absurd ((hon 6 (by kernel_rfl)).symm.trans h1_) (by decide), Q_HI2, fun h0_ => absurd ((hoff 13 (by kernel_rfl)).symm.trans h0_) (by decide), Q_HB, Q_HKK, Q_HG, Q_HA, Q_HX, fun h0_ => absurd ((hoff 17 (by kernel_rfl)).symm.trans h0_) (by decide), Q_X4_, Q_X7_, Q_X16_⟩
          refine steps_cons ?_ ?_
          · rintro b a w' ⟨g18, gb, m4_, m7_, m16_, ha, Q_HI0, Q_HI1, Q_HI2, Q_HI3, Q_HB, Q_HKK, Q_HG, Q_HA, Q_HX, Q_HY, Q_X4_, Q_X7_, Q_X16_⟩ hb_ hon hoff
            refine ⟨_, rfl, fun K hK => ?_⟩
            have e0 : a.tmps[0]? = some (.pointer (some ⟨g, 0, none⟩)) := by rw [ha]; exact (putSel_off rfl).trans rfl
            have e25 : a.tmps[25]? = some (.bool true) := by rw [ha]; exact putSel_on (e := (11, 25, .bool true)) 7 rfl rfl (hon 11 (by kernel_rfl)) rfl
            replace ha := Aside0.mk ha
            have HI2 := Aside0.mk (Q_HI2 (hon 6 (by kernel_rfl)) (hoff 13 (by kernel_rfl)))
            have HB := Aside0.mk Q_HB
            have HKK := Aside0.mk Q_HKK
            have HG := Aside0.mk Q_HG
            refine value_ (w1 := w') (v := .pointer (some ⟨g, 0, none⟩)) (wanted_on rfl rfl rfl (e25.trans (by first | rfl | (simp [*]; done)))) rfl ?_ ?_
            · go_simp
              (try simp only [i64_w])
              try rfl
            refine hK.out _ _ ⟨g18, gb, m4_, m7_, m16_, (by rw [ha.out]; exact putSel_upk 8 hb_ rfl rfl rfl), fun h0_ => absurd ((hon 1 (by kernel_rfl)).symm.trans h0_) (by decide), fun _ h1_ => absurd ((hon 6 (by kernel_rfl)).symm.trans h1_) (by decide), Q_HI2, fun h0_ => absurd ((hoff 13 (by kernel_rfl)).symm.trans h0_) (by decide), Q_HB, Q_HKK, Q_HG, Q_HA, Q_HX, fun h0_ => absurd ((hoff 17 (by kernel_rfl)).symm.trans h0_) (by decide), Q_X4_, Q_X7_, Q_X16_⟩
          refine steps_cons ?_ ?_
          · rintro b a w' ⟨g18, gb, m4_, m7_, m16_, ha, Q_HI0, Q_HI1, Q_HI2, Q_HI3, Q_HB, Q_HKK, Q_HG, Q_HA, Q_HX, Q_HY, Q_X4_, Q_X7_, Q_X16_⟩ hb_ hon hoff
            refine ⟨_, rfl, fun K hK => ?_⟩
            have e26 : a.tmps[26]? = some (.pointer (some ⟨g, 0, none⟩)) := by rw [ha]; exact putSel_on (e := (12, 26, .pointer (some ⟨g, 0, none⟩))) 8 rfl rfl (hon 12 (by kernel_rfl)) rfl
            have e25 : a.tmps[25]? = some (.bool true) := by rw [ha]; exact putSel_on (e := (11, 25, .bool true)) 7 rfl rfl (hon 11 (by kernel_rfl)) rfl
            replace ha := Aside0.mk ha
            have HI2 := Aside0.mk (Q_HI2 (hon 6 (by kernel_rfl)) hb_)
            have HB := Aside0.mk Q_HB
            have HKK := Aside0.mk Q_HKK
            have HG := Aside0.mk Q_HG
            refine goes_ (N := some 27) Try.func18 (by kernel_rfl) rfl #[.pointer (some ⟨g, 0, none⟩), .int .i64 2] (wanted_on rfl rfl rfl (e25.trans (by first | rfl | (simp [*]; done)))) rfl rfl (by first | (simp only [List.map_toArray, List.map_cons, List.map_nil, Act.eval, Array.getD_eq_getD_getElem?, Option.getD_some, e26, e25]; done) | (simp only [List.map_toArray, List.map_cons, List.map_nil, Act.eval, Array.getD_eq_getD_getElem?, Option.getD_some, e26, e25]; rfl)) ?_
            refine (HN3.out _ HI2 HB).mono ?_
            rintro e w1 ⟨rfl, I_, B_, K_⟩
            refine ⟨_, rfl, ?_⟩
            refine hK.out _ _ ⟨g18, gb, m4_, m7_, m16_, (by rw [ha.out]; exact putSel_upk 9 hb_ rfl rfl rfl), fun h0_ => absurd ((hon 1 (by kernel_rfl)).symm.trans h0_) (by decide), fun _ h1_ => absurd ((hon 6 (by kernel_rfl)).symm.trans h1_) (by decide), fun _ h1_ => absurd ((up_self b 13).symm.trans h1_) (by decide), fun _ => I_.out, B_.out, HKK.out.trans K_.out (.inl rfl), Nat.lt_of_lt_of_le HG.out K_.out.1, fun h0_ h1_ => ⟨K_.out.blk (Q_HA h0_ h1_).1 (Q_HA h0_ h1_).2 (by simp), (Q_HA h0_ h1_).2⟩, fun h0_ h1_ => ⟨K_.out.blk (Q_HX h0_ h1_).1 (Q_HX h0_ h1_).2.1 (by simp), (Q_HX h0_ h1_).2⟩, fun h0_ => absurd ((hoff 17 (by kernel_rfl)).symm.trans h0_) (by decide), Q_X4_, Q_X7_, Q_X16_⟩
          refine steps_cons ?_ ?_
          · rintro b a w' ⟨g18, gb, m4_, m7_, m16_, ha, Q_HI0, Q_HI1, Q_HI2, Q_HI3, Q_HB, Q_HKK, Q_HG, Q_HA, Q_HX, Q_HY, Q_X4_, Q_X7_, Q_X16_⟩ hb_ hon hoff
            refine ⟨_, rfl, fun K hK => ?_⟩
            have e25 : a.tmps[25]? = some (.bool true) := by rw [ha]; exact putSel_on (e := (11, 25, .bool true)) 7 rfl rfl (hon 11 (by kernel_rfl)) rfl
            have e27 : a.tmps[27]? = some (.bool t3) := by rw [ha]; exact putSel_on (e := (13, 27, .bool t3)) 9 rfl rfl (hon 13 (by kernel_rfl)) rfl
            replace ha := Aside0.mk ha
            have HI3 := Aside0.mk (Q_HI3 (hon 13 (by kernel_rfl)))
            have HB := Aside0.mk Q_HB
            have HKK := Aside0.mk Q_HKK
            have HG := Aside0.mk Q_HG
            refine value_ (w1 := w') (v := .bool t3) (by rfl) rfl ?_ ?_
            · go_simp
              (try simp only [i64_w])
              try rfl
            refine hK.out _ _ ⟨g18, gb, m4_, m7_, m16_, (by rw [ha.out]; exact putSel_upk 10 hb_ rfl rfl rfl), fun h0_ => absurd ((hon 1 (by kernel_rfl)).symm.trans h0_) (by decide), fun _ h1_ => absurd ((hon 6 (by kernel_rfl)).symm.trans h1_) (by decide), fun _ h1_ => absurd ((hon 13 (by kernel_rfl)).symm.trans h1_) (by decide), Q_HI3, Q_HB, Q_HKK, Q_HG, Q_HA, Q_HX, fun h0_ => absurd ((hoff 17 (by kernel_rfl)).symm.trans h0_) (by decide), Q_X4_, Q_X7_, Q_X16_⟩
          refine steps_cons ?_ ?_
          · rintro b a w' ⟨g18, gb, m4_, m7_, m16_, ha, Q_HI0, Q_HI1, Q_HI2, Q_HI3, Q_HB, Q_HKK, Q_HG, Q_HA, Q_HX, Q_HY, Q_X4_, Q_X7_, Q_X16_⟩ hb_ hon hoff
            refine ⟨_, rfl, fun K hK => ?_⟩
            have e17 : a.tmps[17]? = some (.int .i64 (wrap64 (512 + wrap64 (64 * t1)))) := by rw [ha]; exact putSel_on (e := (3, 17, .int .i64 (wrap64 (512 + wrap64 (64 * t1))))) 2 rfl rfl (hon 3 (by kernel_rfl)) rfl
            have e22 : a.tmps[22]? = some (.int .i64 (rd bufE1 t2)) := by rw [ha]; exact putSel_on (e := (8, 22, .int .i64 (rd bufE1 t2))) 6 rfl rfl (hon 8 (by kernel_rfl)) rfl
            have e28 : a.tmps[28]? = some (.bool t3) := by rw [ha]; exact putSel_on (e := (14, 28, .bool t3)) 10 rfl rfl (hon 14 (by kernel_rfl)) rfl
            replace ha := Aside0.mk ha
            have HI3 := Aside0.mk (Q_HI3 (hon 13 (by kernel_rfl)))
            have HB := Aside0.mk Q_HB
            have HKK := Aside0.mk Q_HKK
            have HG := Aside0.mk Q_HG
            have HA := Aside0.mk (Q_HA (hon 4 (by kernel_rfl)) (hoff 17 (by kernel_rfl)))
            refine value_ (w1 := w') (v := .agg #[.int .i64 (wrap64 (512 + wrap64 (64 * t1))), .int .i64 (rd bufE1 t2), .bool t3]) (by rfl) rfl ?_ ?_
            · go_simp
              (try simp only [i64_w])
              try rfl
            refine hK.out _ _ ⟨g18, gb, m4_, m7_, m16_, (by rw [ha.out]; exact putSel_upk 11 hb_ rfl rfl rfl), fun h0_ => absurd ((hon 1 (by kernel_rfl)).symm.trans h0_) (by decide), fun _ h1_ => absurd ((hon 6 (by kernel_rfl)).symm.trans h1_) (by decide), fun _ h1_ => absurd ((hon 13 (by kernel_rfl)).symm.trans h1_) (by decide), Q_HI3, Q_HB, Q_HKK, Q_HG, Q_HA, Q_HX, fun h0_ => absurd ((hoff 17 (by kernel_rfl)).symm.trans h0_) (by decide), Q_X4_, Q_X7_, Q_X16_⟩
          refine steps_cons ?_ ?_
          · rintro b a w' ⟨g18, gb, m4_, m7_, m16_, ha, Q_HI0, Q_HI1, Q_HI2, Q_HI3, Q_HB, Q_HKK, Q_HG, Q_HA, Q_HX, Q_HY, Q_X4_, Q_X7_, Q_X16_⟩ hb_ hon hoff
            refine ⟨_, rfl, fun K hK => ?_⟩
            replace ha := Aside0.mk ha
            have HB := Aside0.mk Q_HB
            have HKK := Aside0.mk Q_HKK
            have HG := Aside0.mk Q_HG
            refine value_ (w1 := w'.alloc (Obj.cells #[.int .i64 0, .int .i64 0, .bool false] 28)) (v := .pointer (some ⟨w'.heap.size, 0, none⟩)) (by rfl) rfl (by go_simp; try rfl) ?_
            refine hK.out _ _ ⟨g18, w'.heap.size, m4_, m7_, (.pointer (some ⟨w'.heap.size, 0, none⟩)), (by rw [ha.out]; exact putSel_upk 12 hb_ rfl rfl rfl), fun h0_ => IsS42.alloc (Q_HI0 h0_) _, fun h0_ h1_ => IsS42.alloc (Q_HI1 h0_ h1_) _, fun h0_ h1_ => IsS42.alloc (Q_HI2 h0_ h1_) _, fun h0_ => IsS42.alloc (Q_HI3 h0_) _, below_alloc HB.out _, keep_alloc HKK.out _, Nat.lt_of_lt_of_le HG.out (by simp), fun h0_ h1_ => ⟨blk_alloc (Q_HA h0_ h1_).1 _, (Q_HA h0_ h1_).2⟩, fun _ _ => ⟨blk_new _ _, by have := HG.out; omega, keep_size HKK.out⟩, fun h0_ => absurd ((hoff 17 (by kernel_rfl)).symm.trans h0_) (by decide), Q_X4_, Q_X7_, fun _ => rfl⟩
          refine steps_cons ?_ ?_
          · rintro b a w' ⟨g18, gb, m4_, m7_, m16_, ha, Q_HI0, Q_HI1, Q_HI2, Q_HI3, Q_HB, Q_HKK, Q_HG, Q_HA, Q_HX, Q_HY, Q_X4_, Q_X7_, Q_X16_⟩ hb_ hon hoff
            refine ⟨_, rfl, fun K hK => ?_⟩
            have e7 : a.tmps[7]? = some (m16_) := by rw [ha]; exact putSel_on (e := (16, 7, m16_)) 12 rfl rfl (hon 16 (by kernel_rfl)) rfl
            rw [Q_X16_ (hon 16 (by kernel_rfl))] at e7
            have e29 : a.tmps[29]? = some (.agg #[.int .i64 (wrap64 (512 + wrap64 (64 * t1))), .int .i64 (rd bufE1 t2), .bool t3]) := by rw [ha]; exact putSel_on (e := (15, 29, .agg #[.int .i64 (wrap64 (512 + wrap64 (64 * t1))), .int .i64 (rd bufE1 t2), .bool t3])) 11 rfl rfl (hon 15 (by kernel_rfl)) rfl
            replace ha := Aside0.mk ha
            have HI3 := Aside0.mk (Q_HI3 (hon 13 (by kernel_rfl)))
            have HB := Aside0.mk Q_HB
            have HKK := Aside0.mk Q_HKK
            have HG := Aside0.mk Q_HG
            have HA := Aside0.mk (Q_HA (hon 4 (by kernel_rfl)) hb_)
            have HX := Aside0.mk (Q_HX (hon 16 (by kernel_rfl)) hb_)
            have hm0_ : w'.cell? ⟨gb, 0, none⟩ = some (.int .i64 0) := (blk_cell HX.out.1 0).trans rfl
            have hm1_ : w'.cell? ⟨gb, 1, none⟩ = some (.int .i64 0) := (blk_cell HX.out.1 1).trans rfl
            have hm2_ : w'.cell? ⟨gb, 2, none⟩ = some (.bool false) := (blk_cell HX.out.1 2).trans rfl
            have hf0_ := blk_frozen HX.out.1 0
            have hf1_ := blk_frozen HX.out.1 1
            have hf2_ := blk_frozen HX.out.1 2
            refine skip_ (w1 := (((w'.setCell ⟨gb, 0, none⟩ (.int .i64 (wrap64 (512 + wrap64 (64 * t1))))).setCell ⟨gb, 1, none⟩ (.int .i64 (rd bufE1 t2))).setCell ⟨gb, 2, none⟩ (.bool t3))) (by rfl) rfl (by go_simp; try rfl) ?_
            refine hK.out _ _ ⟨g18, gb, m4_, m7_, m16_, (by rw [ha.out]; exact putSel_none (v := undef) rfl), fun h0_ => absurd ((hon 1 (by kernel_rfl)).symm.trans h0_) (by decide), fun _ h1_ => absurd ((hon 6 (by kernel_rfl)).symm.trans h1_) (by decide), fun _ h1_ => absurd ((hon 13 (by kernel_rfl)).symm.trans h1_) (by decide), fun _ => IsS42.far (p := ⟨gb, 2, none⟩) (IsS42.far (p := ⟨gb, 1, none⟩) (IsS42.far (p := ⟨gb, 0, none⟩) HI3.out (fun e => HX.out.2.1 e.symm) _) (fun e => HX.out.2.1 e.symm) _) (fun e => HX.out.2.1 e.symm) _, below_set (below_set (below_set HB.out (Nat.le_trans HL1.out HX.out.2.2)) (Nat.le_trans HL1.out HX.out.2.2)) (Nat.le_trans HL1.out HX.out.2.2), keep_far (keep_far (keep_far HKK.out (p := ⟨gb, 0, none⟩) HX.out.2.2 _) (p := ⟨gb, 1, none⟩) HX.out.2.2 _) (p := ⟨gb, 2, none⟩) HX.out.2.2 _, by simpa using HG.out, fun _ h1_ => absurd ((up_self b 17).symm.trans h1_) (by decide), fun _ h1_ => absurd ((up_self b 17).symm.trans h1_) (by decide), fun _ => ⟨by have h_ := blk_set (blk_set (blk_set HX.out.1 0 (.int .i64 (wrap64 (512 + wrap64 (64 * t1))))) 1 (.int .i64 (rd bufE1 t2))) 2 (.bool t3); simpa using h_, HX.out.2⟩, Q_X4_, Q_X7_, Q_X16_⟩
          exact steps_nil
        rintro b a w' hall ⟨g18, gb, m4_, m7_, m16_, ha, Q_HI0, Q_HI1, Q_HI2, Q_HI3, Q_HB, Q_HKK, Q_HG, Q_HA, Q_HX, Q_HY, Q_X4_, Q_X7_, Q_X16_⟩
        clear HB HG HI0 HKK
        have hb1_ := hall 1 (by kernel_rfl)
        have hb2_ := hall 2 (by kernel_rfl)
        have hb3_ := hall 3 (by kernel_rfl)
        have hb4_ := hall 4 (by kernel_rfl)
        have hb6_ := hall 6 (by kernel_rfl)
        have hb7_ := hall 7 (by kernel_rfl)
        have hb8_ := hall 8 (by kernel_rfl)
        have hb11_ := hall 11 (by kernel_rfl)
        have hb12_ := hall 12 (by kernel_rfl)
        have hb13_ := hall 13 (by kernel_rfl)
        have hb14_ := hall 14 (by kernel_rfl)
        have hb15_ := hall 15 (by kernel_rfl)
        have hb16_ := hall 16 (by kernel_rfl)
        have hb17_ := hall 17 (by kernel_rfl)
        subst ha
        obtain rfl := Q_X4_ hb4_
        obtain rfl := Q_X7_ hb7_
        obtain rfl := Q_X16_ hb16_
        simp only [putSel, hb1_, hb2_, hb3_, hb4_, hb6_, hb7_, hb8_, hb11_, hb12_, hb13_, hb14_, hb15_, hb16_, hb17_, if_true, Act.put, List.setIfInBounds_toArray, List.set_cons_zero, List.set_cons_succ]
        clear Q_HI0
        clear Q_HI1
        clear Q_HI2
        have HI3 := Aside0.mk (Q_HI3 hb13_)
        clear Q_HI3
        have HB := Aside0.mk Q_HB
        clear Q_HB
        have HKK := Aside0.mk Q_HKK
        clear Q_HKK
        have HG := Aside0.mk Q_HG
        clear Q_HG
        clear Q_HA
        clear Q_HX
        have HY := Aside0.mk (Q_HY hb17_)
        clear Q_HY
        clear hall hb1_ hb2_ hb3_ hb4_ hb6_ hb7_ hb8_ hb11_ hb12_ hb13_ hb14_ hb15_ hb16_ hb17_
        (try go_wp2)
        go_meet
        case rel => exact ⟨gb, rfl, HY, HI3, HB, HKK⟩
      · have c4b : decide (0 < j) = false := decide_eq_false c4
        have h3 := H3.out
        rw [if_neg c4] at h3
        simp only [Option.some.injEq, Prod.mk.injEq] at h3
        obtain ⟨rfl, rfl, rfl, rfl⟩ := h3
        clear c4
        (try go_wp2)
        refine start_ (n := 18) (S := fun w' => True) (ds := []) #[false, false, false, false, false, false, false, false, false, false, false, false, false, false, false, false, false, false] (by kernel_rfl) rfl rfl trivial (fun hHeld => ?_)
        refine with_tabW spec_l01Src_bufs.tab5 spec_l01Src_bufs.bits5 (fun HT_ HW_ => ?_)
        refine pure_ (i := 0) (N := some 14) (v := ?_) (a' := ?_) #[true, false, false, false, false, false, false, false, false, false, false, false, false, false, false, false, false, false] rfl rfl (any_of HT_.out (by kernel_rfl)) (fun _ _ _ h => h) (Or.inl ⟨by rfl, ?_⟩) ?_ ?_
        rotate_left
        · intro w'
          go_simp
          with_reducible rfl
        rotate_left
        · simp only [Act.put, List.setIfInBounds_toArray, List.set_cons_zero, List.set_cons_succ, i64_w, i32_w]
          rfl
        refine pure_ (i := 5) (N := some 19) (v := ?_) (a' := ?_) #[true, false, false, false, false, true, false, false, false, false, false, false, false, false, false, false, false, false] rfl rfl (any_of HT_.out (by kernel_rfl)) (fun _ _ _ h => h) (Or.inl ⟨by rfl, ?_⟩) ?_ ?_
        rotate_left
        · intro w'
          go_simp
          with_reducible rfl
        rotate_left
        · simp only [Act.put, List.setIfInBounds_toArray, List.set_cons_zero, List.set_cons_succ, i64_w, i32_w]
          rfl
        refine pure_ (i := 9) (N := some 23) (v := ?_) (a' := ?_) #[true, false, false, false, false, true, false, false, false, true, false, false, false, false, false, false, false, false] rfl rfl (any_of HT_.out (by kernel_rfl)) (fun _ _ _ h => h) (Or.inl ⟨by rfl, ?_⟩) ?_ ?_
        rotate_left
        · intro w'
          go_simp
          with_reducible rfl
        rotate_left
        · simp only [Act.put, List.setIfInBounds_toArray, List.set_cons_zero, List.set_cons_succ, i64_w, i32_w]
          rfl
        refine pure_ (i := 10) (N := some 24) (v := ?_) (a' := ?_) #[true, false, false, false, false, true, false, false, false, true, true, false, false, false, false, false, false, false] rfl rfl (any_of HT_.out (by kernel_rfl)) (fun _ _ _ h => h) (Or.inl ⟨by rfl, ?_⟩) ?_ ?_
        rotate_left
        · intro w'
          go_simp
          with_reducible rfl
        rotate_left
        · simp only [Act.put, List.setIfInBounds_toArray, List.set_cons_zero, List.set_cons_succ, i64_w, i32_w]
          rfl
        refine inv_at [1, 2, 3, 4, 6, 7, 8, 11, 12, 13, 14, 15, 16, 17] (fun a0_ b a w' => ∃ (g18 : Nat) (gb : Nat) (m4_ : Value) (m7_ : Value) (m16_ : Value), a = putSel a0_ b [(1, 15, .int .i64 t1), (2, 16, .int .i64 (wrap64 (64 * t1))), (3, 17, .int .i64 (wrap64 (512 + wrap64 (64 * t1)))), (4, 18, m4_), (6, 20, .int .i64 t2), (7, 21, m7_), (8, 22, .int .i64 (rd bufE1 t2)), (11, 25, .bool false), (12, 26, undef), (13, 27, undef), (14, 28, .bool false), (15, 29, .agg #[.int .i64 (wrap64 (512 + wrap64 (64 * t1))), .int .i64 (rd bufE1 t2), .bool false]), (16, 7, m16_)] ∧ (b 1 = false → IsS42 w0 w' g s0_0 s1 s2 s3) ∧ (b 1 = true → b 6 = false → IsS42 w0 w' g s0_0 p1 m1 z1) ∧ (b 6 = true → IsS42 w0 w' g s0_0 p2 m2 z2) ∧ (Below w0.heap.size w0 w') ∧ (KeepBut W1 w' g none) ∧ (g < w'.heap.size) ∧ (b 4 = true → b 17 = false → (w'.heap[g18]? = some (.cells #[.int .i64 0, .int .i64 1, .int .i64 16, .int .i64 20, .int .i64 64, .int .i64 65] 2 (0, 0)) ∧ g18 ≠ g)) ∧ (b 16 = true → b 17 = false → (w'.heap[gb]? = some (.cells #[.int .i64 0, .int .i64 0, .bool false] 28 (0, 0)) ∧ gb ≠ g ∧ W1.heap.size ≤ gb)) ∧ (b 17 = true → (w'.heap[gb]? = some (.cells #[.int .i64 (wrap64 (512 + wrap64 (64 * t1))), .int .i64 (rd bufE1 t2), .bool false] 28 (0, 0)) ∧ gb ≠ g ∧ W1.heap.size ≤ gb)) ∧ (b 4 = true → (m4_ : Value) = .slice (some ⟨g18, 0, none⟩) 6 6) ∧ (b 7 = true → (m7_ : Value) = .pointer (some ⟨g18, t2.toNat, none⟩)) ∧ (b 16 = true → (m16_ : Value) = .pointer (some ⟨gb, 0, none⟩))) HT_.out HW_.out (by kernel_rfl) (by kernel_rfl) ?_ ?_ ?_
        · exact ⟨0, 0, .bool false, .bool false, .bool false, by simp only [putSel, Bool.false_eq_true, if_false], fun _ => HI0.out, fun h_ => absurd h_ (by decide), fun h_ => absurd h_ (by decide), HB.out, HKK.out, HG.out, fun h_ => absurd h_ (by decide), fun h_ => absurd h_ (by decide), fun h_ => absurd h_ (by decide), fun h_ => absurd h_ (by decide), fun h_ => absurd h_ (by decide), fun h_ => absurd h_ (by decide)⟩
        · skip
          clear HB HG HI0 HKK
          refine steps_cons ?_ ?_
          · rintro b a w' ⟨g18, gb, m4_, m7_, m16_, ha, Q_HI0, Q_HI1, Q_HI2, Q_HB, Q_HKK, Q_HG, Q_HA, Q_HX, Q_HY, Q_X4_, Q_X7_, Q_X16_⟩ hb_ hon hoff
            refine ⟨_, rfl, fun K hK => ?_⟩
            have e14 : a.tmps[14]? = some (.pointer (some ⟨g, 0, none⟩)) := by rw [ha]; exact (putSel_off rfl).trans rfl
            replace ha := Aside0.mk ha
            have HI0 := Aside0.mk (Q_HI0 hb_)
            have HB := Aside0.mk Q_HB
            have HKK := Aside0.mk Q_HKK
            have HG := Aside0.mk Q_HG
            refine goes_ (N := some 15) Try.func10 (by kernel_rfl) rfl #[.pointer (some ⟨g, 0, none⟩), .int .i64 11] (by rfl) rfl rfl (by first | (simp only [List.map_toArray, List.map_cons, List.map_nil, Act.eval, Array.getD_eq_getD_getElem?, Option.getD_some, e14]; done) | (simp only [List.map_toArray, List.map_cons, List.map_nil, Act.eval, Array.getD_eq_getD_getElem?, Option.getD_some, e14]; rfl)) ?_
            refine (HN1.out _ HI0 HB).mono ?_
            rintro e w1 ⟨rfl, I_, B_, K_⟩
            refine ⟨_, rfl, ?_⟩
            refine hK.out _ _ ⟨g18, gb, m4_, m7_, m16_, (by rw [ha.out]; exact putSel_upk 0 hb_ rfl rfl rfl), fun h0_ => absurd ((up_self b 1).symm.trans h0_) (by decide), fun _ _ => I_.out, fun h0_ => absurd ((hoff 6 (by kernel_rfl)).symm.trans h0_) (by decide), B_.out, HKK.out.trans K_.out (.inl rfl), Nat.lt_of_lt_of_le HG.out K_.out.1, fun h0_ h1_ => ⟨K_.out.blk (Q_HA h0_ h1_).1 (Q_HA h0_ h1_).2 (by simp), (Q_HA h0_ h1_).2⟩, fun h0_ h1_ => ⟨K_.out.blk (Q_HX h0_ h1_).1 (Q_HX h0_ h1_).2.1 (by simp), (Q_HX h0_ h1_).2⟩, fun h0_ => absurd ((hoff 17 (by kernel_rfl)).symm.trans h0_) (by decide), Q_X4_, fun h0_ => absurd ((hoff 7 (by kernel_rfl)).symm.trans h0_) (by decide), Q_X16_⟩
          refine steps_cons ?_ ?_
          · rintro b a w' ⟨g18, gb, m4_, m7_, m16_, ha, Q_HI0, Q_HI1, Q_HI2, Q_HB, Q_HKK, Q_HG, Q_HA, Q_HX, Q_HY, Q_X4_, Q_X7_, Q_X16_⟩ hb_ hon hoff
            refine ⟨_, rfl, fun K hK => ?_⟩
            have e15 : a.tmps[15]? = some (.int .i64 t1) := by rw [ha]; exact putSel_on (e := (1, 15, .int .i64 t1)) 0 rfl rfl (hon 1 (by kernel_rfl)) rfl
            replace ha := Aside0.mk ha
            have HB := Aside0.mk Q_HB
            have HKK := Aside0.mk Q_HKK
            have HG := Aside0.mk Q_HG
            refine value_ (w1 := w') (v := .int .i64 (wrap64 (64 * t1))) (by rfl) rfl ?_ ?_
            · go_simp
              (try simp only [i64_w])
              try rfl
            refine hK.out _ _ ⟨g18, gb, m4_, m7_, m16_, (by rw [ha.out]; exact putSel_upk 1 hb_ rfl rfl rfl), fun h0_ => absurd ((hon 1 (by kernel_rfl)).symm.trans h0_) (by decide), Q_HI1, Q_HI2, Q_HB, Q_HKK, Q_HG, Q_HA, Q_HX, fun h0_ => absurd ((hoff 17 (by kernel_rfl)).symm.trans h0_) (by decide), Q_X4_, Q_X7_, Q_X16_⟩
          refine steps_cons ?_ ?_
          · rintro b a w' ⟨g18, gb, m4_, m7_, m16_, ha, Q_HI0, Q_HI1, Q_HI2, Q_HB, Q_HKK, Q_HG, Q_HA, Q_HX, Q_HY, Q_X4_, Q_X7_, Q_X16_⟩ hb_ hon hoff
            refine ⟨_, rfl, fun K hK => ?_⟩
            have e16 : a.tmps[16]? = some (.int .i64 (wrap64 (64 * t1))) := by rw [ha]; exact putSel_on (e := (2, 16, .int .i64 (wrap64 (64 * t1)))) 1 rfl rfl (hon 2 (by kernel_rfl)) rfl
            replace ha := Aside0.mk ha
            have HB := Aside0.mk Q_HB
            have HKK := Aside0.mk Q_HKK
            have HG := Aside0.mk Q_HG
            refine value_ (w1 := w') (v := .int .i64 (wrap64 (512 + wrap64 (64 * t1)))) (by rfl) rfl ?_ ?_
            · go_simp
              (try simp only [i64_w])
              try rfl
            refine hK.out _ _ ⟨g18, gb, m4_, m7_, m16_, (by rw [ha.out]; exact putSel_upk 2 hb_ rfl rfl rfl), fun h0_ => absurd ((hon 1 (by kernel_rfl)).symm.trans h0_) (by decide), Q_HI1, Q_HI2, Q_HB, Q_HKK, Q_HG, Q_HA, Q_HX, fun h0_ => absurd ((hoff 17 (by kernel_rfl)).symm.trans h0_) (by decide), Q_X4_, Q_X7_, Q_X16_⟩
          refine steps_cons ?_ ?_
          · rintro b a w' ⟨g18, gb, m4_, m7_, m16_, ha, Q_HI0, Q_HI1, Q_HI2, Q_HB, Q_HKK, Q_HG, Q_HA, Q_HX, Q_HY, Q_X4_, Q_X7_, Q_X16_⟩ hb_ hon hoff
            refine ⟨_, rfl, fun K hK => ?_⟩
            replace ha := Aside0.mk ha
            have HB := Aside0.mk Q_HB
            have HKK := Aside0.mk Q_HKK
            have HG := Aside0.mk Q_HG
            refine value_ (w1 := w'.alloc (Obj.cells #[.int .i64 0, .int .i64 1, .int .i64 16, .int .i64 20, .int .i64 64, .int .i64 65] 2)) (v := .slice (some ⟨w'.heap.size, 0, none⟩) 6 6) (by rfl) rfl (by go_simp; try rfl) ?_
            refine hK.out _ _ ⟨w'.heap.size, gb, (.slice (some ⟨w'.heap.size, 0, none⟩) 6 6), m7_, m16_, (by rw [ha.out]; exact putSel_upk 3 hb_ rfl rfl rfl), fun h0_ => IsS42.alloc (Q_HI0 h0_) _, fun h0_ h1_ => IsS42.alloc (Q_HI1 h0_ h1_) _, fun h0_ => IsS42.alloc (Q_HI2 h0_) _, below_alloc HB.out _, keep_alloc HKK.out _, Nat.lt_of_lt_of_le HG.out (by simp), fun _ _ => ⟨blk_new _ _, by have := HG.out; omega⟩, fun h0_ h1_ => ⟨blk_alloc (Q_HX h0_ h1_).1 _, (Q_HX h0_ h1_).2⟩, fun h0_ => absurd ((hoff 17 (by kernel_rfl)).symm.trans h0_) (by decide), fun _ => rfl, fun h0_ => absurd ((hoff 7 (by kernel_rfl)).symm.trans h0_) (by decide), Q_X16_⟩
          refine steps_cons ?_ ?_
          · rintro b a w' ⟨g18, gb, m4_, m7_, m16_, ha, Q_HI0, Q_HI1, Q_HI2, Q_HB, Q_HKK, Q_HG, Q_HA, Q_HX, Q_HY, Q_X4_, Q_X7_, Q_X16_⟩ hb_ hon hoff
            refine ⟨_, rfl, fun K hK => ?_⟩
            have e19 : a.tmps[19]? = some (.pointer (some ⟨g, 0, none⟩)) := by rw [ha]; exact (putSel_off rfl).trans rfl
            replace ha := Aside0.mk ha
            have HI1 := Aside0.mk (Q_HI1 (hon 1 (by kernel_rfl)) hb_)
            have HB := Aside0.mk Q_HB
            have HKK := Aside0.mk Q_HKK
            have HG := Aside0.mk Q_HG
            refine goes_ (N := some 20) Try.func10 (by kernel_rfl) rfl #[.pointer (some ⟨g, 0, none⟩), .int .i64 6] (by rfl) rfl rfl (by first | (simp only [List.map_toArray, List.map_cons, List.map_nil, Act.eval, Array.getD_eq_getD_getElem?, Option.getD_some, e19]; done) | (simp only [List.map_toArray, List.map_cons, List.map_nil, Act.eval, Array.getD_eq_getD_getElem?, Option.getD_some, e19]; rfl)) ?_
            refine (HN2.out _ HI1 HB).mono ?_
            rintro e w1 ⟨rfl, I_, B_, K_⟩
            refine ⟨_, rfl, ?_⟩
            refine hK.out _ _ ⟨g18, gb, m4_, m7_, m16_, (by rw [ha.out]; exact putSel_upk 4 hb_ rfl rfl rfl), fun h0_ => absurd ((hon 1 (by kernel_rfl)).symm.trans h0_) (by decide), fun _ h1_ => absurd ((up_self b 6).symm.trans h1_) (by decide), fun _ => I_.out, B_.out, HKK.out.trans K_.out (.inl rfl), Nat.lt_of_lt_of_le HG.out K_.out.1, fun h0_ h1_ => ⟨K_.out.blk (Q_HA h0_ h1_).1 (Q_HA h0_ h1_).2 (by simp), (Q_HA h0_ h1_).2⟩, fun h0_ h1_ => ⟨K_.out.blk (Q_HX h0_ h1_).1 (Q_HX h0_ h1_).2.1 (by simp), (Q_HX h0_ h1_).2⟩, fun h0_ => absurd ((hoff 17 (by kernel_rfl)).symm.trans h0_) (by decide), Q_X4_, fun h0_ => absurd ((hoff 7 (by kernel_rfl)).symm.trans h0_) (by decide), Q_X16_⟩
          refine steps_cons ?_ ?_
          · rintro b a w' ⟨g18, gb, m4_, m7_, m16_, ha, Q_HI0, Q_HI1, Q_HI2, Q_HB, Q_HKK, Q_HG, Q_HA, Q_HX, Q_HY, Q_X4_, Q_X7_, Q_X16_⟩ hb_ hon hoff
            refine ⟨_, rfl, fun K hK => ?_⟩
            have e18 : a.tmps[18]? = some (m4_) := by rw [ha]; exact putSel_on (e := (4, 18, m4_)) 3 rfl rfl (hon 4 (by kernel_rfl)) rfl
            rw [Q_X4_ (hon 4 (by kernel_rfl))] at e18
            have e20 : a.tmps[20]? = some (.int .i64 t2) := by rw [ha]; exact putSel_on (e := (6, 20, .int .i64 t2)) 4 rfl rfl (hon 6 (by kernel_rfl)) rfl
            replace ha := Aside0.mk ha
            have HI2 := Aside0.mk (Q_HI2 (hon 6 (by kernel_rfl)))
            have HB := Aside0.mk Q_HB
            have HKK := Aside0.mk Q_HKK
            have HG := Aside0.mk Q_HG
            have HA := Aside0.mk (Q_HA (hon 4 (by kernel_rfl)) (hoff 17 (by kernel_rfl)))
            have hc2_ := C2.out
            have hc3_ := C3.out
            refine value_ (w1 := w') (v := .pointer (some ⟨g18, t2.toNat, none⟩)) (by rfl) rfl ?_ ?_
            · go_simp
              (try simp only [i64_w])
              try rfl
            refine hK.out _ _ ⟨g18, gb, m4_, (.pointer (some ⟨g18, t2.toNat, none⟩)), m16_, (by rw [ha.out]; exact putSel_upk 5 hb_ rfl rfl rfl), fun h0_ => absurd ((hon 1 (by kernel_rfl)).symm.trans h0_) (by decide), fun _ h1_ => absurd ((hon 6 (by kernel_rfl)).symm.trans h1_) (by decide), Q_HI2, Q_HB, Q_HKK, Q_HG, Q_HA, Q_HX, fun h0_ => absurd ((hoff 17 (by kernel_rfl)).symm.trans h0_) (by decide), Q_X4_, fun _ => rfl, Q_X16_⟩
          refine steps_cons ?_ ?_
          · rintro b a w' ⟨g18, gb, m4_, m7_, m16_, ha, Q_HI0, Q_HI1, Q_HI2, Q_HB, Q_HKK, Q_HG, Q_HA, Q_HX, Q_HY, Q_X4_, Q_X7_, Q_X16_⟩ hb_ hon hoff
            refine ⟨_, rfl, fun K hK => ?_⟩
            have e21 : a.tmps[21]? = some (m7_) := by rw [ha]; exact putSel_on (e := (7, 21, m7_)) 5 rfl rfl (hon 7 (by kernel_rfl)) rfl
            rw [Q_X7_ (hon 7 (by kernel_rfl))] at e21
            replace ha := Aside0.mk ha
            have HI2 := Aside0.mk (Q_HI2 (hon 6 (by kernel_rfl)))
            have HB := Aside0.mk Q_HB
            have HKK := Aside0.mk Q_HKK
            have HG := Aside0.mk Q_HG
            have HA := Aside0.mk (Q_HA (hon 4 (by kernel_rfl)) (hoff 17 (by kernel_rfl)))
            have hs_ : w'.cell? ⟨g18, t2.toNat, none⟩ = some (.int .i64 (rd bufE1 t2)) := bufs_at HA.out.1 C2.out C3.out
            refine value_ (w1 := w') (v := .int .i64 (rd bufE1 t2)) (by rfl) rfl ?_ ?_
            · go_simp
              (try simp only [i64_w])
              try rfl
            refine hK.out _ _ ⟨g18, gb, m4_, m7_, m16_, (by rw [ha.out]; exact putSel_upk 6 hb_ rfl rfl rfl), fun h0_ => absurd ((hon 1 (by kernel_rfl)).symm.trans h0_) (by decide), fun _ h1_ => absurd ((hon 6 (by kernel_rfl)).symm.trans h1_) (by decide), Q_HI2, Q_HB, Q_HKK, Q_HG, Q_HA, Q_HX, fun h0_ => absurd ((hoff 17 (by kernel_rfl)).symm.trans h0_) (by decide), Q_X4_, Q_X7_, Q_X16_⟩
          refine steps_cons ?_ ?_
          · rintro b a w' ⟨g18, gb, m4_, m7_, m16_, ha, Q_HI0, Q_HI1, Q_HI2, Q_HB, Q_HKK, Q_HG, Q_HA, Q_HX, Q_HY, Q_X4_, Q_X7_, Q_X16_⟩ hb_ hon hoff
            refine ⟨_, rfl, fun K hK => ?_⟩
            have e24 : a.tmps[24]? = some (.bool false) := by rw [ha]; exact (putSel_off rfl).trans rfl
            replace ha := Aside0.mk ha
            have HI2 := Aside0.mk (Q_HI2 (hon 6 (by kernel_rfl)))
            have HB := Aside0.mk Q_HB
            have HKK := Aside0.mk Q_HKK
            have HG := Aside0.mk Q_HG
            refine value_ (w1 := w') (v := .bool false) (by rfl) rfl ?_ ?_
            · go_simp
              (try simp only [i64_w])
              try rfl
            refine hK.out _ _ ⟨g18, gb, m4_, m7_, m16_, (by rw [ha.out]; exact putSel_upk 7 hb_ rfl rfl rfl), fun h0_ => absurd ((hon 1 (by kernel_rfl)).symm.trans h0_) (by decide), fun _ h1_ => absurd ((hon 6 (by kernel_rfl)).symm.trans h1_) (by decide), Q_HI2, Q_HB, Q_HKK, Q_HG, Q_HA, Q_HX, fun h0_ => absurd ((hoff 17 (by kernel_rfl)).symm.trans h0_) (by decide), Q_X4_, Q_X7_, Q_X16_⟩
          refine steps_cons ?_ ?_
          · rintro b a w' ⟨g18, gb, m4_, m7_, m16_, ha, Q_HI0, Q_HI1, Q_HI2, Q_HB, Q_HKK, Q_HG, Q_HA, Q_HX, Q_HY, Q_X4_, Q_X7_, Q_X16_⟩ hb_ hon hoff
            refine ⟨_, rfl, fun K hK => ?_⟩
            have e25 : a.tmps[25]? = some (.bool false) := by rw [ha]; exact putSel_on (e := (11, 25, .bool false)) 7 rfl rfl (hon 11 (by kernel_rfl)) rfl
            replace ha := Aside0.mk ha
            have HI2 := Aside0.mk (Q_HI2 (hon 6 (by kernel_rfl)))
            have HB := Aside0.mk Q_HB
            have HKK := Aside0.mk Q_HKK
            have HG := Aside0.mk Q_HG
            refine off_ (wanted_off rfl rfl rfl (e25.trans (by first | rfl | (simp [*]; done)))) ?_
            refine hK.out _ _ ⟨g18, gb, m4_, m7_, m16_, (by rw [ha.out]; exact putSel_upk 8 hb_ rfl rfl rfl), fun h0_ => absurd ((hon 1 (by kernel_rfl)).symm.trans h0_) (by decide), fun _ h1_ => absurd ((hon 6 (by kernel_rfl)).symm.trans h1_) (by decide), Q_HI2, Q_HB, Q_HKK, Q_HG, Q_HA, Q_HX, fun h0_ => absurd ((hoff 17 (by kernel_rfl)).symm.trans h0_) (by decide), Q_X4_, Q_X7_, Q_X16_⟩
          refine steps_cons ?_ ?_
          · rintro b a w' ⟨g18, gb, m4_, m7_, m16_, ha, Q_HI0, Q_HI1, Q_HI2, Q_HB, Q_HKK, Q_HG, Q_HA, Q_HX, Q_HY, Q_X4_, Q_X7_, Q_X16_⟩ hb_ hon hoff
            refine ⟨_, rfl, fun K hK => ?_⟩
            have e25 : a.tmps[25]? = some (.bool false) := by rw [ha]; exact putSel_on (e := (11, 25, .bool false)) 7 rfl rfl (hon 11 (by kernel_rfl)) rfl
            replace ha := Aside0.mk ha
            have HI2 := Aside0.mk (Q_HI2 (hon 6 (by kernel_rfl)))
            have HB := Aside0.mk Q_HB
            have HKK := Aside0.mk Q_HKK
            have HG := Aside0.mk Q_HG
            refine off_ (wanted_off rfl rfl rfl (e25.trans (by first | rfl | (simp [*]; done)))) ?_
            refine hK.out _ _ ⟨g18, gb, m4_, m7_, m16_, (by rw [ha.out]; exact putSel_upk 9 hb_ rfl rfl rfl), fun h0_ => absurd ((hon 1 (by kernel_rfl)).symm.trans h0_) (by decide), fun _ h1_ => absurd ((hon 6 (by kernel_rfl)).symm.trans h1_) (by decide), Q_HI2, Q_HB, Q_HKK, Q_HG, Q_HA, Q_HX, fun h0_ => absurd ((hoff 17 (by kernel_rfl)).symm.trans h0_) (by decide), Q_X4_, Q_X7_, Q_X16_⟩
          refine steps_cons ?_ ?_
          · rintro b a w' ⟨g18, gb, m4_, m7_, m16_, ha, Q_HI0, Q_HI1, Q_HI2, Q_HB, Q_HKK, Q_HG, Q_HA, Q_HX, Q_HY, Q_X4_, Q_X7_, Q_X16_⟩ hb_ hon hoff
            refine ⟨_, rfl, fun K hK => ?_⟩
            have e25 : a.tmps[25]? = some (.bool false) := by rw [ha]; exact putSel_on (e := (11, 25, .bool false)) 7 rfl rfl (hon 11 (by kernel_rfl)) rfl
            have e27 : a.tmps[27]? = some (undef) := by rw [ha]; exact putSel_on (e := (13, 27, undef)) 9 rfl rfl (hon 13 (by kernel_rfl)) rfl
            replace ha := Aside0.mk ha
            have HI2 := Aside0.mk (Q_HI2 (hon 6 (by kernel_rfl)))
            have HB := Aside0.mk Q_HB
            have HKK := Aside0.mk Q_HKK
            have HG := Aside0.mk Q_HG
            refine value_ (w1 := w') (v := .bool false) (by rfl) rfl ?_ ?_
            · go_simp
              (try simp only [i64_w])
              try rfl
            refine hK.out _ _ ⟨g18, gb, m4_, m7_, m16_, (by rw [ha.out]; exact putSel_upk 10 hb_ rfl rfl rfl), fun h0_ => absurd ((hon 1 (by kernel_rfl)).symm.trans h0_) (by decide), fun _ h1_ => absurd ((hon 6 (by kernel_rfl)).symm.trans h1_) (by decide), Q_HI2, Q_HB, Q_HKK, Q_HG, Q_HA, Q_HX, fun h0_ => absurd ((hoff 17 (by kernel_rfl)).symm.trans h0_) (by decide), Q_X4_, Q_X7_, Q_X16_⟩
          refine steps_cons ?_ ?_
          · rintro b a w' ⟨g18, gb, m4_, m7_, m16_, ha, Q_HI0, Q_HI1, Q_HI2, Q_HB, Q_HKK, Q_HG, Q_HA, Q_HX, Q_HY, Q_X4_, Q_X7_, Q_X16_⟩ hb_ hon hoff
            refine ⟨_, rfl, fun K hK => ?_⟩
            have e17 : a.tmps[17]? = some (.int .i64 (wrap64 (512 + wrap64 (64 * t1)))) := by rw [ha]; exact putSel_on (e := (3, 17, .int .i64 (wrap64 (512 + wrap64 (64 * t1))))) 2 rfl rfl (hon 3 (by kernel_rfl)) rfl
            have e22 : a.tmps[22]? = some (.int .i64 (rd bufE1 t2)) := by rw [ha]; exact putSel_on (e := (8, 22, .int .i64 (rd bufE1 t2))) 6 rfl rfl (hon 8 (by kernel_rfl)) rfl
            have e28 : a.tmps[28]? = some (.bool false) := by rw [ha]; exact putSel_on (e := (14, 28, .bool false)) 10 rfl rfl (hon 14 (by kernel_rfl)) rfl
            replace ha := Aside0.mk ha
            have HI2 := Aside0.mk (Q_HI2 (hon 6 (by kernel_rfl)))
            have HB := Aside0.mk Q_HB
            have HKK := Aside0.mk Q_HKK
            have HG := Aside0.mk Q_HG
            have HA := Aside0.mk (Q_HA (hon 4 (by kernel_rfl)) (hoff 17 (by kernel_rfl)))
            refine value_ (w1 := w') (v := .agg #[.int .i64 (wrap64 (512 + wrap64 (64 * t1))), .int .i64 (rd bufE1 t2), .bool false]) (by rfl) rfl ?_ ?_
            · go_simp
              (try simp only [i64_w])
              try rfl
            refine hK.out _ _ ⟨g18, gb, m4_, m7_, m16_, (by rw [ha.out]; exact putSel_upk 11 hb_ rfl rfl rfl), fun h0_ => absurd ((hon 1 (by kernel_rfl)).symm.trans h0_) (by decide), fun _ h1_ => absurd ((hon 6 (by kernel_rfl)).symm.trans h1_) (by decide), Q_HI2, Q_HB, Q_HKK, Q_HG, Q_HA, Q_HX, fun h0_ => absurd ((hoff 17 (by kernel_rfl)).symm.trans h0_) (by decide), Q_X4_, Q_X7_, Q_X16_⟩
          refine steps_cons ?_ ?_
          · rintro b a w' ⟨g18, gb, m4_, m7_, m16_, ha, Q_HI0, Q_HI1, Q_HI2, Q_HB, Q_HKK, Q_HG, Q_HA, Q_HX, Q_HY, Q_X4_, Q_X7_, Q_X16_⟩ hb_ hon hoff
            refine ⟨_, rfl, fun K hK => ?_⟩
            replace ha := Aside0.mk ha
            have HB := Aside0.mk Q_HB
            have HKK := Aside0.mk Q_HKK
            have HG := Aside0.mk Q_HG
            refine value_ (w1 := w'.alloc (Obj.cells #[.int .i64 0, .int .i64 0, .bool false] 28)) (v := .pointer (some ⟨w'.heap.size, 0, none⟩)) (by rfl) rfl (by go_simp; try rfl) ?_
            refine hK.out _ _ ⟨g18, w'.heap.size, m4_, m7_, (.pointer (some ⟨w'.heap.size, 0, none⟩)), (by rw [ha.out]; exact putSel_upk 12 hb_ rfl rfl rfl), fun h0_ => IsS42.alloc (Q_HI0 h0_) _, fun h0_ h1_ => IsS42.alloc (Q_HI1 h0_ h1_) _, fun h0_ => IsS42.alloc (Q_HI2 h0_) _, below_alloc HB.out _, keep_alloc HKK.out _, Nat.lt_of_lt_of_le HG.out (by simp), fun h0_ h1_ => ⟨blk_alloc (Q_HA h0_ h1_).1 _, (Q_HA h0_ h1_).2⟩, fun _ _ => ⟨blk_new _ _, by have := HG.out; omega, keep_size HKK.out⟩, fun h0_ => absurd ((hoff 17 (by kernel_rfl)).symm.trans h0_) (by decide), Q_X4_, Q_X7_, fun _ => rfl⟩
          refine steps_cons ?_ ?_
          · rintro b a w' ⟨g18, gb, m4_, m7_, m16_, ha, Q_HI0, Q_HI1, Q_HI2, Q_HB, Q_HKK, Q_HG, Q_HA, Q_HX, Q_HY, Q_X4_, Q_X7_, Q_X16_⟩ hb_ hon hoff
            refine ⟨_, rfl, fun K hK => ?_⟩
            have e7 : a.tmps[7]? = some (m16_) := by rw [ha]; exact putSel_on (e := (16, 7, m16_)) 12 rfl rfl (hon 16 (by kernel_rfl)) rfl
            rw [Q_X16_ (hon 16 (by kernel_rfl))] at e7
            have e29 : a.tmps[29]? = some (.agg #[.int .i64 (wrap64 (512 + wrap64 (64 * t1))), .int .i64 (rd bufE1 t2), .bool false]) := by rw [ha]; exact putSel_on (e := (15, 29, .agg #[.int .i64 (wrap64 (512 + wrap64 (64 * t1))), .int .i64 (rd bufE1 t2), .bool false])) 11 rfl rfl (hon 15 (by kernel_rfl)) rfl
            replace ha := Aside0.mk ha
            have HI2 := Aside0.mk (Q_HI2 (hon 6 (by kernel_rfl)))
            have HB := Aside0.mk Q_HB
            have HKK := Aside0.mk Q_HKK
            have HG := Aside0.mk Q_HG
            have HA := Aside0.mk (Q_HA (hon 4 (by kernel_rfl)) hb_)
            have HX := Aside0.mk (Q_HX (hon 16 (by kernel_rfl)) hb_)
            have hm0_ : w'.cell? ⟨gb, 0, none⟩ = some (.int .i64 0) := (blk_cell HX.out.1 0).trans rfl
            have hm1_ : w'.cell? ⟨gb, 1, none⟩ = some (.int .i64 0) := (blk_cell HX.out.1 1).trans rfl
            have hm2_ : w'.cell? ⟨gb, 2, none⟩ = some (.bool false) := (blk_cell HX.out.1 2).trans rfl
            have hf0_ := blk_frozen HX.out.1 0
            have hf1_ := blk_frozen HX.out.1 1
            have hf2_ := blk_frozen HX.out.1 2
            refine skip_ (w1 := (((w'.setCell ⟨gb, 0, none⟩ (.int .i64 (wrap64 (512 + wrap64 (64 * t1))))).setCell ⟨gb, 1, none⟩ (.int .i64 (rd bufE1 t2))).setCell ⟨gb, 2, none⟩ (.bool false))) (by rfl) rfl (by go_simp; try rfl) ?_
            refine hK.out _ _ ⟨g18, gb, m4_, m7_, m16_, (by rw [ha.out]; exact putSel_none (v := undef) rfl), fun h0_ => absurd ((hon 1 (by kernel_rfl)).symm.trans h0_) (by decide), fun _ h1_ => absurd ((hon 6 (by kernel_rfl)).symm.trans h1_) (by decide), fun _ => IsS42.far (p := ⟨gb, 2, none⟩) (IsS42.far (p := ⟨gb, 1, none⟩) (IsS42.far (p := ⟨gb, 0, none⟩) HI2.out (fun e => HX.out.2.1 e.symm) _) (fun e => HX.out.2.1 e.symm) _) (fun e => HX.out.2.1 e.symm) _, below_set (below_set (below_set HB.out (Nat.le_trans HL1.out HX.out.2.2)) (Nat.le_trans HL1.out HX.out.2.2)) (Nat.le_trans HL1.out HX.out.2.2), keep_far (keep_far (keep_far HKK.out (p := ⟨gb, 0, none⟩) HX.out.2.2 _) (p := ⟨gb, 1, none⟩) HX.out.2.2 _) (p := ⟨gb, 2, none⟩) HX.out.2.2 _, by simpa using HG.out, fun _ h1_ => absurd ((up_self b 17).symm.trans h1_) (by decide), fun _ h1_ => absurd ((up_self b 17).symm.trans h1_) (by decide), fun _ => ⟨by have h_ := blk_set (blk_set (blk_set HX.out.1 0 (.int .i64 (wrap64 (512 + wrap64 (64 * t1))))) 1 (.int .i64 (rd bufE1 t2))) 2 (.bool false); simpa using h_, HX.out.2⟩, Q_X4_, Q_X7_, Q_X16_⟩
          exact steps_nil
        rintro b a w' hall ⟨g18, gb, m4_, m7_, m16_, ha, Q_HI0, Q_HI1, Q_HI2, Q_HB, Q_HKK, Q_HG, Q_HA, Q_HX, Q_HY, Q_X4_, Q_X7_, Q_X16_⟩
        clear HB HG HI0 HKK
        have hb1_ := hall 1 (by kernel_rfl)
        have hb2_ := hall 2 (by kernel_rfl)
        have hb3_ := hall 3 (by kernel_rfl)
        have hb4_ := hall 4 (by kernel_rfl)
        have hb6_ := hall 6 (by kernel_rfl)
        have hb7_ := hall 7 (by kernel_rfl)
        have hb8_ := hall 8 (by kernel_rfl)
        have hb11_ := hall 11 (by kernel_rfl)
        have hb12_ := hall 12 (by kernel_rfl)
        have hb13_ := hall 13 (by kernel_rfl)
        have hb14_ := hall 14 (by kernel_rfl)
        have hb15_ := hall 15 (by kernel_rfl)
        have hb16_ := hall 16 (by kernel_rfl)
        have hb17_ := hall 17 (by kernel_rfl)
        subst ha
        obtain rfl := Q_X4_ hb4_
        obtain rfl := Q_X7_ hb7_
        obtain rfl := Q_X16_ hb16_
        simp only [putSel, hb1_, hb2_, hb3_, hb4_, hb6_, hb7_, hb8_, hb11_, hb12_, hb13_, hb14_, hb15_, hb16_, hb17_, if_true, Act.put, List.setIfInBounds_toArray, List.set_cons_zero, List.set_cons_succ]
        clear Q_HI0
        clear Q_HI1
        have HI2 := Aside0.mk (Q_HI2 hb6_)
        clear Q_HI2
        have HB := Aside0.mk Q_HB
        clear Q_HB
        have HKK := Aside0.mk Q_HKK
        clear Q_HKK
        have HG := Aside0.mk Q_HG
        clear Q_HG
        clear Q_HA
        clear Q_HX
        have HY := Aside0.mk (Q_HY hb17_)
        clear Q_HY
        clear hall hb1_ hb2_ hb3_ hb4_ hb6_ hb7_ hb8_ hb11_ hb12_ hb13_ hb14_ hb15_ hb16_ hb17_
        (try go_wp2)
        go_meet
        case rel => exact ⟨gb, rfl, HY, HI2, HB, HKK⟩
    case rest =>
      rename_i hKK
      obtain ⟨gb, rfl, HY, HIc, HBc, HKc⟩ := hcut
      have HOc := Aside0.mk (bufs_R HO.out HKc.out)
      have hgb := HY.out.2.1
      have HGB := Aside0.mk hgb
      have HGL := Aside0.mk HY.out.2.2
      have BK0 := Aside0.mk HY.out.1
      have hH := H'.out
      obtain ⟨⟨t4, p4, m4, z4⟩, A4, hH⟩ := Option.bind_eq_some_iff.mp hH
      have A4' := Aside0.mk A4
      have H4 := Aside0.mk hH
      clear hgb A4 hH H' HI HB H3 HN1 HN2 HY C2 C3
      obtain ⟨Ao, co, rfl⟩ := Kd.R_slice HOc.out
      refine hKK _ _ ?_
      clear hKK
      go_step
      go_cut [] (fun wc2 => Aside0 (wc2.heap[gb]? = some (.cells #[.int .i64 (wrap64 (512 + wrap64 (64 * t1))), .int .i64 (rd bufE1 t2), .bool t4] 28 (0, 0))) ∧ Aside0 (IsS42 w0 wc2 g s0_0 p4 m4 z4) ∧ Aside0 (Below w0.heap.size w0 wc2) ∧ Aside0 (KeepBut W1 wc2 g none))
      case first =>
        by_cases hlen : 0 < out.length
        · obtain ⟨m, hm⟩ : ∃ m : Nat, out.length = m + 1 := ⟨out.length - 1, by omega⟩
          have hl1 : decide (0 < (out.length : Int)) = true := decide_eq_true (by omega)
          have hl1b : decide (0 < out.length) = true := decide_eq_true hlen
          have hw : wrap64 ((out.length : Int) - 1) = (m : Int) := by have := (Kd.R_reads' HOc.out).2.2.2.1; unfold wrap64; omega
          have hw2 : (out.length : Int) - 1 = (m : Int) := by omega
          have hmz : (m : Int) < (out.length : Int) := by omega
          have hw3 : wrap64 (m : Int) = (m : Int) := by rw [← hw2]; rw [hw, hw2]
          have hm0 : (0 : Int) ≤ (m : Int) := by omega
          obtain ⟨ad, e_, hx0, hx1, hx2⟩ := at_T28 (Kd.R_reads' HOc.out).2.2 (m : Int) hm0 hmz
          cases e_
          rw [Int.toNat_natCast] at hx0 hx1 hx2
          obtain ⟨y, hyy⟩ : ∃ y, (rd_T28 out (m : Int)).f2 = y := ⟨_, rfl⟩
          rw [hyy] at hx2
          have hA := A4'.out
          rw [hw2, hyy, hl1b, Bool.true_and] at hA
          clear hm hyy hlen
          cases y with
          | false =>
            rw [if_neg (by decide)] at hA
            simp only [Option.some.injEq, Prod.mk.injEq] at hA
            obtain ⟨rfl, rfl, rfl, rfl⟩ := hA
            go_wp2
            go_meet
            case rel => exact ⟨BK0, HIc, HBc, HKc⟩
          | true =>
            rw [if_pos rfl] at hA
            obtain ⟨⟨u, pu, mu, zu⟩, A5, hA⟩ := Option.bind_eq_some_iff.mp hA
            simp only [Option.some.injEq, Prod.mk.injEq] at hA
            obtain ⟨rfl, rfl, rfl, rfl⟩ := hA
            have HN5 := Aside0.mk (spec_l01Src_one.calls g s0_0 p3 m3 z3 10 u pu mu zu w0 wc HIc.out HBc.out A5)
            clear A5
            go_wp2_with (fail)
            go_at_call 18
            refine HN5.out.mono ?_
            rintro e w5 ⟨rfl, hI5, hB5, hK5⟩
            have BK5 := Aside0.mk (hK5.blk BK0.out HGB.out (by simp))
            have HI5 := Aside0.mk hI5
            have HB5 := Aside0.mk hB5
            have HK5 := Aside0.mk (HKc.out.trans hK5 (.inl rfl))
            clear hI5 hB5 hK5
            cases u with
            | true =>
              go_wp2
              go_meet
              case rel => exact ⟨by simpa using BK5, HI5, HB5, HK5⟩
            | false =>
              have hc2 : w5.cell? ⟨gb, 2, none⟩ = some (.bool t3) := (blk_cell BK5.out 2).trans rfl
              have hf2 := blk_frozen BK5.out 2
              go_wp2
              go_meet
              case rel => exact ⟨⟨by have h_ := blk_set BK5.out 2 (.bool true); simpa using h_⟩, ⟨HI5.out.far (p := ⟨gb, 2, none⟩) (fun e => HGB.out e.symm) _⟩, ⟨below_set HB5.out (Nat.le_trans HL1.out HGL.out)⟩, ⟨keep_far HK5.out (p := ⟨gb, 2, none⟩) HGL.out _⟩⟩
        · have hl1 : decide (0 < (out.length : Int)) = false := decide_eq_false (by omega)
          have hl1b : decide (0 < out.length) = false := decide_eq_false hlen
          have hA := A4'.out
          rw [hl1b, Bool.false_and, if_neg (by decide)] at hA
          simp only [Option.some.injEq, Prod.mk.injEq] at hA
          obtain ⟨rfl, rfl, rfl, rfl⟩ := hA
          clear hlen
          go_wp2
          go_meet
          case rel => exact ⟨BK0, HIc, HBc, HKc⟩
      case rest =>
        rename_i hKK
        obtain ⟨BK4, HI4, HB4, HK4⟩ := hcut
        have hH := H4.out
        simp only at hH
        obtain ⟨⟨t5, p5, m5, z5⟩, A5, hH⟩ := Option.bind_eq_some_iff.mp hH
        obtain ⟨⟨t6, p6, m6, z6⟩, A6, hH⟩ := Option.bind_eq_some_iff.mp hH
        simp only at A5 A6 hH
        have HN5 := Aside0.mk (spec_l01Src_one.calls g s0_0 p4 m4 z4 25 t5 p5 m5 z5 w0 _ HI4.out HB4.out A5)
        have A6' := Aside0.mk A6
        have H6 := Aside0.mk hH
        have HK04 := HK4
        clear A5 A6 hH H4 A4' HOc BK0 HIc HBc HKc
        refine hKK _ _ ?_
        clear hKK
        go_step
        go_cut [] (fun wc3 => Aside0 (wc3.heap[gb]? = some (.cells #[.int .i64 t6, .int .i64 (rd bufE1 t2), .bool t4] 28 (0, 0))) ∧ Aside0 (IsS42 w0 wc3 g s0_0 p6 m6 z6) ∧ Aside0 (Below w0.heap.size w0 wc3) ∧ Aside0 (KeepBut W1 wc3 g none))
        case first =>
          go_wp2_with (fail)
          go_at_call 18
          refine HN5.out.mono ?_
          rintro e w5 ⟨rfl, hI5, hB5, hK5⟩
          have BK5 := Aside0.mk (hK5.blk BK4.out HGB.out (by simp))
          have HI5 := Aside0.mk hI5
          have HB5 := Aside0.mk hB5
          have HK5 := Aside0.mk (HK04.out.trans hK5 (.inl rfl))
          clear hI5 hB5 hK5 HN5
          have hA := A6'.out
          cases t5 with
          | false =>
            rw [if_neg (by decide)] at hA
            simp only [Option.some.injEq, Prod.mk.injEq] at hA
            obtain ⟨rfl, rfl, rfl, rfl⟩ := hA
            go_wp2
            go_meet
            case rel => exact ⟨BK5, HI5, HB5, HK5⟩
          | true =>
            rw [if_pos rfl] at hA
            obtain ⟨⟨u, pu, mu, zu⟩, A7, hA⟩ := Option.bind_eq_some_iff.mp hA
            simp only at A7 hA
            by_cases d1 : 0 ≤ u
            case neg => rw [if_neg d1] at hA; exact absurd hA (by simp)
            rw [if_pos d1] at hA
            by_cases d2 : u < 4
            case neg => rw [if_neg d2] at hA; exact absurd hA (by simp)
            rw [if_pos d2] at hA
            simp only [Option.some.injEq, Prod.mk.injEq] at hA
            obtain ⟨rfl, rfl, rfl, rfl⟩ := hA
            have HN7 := Aside0.mk (spec_l01Src_n.calls g s0_0 p5 m5 z5 4 u pu mu zu w0 (w5.alloc (Obj.cells #[.int .i64 1270, .int .i64 4000, .int .i64 4294967295, .int .i64 1280] 2)) (HI5.out.alloc _) (below_alloc HB5.out _) A7)
            have HNG : Aside0 (w5.heap.size ≠ g) := ⟨by have := HI5.out.lt; omega⟩
            clear A7
            go_wp2_with (fail)
            go_at_call 10
            refine HN7.out.mono ?_
            rintro e w7 ⟨rfl, hI7, hB7, hK7⟩
            have BK7 := Aside0.mk (hK7.blk (blk_alloc BK5.out _) HGB.out (by simp))
            have HI7 := Aside0.mk hI7
            have HB7 := Aside0.mk hB7
            have HK7 := Aside0.mk ((keep_alloc HK5.out _).trans hK7 (.inl rfl))
            have hls := bufs_at2 (hK7.blk (blk_new w5 (Obj.cells #[.int .i64 1270, .int .i64 4000, .int .i64 4294967295, .int .i64 1280] 2)) HNG.out (by simp)) d1 d2
            have hc0 : w7.cell? ⟨gb, 0, none⟩ = some (.int .i64 (wrap64 (512 + wrap64 (64 * t1)))) := (blk_cell BK7.out 0).trans rfl
            have hf0 := blk_frozen BK7.out 0
            clear hI7 hB7 hK7 HN7
            go_wp2
            go_meet
            case rel => exact ⟨⟨by have h_ := blk_set BK7.out 0 (.int .i64 (rd bufE2 u)); simpa using h_⟩, ⟨HI7.out.far (p := ⟨gb, 0, none⟩) (fun e => HGB.out e.symm) _⟩, ⟨below_set HB7.out (Nat.le_trans HL1.out HGL.out)⟩, ⟨keep_far HK7.out (p := ⟨gb, 0, none⟩) HGL.out _⟩⟩
        case rest =>
          obtain ⟨BK6, HI6, HB6, HK6⟩ := hcut
          have hH := H6.out
          (try simp only at hH)
          by_cases d3 : out.length < 1000
          case neg => rw [if_neg d3] at hH; exact absurd hH (by simp)
          rw [if_pos d3] at hH
          have H9 := Aside0.mk hH
          have D3 := Aside0.mk d3
          have HO6 := Aside0.mk (bufs_R HO.out HK6.out)
          have HKw := Aside0.mk (HK.out.trans HK6.out (.inl rfl))
          clear hH d3 H6 HN5 A6' HK04 BK4 HI4 HB4 HK4
          have hb0 : wc.cell? ⟨gb, 0, none⟩ = some (.int .i64 t6) := (blk_cell BK6.out 0).trans rfl
          have hb1 : wc.cell? ⟨gb, 1, none⟩ = some (.int .i64 (rd bufE1 t2)) := (blk_cell BK6.out 1).trans rfl
          have hb2 : wc.cell? ⟨gb, 2, none⟩ = some (.bool t4) := (blk_cell BK6.out 2).trans rfl
          go_wp2_with (first | ((with_reducible refine gate_builtin (b := .append) (xs := #[.tmp 56, .tmp 58]) rfl ?_); at_builtin; refine Kd.R_append k28 w.heap.size rfl (.tmp 56) (.tmp 58) 23 28 (.agg #[(.int .i64 0), (.int .i64 0), (.bool false)]) 24 rfl Try.underlying23 bufsInfo rfl (by decide) (by omega) (.slice Ao out.length co) out (⟨t6, (rd bufE1 t2), t4⟩ : S28) [.int .i64 t6, .int .i64 (rd bufE1 t2), .bool t4] (fun k => k ≠ g) (fun _ => False) rfl rfl ?aP (fun _ hk => hk.elim) ?aF ?aO (Below.refl _ _) ?aS ?aL ?_; (case aP => exact k28_mkM _ _ _ (⟨t6, (rd bufE1 t2), t4⟩ : S28)); (case aF => exact (fun k hk => IsS42.fresh HI6.out k hk)); (case aO => exact HO6.out); (case aS => exact HKw.out.1); (case aL => have := D3.out; omega); intro v9 w9 ho hb hg hat; have HI9 := Aside0.mk (HI6.out.grown hg (IsS42.own_ne HI6.out HO6.out (by decide))); have HB9 := Aside0.mk (below_weaken HB6.out HL.out hb); have HK9 := Aside0.mk (KeepBut.trans HKw.out (KeepBut.of_grown hg g) (Kd.R_base2 HO6.out)); have HO9 := Aside0.mk ho; clear ho hb hg hat))
          go_roundg k1
          case measure => omega
          case rel => exact ⟨out ++ [⟨t6, (rd bufE1 t2), t4⟩], wrap64 (j + 1), p6, m6, z6, by go_num, H9, HO9, HI9, HB9, HK9⟩

end Go.Proofs.Ytopeblicjgbfcaa.QFnSpread
