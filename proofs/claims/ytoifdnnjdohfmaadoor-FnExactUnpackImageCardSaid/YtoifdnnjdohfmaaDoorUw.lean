/- The marks of an unpacked image, and the law of UnpackImage, walked. -/
import Derived.Test.YtoifdnnjdohfmaaDoorPureFnExactUnpackImage
import Derived.Deep.QuietTactic
import Derived.BigQuiet
namespace Go.Proofs.YtoifdnnjdohfmaaDoor.Uw
open Go.Proofs.YtoifdnnjdohfmaaDoor.Up Go Go.RowKit Go.Proofs.YtoifdnnjdohfmaaDoor.QFnExactUnpackImage Go.Proofs.YtoifdnnjdohfmaaDoorW.PrintWords Go.Proofs.YtoifdnnjdohfmaaDoorW.PrintLast Go.Proofs.YtoifdnnjdohfmaaDoorW.PrintMore Go.Proofs.YtoifdnnjdohfmaaDoor.Pl Go.Proofs.YtoifdnnjdohfmaaDoor.Pure
set_option linter.unusedVariables false
set_option linter.unusedSimpArgs false
def K28 (w w' : World) : Prop := ∀ (k : Nat) (cs : Array Value), w.heap[k]? = some (Obj.cells cs 28 (0, 0)) → w'.heap[k]? = some (Obj.cells cs 28 (0, 0))
theorem grown_of {w0 W W' : World} {row : Option Nat} (h : Below w0.heap.size w0 W) (h' : Below w0.heap.size w0 W') (hk : Kept W W' (fun k => some k = row)) : W.grownBy W' row :=
  ⟨h'.os.trans h.os.symm, h'.tape.trans h.tape.symm, h'.output.trans h.output.symm, hk.1, fun k hk1 hne => hk.2 k hk1 hne⟩
set_option maxHeartbeats 8000000 in
set_option maxRecDepth 100000 in
theorem markSn_calls (P0 : Nat → Prop) (u : Value) (l0 : List S47) (m0 : Int) (w0 w : World) (hB : Below w0.heap.size w0 w) (hS : Kd.S k47 47 w w0.heap.size P0 u l0) (hl : l0.length ≤ 1000) (hy : ∀ x, x ∈ l0 → x.f1.length ≤ 1000) (h0 : 0 ≤ m0) (h1 : m0 ≤ 1000000) :
    Calls Tryd.prog 65 #[u, .int .i64 m0] w fun e w' => e = .returned (.int .i64 (mkSe l0 m0)) ∧ Kd.S k47 47 w' w0.heap.size P0 u (mkSn l0 m0) ∧ Below w0.heap.size w0 w' ∧ Kept w w' P0 := by
  obtain ⟨A, c, rfl⟩ := Kd.S_slice hS
  have HB := Aside0.mk hB
  have HS := Aside0.mk hS
  have HK := Aside0.mk (Kept.refl w P0)
  have HY := Aside0.mk hy
  have HL := Aside0.mk hl
  have HM : Aside0 (0 ≤ m0 ∧ m0 + 1001 * (l0.length : Int) ≤ 3000000) := ⟨by omega⟩
  clear hB hS hl hy h0 h1
  go_enter Tryd.func65, Tryd.ntmps65
  go_wp2_with (fail)
  go_loopg [1, 5] l0.length (fun gq v1 v5 wr => ∃ (i : Nat) (m : Int) (pre suf : List S47), v1 = .int .i64 m ∧ v5 = .int .i64 i ∧ Aside0 (i ≤ l0.length) ∧ Aside0 (l0.length - i ≤ gq) ∧ Aside0 (pre.length = i ∧ i + suf.length = l0.length) ∧ Aside0 (Kd.S k47 47 wr w0.heap.size P0 (.slice A l0.length c) (pre ++ suf)) ∧ Aside0 (Below w0.heap.size w0 wr) ∧ Aside0 (Kept w wr P0) ∧ Aside0 (mkSn l0 m0 = pre ++ mkSn suf m ∧ mkSe l0 m0 = mkSe suf m) ∧ Aside0 (∀ x, x ∈ suf → x.f1.length ≤ 1000) ∧ Aside0 (0 ≤ m ∧ m + 1001 * (suf.length : Int) ≤ 3000000))
  case atStart => exact ⟨0, m0, [], l0, rfl, rfl, ⟨Nat.zero_le _⟩, ⟨by omega⟩, ⟨⟨rfl, by omega⟩⟩, HS, HB, HK, ⟨⟨rfl, rfl⟩⟩, HY, HM⟩
  case round =>
    clear HS HB HK HY HM
    obtain ⟨i, m, pre, suf, rfl, rfl, hi, hg, hln, HS, HB, HK, HE, HY, HM⟩ := hrel
    by_cases hlt : i < l0.length
    · cases suf with
      | nil => exact absurd hln.out.2 (by simp only [List.length_nil]; omega)
      | cons x suf =>
        have hltz : (i : Int) < (l0.length : Int) := by omega
        have hiz : (0 : Int) ≤ (i : Int) := by omega
        have hpos : 0 < (pre ++ x :: suf).length := by rw [List.length_append, List.length_cons]; omega
        obtain ⟨g, cap, he, _⟩ := Kd.S_form HS.out hpos
        have he1 : A = some ⟨g, 0, none⟩ := by injection he
        clear he
        subst he1
        obtain ⟨K, hK⟩ := mt_ev m HM.out.1 (by have := HM.out.2; omega)
        have htx := fun W => laws_markText.calls K m (mt m) W (hK K (Nat.le_refl _))
        have HTX := Aside0.mk htx
        clear htx hK hpos
        go_wp2_with (fail)
        go_at_call 83
        refine (HTX.out _).mono ?_
        rintro e W1 ⟨rfl, hb⟩
        have HS1 := Aside0.mk (Kd.S_below HS.out hb)
        have HB1 := Aside0.mk (below_step HB.out hb)
        have HK1 := Aside0.mk (Kept.below HK.out hb)
        clear hb HS HB HK HTX
        obtain ⟨oki, cs, hcl, hM, hcc, hfr, hoki, hH⟩ := Kd.S_elem HS1.out z47 (i : Int) (by omega) (by omega)
        have hgd : (pre ++ x :: suf).getD (i : Int).toNat z47 = x := by
          rw [Int.toNat_natCast, List.getD_eq_getElem?_getD, List.getElem?_append_right (by have := hln.out.1; omega), show i - pre.length = 0 from by have := hln.out.1; omega]; rfl
        rw [hgd] at hM
        obtain ⟨v1, rfl, hR⟩ := k47_openM hM
        have hc0 := hcc 0 _ rfl
        have hf0 := hfr 0
        rw [Int.toNat_natCast] at hc0 hf0
        replace hc0 : W1.cell? ⟨g, i * 2, none⟩ = some (.string x.f0) := hc0
        replace hf0 : W1.frozen? ⟨g, i * 2, none⟩ = false := hf0
        go_upto_region 5 with (fail)
        have hH2 := Kd.H_mono hH (ok' := fun k => P0 k ∧ ¬ False) (fun k hk => ⟨hk, fun h => h⟩)
        obtain ⟨hs2, hg2⟩ := Kd.S_seg (okg := fun _ => False) (okp := oki) hH2 (by omega) (by omega) (seg := [.string (mt m)]) (j := 0) (by show 0 + 1 ≤ 2; omega) (x' := (⟨mt m, x.f1⟩ : S47)) (k47_mkM _ _ _ (⟨mt m, x.f1⟩ : S47) hR) (fun k hk => .inl hk) (fun k hk => hk.elim)
        have hset : W1.setCells g ((i : Int).toNat * k47.sz + 0) [.string (mt m)] = W1.setCell ⟨g, i * 2, none⟩ (.string (mt m)) := by rw [Int.toNat_natCast]; rfl
        have hls : (pre ++ x :: suf).set (i : Int).toNat (⟨mt m, x.f1⟩ : S47) = pre ++ (⟨mt m, x.f1⟩ : S47) :: suf := by
          rw [Int.toNat_natCast, List.set_append_right _ _ (by have := hln.out.1; omega), show i - pre.length = 0 from by have := hln.out.1; omega, List.set_cons_zero]
        rw [hset] at hs2 hg2
        rw [hls] at hs2
        have hb2 : Below w0.heap.size w0 (W1.setCell ⟨g, i * 2, none⟩ (.string (mt m))) := below_set HB1.out (Kd.S_base HS1.out g (by simp [Value.ownBlock]))
        have hk2 := Kept.of_grown hg2 HK1.out (fun k hk => .inl ((Kd.S_R HS1.out).1 k (by simpa [Value.ownBlock] using hk)))
        generalize W1.setCell ⟨g, i * 2, none⟩ (.string (mt m)) = W2 at hs2 hb2 hk2 ⊢
        clear hg2 hset hls hH2 hH hR hM hcc hfr hoki hcl hc0 hf0 hgd HS1 HB1 HK1 oki
        obtain ⟨oki, cs, hcl, hM, hcc, hoki, hback⟩ := Kd.S_borrow hs2 z47 (i : Int) (by omega) (by have := hln.out.2; simp only [List.length_cons] at this; omega)
        have hgd : (pre ++ (⟨mt m, x.f1⟩ : S47) :: suf).getD (i : Int).toNat z47 = (⟨mt m, x.f1⟩ : S47) := by
          rw [Int.toNat_natCast, List.getD_eq_getElem?_getD, List.getElem?_append_right (by have := hln.out.1; omega), show i - pre.length = 0 from by have := hln.out.1; omega]; rfl
        rw [hgd] at hM
        obtain ⟨v2, rfl, hR⟩ := k47_openM hM
        obtain ⟨A2, c2, rfl⟩ := Kd.R_slice hR
        have hc1 := hcc 1 _ rfl
        rw [Int.toNat_natCast, show (⟨g, 0, none⟩ : Addr).add (i * k47.sz + 1) = ⟨g, i * 2 + 1, none⟩ from by show (⟨g, 0, none⟩ : Addr).add (i * 2 + 1) = _; simp [Addr.add]] at hc1
        obtain ⟨K, hK⟩ := markI_ev x.f1 (m + 1) (by have := HY.out x List.mem_cons_self; omega) (by have := HM.out.1; omega) (by have := HM.out.2; omega)
        have hcall := laws_markInt64S.calls K _ _ x.f1 (m + 1) _ _ w0 W2 hb2 (Kd.R_tight rfl hR) (hK K (Nat.le_refl _))
        have HCALL := Aside0.mk hcall
        have HR := Aside0.mk hR
        have HB2 := Aside0.mk hb2
        have HK2 := Aside0.mk hk2
        have hw1 : wrap64 (m + 1) = m + 1 := Go.Proofs.YtoifdnnjdohfmaaDoor.Pl.w64 (by have := HM.out.1; omega) (by have := HM.out.2; omega)
        have hw2 : IntKind.i64.wrap (m + 1) = m + 1 := by rw [Go.Proofs.YtoifdnnjdohfmaaDoor.Pl.i64w]; exact hw1
        clear hcall hR hb2 hk2 hM hcl hgd hK
        go_wp2_with (fail)
        go_at_call 63
        refine HCALL.out.mono ?_
        rintro e W3 ⟨rfl, hr3, hb3, hk3⟩
        have hgr : W2.grownBy W3 (Value.slice A2 x.f1.length c2).ownBlock := grown_of HB2.out hb3 (Kept.mono hk3 (fun k hk => hk))
        have hown : ∀ k, (Value.slice A2 x.f1.length c2).ownBlock = some k → oki k := HR.out.1
        have hr4 : (Kd.int .i64).R 2 W3 w0.heap.size oki (.slice A2 x.f1.length c2) (markI x.f1 (m + 1)) := Kd.R_mono (Kd.R_tight rfl hr3) (fun k hk => hown k hk.symm)
        have hs3 := hback hgr hown (k47_mkM _ _ _ (⟨mt m, markI x.f1 (m + 1)⟩ : S47) hr4)
        have hls : (pre ++ (⟨mt m, x.f1⟩ : S47) :: suf).set (i : Int).toNat (⟨mt m, markI x.f1 (m + 1)⟩ : S47) = (pre ++ [(⟨mt m, markI x.f1 (m + 1)⟩ : S47)]) ++ suf := by
          rw [Int.toNat_natCast, List.set_append_right _ _ (by have := hln.out.1; omega), show i - pre.length = 0 from by have := hln.out.1; omega, List.set_cons_zero, List.append_assoc]; rfl
        rw [hls] at hs3
        have HS3 := Aside0.mk hs3
        have HB3 := Aside0.mk hb3
        have HK3 := Aside0.mk (Kept.of_grown hgr HK2.out (fun k hk => .inl (hoki k (hown k hk)).1))
        have HE3 : Aside0 (mkSn l0 m0 = (pre ++ [(⟨mt m, markI x.f1 (m + 1)⟩ : S47)]) ++ mkSn suf (m + 1 + (x.f1.length : Int)) ∧ mkSe l0 m0 = mkSe suf (m + 1 + (x.f1.length : Int))) := ⟨by rw [HE.out.1, List.append_assoc]; rfl, HE.out.2⟩
        have hxl := HY.out x List.mem_cons_self
        have hml := HM.out
        simp only [List.length_cons] at hml
        clear hr3 hb3 hk3 hgr hr4 hs3 hls HCALL HB2 HK2 HR hback hcc hc1
        go_wp2_with (fail)
        go_roundg (l0.length - (i + 1))
        case measure => have := hg.out; omega
        case rel => exact ⟨i + 1, m + 1 + (x.f1.length : Int), pre ++ [(⟨mt m, markI x.f1 (m + 1)⟩ : S47)], suf, rfl, (by have e9 : wrap64 ((i : Int) + 1) = ((i + 1 : Nat) : Int) := (by have := HL.out; rw [Go.Proofs.YtoifdnnjdohfmaaDoor.Pl.w64 (by omega) (by omega)]; omega); first | (rw [e9]; done) | (rw [Go.Proofs.YtoifdnnjdohfmaaDoor.Pl.i64w, e9]; done) | (simp only [e9]; done)), ⟨hlt⟩, ⟨by omega⟩, ⟨⟨by rw [List.length_append, List.length_cons, List.length_nil, hln.out.1], by have := hln.out.2; simp only [List.length_cons] at this; omega⟩⟩, HS3, HB3, HK3, HE3, ⟨fun y hy => HY.out y (List.mem_cons_of_mem _ hy)⟩, ⟨by omega⟩⟩
    · have hltz : ¬ (i : Int) < (l0.length : Int) := by omega
      have hsuf : suf = [] := List.eq_nil_of_length_eq_zero (by have := hln.out.2; have := hi.out; omega)
      subst hsuf
      go_wp2
      go_ret
      refine ⟨by rw [HE.out.2]; rfl, ?_, HB.out, HK.out⟩
      rw [HE.out.1]
      exact HS.out
set_option maxHeartbeats 8000000 in
set_option maxRecDepth 100000 in
theorem markIm_calls (nm bk : ByteArray) (vT vD vS : Value) (tb : List Int) (xs : List ByteArray) (ys : List S47) (w0 w : World) (hB : Below w0.heap.size w0 w) (hT : (Kd.int .i64).R 2 w w0.heap.size (fun _ => True) vT tb) (hD : Kd.string.R 9 w w0.heap.size (fun _ => True) vD xs) (hS : Kd.S k47 47 w w0.heap.size (fun k => some k ≠ vT.ownBlock) vS ys)
    (h1 : tb.length ≤ 1000) (h2 : xs.length ≤ 1000) (h3 : ys.length ≤ 1000) (hy : ∀ x, x ∈ ys → x.f1.length ≤ 1000) :
    Calls Tryd.prog 31 #[.agg #[.string nm, .string bk, vT, vD, vS], .int .i64 1] w fun e w' => e = .returned (.int .i64 (mkSe ys (1 + (tb.length : Int) + (xs.length : Int)))) ∧ (Kd.int .i64).R 2 w' w0.heap.size (fun _ => True) vT (markI tb 1) ∧ Kd.string.R 9 w' w0.heap.size (fun _ => True) vD (markB xs (1 + (tb.length : Int))) ∧ k47.R 47 w' w0.heap.size (fun _ => True) vS (mkSn ys (1 + (tb.length : Int) + (xs.length : Int))) ∧ Below w0.heap.size w0 w' ∧ K28 w w' := by
  obtain ⟨K1, hK1⟩ := markI_ev tb 1 (by omega) (by omega) (by omega)
  obtain ⟨K2, hK2⟩ := markB_ev xs (1 + (tb.length : Int)) (by omega) (by omega) (by omega)
  have HB := Aside0.mk hB
  have HT := Aside0.mk hT
  have HD := Aside0.mk hD
  have HS := Aside0.mk hS
  clear hB hT hD hS
  obtain ⟨AT, cT, rfl⟩ := Kd.R_slice HT.out
  obtain ⟨AD, cD, rfl⟩ := Kd.R_slice HD.out
  obtain ⟨AS, cS, rfl⟩ := Kd.S_slice HS.out
  go_enter Tryd.func31, Tryd.ntmps31
  go_upto_region 1 with (fail)
  have hbx := blk_new w (Obj.cells #[.string nm, .string bk, .slice AT tb.length cT, .slice AD xs.length cD, .slice AS ys.length cS] 26)
  have hb1 := below_alloc HB.out (Obj.cells #[.string nm, .string bk, .slice AT tb.length cT, .slice AD xs.length cD, .slice AS ys.length cS] 26)
  have ht1 := Kd.R_alloc HT.out (Obj.cells #[.string nm, .string bk, .slice AT tb.length cT, .slice AD xs.length cD, .slice AS ys.length cS] 26)
  have hd1 := Kd.R_alloc HD.out (Obj.cells #[.string nm, .string bk, .slice AT tb.length cT, .slice AD xs.length cD, .slice AS ys.length cS] 26)
  have hs1 := Kd.S_alloc HS.out (Obj.cells #[.string nm, .string bk, .slice AT tb.length cT, .slice AD xs.length cD, .slice AS ys.length cS] 26)
  have HX1 : Aside0 (K28 w (w.alloc (Obj.cells #[.string nm, .string bk, .slice AT tb.length cT, .slice AD xs.length cD, .slice AS ys.length cS] 26))) := ⟨fun k cs h => blk_alloc h _⟩
  generalize w.alloc (Obj.cells #[.string nm, .string bk, .slice AT tb.length cT, .slice AD xs.length cD, .slice AS ys.length cS] 26) = W1 at hbx hb1 ht1 hd1 hs1 HX1 ⊢
  obtain ⟨B, hBe⟩ : ∃ b, w.heap.size = b := ⟨_, rfl⟩
  rw [hBe] at hbx ⊢
  have HBX := Aside0.mk hbx
  have HB1 := Aside0.mk hb1
  have HT1 := Aside0.mk ht1
  have HD1 := Aside0.mk hd1
  have HS1 := Aside0.mk hs1
  clear hbx hb1 ht1 hd1 hs1 hBe HB HT HD HS
  have c2_ := (blk_cell HBX.out 2).trans rfl
  go_wp2_with (fail)
  go_at_call 63
  refine (laws_markInt64S.calls K1 _ _ tb 1 _ _ w0 W1 HB1.out (Kd.R_tight rfl HT1.out) (hK1 K1 (Nat.le_refl _))).mono ?_
  rintro e W2 ⟨rfl, hr, hb, hk⟩
  have HT2 := Aside0.mk (Kd.R_mono (ok' := fun _ => True) hr (fun _ _ => trivial))
  have HB2 := Aside0.mk hb
  have HBX2 := Aside0.mk (blk_kept HBX.out hk (fun h => Kd.R_ne HT1.out HBX.out (by decide) h))
  have HD2 := Aside0.mk (Kd.R_mono (ok' := fun _ => True) (Kd.R_kept (Kd.R_tight rfl HD1.out) hk (k_own_ne (Kd.R_typed HD1.out) (Kd.R_typed HT1.out) (by decide))) (fun _ _ => trivial))
  have HS2 := Aside0.mk (Kd.S_kept HS1.out hk (fun k hk' h => hk' h))
  have HX2 : Aside0 (K28 w W2) := ⟨fun k cs h => blk_kept (HX1.out k cs h) hk (fun h' => Kd.R_ne HT1.out (HX1.out k cs h) (by decide) h')⟩
  clear hr hb hk c2_ HX1 HT1 HB1 HBX HD1 HS1 hK1
  have c3_ := (blk_cell HBX2.out 3).trans rfl
  go_wp2_with (fail)
  go_at_call 64
  refine (laws_markStringS.calls K2 _ _ xs (1 + (tb.length : Int)) _ _ w0 W2 HB2.out (Kd.R_tight rfl HD2.out) (hK2 K2 (Nat.le_refl _))).mono ?_
  rintro e W3 ⟨rfl, hr, hb, hk⟩
  have HD3 := Aside0.mk (Kd.R_mono (ok' := fun _ => True) hr (fun _ _ => trivial))
  have HB3 := Aside0.mk hb
  have HBX3 := Aside0.mk (blk_kept HBX2.out hk (fun h => Kd.R_ne HD2.out HBX2.out (by decide) h))
  have HT3 := Aside0.mk (Kd.R_mono (ok' := fun _ => True) (Kd.R_kept (Kd.R_tight rfl HT2.out) hk (k_own_ne (Kd.R_typed HT2.out) (Kd.R_typed HD2.out) (by decide))) (fun _ _ => trivial))
  have HS3 := Aside0.mk (Kd.S_kept (Kd.S_apart' HS2.out (Kd.R_typed HD2.out) (by decide)) hk (fun k hk' h => hk'.2 h))
  have HX3 : Aside0 (K28 w W3) := ⟨fun k cs h => blk_kept (HX2.out k cs h) hk (fun h' => Kd.R_ne HD2.out (HX2.out k cs h) (by decide) h')⟩
  clear hr hb hk c3_ HX2 HT2 HB2 HBX2 HD2 HS2 hK2
  have c4_ := (blk_cell HBX3.out 4).trans rfl
  go_wp2_with (fail)
  go_at_call 65
  refine (markSn_calls _ _ ys (1 + (tb.length : Int) + (xs.length : Int)) w0 W3 HB3.out (Kd.S_bound HS3.out) h3 hy (by omega) (by omega)).mono ?_
  rintro e W4 ⟨rfl, hs, hb, hk⟩
  have HT4 := Aside0.mk (Kd.R_mono (ok' := fun _ => True) (Kd.R_kept (Kd.R_tight rfl HT3.out) hk (fun k hk' h => h.1.1 hk')) (fun _ _ => trivial))
  have HD4 := Aside0.mk (Kd.R_mono (ok' := fun _ => True) (Kd.R_kept (Kd.R_tight rfl HD3.out) hk (fun k hk' h => h.1.2 hk')) (fun _ _ => trivial))
  have HS4 := Aside0.mk (Kd.R_mono (ok' := fun _ => True) (Kd.S_R hs) (fun _ _ => trivial))
  have HB4 := Aside0.mk hb
  have HX4 : Aside0 (K28 w W4) := ⟨fun k cs h => blk_kept (HX3.out k cs h) hk (fun h' => by
    obtain ⟨_, _, _, q, hq, cells, hc⟩ := h'
    have h2 := HX3.out k cs h
    rw [hc] at h2
    injection h2 with h2
    injection h2 with _ h2
    subst h2
    exact absurd hq (by decide))⟩
  clear hs hb hk c4_
  go_wp2
  go_ret
  exact ⟨rfl, HT4.out, HD4.out, HS4.out, HB4.out, HX4.out⟩
set_option maxHeartbeats 8000000 in
set_option maxRecDepth 100000 in
theorem markUn_calls (cc ca : Int) (nm bk : ByteArray) (vT vD vS : Value) (tb : List Int) (xs : List ByteArray) (ys : List S47) (w0 w : World) (hB : Below w0.heap.size w0 w) (hT : (Kd.int .i64).R 2 w w0.heap.size (fun _ => True) vT tb) (hD : Kd.string.R 9 w w0.heap.size (fun _ => True) vD xs) (hS : Kd.S k47 47 w w0.heap.size (fun k => some k ≠ vT.ownBlock) vS ys)
    (h1 : tb.length ≤ 1000) (h2 : xs.length ≤ 1000) (h3 : ys.length ≤ 1000) (hy : ∀ x, x ∈ ys → x.f1.length ≤ 1000) :
    Calls Tryd.prog 8 #[.agg #[.int .i64 cc, .int .i64 ca, .string nm, .string bk, vT, vD, vS], .int .i64 1] w fun e w' => e = .returned (.int .i64 (mkSe ys (1 + (tb.length : Int) + (xs.length : Int)))) ∧ (Kd.int .i64).R 2 w' w0.heap.size (fun _ => True) vT (markI tb 1) ∧ Kd.string.R 9 w' w0.heap.size (fun _ => True) vD (markB xs (1 + (tb.length : Int))) ∧ k47.R 47 w' w0.heap.size (fun _ => True) vS (mkSn ys (1 + (tb.length : Int) + (xs.length : Int))) ∧ Below w0.heap.size w0 w' ∧ K28 w w' := by
  have HB := Aside0.mk hB
  have HT := Aside0.mk hT
  have HD := Aside0.mk hD
  have HS := Aside0.mk hS
  clear hB hT hD hS
  obtain ⟨AT, cT, rfl⟩ := Kd.R_slice HT.out
  obtain ⟨AD, cD, rfl⟩ := Kd.R_slice HD.out
  obtain ⟨AS, cS, rfl⟩ := Kd.S_slice HS.out
  go_enter Tryd.func8, Tryd.ntmps8
  go_upto_region 1 with (fail)
  have hbx := blk_new w (Obj.cells #[.int .i64 cc, .int .i64 ca, .string nm, .string bk, .slice AT tb.length cT, .slice AD xs.length cD, .slice AS ys.length cS] 28)
  have hb1 := below_alloc HB.out (Obj.cells #[.int .i64 cc, .int .i64 ca, .string nm, .string bk, .slice AT tb.length cT, .slice AD xs.length cD, .slice AS ys.length cS] 28)
  have ht1 := Kd.R_alloc HT.out (Obj.cells #[.int .i64 cc, .int .i64 ca, .string nm, .string bk, .slice AT tb.length cT, .slice AD xs.length cD, .slice AS ys.length cS] 28)
  have hd1 := Kd.R_alloc HD.out (Obj.cells #[.int .i64 cc, .int .i64 ca, .string nm, .string bk, .slice AT tb.length cT, .slice AD xs.length cD, .slice AS ys.length cS] 28)
  have hs1 := Kd.S_alloc HS.out (Obj.cells #[.int .i64 cc, .int .i64 ca, .string nm, .string bk, .slice AT tb.length cT, .slice AD xs.length cD, .slice AS ys.length cS] 28)
  have HX1 : Aside0 (K28 w (w.alloc (Obj.cells #[.int .i64 cc, .int .i64 ca, .string nm, .string bk, .slice AT tb.length cT, .slice AD xs.length cD, .slice AS ys.length cS] 28))) := ⟨fun k cs h => blk_alloc h _⟩
  generalize w.alloc (Obj.cells #[.int .i64 cc, .int .i64 ca, .string nm, .string bk, .slice AT tb.length cT, .slice AD xs.length cD, .slice AS ys.length cS] 28) = W1 at hbx hb1 ht1 hd1 hs1 HX1 ⊢
  have hcall := markIm_calls nm bk _ _ _ tb xs ys w0 W1 hb1 ht1 hd1 hs1 h1 h2 h3 hy
  have HCALL := Aside0.mk hcall
  have c2_ := (blk_cell hbx 2).trans rfl
  have c3_ := (blk_cell hbx 3).trans rfl
  have c4_ := (blk_cell hbx 4).trans rfl
  have c5_ := (blk_cell hbx 5).trans rfl
  have c6_ := (blk_cell hbx 6).trans rfl
  clear hbx hb1 ht1 hd1 hs1 hcall HB HT HD HS
  go_wp2_with (fail)
  go_at_call 31
  refine HCALL.out.mono ?_
  rintro e W4 ⟨rfl, hr⟩
  have HR := Aside0.mk hr
  clear hr HCALL c2_ c3_ c4_ c5_ c6_
  go_wp2
  go_ret
  exact ⟨rfl, HR.out.1, HR.out.2.1, HR.out.2.2.1, HR.out.2.2.2.1, fun k cs h => HR.out.2.2.2.2 k cs (HX1.out k cs h)⟩
set_option maxHeartbeats 16000000 in
set_option maxRecDepth 100000 in
theorem law_calls (t : ByteArray) (w : World) (hdoor : DoorAs w) : Calls Tryd.prog 3 #[.string t] w fun e w' => e = .returned (.bool true) ∧ Below w.heap.size w w' := by
  by_cases hbig : (t.size : Int) > 1048576
  · go_enter Tryd.func3, Tryd.ntmps3
    go_wp2
    go_ret
    exact ⟨rfl, Below.refl _ _⟩
  have hsp := sup_calls imgF imgF_is w t (upRes t) (both_res t)
  have him := fun W (hd : DoorAs W) => unp_calls W t hd (upRes t) rfl
  have hsm := upRes_small t
  have hok := small_okI hsm
  obtain ⟨⟨cc, ca, nm, bk, tb, xs, ys⟩, hr⟩ : ∃ r, upRes t = r := ⟨_, rfl⟩
  rw [hr] at hsp him hsm hok
  obtain ⟨_, _, hs1, hs2, hs3, hs4⟩ := hsm
  dsimp only at hok hs1 hs2 hs3 hs4
  obtain ⟨KE, hKE⟩ := eqU_ev cc ca nm bk tb xs ys hok
  obtain ⟨KH, hKH⟩ := heldU_ev cc ca nm bk tb xs ys hs1 hs2 hs3 (fun y hy => (hs4 y hy).2)
  have hle := mkSe_le ys (1 + (tb.length : Int) + (xs.length : Int)) (fun y hy => (hs4 y hy).2)
  have hle0 : ¬ mkSe ys (1 + (tb.length : Int) + (xs.length : Int)) < 0 := by omega
  have HMARK : Aside0 (∀ (vT vD vS : Value) (w0 w : World), Below w0.heap.size w0 w → (Kd.int .i64).R 2 w w0.heap.size (fun _ => True) vT tb → Kd.string.R 9 w w0.heap.size (fun _ => True) vD xs → Kd.S k47 47 w w0.heap.size (fun k => some k ≠ vT.ownBlock) vS ys → Calls Tryd.prog 8 #[.agg #[.int .i64 cc, .int .i64 ca, .string nm, .string bk, vT, vD, vS], .int .i64 1] w fun e w' => e = .returned (.int .i64 (mkSe ys (1 + (tb.length : Int) + (xs.length : Int)))) ∧ (Kd.int .i64).R 2 w' w0.heap.size (fun _ => True) vT (markI tb 1) ∧ Kd.string.R 9 w' w0.heap.size (fun _ => True) vD (markB xs (1 + (tb.length : Int))) ∧ k47.R 47 w' w0.heap.size (fun _ => True) vS (mkSn ys (1 + (tb.length : Int) + (xs.length : Int))) ∧ Below w0.heap.size w0 w' ∧ K28 w w') := ⟨fun vT vD vS w0 w hB hT hD hS => markUn_calls cc ca nm bk vT vD vS tb xs ys w0 w hB hT hD hS hs1 hs2 hs3 (fun y hy => (hs4 y hy).2)⟩
  generalize mkSe ys (1 + (tb.length : Int) + (xs.length : Int)) = m at hKH hle hle0 HMARK ⊢
  have HEQ := Aside0.mk (hKE KE (Nat.le_refl _))
  have HSP := Aside0.mk hsp
  have HIM := Aside0.mk him
  have HDOOR := Aside0.mk hdoor
  have HKH := Aside0.mk (hKH KH (Nat.le_refl _))
  clear hsp him hok hs1 hs2 hs3 hs4 hKE hKH hdoor hle
  go_enter Tryd.func3, Tryd.ntmps3
  go_wp2_with (fail)
  go_at_call 5
  refine HSP.out.mono ?_
  rintro e W1 ⟨vT, vD, vS, rfl, hT, hD, hS, hb⟩
  obtain ⟨AT, cT, rfl⟩ := Kd.R_slice hT
  obtain ⟨AD, cD, rfl⟩ := Kd.R_slice hD
  obtain ⟨AS, cS, rfl⟩ := Kd.R_slice hS
  have HT1 := Aside0.mk hT
  have HD1 := Aside0.mk hD
  have HS1 := Aside0.mk hS
  have HB1 := Aside0.mk hb
  clear hT hD hS hb HSP
  dsimp only
  go_upto_region 4 with (fail)
  have h3 := blk_new W1 (Obj.cells #[.int .i64 cc, .int .i64 ca, .string nm, .string bk, .slice AT tb.length cT, .slice AD xs.length cD, .slice AS ys.length cS] 28)
  have hb := below_alloc HB1.out (Obj.cells #[.int .i64 cc, .int .i64 ca, .string nm, .string bk, .slice AT tb.length cT, .slice AD xs.length cD, .slice AS ys.length cS] 28)
  have ht := Kd.R_alloc HT1.out (Obj.cells #[.int .i64 cc, .int .i64 ca, .string nm, .string bk, .slice AT tb.length cT, .slice AD xs.length cD, .slice AS ys.length cS] 28)
  have hd := Kd.R_alloc HD1.out (Obj.cells #[.int .i64 cc, .int .i64 ca, .string nm, .string bk, .slice AT tb.length cT, .slice AD xs.length cD, .slice AS ys.length cS] 28)
  have hs := Kd.R_alloc HS1.out (Obj.cells #[.int .i64 cc, .int .i64 ca, .string nm, .string bk, .slice AT tb.length cT, .slice AD xs.length cD, .slice AS ys.length cS] 28)
  generalize W1.alloc (Obj.cells #[.int .i64 cc, .int .i64 ca, .string nm, .string bk, .slice AT tb.length cT, .slice AD xs.length cD, .slice AS ys.length cS] 28) = W2 at h3 hb ht hd hs ⊢
  obtain ⟨X, hX⟩ : ∃ b, W1.heap.size = b := ⟨_, rfl⟩
  rw [hX] at h3 ⊢
  have HX2 := Aside0.mk h3
  have HB2 := Aside0.mk hb
  have HT2 := Aside0.mk ht
  have HD2 := Aside0.mk hd
  have HS2 := Aside0.mk hs
  have HDOOR2 := Aside0.mk (HDOOR.out.below hb)
  clear h3 hb ht hd hs hX HB1 HT1 HD1 HS1 HDOOR
  go_wp2_with (fail)
  go_at_call 6
  refine (HIM.out W2 HDOOR2.out).mono ?_
  rintro e W3 ⟨vT, vD, vS, rfl, hT, hD, hS, hb⟩
  obtain ⟨BT, dT, rfl⟩ := Kd.R_slice hT
  obtain ⟨BD, dD, rfl⟩ := Kd.R_slice hD
  obtain ⟨BS, dS, rfl⟩ := Kd.S_slice hS
  have HT3 := Aside0.mk hT
  have HD3 := Aside0.mk hD
  have HS3 := Aside0.mk hS
  have HB3 := Aside0.mk hb
  clear hT hD hS hb
  dsimp only
  go_upto_region 5 with (fail)
  have h4 := blk_new W3 (Obj.cells #[.int .i64 cc, .int .i64 ca, .string nm, .string bk, .slice BT tb.length dT, .slice BD xs.length dD, .slice BS ys.length dS] 28)
  have hb := below_alloc HB3.out (Obj.cells #[.int .i64 cc, .int .i64 ca, .string nm, .string bk, .slice BT tb.length dT, .slice BD xs.length dD, .slice BS ys.length dS] 28)
  have ht := Kd.R_alloc HT3.out (Obj.cells #[.int .i64 cc, .int .i64 ca, .string nm, .string bk, .slice BT tb.length dT, .slice BD xs.length dD, .slice BS ys.length dS] 28)
  have hd := Kd.R_alloc HD3.out (Obj.cells #[.int .i64 cc, .int .i64 ca, .string nm, .string bk, .slice BT tb.length dT, .slice BD xs.length dD, .slice BS ys.length dS] 28)
  have hs := Kd.S_alloc HS3.out (Obj.cells #[.int .i64 cc, .int .i64 ca, .string nm, .string bk, .slice BT tb.length dT, .slice BD xs.length dD, .slice BS ys.length dS] 28)
  generalize W3.alloc (Obj.cells #[.int .i64 cc, .int .i64 ca, .string nm, .string bk, .slice BT tb.length dT, .slice BD xs.length dD, .slice BS ys.length dS] 28) = W4 at h4 hb ht hd hs ⊢
  obtain ⟨Y, hY⟩ : ∃ b, W3.heap.size = b := ⟨_, rfl⟩
  rw [hY] at h4 ⊢
  have HY4 := Aside0.mk h4
  have HX4 := Aside0.mk (blk_below HX2.out hb)
  have HB4 := Aside0.mk hb
  have HT4 := Aside0.mk ht
  have HD4 := Aside0.mk hd
  have HS4 := Aside0.mk hs
  clear h4 hb ht hd hs hY HB3 HT3 HD3 HS3
  have x0_ := (blk_cell HX4.out 0).trans rfl
  have x1_ := (blk_cell HX4.out 1).trans rfl
  have x2_ := (blk_cell HX4.out 2).trans rfl
  have x3_ := (blk_cell HX4.out 3).trans rfl
  have x4_ := (blk_cell HX4.out 4).trans rfl
  have x5_ := (blk_cell HX4.out 5).trans rfl
  have x6_ := (blk_cell HX4.out 6).trans rfl
  have y0_ := (blk_cell HY4.out 0).trans rfl
  have y1_ := (blk_cell HY4.out 1).trans rfl
  have y2_ := (blk_cell HY4.out 2).trans rfl
  have y3_ := (blk_cell HY4.out 3).trans rfl
  have y4_ := (blk_cell HY4.out 4).trans rfl
  have y5_ := (blk_cell HY4.out 5).trans rfl
  have y6_ := (blk_cell HY4.out 6).trans rfl
  go_wp2_with (fail)
  go_at_call 7
  refine (laws_eqUnpacked.calls KE cc ca nm bk BT dT tb BD dD xs BS dS ys cc ca nm bk AT cT tb AD cD xs AS cS ys true _ (Kd.R_reads' HT4.out).2.2 (Kd.R_reads' HT4.out).2.1 (Kd.R_reads' HD4.out).2.2 (Kd.R_reads' HD4.out).2.1 (Kd.R_reads' (Kd.S_R HS4.out)).2.2 (Kd.R_reads' (Kd.S_R HS4.out)).2.1 (Kd.R_reads' (Kd.R_below HT2.out HB4.out)).2.2 (Kd.R_reads' (Kd.R_below HT2.out HB4.out)).2.1 (Kd.R_reads' (Kd.R_below HD2.out HB4.out)).2.2 (Kd.R_reads' (Kd.R_below HD2.out HB4.out)).2.1 (Kd.R_reads' (Kd.R_below HS2.out HB4.out)).2.2 (Kd.R_reads' (Kd.R_below HS2.out HB4.out)).2.1 HEQ.out).mono ?_
  rintro e W5 ⟨rfl, hb⟩
  have HX5 := Aside0.mk (blk_below HX4.out hb)
  have HY5 := Aside0.mk (blk_below HY4.out hb)
  have HB5 := Aside0.mk (below_step HB4.out hb)
  have HT5 := Aside0.mk (Kd.R_below HT4.out hb)
  have HD5 := Aside0.mk (Kd.R_below HD4.out hb)
  have HS5 := Aside0.mk (Kd.S_below HS4.out hb)
  clear hb x0_ x1_ x2_ x3_ x4_ x5_ x6_ y0_ y1_ y2_ y3_ y4_ y5_ y6_ HX4 HY4 HB4 HT4 HD4 HS4
  have y0_ := (blk_cell HY5.out 0).trans rfl
  have y1_ := (blk_cell HY5.out 1).trans rfl
  have y2_ := (blk_cell HY5.out 2).trans rfl
  have y3_ := (blk_cell HY5.out 3).trans rfl
  have y4_ := (blk_cell HY5.out 4).trans rfl
  have y5_ := (blk_cell HY5.out 5).trans rfl
  have y6_ := (blk_cell HY5.out 6).trans rfl
  go_wp2_with (fail)
  go_at_call 8
  refine (HMARK.out _ _ _ W2 W5 HB5.out HT5.out HD5.out HS5.out).mono ?_
  rintro e W6 ⟨rfl, hT, hD, hS, hb, hk⟩
  have HX6 := Aside0.mk (hk _ _ HX5.out)
  have HY6 := Aside0.mk (hk _ _ HY5.out)
  have HB6 := Aside0.mk hb
  obtain ⟨tb', htb'⟩ : ∃ l, markI tb 1 = l := ⟨_, rfl⟩
  obtain ⟨xs', hxs'⟩ : ∃ l, markB xs (1 + (tb.length : Int)) = l := ⟨_, rfl⟩
  obtain ⟨ys', hys'⟩ : ∃ l, mkSn ys (1 + (tb.length : Int) + (xs.length : Int)) = l := ⟨_, rfl⟩
  have HLL : Aside0 (tb.length = tb'.length ∧ xs.length = xs'.length ∧ ys.length = ys'.length) := ⟨⟨by rw [← htb', markI_len], by rw [← hxs', markB_len], by rw [← hys', mkSn_len]⟩⟩
  rw [htb'] at hT
  rw [hxs'] at hD
  rw [hys'] at hS
  rw [htb', hxs', hys'] at HKH
  have HELD : Aside0 (∀ W b, (Kd.int .i64).R 2 W b (fun _ => True) (.slice BT tb.length dT) tb' → Kd.string.R 9 W b (fun _ => True) (.slice BD xs.length dD) xs' → k47.R 47 W b (fun _ => True) (.slice BS ys.length dS) ys' → Calls Tryd.prog 9 #[.agg #[.int .i64 cc, .int .i64 ca, .string nm, .string bk, .slice BT tb.length dT, .slice BD xs.length dD, .slice BS ys.length dS], .int .i64 1] W fun e w' => e = .returned (.int .i64 m) ∧ Below W.heap.size W w') := ⟨fun W b h1 h2 h3 => by
    have hc := laws_heldUnpacked.calls KH cc ca nm bk BT dT tb' BD dD xs' BS dS ys' 1 m W (Kd.R_reads' h1).2.2 (by have := (Kd.R_reads' h1).2.1; rw [← HLL.out.1]; exact this) (Kd.R_reads' h2).2.2 (by have := (Kd.R_reads' h2).2.1; rw [← HLL.out.2.1]; exact this) (Kd.R_reads' h3).2.2 (by have := (Kd.R_reads' h3).2.1; rw [← HLL.out.2.2]; exact this) HKH.out
    rw [← HLL.out.1, ← HLL.out.2.1, ← HLL.out.2.2] at hc
    exact hc⟩
  have HT6 := Aside0.mk hT
  have HD6 := Aside0.mk hD
  have HS6 := Aside0.mk hS
  clear hT hD hS hb hk y0_ y1_ y2_ y3_ y4_ y5_ y6_ HX5 HY5 HB5 HT5 HD5 HS5 htb' hxs' hys'
  have y0_ := (blk_cell HY6.out 0).trans rfl
  have y1_ := (blk_cell HY6.out 1).trans rfl
  have y2_ := (blk_cell HY6.out 2).trans rfl
  have y3_ := (blk_cell HY6.out 3).trans rfl
  have y4_ := (blk_cell HY6.out 4).trans rfl
  have y5_ := (blk_cell HY6.out 5).trans rfl
  have y6_ := (blk_cell HY6.out 6).trans rfl
  go_wp2_with (fail)
  go_at_call 9
  refine (HELD.out W6 _ HT6.out HD6.out HS6.out).mono ?_
  rintro e W7 ⟨rfl, hb⟩
  have HX7 := Aside0.mk (blk_below HX6.out hb)
  have HY7 := Aside0.mk (blk_below HY6.out hb)
  have HB7 := Aside0.mk (below_step HB6.out hb)
  have HT7 := Aside0.mk (Kd.R_below HT6.out hb)
  have HD7 := Aside0.mk (Kd.R_below HD6.out hb)
  have HS7 := Aside0.mk (Kd.R_below HS6.out hb)
  clear hb y0_ y1_ y2_ y3_ y4_ y5_ y6_ HX6 HY6 HB6 HT6 HD6 HS6
  go_wp2_with (fail)
  go_at_call 6
  refine (HIM.out W7 (HDOOR2.out.below HB7.out)).mono ?_
  rintro e W8 ⟨vT, vD, vS, rfl, hT, hD, hS, hb⟩
  obtain ⟨CT, eT, rfl⟩ := Kd.R_slice hT
  obtain ⟨CD, eD, rfl⟩ := Kd.R_slice hD
  obtain ⟨CS, eS, rfl⟩ := Kd.S_slice hS
  have HX8 := Aside0.mk (blk_below HX7.out hb)
  have HY8 := Aside0.mk (blk_below HY7.out hb)
  have HB8 := Aside0.mk (below_step HB7.out hb)
  have HT8 := Aside0.mk (Kd.R_below HT7.out hb)
  have HD8 := Aside0.mk (Kd.R_below HD7.out hb)
  have HS8 := Aside0.mk (Kd.R_below HS7.out hb)
  have HU8 := Aside0.mk hT
  have HV8 := Aside0.mk hD
  have HW8 := Aside0.mk (Kd.R_mono (ok' := fun _ => True) (Kd.S_R hS) (fun _ _ => trivial))
  clear hT hD hS hb HX7 HY7 HB7 HT7 HD7 HS7
  dsimp only
  go_upto_region 16 with (fail)
  have hz := blk_new W8 (Obj.cells #[.int .i64 cc, .int .i64 ca, .string nm, .string bk, .slice CT tb.length eT, .slice CD xs.length eD, .slice CS ys.length eS] 28)
  have hb := below_alloc (Below.refl W8.heap.size W8) (Obj.cells #[.int .i64 cc, .int .i64 ca, .string nm, .string bk, .slice CT tb.length eT, .slice CD xs.length eD, .slice CS ys.length eS] 28)
  generalize W8.alloc (Obj.cells #[.int .i64 cc, .int .i64 ca, .string nm, .string bk, .slice CT tb.length eT, .slice CD xs.length eD, .slice CS ys.length eS] 28) = W9 at hz hb ⊢
  obtain ⟨Z, hZ⟩ : ∃ b, W8.heap.size = b := ⟨_, rfl⟩
  rw [hZ] at hz ⊢
  have HZ9 := Aside0.mk hz
  have hb' := hb
  have HX9 := Aside0.mk (blk_below HX8.out hb')
  have HY9 := Aside0.mk (blk_below HY8.out hb')
  have HB9 := Aside0.mk (below_step HB8.out hb')
  have HT9 := Aside0.mk (Kd.R_below HT8.out hb')
  have HD9 := Aside0.mk (Kd.R_below HD8.out hb')
  have HS9 := Aside0.mk (Kd.R_below HS8.out hb')
  have HU9 := Aside0.mk (Kd.R_below HU8.out hb')
  have HV9 := Aside0.mk (Kd.R_below HV8.out hb')
  have HW9 := Aside0.mk (Kd.R_below HW8.out hb')
  clear hz hb hb' hZ HX8 HY8 HB8 HT8 HD8 HS8 HU8 HV8 HW8
  have x0_ := (blk_cell HX9.out 0).trans rfl
  have x1_ := (blk_cell HX9.out 1).trans rfl
  have x2_ := (blk_cell HX9.out 2).trans rfl
  have x3_ := (blk_cell HX9.out 3).trans rfl
  have x4_ := (blk_cell HX9.out 4).trans rfl
  have x5_ := (blk_cell HX9.out 5).trans rfl
  have x6_ := (blk_cell HX9.out 6).trans rfl
  have y0_ := (blk_cell HZ9.out 0).trans rfl
  have y1_ := (blk_cell HZ9.out 1).trans rfl
  have y2_ := (blk_cell HZ9.out 2).trans rfl
  have y3_ := (blk_cell HZ9.out 3).trans rfl
  have y4_ := (blk_cell HZ9.out 4).trans rfl
  have y5_ := (blk_cell HZ9.out 5).trans rfl
  have y6_ := (blk_cell HZ9.out 6).trans rfl
  go_wp2_with (fail)
  go_at_call 7
  refine (laws_eqUnpacked.calls KE cc ca nm bk CT eT tb CD eD xs CS eS ys cc ca nm bk AT cT tb AD cD xs AS cS ys true _ (Kd.R_reads' HU9.out).2.2 (Kd.R_reads' HU9.out).2.1 (Kd.R_reads' HV9.out).2.2 (Kd.R_reads' HV9.out).2.1 (Kd.R_reads' HW9.out).2.2 (Kd.R_reads' HW9.out).2.1 (Kd.R_reads' (Kd.R_below HT2.out HB9.out)).2.2 (Kd.R_reads' (Kd.R_below HT2.out HB9.out)).2.1 (Kd.R_reads' (Kd.R_below HD2.out HB9.out)).2.2 (Kd.R_reads' (Kd.R_below HD2.out HB9.out)).2.1 (Kd.R_reads' (Kd.R_below HS2.out HB9.out)).2.2 (Kd.R_reads' (Kd.R_below HS2.out HB9.out)).2.1 HEQ.out).mono ?_
  rintro e W10 ⟨rfl, hb⟩
  have HY10 := Aside0.mk (blk_below HY9.out hb)
  have HB10 := Aside0.mk (below_step HB9.out hb)
  have HT10 := Aside0.mk (Kd.R_below HT9.out hb)
  have HD10 := Aside0.mk (Kd.R_below HD9.out hb)
  have HS10 := Aside0.mk (Kd.R_below HS9.out hb)
  clear hb x0_ x1_ x2_ x3_ x4_ x5_ x6_ y0_ y1_ y2_ y3_ y4_ y5_ y6_ HX9 HY9 HB9 HT9 HD9 HS9 HU9 HV9 HW9 HZ9
  have y0_ := (blk_cell HY10.out 0).trans rfl
  have y1_ := (blk_cell HY10.out 1).trans rfl
  have y2_ := (blk_cell HY10.out 2).trans rfl
  have y3_ := (blk_cell HY10.out 3).trans rfl
  have y4_ := (blk_cell HY10.out 4).trans rfl
  have y5_ := (blk_cell HY10.out 5).trans rfl
  have y6_ := (blk_cell HY10.out 6).trans rfl
  go_wp2_with (fail)
  go_at_call 9
  refine (HELD.out W10 _ HT10.out HD10.out HS10.out).mono ?_
  rintro e W11 ⟨rfl, hb⟩
  have HB11 := Aside0.mk (below_step HB10.out hb)
  clear hb y0_ y1_ y2_ y3_ y4_ y5_ y6_ HY10 HB10 HT10 HD10 HS10
  go_wp2
  go_ret
  exact ⟨rfl, below_step HB2.out HB11.out⟩
end Go.Proofs.YtoifdnnjdohfmaaDoor.Uw
