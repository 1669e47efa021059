-- Written for this claim by this session's own driver (wip/xprint.py).
import Derived.Test.YtoifdnnjdohfmaaDoorQFnExactUnpackImagex0
import Derived.Test.YtoifdnnjdohfmaaDoorQFnExactUnpackImagex5
namespace Go.Proofs.YtoifdnnjdohfmaaDoor.QFnExactUnpackImage
open Go.RowKit Go.Proofs.YtoifdnnjdohfmaaDoorW.PrintWords Go.Proofs.YtoifdnnjdohfmaaDoorW.PrintLast Go.Proofs.YtoifdnnjdohfmaaDoorW.PrintMore
attribute [local go_sem] max2_int min2_int max_two min_two max_three min_three max_four min_four   -- for this text's walks alone
set_option linter.unusedVariables false
set_option linter.unusedSimpArgs false

/-! ### impl_ImageFault: function 29 -/
def nameCh (c : Int) : Bool := (decide (97 ≤ c) && decide (c ≤ 122)) || ((decide (48 ≤ c) && decide (c ≤ 57)) || (c == 45))
def nameB (s : ByteArray) : Bool := (List.range s.size).all (fun i => nameCh (bt s (i : Int))) && (decide (1 ≤ (s.size : Int)) && decide ((s.size : Int) ≤ 20))
theorem yisName_step (s : ByteArray) (k : Nat) (j : Int) (h0 : 0 ≤ j) (h : j < (s.size : Int)) : impl_yisName.l0 (k + 1) s (s.size : Int) j = if nameCh (bt s j) = true then impl_yisName.l0 k s (s.size : Int) (wrap64 (j + 1)) else some false := by
  simp only [impl_yisName.l0]
  rw [if_pos h, if_pos h0, if_pos h]
  generalize bt s j = c
  unfold nameCh
  by_cases h1 : c ≥ 97 <;> by_cases h2 : c ≤ 122 <;> by_cases h3 : c ≥ 48 <;> by_cases h4 : c ≤ 57 <;> by_cases h5 : c = 45 <;> simp [h1, h2, h3, h4, h5] <;> omega
theorem yisName_loop (s : ByteArray) (hs : s.size ≤ 9223372036854775807) (e : Nat) : ∀ (j k : Nat), j + e = s.size → e < k → (∀ i, i < j → nameCh (bt s (i : Int)) = true) → impl_yisName.l0 k s (s.size : Int) (j : Int) = some (nameB s) := by
  induction e with
  | zero =>
    intro j k hj hk ha
    obtain ⟨k, rfl⟩ : ∃ m, k = m + 1 := ⟨k - 1, by omega⟩
    have hall : (List.range s.size).all (fun i => nameCh (bt s (i : Int))) = true := List.all_eq_true.mpr (fun i hi => ha i (by have := List.mem_range.mp hi; omega))
    simp only [impl_yisName.l0]
    rw [if_neg (by omega)]
    unfold nameB
    rw [hall, Bool.true_and]
    by_cases h : (s.size : Int) ≥ 1
    · rw [if_pos h, decide_eq_true (show 1 ≤ (s.size : Int) from h), Bool.true_and]
    · rw [if_neg h, decide_eq_false (show ¬ 1 ≤ (s.size : Int) from h), Bool.false_and]
  | succ e ih =>
    intro j k hj hk ha
    obtain ⟨k, rfl⟩ : ∃ m, k = m + 1 := ⟨k - 1, by omega⟩
    rw [yisName_step s k (j : Int) (by omega) (by omega)]
    by_cases hc : nameCh (bt s (j : Int)) = true
    · rw [if_pos hc, show wrap64 ((j : Int) + 1) = ((j + 1 : Nat) : Int) from by unfold wrap64; omega]
      exact ih (j + 1) k (by omega) (by omega) (fun i hi => by
        by_cases e : i = j
        · subst e; exact hc
        · exact ha i (by omega))
    · rw [if_neg hc]
      have hall : (List.range s.size).all (fun i => nameCh (bt s (i : Int))) = false := List.all_eq_false.mpr ⟨j, List.mem_range.mpr (by omega), hc⟩
      unfold nameB
      rw [hall, Bool.false_and]
theorem yisName_some (s : ByteArray) (hs : s.size ≤ 9223372036854775807) : impl_yisName.f (s.size + 1) s = some (nameB s) := by
  unfold impl_yisName.f
  exact yisName_loop s hs s.size 0 (s.size + 1) (by omega) (by omega) (fun i hi => absurd hi (Nat.not_lt_zero _))
theorem nameB_calls (s : ByteArray) (hs : s.size ≤ 9223372036854775807) (W : World) : Calls Tryd.prog 56 #[.string s] W fun e w' => e = .returned (.bool (nameB s)) ∧ Drawn0 W w' :=
  impl_yisName.calls (s.size + 1) s (nameB s) W (yisName_some s hs)
def inB (a lo hi : Int) : Bool := decide (lo ≤ a) && decide (a ≤ hi)
theorem yin_eq (a lo hi : Int) : impl_yin.f a lo hi = some (inB a lo hi) := by
  unfold impl_yin.f inB
  by_cases h : a ≥ lo
  · rw [if_pos h, decide_eq_true h]; rfl
  · rw [if_neg h, decide_eq_false h]; rfl

/-! The function literal of the names, and the search for one. -/
set_option maxHeartbeats 4000000 in
theorem imgName_closure (W : World) (x : S47) (A1 : Option Addr) (c1 : Nat) (g : Nat) (nm : ByteArray) (hnm : W.cell? ⟨g, 0, none⟩ = some (.string nm)) :
    Calls Tryd.prog 59 #[.agg #[.string x.f0, .slice A1 x.f1.length c1], .pointer (some ⟨g, 0, none⟩)] W fun e w' => e = .returned (.bool (x.f0.toList == nm.toList)) ∧ Below W.heap.size W w' := by
  have hlt := World.block_lt_of_cell? W _ hnm
  obtain ⟨B, hB⟩ : ∃ B : World, B = W.alloc (Obj.cells #[.string x.f0, .slice A1 x.f1.length c1] 47) := ⟨_, rfl⟩
  have hm0 : B.cell? ⟨g, 0, none⟩ = some (.string nm) := by rw [hB]; exact pw_cell_below (below_alloc (Below.refl _ _) _) hnm
  have hm1 : B.cell? ⟨W.heap.size, 0, none⟩ = some (.string x.f0) := by rw [hB]; exact (blk_cell (blk_new _ _) 0).trans rfl
  have HB := Aside0.mk hB
  go_enter Tryd.func59, Tryd.ntmps59
  go_wp2
  go_ret
  exact ⟨by rfl, by first | exact below_alloc (Below.refl _ _) _ | (repeat (first | exact Below.refl _ _ | apply pw_below_drewN | apply below_alloc))⟩
set_option maxHeartbeats 4000000 in
theorem imgName_indexFunc (A : Option Addr) (c : Nat) (zs : List S47) (p : S47 → Bool) (b : Nat) (eg : ∀ args w, (callFunc 59 args).run Tryd.prog w = .ok (.enter 59 args) w) (w : World)
    (hp : ∀ (W : World) (x : S47) (A1 : Option Addr) (c1 : Nat), Below w.heap.size w W → Calls Tryd.prog 59 #[.agg #[.string x.f0, .slice A1 x.f1.length c1], .pointer (some ⟨b, 0, none⟩)] W fun e w' => e = .returned (.bool (p x)) ∧ Below W.heap.size W w')
    (hr : Kd.C k47 w A zs.length zs) :
    Calls Tryd.prog 81 #[.slice A zs.length c, .func (.func 59) #[] #[.pointer (some ⟨b, 0, none⟩)]] w fun e w' => e = .returned (.int .i64 (Go.Proofs.YtoifdnnjdohfmaaDoor.Pl.idxFrom p zs 0)) ∧ Below w.heap.size w w' := by
  have HR := Aside0.mk hr
  have hbig := hr.2.1
  have HP := Aside0.mk hp
  clear hr hp
  go_enter Tryd.func81, Tryd.ntmps81
  go_wp2
  go_loopg [5, 8] zs.length (fun gg _ s8 wr => ∃ kk : Nat, s8 = .int .i64 kk ∧ Aside0 (kk ≤ zs.length) ∧ Aside0 (zs.length - kk ≤ gg) ∧ Aside0 (Below w.heap.size w wr) ∧ Aside0 (∀ j, j < kk → p (zs.getD j z47) = false))
  case atStart => exact ⟨0, rfl, ⟨Nat.zero_le _⟩, ⟨by omega⟩, ⟨Below.refl _ w⟩, ⟨fun j hj => absurd hj (Nat.not_lt_zero _)⟩⟩
  case round =>
    obtain ⟨kk, rfl, hkk, hg, BW, AA⟩ := hrel
    by_cases hlt : kk < zs.length
    · have hltz : (kk : Int) < (zs.length : Int) := by omega
      obtain ⟨ad, A1, c1, e_, hx0, hx1, _, _⟩ := at_T47 HR.out (kk : Int) (by omega) (by omega)
      cases e_
      replace hx0 := pw_cell_below BW.out hx0
      replace hx1 := pw_cell_below BW.out hx1
      rw [Int.toNat_natCast] at hx0 hx1
      have hcall := HP.out wr (zs.getD kk z47) A1 c1 BW.out
      have hy0 : rd_T47 zs (kk : Int) = zs.getD kk z47 := by unfold rd_T47; rw [Int.toNat_natCast]
      rw [hy0] at hx0 hx1
      clear hy0
      generalize hy : zs.getD kk z47 = y at hx0 hx1 hcall
      have BY := Aside0.mk hy
      clear hy
      cases hq : p y with
      | true =>
        rw [hq] at hcall
        have HQ := Aside0.mk hq
        clear hq
        go_wp2_with (go_at_call 59; refine hcall.mono ?_; rintro e w' ⟨rfl, hb'⟩)
        go_ret
        refine ⟨?_, BW.out.trans (hb'.mono BW.out.size)⟩
        rw [Go.Proofs.YtoifdnnjdohfmaaDoor.Pl.idxFrom_hit p z47 zs 0 kk hlt (by rw [BY.out]; exact HQ.out) AA.out, Nat.zero_add]
        rfl
      | false =>
        rw [hq] at hcall
        have HQ := Aside0.mk hq
        clear hq
        go_wp2_with (go_at_call 59; refine hcall.mono ?_; rintro e w' ⟨rfl, hb'⟩)
        go_roundg (zs.length - (kk + 1))
        case measure => have := hg.out; omega
        case rel =>
          refine ⟨kk + 1, by go_num, ⟨hlt⟩, ⟨by omega⟩, ⟨BW.out.trans (hb'.mono BW.out.size)⟩, ⟨fun j hj => ?_⟩⟩
          by_cases e : j = kk
          · subst e
            rw [BY.out]; exact HQ.out
          · exact AA.out j (by omega)
    · have hltz : ¬ (kk : Int) < (zs.length : Int) := by omega
      have hkn : kk = zs.length := by have := hkk.out; omega
      subst hkn
      go_wp2
      go_ret
      refine ⟨?_, BW.out⟩
      rw [Go.Proofs.YtoifdnnjdohfmaaDoor.Pl.idxFrom_miss p z47 zs 0 AA.out]
      rfl
set_option maxHeartbeats 4000000 in
theorem imgName_contains (A : Option Addr) (c : Nat) (zs : List S47) (b : Nat) (nm : ByteArray) (w : World) (hnm : w.cell? ⟨b, 0, none⟩ = some (.string nm))
    (hr : Kd.C k47 w A zs.length zs) :
    Calls Tryd.prog 58 #[.slice A zs.length c, .func (.func 59) #[] #[.pointer (some ⟨b, 0, none⟩)]] w fun e w' => e = .returned (.bool (zs.any (fun x => x.f0.toList == nm.toList))) ∧ Below w.heap.size w w' := by
  have eg : ∀ args w, (callFunc 59 args).run Tryd.prog w = .ok (.enter 59 args) w := enters_of Tryd.func59 (by kernel_rfl) rfl
  have hcall := imgName_indexFunc A c zs (fun x => x.f0.toList == nm.toList) b eg w (fun W x A1 c1 hb => imgName_closure W x A1 c1 b nm (pw_cell_below hb hnm)) hr
  have hany := Go.Proofs.YtoifdnnjdohfmaaDoor.Pl.idxFrom_any (fun x : S47 => x.f0.toList == nm.toList) zs 0
  clear eg
  go_enter Tryd.func58, Tryd.ntmps58
  go_wp2_with (go_at_call 81; refine hcall.mono ?_; rintro e w' ⟨rfl, hb'⟩)
  go_ret
  exact ⟨by rw [← hany]; rfl, hb'⟩
/-! The tables: what they tell of. -/
def tabB (n m : Nat) (t : List Int) : Bool := t.all (fun e => inB e (-2) ((n : Int) - 1)) && (t.length == m)
def toldL (n : Nat) (T : List Int) : List Bool := (List.range n).map (fun i : Nat => decide ((i : Int) ∈ T))
theorem toldL_length (n : Nat) (T : List Int) : (toldL n T).length = n := by simp [toldL]
theorem toldL_nil (n : Nat) : toldL n [] = List.replicate n false := by
  apply List.ext_getElem
  · simp [toldL]
  · intro i h1 h2; simp [toldL]
theorem toldL_rd (n : Nat) (T : List Int) (i : Nat) (h : i < n) : rdOf false (toldL n T) (i : Int) = decide ((i : Int) ∈ T) := by
  unfold rdOf
  rw [Int.toNat_natCast, List.getD_eq_getElem?_getD, List.getElem?_eq_getElem (by rw [toldL_length]; exact h)]
  simp [toldL]
theorem toldL_set (n X : Nat) (T : List Int) : (toldL n T).set X true = toldL n (T ++ [(X : Int)]) := by
  apply List.ext_getElem
  · simp [toldL]
  · intro i h1 h2
    rw [List.getElem_set]
    by_cases e : X = i
    · subst e; simp [toldL]
    · rw [if_neg e]
      have : ¬ (i : Int) = (X : Int) := by omega
      simp [toldL, this]
theorem toldL_skip (n : Nat) (T : List Int) (x : Int) (h : x < 0) : toldL n (T ++ [x]) = toldL n T := by
  unfold toldL
  apply List.map_congr_left
  intro i _
  have : ¬ (i : Int) = x := by omega
  simp [this]
theorem imgBoolInfo : (Tryd.prog.info? 4).map (fun i => (i.zero, i.size, i.bytes)) = some (some (.bool false), 1, 1) := by kernel_rfl
/-- The state behind ImageFault's two variables in memory: the image's box gm, the box gt of told, and the row of bools itself. -/
def ImSt (w W : World) (gm gt : Nat) (mc : Array Value) (At : Option Addr) (ct n : Nat) (L : List Bool) : Prop :=
  W.heap[gm]? = some (.cells mc 26 (0, 0)) ∧ W.heap[gt]? = some (.cells #[.slice At n ct] 87 (0, 0)) ∧ Kd.R Kd.bool 4 W w.heap.size (fun _ => True) (.slice At n ct) L ∧ w.heap.size ≤ gm ∧ w.heap.size ≤ gt ∧ (∀ ad, At = some ad → ad.block ≠ gm ∧ ad.block ≠ gt) ∧ Below w.heap.size w W
theorem ImSt.below {w W W' : World} {gm gt : Nat} {mc : Array Value} {At : Option Addr} {ct n : Nat} {L : List Bool} (h : ImSt w W gm gt mc At ct n L) (hb : Below W.heap.size W W') : ImSt w W' gm gt mc At ct n L := by
  obtain ⟨a, b, c, d, e, f, g⟩ := h
  exact ⟨blk_below a hb, blk_below b hb, Kd.R_below c hb, d, e, f, g.trans (hb.mono g.size)⟩
theorem ImSt.lt {w W : World} {gm gt : Nat} {mc : Array Value} {At : Option Addr} {ct n : Nat} {L : List Bool} (h : ImSt w W gm gt mc At ct n L) (hn : 0 < n) : ∃ g, At = some ⟨g, 0, none⟩ ∧ w.heap.size ≤ g ∧ g < W.heap.size := by
  obtain ⟨a, b, c, d, e, f, g⟩ := h
  have hl := (Kd.R_reads' c).1
  obtain ⟨go, co, he, h1, h2, _⟩ := Kd.R_form c (by omega)
  injection he with hA _ _
  exact ⟨go, hA, h1, h2⟩
theorem ImSt.set {w W : World} {gm gt : Nat} {mc : Array Value} {At : Option Addr} {ct n : Nat} {T : List Int} (h : ImSt w W gm gt mc At ct n (toldL n T)) {g : Nat} (hA : At = some ⟨g, 0, none⟩) (hg : w.heap.size ≤ g) (X : Nat) : ImSt w (W.setCell ⟨g, X, none⟩ (.bool true)) gm gt mc At ct n (toldL n (T ++ [(X : Int)])) := by
  obtain ⟨a, b, c, d, e, f, hb⟩ := h
  subst hA
  obtain ⟨f1, f2⟩ := f _ rfl
  refine ⟨blk_far (p := ⟨g, X, none⟩) a (fun h => f1 h.symm) _, blk_far (p := ⟨g, X, none⟩) b (fun h => f2 h.symm) _, ?_, d, e, f, below_set hb hg⟩
  have := (Kd.R_putg c (X : Int) true).1
  rw [Int.toNat_natCast, toldL_set] at this
  exact this
theorem ImSt.made {w B w4 : World} {gm : Nat} {mc : Array Value} {At : Option Addr} {ct n : Nat} (hbk : B.heap[gm]? = some (.cells mc 26 (0, 0))) (hg : B.grownBy w4 none) (ho : Kd.R Kd.bool 4 w4 w.heap.size (fun _ => True) (.slice At n ct) (List.replicate n false)) (hb : Below w.heap.size w w4) (hnew : ∃ b, (Value.slice At n ct).ownBlock = some b ∧ B.heap.size ≤ b) (hgm : w.heap.size ≤ gm) :
    ImSt w (w4.alloc (Obj.cells #[.slice At n ct] 87)) gm w4.heap.size mc At ct n (toldL n []) := by
  have hlt := blk_lt hbk
  have hk := blk_grown hbk hg (by simp)
  have hlt4 := blk_lt hk
  have hself : Below w4.heap.size w4 (w4.alloc (Obj.cells #[.slice At n ct] 87)) := below_alloc (Below.refl _ _) _
  refine ⟨blk_below hk hself, blk_new _ _, ?_, hgm, hb.size, ?_, hb.trans (hself.mono hb.size)⟩
  · rw [toldL_nil]; exact Kd.R_below ho hself
  · intro ad hA
    subst hA
    obtain ⟨b, hb1, hb2⟩ := hnew
    have hbd := (Kd.R_bound ho).1 b hb1
    have hbe : ad.block = b := by simpa [Value.ownBlock] using hb1
    have := hbd.2.2.1
    constructor <;> omega
set_option maxHeartbeats 4000000 in
set_option maxRecDepth 100000 in
theorem imgTable_calls (w W : World) (gm gt : Nat) (v0 v1 v2 v4 : Value) (m2 c2 : Nat) (A2 A3 : Option Addr) (c3 n : Nat) (At : Option Addr) (ct : Nat) (A : Option Addr) (c : Nat) (t T : List Int) (hv2 : v2 = .slice A2 m2 c2) (hn : n ≤ 128)
    (hr : Kd.C (Kd.int .i64) w A t.length t) (h : ImSt w W gm gt #[v0, v1, v2, .slice A3 n c3, v4] At ct n (toldL n T)) :
    Calls Tryd.prog 57 #[.slice A t.length c, .pointer (some ⟨gm, 0, none⟩), .pointer (some ⟨gt, 0, none⟩)] W fun e W' => e = .returned (.bool (tabB n m2 t)) ∧ (tabB n m2 t = true → ImSt w W' gm gt #[v0, v1, v2, .slice A3 n c3, v4] At ct n (toldL n (T ++ t))) ∧ (∀ g, g < W.heap.size → (∀ ad, At = some ad → 0 < n → ad.block ≠ g) → W'.heap[g]? = W.heap[g]?) ∧ W.heap.size ≤ W'.heap.size ∧ Below w.heap.size w W' := by
  subst hv2
  have HR := Aside0.mk hr
  have HS := Aside0.mk h
  clear hr h
  have hbig := HR.out.2.1
  go_enter Tryd.func57, Tryd.ntmps57
  go_wp2
  go_loopg [9] t.length (fun gq v9 wr => ∃ j : Nat, v9 = .int .i64 j ∧ Aside0 (j ≤ t.length) ∧ Aside0 (t.length - j ≤ gq) ∧ Aside0 (ImSt w wr gm gt #[v0, v1, .slice A2 m2 c2, .slice A3 n c3, v4] At ct n (toldL n (T ++ t.take j))) ∧ Aside0 (∀ i, i < j → inB (rd t (i : Int)) (-2) ((n : Int) - 1) = true) ∧ Aside0 (∀ g, g < W.heap.size → (∀ ad, At = some ad → 0 < n → ad.block ≠ g) → wr.heap[g]? = W.heap[g]?) ∧ Aside0 (W.heap.size ≤ wr.heap.size))
  case atStart => exact ⟨0, rfl, ⟨Nat.zero_le _⟩, ⟨by omega⟩, ⟨by rw [List.take_zero, List.append_nil]; exact HS.out⟩, ⟨fun i hi => absurd hi (Nat.not_lt_zero _)⟩, ⟨fun g _ _ => rfl⟩, ⟨Nat.le_refl _⟩⟩
  case round =>
    obtain ⟨j, rfl, hj, hg, HS, HG, HK, HZ⟩ := hrel
    have f3 : wr.cell? ⟨gm, 3, none⟩ = some (.slice A3 n c3) := (blk_cell HS.out.1 3).trans rfl
    have f2 : wr.cell? ⟨gm, 2, none⟩ = some (.slice A2 m2 c2) := (blk_cell HS.out.1 2).trans rfl
    have f1 : wr.cell? ⟨gt, 0, none⟩ = some (.slice At n ct) := (blk_cell HS.out.2.1 0).trans rfl
    by_cases hlt : j < t.length
    · have hltz : (j : Int) < (t.length : Int) := by omega
      obtain ⟨ad, e_, hx⟩ := Kd.at_int HR.out (j : Int) (by omega) hltz
      cases e_
      replace hx := pw_cell_below HS.out.2.2.2.2.2.2 hx
      rw [Int.toNat_natCast] at hx
      obtain ⟨x, hxx⟩ : ∃ x, rd t j = x := ⟨_, rfl⟩
      have HX := Aside0.mk hxx
      rw [hxx] at hx
      clear hxx
      have hw : wrap64 ((n : Int) - 1) = (n : Int) - 1 := by unfold wrap64; omega
      have htk : t.take (j + 1) = t.take j ++ [x] := by
        rw [List.take_add_one, List.getElem?_eq_getElem hlt]
        have := HX.out
        unfold rd at this
        rw [Int.toNat_natCast, List.getD_eq_getElem?_getD, List.getElem?_eq_getElem hlt] at this
        simp only [Option.getD_some] at this
        rw [this]; rfl
      have HTK := Aside0.mk htk
      clear htk
      have hyc := fun W => impl_yin.calls x (-2) ((n : Int) - 1) _ W (yin_eq _ _ _)
      cases hb : inB x (-2) ((n : Int) - 1) with
      | false =>
        rw [hb] at hyc
        have HBB := Aside0.mk hb
        clear hb
        go_wp2_with (go_at_call 51; with_reducible refine (hyc _).mono ?_; rintro e w' ⟨rfl, ⟨m1, rfl⟩⟩)
        go_ret
        have htb : tabB n m2 t = false := by
          unfold tabB
          rw [show t.all (fun e => inB e (-2) ((n : Int) - 1)) = false from List.all_eq_false.mpr ⟨t[j], List.getElem_mem hlt, by
            have := HX.out
            unfold rd at this
            rw [Int.toNat_natCast, List.getD_eq_getElem?_getD, List.getElem?_eq_getElem hlt] at this
            simp only [Option.getD_some] at this
            rw [this, HBB.out]; simp⟩, Bool.false_and]
        rw [htb]
        exact ⟨rfl, fun h => absurd h (by decide), fun g h1 h2 => HK.out g h1 h2, HZ.out, pw_below_drewN HS.out.2.2.2.2.2.2 _⟩
      | true =>
        rw [hb] at hyc
        have HBB := Aside0.mk hb
        have hbb := hb
        unfold inB at hbb
        simp only [Bool.and_eq_true, decide_eq_true_eq] at hbb
        obtain ⟨hb1, hb2⟩ := hbb
        clear hb
        by_cases hx0 : 0 ≤ x
        · obtain ⟨X, rfl⟩ := Int.eq_ofNat_of_zero_le hx0
          have hXn : X < n := by omega
          obtain ⟨go, hA, hgo, _⟩ := HS.out.lt (by omega)
          subst hA
          have HS' := HS
          obtain ⟨hc, hf⟩ := Kd.R_celln false HS.out.2.2.1 (X : Int) (by omega) (by omega)
          rw [Int.toNat_natCast] at hc hf
          have hXi : (X : Int) < (n : Int) := by omega
          have HGO := Aside0.mk hgo
          clear hb1 hb2 hgo
          go_wp2_with (go_at_call 51; with_reducible refine (hyc _).mono ?_; rintro e w' ⟨rfl, ⟨m1, rfl⟩⟩)
          go_roundg (t.length - (j + 1))
          case measure => have := hg.out; omega
          case rel =>
            refine ⟨j + 1, by go_num, ⟨hlt⟩, ⟨by omega⟩, ⟨?_⟩, ⟨fun i hi => ?_⟩, ⟨fun g h1 h2 => ?_⟩, ⟨?_⟩⟩
            · rw [HTK.out, ← List.append_assoc]
              exact (HS.out.below (pw_below_drewN (Below.refl _ _) _)).set rfl HGO.out X
            · by_cases e : i = j
              · subst e; rw [HX.out]; exact HBB.out
              · exact HG.out i (by omega)
            · exact (Below.heap_setCell (wr.drewN m1) ⟨go, X, none⟩ _ g (fun e => h2 _ rfl (by omega) e.symm)).trans (HK.out g h1 h2)
            · simpa using HZ.out
        · have hx1 : x < 0 := by omega
          clear hb1 hb2
          go_wp2_with (go_at_call 51; with_reducible refine (hyc _).mono ?_; rintro e w' ⟨rfl, ⟨m1, rfl⟩⟩)
          go_roundg (t.length - (j + 1))
          case measure => have := hg.out; omega
          case rel =>
            refine ⟨j + 1, by go_num, ⟨hlt⟩, ⟨by omega⟩, ⟨?_⟩, ⟨fun i hi => ?_⟩, ⟨fun g h1 h2 => HK.out g h1 h2⟩, ⟨HZ.out⟩⟩
            · rw [HTK.out, ← List.append_assoc, toldL_skip _ _ _ hx1]
              exact HS.out.below (pw_below_drewN (Below.refl _ _) _)
            · by_cases e : i = j
              · subst e; rw [HX.out]; exact HBB.out
              · exact HG.out i (by omega)
    · have hltz : ¬ (j : Int) < (t.length : Int) := by omega
      have hjl : j = t.length := by have := hj.out; omega
      subst hjl
      have hall : t.all (fun e => inB e (-2) ((n : Int) - 1)) = true := List.all_eq_true.mpr (fun e he => by
        obtain ⟨i, hi, rfl⟩ := List.getElem_of_mem he
        have := HG.out i hi
        unfold rd at this
        rw [Int.toNat_natCast, List.getD_eq_getElem?_getD, List.getElem?_eq_getElem hi] at this
        simpa using this)
      have htb : tabB n m2 t = (t.length == m2) := by unfold tabB; rw [hall, Bool.true_and]
      have HTB := Aside0.mk htb
      clear htb hall hltz
      go_wp2
      go_ret
      refine ⟨?_, fun _ => ?_, HK.out, HZ.out, HS.out.2.2.2.2.2.2⟩
      · rw [HTB.out, show (t.length == m2) = ((t.length : Int) == (m2 : Int)) from by rw [Bool.eq_iff_iff, beq_iff_eq, beq_iff_eq]; omega]
        rfl
      · have := HS.out
        rw [List.take_length] at this
        exact this
def snapB (n m : Nat) (xs : List S47) (j : Nat) : Bool := nameB (rd_T47 xs (j : Int)).f0 && (tabB n m (rd_T47 xs (j : Int)).f1 && !((xs.take j).any (fun x => x.f0.toList == (rd_T47 xs (j : Int)).f0.toList)))
def dataB (ds : List ByteArray) (T : List Int) (j : Nat) : Bool := (((rdOf ByteArray.empty ds (j : Int)).size : Int) == 16) && decide ((j : Int) ∈ T)
def imgHead (a0 a1 : ByteArray) (l2 : List Int) (l3 : List ByteArray) (l4 : List S47) : Bool :=
  nameB a0 && (((a1.toList == ([] : List UInt8)) || nameB a1) && (inB (l2.length : Int) 1 64 && (decide ((l3.length : Int) ≤ 128) && decide ((l4.length : Int) ≤ 8))))
def imgB (a0 a1 : ByteArray) (l2 : List Int) (l3 : List ByteArray) (l4 : List S47) : Bool :=
  imgHead a0 a1 l2 l3 l4 && (tabB l3.length l2.length l2 && ((List.range l4.length).all (snapB l3.length l2.length l4) && (List.range l3.length).all (dataB l3 (l2 ++ l4.flatMap (fun x => x.f1)))))
theorem imgB_head {a0 a1 : ByteArray} {l2 : List Int} {l3 : List ByteArray} {l4 : List S47} (h : imgHead a0 a1 l2 l3 l4 = false) : imgB a0 a1 l2 l3 l4 = false := by unfold imgB; rw [h]; rfl
theorem imgB_tab {a0 a1 : ByteArray} {l2 : List Int} {l3 : List ByteArray} {l4 : List S47} (h : tabB l3.length l2.length l2 = false) : imgB a0 a1 l2 l3 l4 = false := by unfold imgB; rw [h, Bool.false_and, Bool.and_false]
theorem imgB_snap {a0 a1 : ByteArray} {l2 : List Int} {l3 : List ByteArray} {l4 : List S47} (j : Nat) (hj : j < l4.length) (h : snapB l3.length l2.length l4 j = false) : imgB a0 a1 l2 l3 l4 = false := by
  unfold imgB
  rw [show (List.range l4.length).all (snapB l3.length l2.length l4) = false from List.all_eq_false.mpr ⟨j, List.mem_range.mpr hj, by rw [h]; simp⟩, Bool.false_and, Bool.and_false, Bool.and_false]
theorem imgB_data {a0 a1 : ByteArray} {l2 : List Int} {l3 : List ByteArray} {l4 : List S47} (j : Nat) (hj : j < l3.length) (h : dataB l3 (l2 ++ l4.flatMap (fun x => x.f1)) j = false) : imgB a0 a1 l2 l3 l4 = false := by
  unfold imgB
  rw [show (List.range l3.length).all (dataB l3 (l2 ++ l4.flatMap (fun x => x.f1))) = false from List.all_eq_false.mpr ⟨j, List.mem_range.mpr hj, by rw [h]; simp⟩, Bool.and_false, Bool.and_false, Bool.and_false]
theorem imgB_all {a0 a1 : ByteArray} {l2 : List Int} {l3 : List ByteArray} {l4 : List S47} (h1 : imgHead a0 a1 l2 l3 l4 = true) (h2 : tabB l3.length l2.length l2 = true) (h3 : ∀ j, j < l4.length → snapB l3.length l2.length l4 j = true) (h4 : ∀ j, j < l3.length → dataB l3 (l2 ++ l4.flatMap (fun x => x.f1)) j = true) : imgB a0 a1 l2 l3 l4 = true := by
  unfold imgB
  rw [h1, h2, show (List.range l4.length).all (snapB l3.length l2.length l4) = true from List.all_eq_true.mpr (fun j hj => h3 j (List.mem_range.mp hj)), show (List.range l3.length).all (dataB l3 (l2 ++ l4.flatMap (fun x => x.f1))) = true from List.all_eq_true.mpr (fun j hj => h4 j (List.mem_range.mp hj))]
  rfl
theorem imgHead_data {a0 a1 : ByteArray} {l2 : List Int} {l3 : List ByteArray} {l4 : List S47} (h : imgHead a0 a1 l2 l3 l4 = true) : l3.length ≤ 128 := by
  unfold imgHead at h
  simp only [Bool.and_eq_true, decide_eq_true_eq] at h
  have := h.2.2.2.1
  omega
theorem flat_snoc (l4 : List S47) (j : Nat) (h : j < l4.length) (x : S47) (hx : rd_T47 l4 (j : Int) = x) : (l4.take (j + 1)).flatMap (fun x => x.f1) = (l4.take j).flatMap (fun x => x.f1) ++ x.f1 := by
  unfold rd_T47 at hx
  rw [Int.toNat_natCast, List.getD_eq_getElem?_getD, List.getElem?_eq_getElem h] at hx
  simp only [Option.getD_some] at hx
  rw [List.take_add_one, List.getElem?_eq_getElem h, List.flatMap_append, hx]
  simp
def imgSized (a0 a1 : ByteArray) (l4 : List S47) : Bool := decide (a0.size ≤ 9223372036854775807) && (decide (a1.size ≤ 9223372036854775807) && l4.all (fun x => decide (x.f0.size ≤ 9223372036854775807)))
def impl_ImageFault.f (a0_0 : ByteArray) (a0_1 : ByteArray) (l0_2 : List Int) (l0_3 : List ByteArray) (l0_4 : List (S47)) : Option Int := if imgSized a0_0 a0_1 l0_4 = true then some (if imgB a0_0 a0_1 l0_2 l0_3 l0_4 = true then 0 else 1) else none
set_option maxHeartbeats 16000000 in
set_option maxRecDepth 100000 in
theorem impl_ImageFault.calls (a0_0 : ByteArray) (a0_1 : ByteArray) (A0_2 : Option Addr) (c0_2 : Nat) (l0_2 : List Int) (A0_3 : Option Addr) (c0_3 : Nat) (l0_3 : List ByteArray) (A0_4 : Option Addr) (c0_4 : Nat) (l0_4 : List (S47)) (r : Int) (w : World) (hr0_2 : Kd.C (Kd.int .i64) w A0_2 l0_2.length l0_2) (hc0_2 : l0_2.length ≤ c0_2) (hr0_3 : Kd.C Kd.string w A0_3 l0_3.length l0_3) (hc0_3 : l0_3.length ≤ c0_3) (hr0_4 : Kd.C k47 w A0_4 l0_4.length l0_4) (hc0_4 : l0_4.length ≤ c0_4) (h : impl_ImageFault.f a0_0 a0_1 l0_2 l0_3 l0_4 = some r) :
    Calls Tryd.prog 29 #[.agg #[.string a0_0, .string a0_1, .slice A0_2 l0_2.length c0_2, .slice A0_3 l0_3.length c0_3, .slice A0_4 l0_4.length c0_4]] w fun e w' => e = .returned (.int .i64 r) ∧ Below w.heap.size w w' := by
  unfold impl_ImageFault.f at h
  by_cases hsz : imgSized a0_0 a0_1 l0_4 = true
  case neg => rw [if_neg hsz] at h; exact absurd h (by simp)
  rw [if_pos hsz] at h
  obtain rfl := Option.some.inj h
  unfold imgSized at hsz
  simp only [Bool.and_eq_true, decide_eq_true_eq, List.all_eq_true] at hsz
  obtain ⟨hs0, hs1, hs4⟩ := hsz
  have HS0 := Aside0.mk hs0
  have HS1 := Aside0.mk hs1
  have HS4 := Aside0.mk hs4
  clear h hs0 hs1 hs4
  have HR2 := Aside0.mk hr0_2
  have HR3 := Aside0.mk hr0_3
  have HR4 := Aside0.mk hr0_4
  have HC2 := Aside0.mk hc0_2
  have HC3 := Aside0.mk hc0_3
  have HC4 := Aside0.mk hc0_4
  have hl2 := hr0_2.2.1
  have hl3 := hr0_3.2.1
  have hl4 := hr0_4.2.1
  clear hr0_2 hr0_3 hr0_4 hc0_2 hc0_3 hc0_4
  obtain ⟨rr, hrr⟩ : ∃ rr : Int, (if imgB a0_0 a0_1 l0_2 l0_3 l0_4 = true then (0 : Int) else 1) = rr := ⟨_, rfl⟩
  rw [hrr]
  have RR := Aside0.mk hrr
  clear hrr
  have hbad : Aside0 (imgB a0_0 a0_1 l0_2 l0_3 l0_4 = false → rr = 1) := ⟨fun h => by rw [← RR.out, h]; rfl⟩
  have hgood : Aside0 (imgB a0_0 a0_1 l0_2 l0_3 l0_4 = true → rr = 0) := ⟨fun h => by rw [← RR.out, h]; rfl⟩
  clear RR
  go_enter Tryd.func29, Tryd.ntmps29
  go_upto_region 1 with (fail)
  go_cut [42] (fun s42 wc => ∃ b : Bool, s42 = .bool b ∧ Aside0 (b = !(imgHead a0_0 a0_1 l0_2 l0_3 l0_4)) ∧ ∃ m : Nat, wc = (w.alloc (Obj.cells #[.string a0_0, .string a0_1, .slice A0_2 l0_2.length c0_2, .slice A0_3 l0_3.length c0_3, .slice A0_4 l0_4.length c0_4] 26)).drewN m)
  case first =>
    go_wp2_with (fail)
    go_at_call 56
    with_reducible refine (nameB_calls a0_0 HS0.out _).mono ?_
    rintro e w' ⟨rfl, ⟨m0, rfl⟩⟩
    cases hb0 : nameB a0_0
    case false =>
      go_wp2
      go_meet
      case rel => exact ⟨true, rfl, ⟨by unfold imgHead; rw [hb0]; rfl⟩, _, rfl⟩
    have hor : ∃ b, (a0_1.toList = ([] : List UInt8) ∧ b = true) ∨ (¬ a0_1.toList = ([] : List UInt8) ∧ nameB a0_1 = b) := by
      by_cases he : a0_1.toList = ([] : List UInt8)
      · exact ⟨true, Or.inl ⟨he, rfl⟩⟩
      · exact ⟨nameB a0_1, Or.inr ⟨he, rfl⟩⟩
    obtain ⟨b, ⟨he, rfl⟩ | ⟨he, hbb⟩⟩ := hor
    · have he1 : (a0_1.toList == ([] : List UInt8)) = true := beq_iff_eq.mpr he
      have he2 : (a0_1.toList != ([] : List UInt8)) = false := by rw [he]; rfl
      have HE : Aside0 (((a0_1.toList == ([] : List UInt8)) || nameB a0_1) = true) := ⟨by rw [he1]; rfl⟩
      go_wp2_with (fail)
      go_at_call 51
      with_reducible refine (impl_yin.calls _ _ _ _ _ (yin_eq _ _ _)).mono ?_
      rintro e w' ⟨rfl, ⟨m1, rfl⟩⟩
      cases hb2 : inB (l0_2.length : Int) 1 64
      case false =>
        go_wp2
        go_meet
        case rel => exact ⟨true, rfl, ⟨by unfold imgHead; rw [hb0, HE.out, hb2]; rfl⟩, _, rfl⟩
      by_cases h3 : (l0_3.length : Int) ≤ 128
      case neg =>
        have h3a : decide (128 < (l0_3.length : Int)) = true := decide_eq_true (by omega)
        have h3b : (128 < l0_3.length) := by omega
        go_wp2
        go_meet
        case rel => exact ⟨true, rfl, ⟨by unfold imgHead; rw [hb0, HE.out, hb2, decide_eq_false (show ¬ (l0_3.length : Int) ≤ 128 by omega)]; rfl⟩, _, rfl⟩
      have h3a : decide (128 < (l0_3.length : Int)) = false := decide_eq_false (by omega)
      have h3b : ¬ (128 < l0_3.length) := by omega
      by_cases h4 : (l0_4.length : Int) ≤ 8
      case neg =>
        have h4a : decide (8 < (l0_4.length : Int)) = true := decide_eq_true (by omega)
        have h4b : (8 < l0_4.length) := by omega
        go_wp2
        go_meet
        case rel => exact ⟨true, rfl, ⟨by unfold imgHead; rw [hb0, HE.out, hb2, decide_eq_true (show (l0_3.length : Int) ≤ 128 by omega), decide_eq_false (show ¬ (l0_4.length : Int) ≤ 8 by omega)]; rfl⟩, _, rfl⟩
      have h4a : decide (8 < (l0_4.length : Int)) = false := decide_eq_false (by omega)
      have h4b : ¬ (8 < l0_4.length) := by omega
      go_wp2
      go_meet
      case rel => exact ⟨false, rfl, ⟨by unfold imgHead; rw [hb0, HE.out, hb2, decide_eq_true (show (l0_3.length : Int) ≤ 128 by omega), decide_eq_true (show (l0_4.length : Int) ≤ 8 by omega)]; rfl⟩, _, rfl⟩
    · have he1 : (a0_1.toList == ([] : List UInt8)) = false := beq_eq_false_iff_ne.mpr he
      have he2 : (a0_1.toList != ([] : List UInt8)) = true := by simpa using he
      have he3 : (a0_1.toList.isEmpty) = false := by cases hq : a0_1.toList with
        | nil => exact absurd hq he
        | cons _ _ => rfl
      have HBB := Aside0.mk hbb
      have HE1 := Aside0.mk he1
      clear hbb
      go_wp2_with (fail)
      go_at_call 56
      with_reducible refine (nameB_calls a0_1 HS1.out _).mono ?_
      rintro e w' ⟨rfl, ⟨m2, rfl⟩⟩
      rw [HBB.out]
      cases b with
      | false =>
        go_wp2
        go_meet
        case rel => exact ⟨true, rfl, ⟨by unfold imgHead; rw [hb0, HE1.out, HBB.out]; rfl⟩, _, rfl⟩
      | true =>
        have HE : Aside0 (((a0_1.toList == ([] : List UInt8)) || nameB a0_1) = true) := ⟨by rw [HE1.out, HBB.out]; rfl⟩
        go_wp2_with (fail)
        go_at_call 51
        with_reducible refine (impl_yin.calls _ _ _ _ _ (yin_eq _ _ _)).mono ?_
        rintro e w' ⟨rfl, ⟨m1, rfl⟩⟩
        cases hb2 : inB (l0_2.length : Int) 1 64
        case false =>
          go_wp2
          go_meet
          case rel => exact ⟨true, rfl, ⟨by unfold imgHead; rw [hb0, HE.out, hb2]; rfl⟩, _, rfl⟩
        by_cases h3 : (l0_3.length : Int) ≤ 128
        case neg =>
          have h3a : decide (128 < (l0_3.length : Int)) = true := decide_eq_true (by omega)
          have h3b : (128 < l0_3.length) := by omega
          go_wp2
          go_meet
          case rel => exact ⟨true, rfl, ⟨by unfold imgHead; rw [hb0, HE.out, hb2, decide_eq_false (show ¬ (l0_3.length : Int) ≤ 128 by omega)]; rfl⟩, _, rfl⟩
        have h3a : decide (128 < (l0_3.length : Int)) = false := decide_eq_false (by omega)
        have h3b : ¬ (128 < l0_3.length) := by omega
        by_cases h4 : (l0_4.length : Int) ≤ 8
        case neg =>
          have h4a : decide (8 < (l0_4.length : Int)) = true := decide_eq_true (by omega)
          have h4b : (8 < l0_4.length) := by omega
          go_wp2
          go_meet
          case rel => exact ⟨true, rfl, ⟨by unfold imgHead; rw [hb0, HE.out, hb2, decide_eq_true (show (l0_3.length : Int) ≤ 128 by omega), decide_eq_false (show ¬ (l0_4.length : Int) ≤ 8 by omega)]; rfl⟩, _, rfl⟩
        have h4a : decide (8 < (l0_4.length : Int)) = false := decide_eq_false (by omega)
        have h4b : ¬ (8 < l0_4.length) := by omega
        go_wp2
        go_meet
        case rel => exact ⟨false, rfl, ⟨by unfold imgHead; rw [hb0, HE.out, hb2, decide_eq_true (show (l0_3.length : Int) ≤ 128 by omega), decide_eq_true (show (l0_4.length : Int) ≤ 8 by omega)]; rfl⟩, _, rfl⟩
  case rest =>
    obtain ⟨b, rfl, hbh, m0, rfl⟩ := hcut
    cases b with
    | true =>
      obtain rfl := hbad.out (imgB_head (by have := hbh.out; simpa using this.symm))
      go_wp2
      go_ret
      refine ⟨rfl, ?_⟩
      repeat (first | exact Below.refl _ _ | apply pw_below_drewN | apply below_alloc)
    | false =>
      have hhead : Aside0 (imgHead a0_0 a0_1 l0_2 l0_3 l0_4 = true) := ⟨by have := hbh.out; simpa using this.symm⟩
      have hn := imgHead_data hhead.out
      have HN := Aside0.mk hn
      clear hbh
      go_upto_region 3 with (fail)
      go_cut [3] (fun s3 wc => ∃ (gt : Nat) (At : Option Addr) (ct : Nat), s3 = .pointer (some ⟨gt, 0, none⟩) ∧ Aside0 (ImSt w wc w.heap.size gt #[.string a0_0, .string a0_1, .slice A0_2 l0_2.length c0_2, .slice A0_3 l0_3.length c0_3, .slice A0_4 l0_4.length c0_4] At ct l0_3.length (toldL l0_3.length [])))
      case first =>
        have f3 : ((w.alloc (Obj.cells #[.string a0_0, .string a0_1, .slice A0_2 l0_2.length c0_2, .slice A0_3 l0_3.length c0_3, .slice A0_4 l0_4.length c0_4] 26)).drewN m0).cell? ⟨w.heap.size, 3, none⟩ = some (.slice A0_3 l0_3.length c0_3) := (blk_cell (blk_drewN (blk_new _ _) _) 3).trans rfl
        obtain ⟨B, hB⟩ : ∃ B : World, (w.alloc (Obj.cells #[.string a0_0, .string a0_1, .slice A0_2 l0_2.length c0_2, .slice A0_3 l0_3.length c0_3, .slice A0_4 l0_4.length c0_4] 26)).drewN m0 = B := ⟨_, rfl⟩
        have hbk : B.heap[w.heap.size]? = some (.cells #[.string a0_0, .string a0_1, .slice A0_2 l0_2.length c0_2, .slice A0_3 l0_3.length c0_3, .slice A0_4 l0_4.length c0_4] 26 (0, 0)) := by rw [← hB]; exact blk_drewN (blk_new _ _) _
        have hbb : Below w.heap.size w B := by rw [← hB]; exact pw_below_drewN (below_alloc (Below.refl _ _) _) _
        have HBK := Aside0.mk hbk
        have HBB := Aside0.mk hbb
        rw [hB] at f3 ⊢
        clear hB hbk hbb
        go_wp2_with (first | ((with_reducible refine gate_dst (N := 46) rfl ?_); refine Kd.R_make Kd.bool _ 4 rfl (N := 46) rfl 87 _ _ rfl (l0_3.length : Int) rfl rfl Tryd.underlying87 (.bool false) 1 imgBoolInfo rfl (by decide) (by omega) false (ok := fun _ => True) (okp := fun _ => True) rfl (fun _ hk => hk) trivial (by omega) (by rw [Int.toNat_natCast]; omega) HBB.out HBB.out.size ?_; intro v46 w4 ho hb hg_ hnew_; rw [Int.toNat_natCast] at ho; obtain ⟨At, ct, he_⟩ := Kd.R_slice ho; rw [List.length_replicate] at he_; subst he_; have HO := Aside0.mk ho; have HB4 := Aside0.mk hb; have HG4 := Aside0.mk hg_; have HNW := Aside0.mk hnew_; clear ho hb hg_ hnew_))
        go_meet
        case rel => exact ⟨w4.heap.size, At, ct, rfl, ⟨ImSt.made HBK.out HG4.out HO.out HB4.out HNW.out (Nat.le_refl _)⟩⟩
      case rest =>
        obtain ⟨gt, At, ct, rfl, HI⟩ := hcut
        have eg : ∀ args w, (callFunc 57 args).run Tryd.prog w = .ok (.enter 57 args) w := enters_of Tryd.func57 (by kernel_rfl) rfl
        have eg2 : ∀ args w, (callFunc 59 args).run Tryd.prog w = .ok (.enter 59 args) w := enters_of Tryd.func59 (by kernel_rfl) rfl
        have fm : ∀ W : World, Aside0 (ImSt w W w.heap.size gt #[.string a0_0, .string a0_1, .slice A0_2 l0_2.length c0_2, .slice A0_3 l0_3.length c0_3, .slice A0_4 l0_4.length c0_4] At ct l0_3.length (toldL l0_3.length [])) → W.cell? ⟨w.heap.size, 2, none⟩ = some (.slice A0_2 l0_2.length c0_2) := fun W h => (blk_cell h.out.1 2).trans rfl
        have f2 := fm _ HI
        clear fm
        go_wp2_with (fail)
        go_at_call 57
        refine (imgTable_calls w _ w.heap.size gt _ _ _ _ l0_2.length c0_2 A0_2 A0_3 c0_3 l0_3.length At ct A0_2 c0_2 l0_2 [] rfl HN.out HR2.out HI.out).mono ?_
        rintro e w5 ⟨rfl, hgo, _, _, hbw⟩
        have HBW := Aside0.mk hbw
        have HGO := Aside0.mk hgo
        clear hgo hbw f2
        cases htb : tabB l0_3.length l0_2.length l0_2
        case false =>
          obtain rfl := hbad.out (imgB_tab htb)
          go_wp2
          go_ret
          exact ⟨rfl, HBW.out⟩
        have HI5 : Aside0 (ImSt w w5 w.heap.size gt #[.string a0_0, .string a0_1, .slice A0_2 l0_2.length c0_2, .slice A0_3 l0_3.length c0_3, .slice A0_4 l0_4.length c0_4] At ct l0_3.length (toldL l0_3.length (l0_2 ++ (l0_4.take 0).flatMap (fun x => x.f1)))) := ⟨by have := HGO.out htb; simpa using this⟩
        have HTB := Aside0.mk htb
        clear HGO HI htb
        have f4 : w5.cell? ⟨w.heap.size, 4, none⟩ = some (.slice A0_4 l0_4.length c0_4) := (blk_cell HI5.out.1 4).trans rfl
        go_wp2_with (fail)
        go_loopg [56] l0_4.length (fun gq v56 wr => ∃ j : Nat, v56 = .int .i64 j ∧ Aside0 (j ≤ l0_4.length) ∧ Aside0 (l0_4.length - j ≤ gq) ∧ Aside0 (ImSt w wr w.heap.size gt #[.string a0_0, .string a0_1, .slice A0_2 l0_2.length c0_2, .slice A0_3 l0_3.length c0_3, .slice A0_4 l0_4.length c0_4] At ct l0_3.length (toldL l0_3.length (l0_2 ++ (l0_4.take j).flatMap (fun x => x.f1)))) ∧ Aside0 (∀ i, i < j → snapB l0_3.length l0_2.length l0_4 i = true))
        case atStart => exact ⟨0, rfl, ⟨Nat.zero_le _⟩, ⟨by omega⟩, HI5, ⟨fun i hi => absurd hi (Nat.not_lt_zero _)⟩⟩
        case round =>
          clear f4
          obtain ⟨j, rfl, hj, hg, HS, HG⟩ := hrel
          by_cases hlt : j < l0_4.length
          · have hltz : (j : Int) < (l0_4.length : Int) := by omega
            obtain ⟨ad, A1, c1, e_, hx0, hx1, hxl, hxr⟩ := at_T47 HR4.out (j : Int) (by omega) hltz
            cases e_
            have HXL := Aside0.mk hxl
            have HXR := Aside0.mk hxr
            clear hxl hxr
            replace hx0 := pw_cell_below HS.out.2.2.2.2.2.2 hx0
            replace hx1 := pw_cell_below HS.out.2.2.2.2.2.2 hx1
            rw [Int.toNat_natCast] at hx0 hx1
            obtain ⟨y, hyy⟩ : ∃ y, rd_T47 l0_4 (j : Int) = y := ⟨_, rfl⟩
            rw [hyy] at hx0 hx1 HXL HXR
            have HY := Aside0.mk hyy
            clear hyy
            have hEll : ∀ ad2, At = some ad2 → 0 < l0_3.length → ad2.block ≠ wr.heap.size := fun ad2 hA hn => by
              obtain ⟨g, hA2, _, h2⟩ := HS.out.lt hn
              rw [hA] at hA2
              injection hA2 with hA2
              subst hA2
              exact Nat.ne_of_lt h2
            have HEL := Aside0.mk hEll
            clear hEll
            have HYS : Aside0 (y.f0.size ≤ 9223372036854775807) := ⟨by
              rw [← HY.out]
              unfold rd_T47
              rw [Int.toNat_natCast, List.getD_eq_getElem?_getD, List.getElem?_eq_getElem hlt]
              exact HS4.out _ (List.getElem_mem hlt)⟩
            go_upto_region 10 with (fail)
            go_wp2_with (fail)
            go_at_call 56
            with_reducible refine (nameB_calls y.f0 HYS.out _).mono ?_
            rintro e w' ⟨rfl, ⟨m1, rfl⟩⟩
            have hIB : ImSt w ((wr.alloc (Obj.cells #[.string y.f0, .slice A1 y.f1.length c1] 47)).drewN m1) w.heap.size gt #[Value.string a0_0, .string a0_1, .slice A0_2 l0_2.length c0_2, .slice A0_3 l0_3.length c0_3, Value.slice (some ad) l0_4.length c0_4] At ct l0_3.length (toldL l0_3.length (l0_2 ++ (l0_4.take j).flatMap (fun x => x.f1))) := HS.out.below (pw_below_drewN (below_alloc (Below.refl _ _) _) _)
            have HIB := Aside0.mk hIB
            clear hIB
            cases hb1 : nameB y.f0
            case false =>
              obtain rfl := hbad.out (imgB_snap j hlt (by unfold snapB; rw [HY.out, hb1]; rfl))
              go_wp2
              go_ret
              exact ⟨rfl, HIB.out.2.2.2.2.2.2⟩
            have HB1 := Aside0.mk hb1
            clear hb1
            go_wp2_with (fail)
            go_at_call 57
            refine (imgTable_calls w _ w.heap.size gt _ _ _ _ l0_2.length c0_2 A0_2 A0_3 c0_3 l0_3.length At ct A1 c1 y.f1 _ rfl HN.out HXR.out HIB.out).mono ?_
            rintro e w6 ⟨rfl, hgo, hkp, hsz6, hbw⟩
            have HBW6 := Aside0.mk hbw
            have HGO6 := Aside0.mk hgo
            have HE0 : Aside0 (w6.cell? ⟨wr.heap.size, 0, none⟩ = some (.string y.f0)) := ⟨(blk_cell ((hkp wr.heap.size (by simp) HEL.out).trans (blk_drewN (blk_new _ _) _)) 0).trans rfl⟩
            clear hgo hkp hsz6 hbw
            cases htb : tabB l0_3.length l0_2.length y.f1
            case false =>
              obtain rfl := hbad.out (imgB_snap j hlt (by unfold snapB; rw [HY.out, HB1.out, htb]; rfl))
              go_wp2
              go_ret
              exact ⟨rfl, HBW6.out⟩
            have HI6 := Aside0.mk (HGO6.out htb)
            have HTB6 := Aside0.mk htb
            clear HGO6 htb
            have f4 : w6.cell? ⟨w.heap.size, 4, none⟩ = some (.slice (some ad) l0_4.length c0_4) := (blk_cell HI6.out.1 4).trans rfl
            have htl : (l0_4.take j).length = j := by rw [List.length_take]; omega
            have hcon := imgName_contains (some ad) c0_4 (l0_4.take j) wr.heap.size y.f0 w6 HE0.out (Kd.C_take (Kd.C_below HR4.out HBW6.out) (by omega))
            rw [htl] at hcon
            obtain ⟨q, hq⟩ : ∃ q, ((l0_4.take j).any fun x => x.f0.toList == y.f0.toList) = q := ⟨_, rfl⟩
            rw [hq] at hcon
            have HQ := Aside0.mk hq
            have HCON := Aside0.mk hcon
            have HJC : j ≤ c0_4 := Nat.le_trans hj.out HC4.out
            have HJ2 : j ≤ l0_4.length := hj.out
            have HJ3 : (j : Int) ≤ (c0_4 : Int) := by omega
            have HJ4 : (0 : Int) ≤ (j : Int) := by omega
            clear hq htl hcon
            go_wp2_with (fail)
            go_at_call 58
            refine HCON.out.mono ?_
            rintro e w7 ⟨rfl, hb7⟩
            have HB7 := Aside0.mk hb7
            clear hb7
            cases q with
            | true =>
              obtain rfl := hbad.out (imgB_snap j hlt (by unfold snapB; rw [HY.out, HB1.out, HTB6.out, HQ.out]; rfl))
              go_wp2
              go_ret
              exact ⟨rfl, HBW6.out.trans (HB7.out.mono HBW6.out.size)⟩
            | false =>
              go_wp2
              go_roundg (l0_4.length - (j + 1))
              case measure => have := hg.out; omega
              case rel =>
                refine ⟨j + 1, by go_num, ⟨hlt⟩, ⟨by omega⟩, ⟨?_⟩, ⟨fun i hi => ?_⟩⟩
                · rw [flat_snoc l0_4 j hlt y HY.out, ← List.append_assoc]
                  exact HI6.out.below HB7.out
                · by_cases e : i = j
                  · subst e
                    unfold snapB
                    rw [HY.out, HB1.out, HTB6.out, HQ.out]; rfl
                  · exact HG.out i (by omega)
          · have hltz : ¬ (j : Int) < (l0_4.length : Int) := by omega
            have hjl : j = l0_4.length := by have := hj.out; omega
            subst hjl
            have HS9 : Aside0 (ImSt w wr w.heap.size gt #[.string a0_0, .string a0_1, .slice A0_2 l0_2.length c0_2, .slice A0_3 l0_3.length c0_3, .slice A0_4 l0_4.length c0_4] At ct l0_3.length (toldL l0_3.length (l0_2 ++ l0_4.flatMap (fun x => x.f1)))) := ⟨by have := HS.out; rwa [List.take_length] at this⟩
            have f3 : wr.cell? ⟨w.heap.size, 3, none⟩ = some (.slice A0_3 l0_3.length c0_3) := (blk_cell HS9.out.1 3).trans rfl
            clear HS hltz
            go_wp2_with (fail)
            go_loopg [84] l0_3.length (fun gq v84 w9 => ∃ i : Nat, v84 = .int .i64 i ∧ Aside0 (i ≤ l0_3.length) ∧ Aside0 (l0_3.length - i ≤ gq) ∧ Aside0 (ImSt w w9 w.heap.size gt #[.string a0_0, .string a0_1, .slice A0_2 l0_2.length c0_2, .slice A0_3 l0_3.length c0_3, .slice A0_4 l0_4.length c0_4] At ct l0_3.length (toldL l0_3.length (l0_2 ++ l0_4.flatMap (fun x => x.f1)))) ∧ Aside0 (∀ k, k < i → dataB l0_3 (l0_2 ++ l0_4.flatMap (fun x => x.f1)) k = true))
            case atStart => exact ⟨0, rfl, ⟨Nat.zero_le _⟩, ⟨by omega⟩, HS9, ⟨fun i hi => absurd hi (Nat.not_lt_zero _)⟩⟩
            case round =>
              clear f3
              obtain ⟨i, rfl, hi, hgi, HSI, HGI⟩ := hrel
              by_cases hlti : i < l0_3.length
              · have hltzi : (i : Int) < (l0_3.length : Int) := by omega
                obtain ⟨ad, e_, hx0⟩ := Kd.at_string HR3.out (i : Int) (by omega) hltzi
                cases e_
                replace hx0 := pw_cell_below HSI.out.2.2.2.2.2.2 hx0
                rw [Int.toNat_natCast] at hx0
                obtain ⟨x, hxx⟩ : ∃ x, rdOf ByteArray.empty l0_3 (i : Int) = x := ⟨_, rfl⟩
                rw [hxx] at hx0
                have HX := Aside0.mk hxx
                clear hxx
                by_cases h16 : (x.size : Int) = 16
                case neg =>
                  have h16a : ((x.size : Int) != 16) = true := bne_iff_ne.mpr h16
                  have h16b : ((x.size : Int) == 16) = false := beq_eq_false_iff_ne.mpr h16
                  have h16c : ¬ x.size = 16 := by omega
                  obtain rfl := hbad.out (imgB_data i hlti (by unfold dataB; rw [HX.out, h16b]; rfl))
                  go_wp2
                  go_ret
                  exact ⟨rfl, HSI.out.2.2.2.2.2.2⟩
                have h16a : ((x.size : Int) != 16) = false := by rw [h16]; rfl
                have h16b : ((x.size : Int) == 16) = true := beq_iff_eq.mpr h16
                have h16c : x.size = 16 := by omega
                have H16 := Aside0.mk h16b
                obtain ⟨go, hA, hgo, _⟩ := HSI.out.lt (by omega)
                subst hA
                have hft : wr.cell? ⟨gt, 0, none⟩ = some (.slice (some ⟨go, 0, none⟩) l0_3.length ct) := (blk_cell HSI.out.2.1 0).trans rfl
                obtain ⟨hc, hf⟩ := Kd.R_celln false HSI.out.2.2.1 (i : Int) (by omega) hltzi
                rw [toldL_rd _ _ _ hlti, Int.toNat_natCast] at hc
                rw [Int.toNat_natCast] at hf
                obtain ⟨q, hq⟩ : ∃ q, decide ((i : Int) ∈ l0_2 ++ l0_4.flatMap (fun x => x.f1)) = q := ⟨_, rfl⟩
                rw [hq] at hc
                have HQ := Aside0.mk hq
                clear hq hgo
                cases q with
                | false =>
                  obtain rfl := hbad.out (imgB_data i hlti (by unfold dataB; rw [HX.out, H16.out, HQ.out]; rfl))
                  go_wp2
                  go_ret
                  exact ⟨rfl, HSI.out.2.2.2.2.2.2⟩
                | true =>
                  go_wp2
                  go_roundg (l0_3.length - (i + 1))
                  case measure => have := hgi.out; omega
                  case rel =>
                    refine ⟨i + 1, by go_num, ⟨hlti⟩, ⟨by omega⟩, HSI, ⟨fun k hk => ?_⟩⟩
                    by_cases e : k = i
                    · subst e
                      unfold dataB
                      rw [HX.out, H16.out, HQ.out]; rfl
                    · exact HGI.out k (by omega)
              · have hltzi : ¬ (i : Int) < (l0_3.length : Int) := by omega
                have hil : i = l0_3.length := by have := hi.out; omega
                subst hil
                obtain rfl := hgood.out (imgB_all hhead.out HTB.out HG.out HGI.out)
                go_wp2
                go_ret
                exact ⟨rfl, HSI.out.2.2.2.2.2.2⟩

end Go.Proofs.YtoifdnnjdohfmaaDoor.QFnExactUnpackImage
