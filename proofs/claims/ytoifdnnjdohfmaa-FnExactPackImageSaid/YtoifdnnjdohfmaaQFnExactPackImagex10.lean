-- Written for this claim by this session's own driver (wip/xprint.py).
import Derived.Test.YtoifdnnjdohfmaaQFnExactPackImagex0
import Derived.Test.YtoifdnnjdohfmaaQFnExactPackImagex1
import Derived.Test.YtoifdnnjdohfmaaQFnExactPackImagex2
import Derived.Test.YtoifdnnjdohfmaaQFnExactPackImagex3
import Derived.Test.YtoifdnnjdohfmaaQFnExactPackImagex7
import Derived.Test.YtoifdnnjdohfmaaQFnExactPackImagex9
namespace Go.Proofs.Ytoifdnnjdohfmaa.QFnExactPackImage
open Go.RowKit Go.Proofs.YtoifdnnjdohfmaaW.PrintWords Go.Proofs.YtoifdnnjdohfmaaW.PrintLast Go.Proofs.YtoifdnnjdohfmaaW.PrintMore
attribute [local go_sem] max2_int min2_int max_two min_two max_three min_three max_four min_four   -- for this text's walks alone
set_option linter.unusedVariables false
set_option linter.unusedSimpArgs false

/-! ### impl_PackImage: function 11 -/
def pkW (n : Int) : ByteArray := (impl_PutWord.f n).getD ⟨#[]⟩
theorem pkW_eq (n : Int) : impl_PutWord.f n = some (pkW n) := rfl
theorem pkW_size (n : Int) : (pkW n).size = 4 := by
  unfold pkW impl_PutWord.f
  rw [Option.getD_some, strOfNums_size]
  rfl
theorem pkW_len (n : Int) : (pkW n).data.toList.length = 4 := by rw [Array.length_toList]; exact pkW_size n
theorem pkS_len (s : ByteArray) : s.data.toList.length = s.size := by rw [Array.length_toList]; rfl
def pkN (s : ByteArray) : ByteArray := strOfNums [(s.size : Int) % 256] ++ s
def pkName (s : ByteArray) : List UInt8 := (pkN s).data.toList
theorem pkN_size (s : ByteArray) : (pkN s).size = 1 + s.size := by unfold pkN; rw [ByteArray.size_append, strOfNums_size]; rfl
def pkTab (t : List Int) : List UInt8 := t.flatMap fun e => (pkW (wrap64 (e + 2))).data.toList
def pkDat (l : List ByteArray) : List UInt8 := l.flatMap fun s => s.data.toList
def pkSnap (x : S42) : List UInt8 := pkName x.f0 ++ pkTab x.f1
def pkHead (l2 : List Int) (l3 : List ByteArray) (l4 : List S42) : List UInt8 := ((((⟨#[73, 77, 71, 49]⟩ : ByteArray) ++ pkW (l2.length : Int)) ++ pkW (l3.length : Int)) ++ pkW (l4.length : Int)).data.toList
def pkText (a0 a1 : ByteArray) (l2 : List Int) (l3 : List ByteArray) (l4 : List S42) : List UInt8 := ((((pkHead l2 l3 l4 ++ pkName a0) ++ pkName a1) ++ pkTab l2) ++ pkDat l3) ++ l4.flatMap pkSnap
theorem flat_take {α : Type} (g : α → List UInt8) (l : List α) (j : Nat) (h : j < l.length) : (l.take (j + 1)).flatMap g = (l.take j).flatMap g ++ g l[j] := by
  rw [List.take_succ_eq_append_getElem h, List.flatMap_append]
  simp
theorem flat_le {α : Type} (g : α → List UInt8) (l : List α) (j : Nat) : ((l.take j).flatMap g).length ≤ (l.flatMap g).length := by
  have : (l.flatMap g) = (l.take j).flatMap g ++ (l.drop j).flatMap g := by rw [← List.flatMap_append, List.take_append_drop]
  rw [this, List.length_append]; omega
/-- The state behind PackImage: the image's box, and the builder with what it holds. -/
def PkSt (w W : World) (gm gb : Nat) (mc : Array Value) (l : List UInt8) : Prop :=
  W.heap[gm]? = some (.cells mc 31 (0, 0)) ∧ Lib.IsBuilderF 62 5 w.heap.size gb (Lib.byteCells l) W ∧ Below w.heap.size w W ∧ gm ≠ gb
theorem PkSt.below {w W W' : World} {gm gb : Nat} {mc : Array Value} {l : List UInt8} (h : PkSt w W gm gb mc l) (hb : Below W.heap.size W W') : PkSt w W' gm gb mc l := by
  obtain ⟨h1, h2, h3, h4⟩ := h
  have key : ∀ p, Lib.BuilderAtF 62 5 w.heap.size gb p (Lib.byteCells l) W → Lib.BuilderAtF 62 5 w.heap.size gb p (Lib.byteCells l) W' := fun p h => by
    obtain ⟨hB, v, hbk, hown, hne⟩ := h
    refine ⟨hB, v, blk_below hbk hb, ⟨hown.1, ?_⟩, hne⟩
    rcases hown.2 with h0 | ⟨g, cap, cur, fz, hv, hg, hh, r⟩
    · exact Or.inl h0
    · exact Or.inr ⟨g, cap, cur, fz, hv, hg, blk_below hh hb, r⟩
  exact ⟨blk_below h1 hb, h2.imp (key _) (key _), h3.trans (hb.mono h3.size), h4⟩
theorem pk_write {w W : World} {gm gb : Nat} {mc : Array Value} (l : List UInt8) (s : ByteArray) (h : PkSt w W gm gb mc l) (hl : l.length + s.size ≤ 1000000) :
    Calls Try.prog 33 #[.pointer (some ⟨gb, 0, none⟩), .string s] W fun e w' => e = .returned (.tuple #[.int .i64 s.size, .nilIface]) ∧ Aside0 (PkSt w w' gm gb mc (l ++ s.data.toList)) ∧ Aside0 (Lib.OthersKept 5 (some gb) W w') := by
  obtain ⟨h1, h2, h3, h4⟩ := h
  refine (Any.Builder_WriteString_k Try.lays166 Try.Builder_Extra_166 w.heap.size gb (Lib.byteCells l) s W h2 (by rw [Lib.byteCells_length]; omega) h3.size).mono ?_
  rintro e w' ⟨he, hA, hb, hk⟩
  have hc : Lib.byteCells (l ++ s.data.toList) = Lib.byteCells l ++ Lib.strCells s := by simp [Lib.byteCells, Lib.strCells]
  exact ⟨he, ⟨hk gm _ h1 (by intro e_; exact h4 (Option.some.inj e_)) (by intro c fz e_; injection e_ with _ e2 _; exact absurd e2 (by decide)), Or.inr (by rw [hc]; exact hA), h3.trans hb, h4⟩, ⟨hk⟩⟩
theorem pk_string {w W : World} {gm gb : Nat} {mc : Array Value} (l : List UInt8) (h : PkSt w W gm gb mc l) :
    Calls Try.prog 37 #[.pointer (some ⟨gb, 0, none⟩)] W fun e w' => e = .returned (.string ⟨l.toArray⟩) ∧ PkSt w w' gm gb mc l := by
  obtain ⟨h1, h2, h3, h4⟩ := h
  refine (Any.Builder_String_any_k Try.lays169 Try.Builder_Extra_169 w.heap.size gb l W h2 h3.size).mono ?_
  rintro e w' ⟨he, hA, hb, hk⟩
  exact ⟨he, hk gm _ h1 (by intro e_; exact h4 (Option.some.inj e_)) (by intro c fz e_; injection e_ with _ e2 _; exact absurd e2 (by decide)), hA, h3.trans hb, h4⟩
set_option maxHeartbeats 4000000 in
theorem pkName_calls (w W : World) (gm gb : Nat) (mc : Array Value) (l : List UInt8) (s : ByteArray) (h : PkSt w W gm gb mc l) (hl : l.length + (pkName s).length ≤ 1000000) :
    Calls Try.prog 35 #[.string s, .pointer (some ⟨gb, 0, none⟩)] W fun e w' => e = .returned (.tuple #[]) ∧ PkSt w w' gm gb mc (l ++ pkName s) ∧ Lib.OthersKept 5 (some gb) W w' := by
  have HS := Aside0.mk h
  have HL := Aside0.mk hl
  have hsz : 1 + s.size ≤ 1000000 := by have := hl; unfold pkName at this; rw [pkS_len, pkN_size] at this; omega
  have hsz1 : (strOfNums [(s.size : Int) % 256]).size = 1 := by rw [strOfNums_size]; rfl
  clear h hl
  obtain ⟨y, hy⟩ : ∃ y : List Int, y = [(s.size : Int) % 256] := ⟨_, rfl⟩
  rw [← hy] at hsz1
  have HY := Aside0.mk hy
  clear hy
  go_enter Try.func35, Try.ntmps35
  go_wp2_with (first | ((with_reducible refine gate_dst (N := 6) rfl ?_); refine Kd.R_lit (Kd.int .u8) _ 5 ?hg (N := 6) ?hd (xs := ([(s.size : Int) % 256] : List Int)) (inner := [.int .u8 ((s.size : Int) % 256)]) (ok := fun _ => True) (okp := fun _ => True) ?hr ?hp (fun _ hk => hk) trivial (Below.refl _ _) (Nat.le_refl _) (by simp) ?_; (case hd => rfl); (case hg => rfl); (case hr => first | (go_simp; done) | (go_simp; rfl)); (case hp => exact (Reps.one (show Kd.M (Kd.int .u8) _ _ _ ((s.size : Int) % 256) [.int .u8 ((s.size : Int) % 256)] from rfl) (Reps.none _ _))); intro v6 w3 ho hb hg_ hnew_; clear hg_ hnew_; rw [← HY.out] at ho; have HB3 := Aside0.mk hb; have hcv5 := own_string (P := Try.prog) Try.underlying60 Try.underlying5 Try.underlying9 (Kd.own_of_R ho); clear hb ho))
  go_at_call 33
  refine (pk_write l (strOfNums y ++ s) (HS.out.below HB3.out) (by have := HL.out; unfold pkName pkN at this; rw [pkS_len] at this; rw [HY.out]; exact this)).mono ?_
  rintro e w' ⟨rfl, P_, K_⟩
  go_wp2
  ((try simp only [Exit.inBlock, Exit.then]); refine bodyPost_end (results_none rfl _ _ _) rfl ?_)
  refine ⟨rfl, ?_, ((Lib.OthersKept.refl _ _ _).below HB3.out).trans K_.out⟩
  have := P_.out
  rw [HY.out] at this
  exact this
set_option maxHeartbeats 4000000 in
theorem pkTab_calls (w W : World) (gm gb : Nat) (mc : Array Value) (l : List UInt8) (A : Option Addr) (c : Nat) (t : List Int) (hr : Kd.C (Kd.int .i64) w A t.length t) (h : PkSt w W gm gb mc l) (hl : l.length + (pkTab t).length ≤ 1000000) :
    Calls Try.prog 36 #[.slice A t.length c, .pointer (some ⟨gb, 0, none⟩)] W fun e w' => e = .returned (.tuple #[]) ∧ PkSt w w' gm gb mc (l ++ pkTab t) ∧ Lib.OthersKept 5 (some gb) W w' := by
  have HR := Aside0.mk hr
  have HL := Aside0.mk hl
  have HS := Aside0.mk h
  have hbig := hr.2.1
  clear hr h hl
  go_enter Try.func36, Try.ntmps36
  go_wp2
  go_loopg [7] t.length (fun gq v7 wr => ∃ j : Nat, v7 = .int .i64 j ∧ Aside0 (j ≤ t.length) ∧ Aside0 (t.length - j ≤ gq) ∧ Aside0 (PkSt w wr gm gb mc (l ++ pkTab (t.take j))) ∧ Aside0 (Lib.OthersKept 5 (some gb) W wr))
  case atStart => exact ⟨0, rfl, ⟨Nat.zero_le _⟩, ⟨by omega⟩, ⟨by rw [List.take_zero]; unfold pkTab; rw [List.flatMap_nil, List.append_nil]; exact HS.out⟩, ⟨Lib.OthersKept.refl _ _ _⟩⟩
  case round =>
    obtain ⟨j, rfl, hj, hg, HP, HK⟩ := hrel
    by_cases hlt : j < t.length
    · have hltz : (j : Int) < (t.length : Int) := by omega
      obtain ⟨ad, e_, hx⟩ := Kd.at_int HR.out (j : Int) (by omega) hltz
      cases e_
      replace hx := pw_cell_below HP.out.2.2.1 hx
      rw [Int.toNat_natCast] at hx
      obtain ⟨x, hxx⟩ : ∃ x, rd t (j : Int) = x := ⟨_, rfl⟩
      rw [hxx] at hx
      have hxg : t[j] = x := by rw [← hxx]; unfold rd; rw [Int.toNat_natCast, List.getD_eq_getElem?_getD, List.getElem?_eq_getElem hlt, Option.getD_some]
      have hft : pkTab (t.take (j + 1)) = pkTab (t.take j) ++ (pkW (wrap64 (x + 2))).data.toList := by unfold pkTab; rw [flat_take _ _ _ hlt, hxg]
      have hfl : (pkTab (t.take (j + 1))).length ≤ (pkTab t).length := flat_le _ _ _
      have HFT := Aside0.mk hft
      have hle : (l ++ pkTab (t.take j)).length + (pkW (wrap64 (x + 2))).size ≤ 1000000 := by
        have := HL.out
        rw [hft, List.length_append, pkS_len] at hfl
        rw [List.length_append]; omega
      have HLE := Aside0.mk hle
      clear hxx hxg hft hfl hle
      go_wp2_with (fail)
      go_at_call 34
      refine (impl_PutWord.calls _ (pkW (wrap64 (x + 2))) _ (pkW_eq _)).mono ?_
      rintro e w3 ⟨rfl, hb3⟩
      have HB3 := Aside0.mk hb3
      clear hb3
      go_wp2_with (fail)
      go_at_call 33
      refine (pk_write _ (pkW (wrap64 (x + 2))) (HP.out.below HB3.out) HLE.out).mono ?_
      rintro e w' ⟨rfl, P_, K_⟩
      go_wp2
      go_roundg (t.length - (j + 1))
      case measure => have := hg.out; omega
      case rel => exact ⟨j + 1, by go_num, ⟨hlt⟩, ⟨by omega⟩, ⟨by rw [HFT.out, ← List.append_assoc]; exact P_.out⟩, ⟨(HK.out.below HB3.out).trans K_.out⟩⟩
    · have hltz : ¬ (j : Int) < (t.length : Int) := by omega
      have hjl : j = t.length := by have := hj.out; omega
      subst hjl
      go_wp2
      ((try simp only [Exit.inBlock, Exit.then]); refine bodyPost_end (results_none rfl _ _ _) rfl ?_)
      exact ⟨rfl, by have := HP.out; rwa [List.take_length] at this, HK.out⟩
def impl_PackImage.f (k : Nat) (a0_0 : ByteArray) (a0_1 : ByteArray) (l0_2 : List Int) (l0_3 : List ByteArray) (l0_4 : List (S42)) : Option (ByteArray) := if imgSized a0_0 a0_1 l0_4 = true then (if imgB a0_0 a0_1 l0_2 l0_3 l0_4 = true then (if (pkText a0_0 a0_1 l0_2 l0_3 l0_4).length ≤ 1000000 then (impl_ymix.f k ⟨(pkText a0_0 a0_1 l0_2 l0_3 l0_4).toArray⟩ 7).bind fun m => some ((⟨(pkText a0_0 a0_1 l0_2 l0_3 l0_4).toArray⟩ : ByteArray) ++ pkW m) else none) else some (⟨#[]⟩ : ByteArray)) else none
theorem impl_PackImage.mono : ∀ a0 a1 a2 a3 a4 k, LeO (impl_PackImage.f k a0 a1 a2 a3 a4) (impl_PackImage.f (k + 1) a0 a1 a2 a3 a4) := by
  intro a0 a1 a2 a3 a4 k r h
  unfold impl_PackImage.f at h ⊢
  split at h
  · rename_i h1
    rw [if_pos h1]
    split at h
    · rename_i h2
      rw [if_pos h2]
      split at h
      · rename_i h3
        rw [if_pos h3]
        obtain ⟨m, hm, hr⟩ := Option.bind_eq_some_iff.mp h
        exact Option.bind_eq_some_iff.mpr ⟨m, impl_ymix.mono _ _ k m hm, hr⟩
      · exact absurd h (by simp)
    · rename_i h2
      rw [if_neg h2]; exact h
  · exact absurd h (by simp)
def impl_PackImage.T4 : Bool × List (List Nat × List Nat) := (true, [([], []), ([0], [0]), ([1], [1]), ([2], [2]), ([3], [3]), ([], []), ([5], [5]), ([6], [6]), ([7, 3], [7]), ([4, 8], [4, 8]), ([], []), ([10], [10]), ([11], [11]), ([12, 8], [12]), ([9, 13], [9, 13]), ([14, 13], [14])])
def impl_PackImage.B4 : List Nat := [0, 1, 3, 7, 15, 0, 32, 96, 239, 511, 0, 1024, 3072, 7663, 16383, 32767]
theorem impl_PackImage.tab4 : rtab .any (opsOf Try.f11 4) = impl_PackImage.T4 := by kernel_rfl
theorem impl_PackImage.bits4 : waitsOk impl_PackImage.T4.2 impl_PackImage.B4 = true := by kernel_rfl
set_option maxHeartbeats 16000000 in
set_option maxRecDepth 100000 in
theorem impl_PackImage.calls (k : Nat) (a0_0 : ByteArray) (a0_1 : ByteArray) (A0_2 : Option Addr) (c0_2 : Nat) (l0_2 : List Int) (A0_3 : Option Addr) (c0_3 : Nat) (l0_3 : List ByteArray) (A0_4 : Option Addr) (c0_4 : Nat) (l0_4 : List (S42)) (r : ByteArray) (w : World) (hr0_2 : Kd.C (Kd.int .i64) w A0_2 l0_2.length l0_2) (hc0_2 : l0_2.length ≤ c0_2) (hr0_3 : Kd.C Kd.string w A0_3 l0_3.length l0_3) (hc0_3 : l0_3.length ≤ c0_3) (hr0_4 : Kd.C k42 w A0_4 l0_4.length l0_4) (hc0_4 : l0_4.length ≤ c0_4) (h : impl_PackImage.f k a0_0 a0_1 l0_2 l0_3 l0_4 = some r) :
    Calls Try.prog 11 #[.agg #[.string a0_0, .string a0_1, .slice A0_2 l0_2.length c0_2, .slice A0_3 l0_3.length c0_3, .slice A0_4 l0_4.length c0_4]] w fun e w' => e = .returned (.string r) ∧ Below w.heap.size w w' := by
  unfold impl_PackImage.f at h
  by_cases hsz : imgSized a0_0 a0_1 l0_4 = true
  case neg => rw [if_neg hsz] at h; exact absurd h (by simp)
  rw [if_pos hsz] at h
  have HR2 := Aside0.mk hr0_2
  have HR3 := Aside0.mk hr0_3
  have HR4 := Aside0.mk hr0_4
  have hl2 := hr0_2.2.1
  have hl3 := hr0_3.2.1
  have hl4 := hr0_4.2.1
  obtain ⟨B, hB⟩ : ∃ B : World, w.alloc (Obj.cells #[.string a0_0, .string a0_1, .slice A0_2 l0_2.length c0_2, .slice A0_3 l0_3.length c0_3, .slice A0_4 l0_4.length c0_4] 31) = B := ⟨_, rfl⟩
  have hbk : B.heap[w.heap.size]? = some (.cells #[.string a0_0, .string a0_1, .slice A0_2 l0_2.length c0_2, .slice A0_3 l0_3.length c0_3, .slice A0_4 l0_4.length c0_4] 31 (0, 0)) := by rw [← hB]; exact blk_new _ _
  have hbb : Below w.heap.size w B := by rw [← hB]; exact below_alloc (Below.refl _ _) _
  have hcall := impl_ImageFault.calls a0_0 a0_1 A0_2 c0_2 l0_2 A0_3 c0_3 l0_3 A0_4 c0_4 l0_4 (if imgB a0_0 a0_1 l0_2 l0_3 l0_4 = true then 0 else 1) B (Kd.C_below hr0_2 hbb) hc0_2 (Kd.C_below hr0_3 hbb) hc0_3 (Kd.C_below hr0_4 hbb) hc0_4 (by unfold impl_ImageFault.f; rw [if_pos hsz])
  have HCALL := Aside0.mk hcall
  have HBK := Aside0.mk hbk
  have HBB := Aside0.mk hbb
  have HBE := Aside0.mk hB
  have H := Aside0.mk h
  clear hcall hbk hbb hB h hr0_2 hr0_3 hr0_4 hc0_2 hc0_3 hc0_4 hsz
  go_enter Try.func11, Try.ntmps11
  go_wp2_with (fail)
  go_at_call 8
  rw [HBE.out]
  refine HCALL.out.mono ?_
  rintro e w2 ⟨rfl, hb2⟩
  have HW2 := Aside0.mk (HBB.out.trans (hb2.mono HBB.out.size))
  have HBK2 := Aside0.mk (blk_below HBK.out hb2)
  clear hb2
  cases hi : imgB a0_0 a0_1 l0_2 l0_3 l0_4
  case false =>
    have h := H.out
    rw [hi, if_neg (by decide)] at h
    obtain rfl := Option.some.inj h
    clear h
    go_wp2
    go_ret
    exact ⟨rfl, HW2.out⟩
  have h := H.out
  rw [hi, if_pos rfl] at h
  by_cases hlen : (pkText a0_0 a0_1 l0_2 l0_3 l0_4).length ≤ 1000000
  case neg => rw [if_neg hlen] at h; exact absurd h (by simp)
  rw [if_pos hlen] at h
  obtain ⟨m, hm, hr⟩ := Option.bind_eq_some_iff.mp h
  obtain rfl := Option.some.inj hr
  have HM := Aside0.mk hm
  have HLEN := Aside0.mk hlen
  clear h hm hr hlen H hi
  go_upto_region 4 with (fail)
  have hst0 : PkSt w (w2.alloc (Obj.cells #[.pointer none, .slice none 0 0] 62)) w.heap.size w2.heap.size #[.string a0_0, .string a0_1, .slice A0_2 l0_2.length c0_2, .slice A0_3 l0_3.length c0_3, .slice A0_4 l0_4.length c0_4] [] := by
    refine ⟨blk_alloc HBK2.out _, Lib.IsBuilderF.of (Or.inl ⟨HW2.out.size, .slice none 0 0, blk_new _ _, World.ownsRow_nil _ _ _ _, by simp [Value.ownBlock]⟩), below_alloc HW2.out _, ?_⟩
    have := blk_lt HBK2.out
    omega
  have HS := Aside0.mk hst0
  clear hst0
  generalize w2.alloc (Obj.cells #[.pointer none, .slice none 0 0] 62) = W1 at HS ⊢
  generalize w2.heap.size = gb at HS ⊢
  clear HBK2 HW2 HBK HBB HBE HCALL
  obtain ⟨t2, ht2⟩ : ∃ t, pkW (l0_2.length : Int) = t := ⟨_, rfl⟩
  obtain ⟨t3, ht3⟩ : ∃ t, pkW (l0_3.length : Int) = t := ⟨_, rfl⟩
  obtain ⟨t4, ht4⟩ : ∃ t, pkW (l0_4.length : Int) = t := ⟨_, rfl⟩
  have hz2 : t2.size = 4 := by rw [← ht2]; exact pkW_size _
  have hz3 : t3.size = 4 := by rw [← ht3]; exact pkW_size _
  have hz4 : t4.size = 4 := by rw [← ht4]; exact pkW_size _
  have hhead : pkHead l0_2 l0_3 l0_4 = ((((⟨#[73, 77, 71, 49]⟩ : ByteArray) ++ t2) ++ t3) ++ t4).data.toList := by unfold pkHead; rw [ht2, ht3, ht4]
  have HHEAD := Aside0.mk hhead
  have HSZ : Aside0 (((((⟨#[73, 77, 71, 49]⟩ : ByteArray) ++ t2) ++ t3) ++ t4).size = 16) := ⟨by rw [ByteArray.size_append, ByteArray.size_append, ByteArray.size_append, hz2, hz3, hz4]; rfl⟩
  have HP2 : Aside0 (∀ W : World, Calls Try.prog 34 #[.int .i64 (l0_2.length : Int)] W fun e w' => e = .returned (.string t2) ∧ Below W.heap.size W w') := ⟨fun W => impl_PutWord.calls _ t2 W (by rw [pkW_eq, ht2])⟩
  have HP3 : Aside0 (∀ W : World, Calls Try.prog 34 #[.int .i64 (l0_3.length : Int)] W fun e w' => e = .returned (.string t3) ∧ Below W.heap.size W w') := ⟨fun W => impl_PutWord.calls _ t3 W (by rw [pkW_eq, ht3])⟩
  have HP4 : Aside0 (∀ W : World, Calls Try.prog 34 #[.int .i64 (l0_4.length : Int)] W fun e w' => e = .returned (.string t4) ∧ Below W.heap.size W w') := ⟨fun W => impl_PutWord.calls _ t4 W (by rw [pkW_eq, ht4])⟩
  have HWS : Aside0 (∀ (W : World) (l : List UInt8) (s : ByteArray), PkSt w W w.heap.size gb #[.string a0_0, .string a0_1, .slice A0_2 l0_2.length c0_2, .slice A0_3 l0_3.length c0_3, .slice A0_4 l0_4.length c0_4] l → l.length + s.size ≤ 1000000 → Calls Try.prog 33 #[.pointer (some ⟨gb, 0, none⟩), .string s] W fun e w' => e = .returned (.tuple #[.int .i64 s.size, .nilIface]) ∧ Aside0 (PkSt w w' w.heap.size gb #[.string a0_0, .string a0_1, .slice A0_2 l0_2.length c0_2, .slice A0_3 l0_3.length c0_3, .slice A0_4 l0_4.length c0_4] (l ++ s.data.toList)) ∧ Aside0 (Lib.OthersKept 5 (some gb) W w')) := ⟨fun W l s h1 h2 => pk_write l s h1 h2⟩
  clear ht2 ht3 ht4 hhead
  go_cut [] (fun wc => Aside0 (PkSt w wc w.heap.size gb #[.string a0_0, .string a0_1, .slice A0_2 l0_2.length c0_2, .slice A0_3 l0_3.length c0_3, .slice A0_4 l0_4.length c0_4] ((((⟨#[73, 77, 71, 49]⟩ : ByteArray) ++ t2) ++ t3) ++ t4).data.toList))
  case first =>
    have HS0 : Aside0 (PkSt w W1.drew w.heap.size gb #[.string a0_0, .string a0_1, .slice A0_2 l0_2.length c0_2, .slice A0_3 l0_3.length c0_3, .slice A0_4 l0_4.length c0_4] []) := ⟨HS.out.below (below_drew (Below.refl _ _))⟩
    clear HS HLEN HM
    (try go_wp2)
    refine start_ (n := 16) (S := fun w' => True) (ds := []) #[false, false, false, false, false, false, false, false, false, false, false, false, false, false, false, false] (by kernel_rfl) rfl rfl trivial (fun hHeld => ?_)
    refine with_tabW impl_PackImage.tab4 impl_PackImage.bits4 (fun HT_ HW_ => ?_)
    refine inv_at [0, 1, 2, 3, 4, 5, 6, 7, 8, 9, 10, 11, 12, 13, 14, 15] (fun a0_ b a w' => a = putSel a0_ b [(0, 13, .pointer (some ⟨w.heap.size, 2, none⟩)), (1, 14, .slice A0_2 l0_2.length c0_2), (2, 15, .int .i64 (l0_2.length : Int)), (3, 16, .string t2), (4, 17, .string ((⟨#[73, 77, 71, 49]⟩ : ByteArray) ++ t2)), (5, 18, .pointer (some ⟨w.heap.size, 3, none⟩)), (6, 19, .slice A0_3 l0_3.length c0_3), (7, 20, .int .i64 (l0_3.length : Int)), (8, 21, .string t3), (9, 22, .string (((⟨#[73, 77, 71, 49]⟩ : ByteArray) ++ t2) ++ t3)), (10, 23, .pointer (some ⟨w.heap.size, 4, none⟩)), (11, 24, .slice A0_4 l0_4.length c0_4), (12, 25, .int .i64 (l0_4.length : Int)), (13, 26, .string t4), (14, 27, .string ((((⟨#[73, 77, 71, 49]⟩ : ByteArray) ++ t2) ++ t3) ++ t4)), (15, 28, .tuple #[.int .i64 (((((⟨#[73, 77, 71, 49]⟩ : ByteArray) ++ t2) ++ t3) ++ t4).size : Int), .nilIface])] ∧ (b 15 = false → PkSt w w' w.heap.size gb #[.string a0_0, .string a0_1, .slice A0_2 l0_2.length c0_2, .slice A0_3 l0_3.length c0_3, .slice A0_4 l0_4.length c0_4] []) ∧ (b 15 = true → PkSt w w' w.heap.size gb #[.string a0_0, .string a0_1, .slice A0_2 l0_2.length c0_2, .slice A0_3 l0_3.length c0_3, .slice A0_4 l0_4.length c0_4] ((((⟨#[73, 77, 71, 49]⟩ : ByteArray) ++ t2) ++ t3) ++ t4).data.toList)) HT_.out HW_.out (by kernel_rfl) (by kernel_rfl) ?_ ?_ ?_
    · exact ⟨by simp only [putSel, Bool.false_eq_true, if_false], fun _ => HS0.out, fun h_ => absurd h_ (by decide)⟩
    · skip
      clear HS0
      refine steps_cons ?_ ?_
      · rintro b a w' ⟨ha, Q_HS0, Q_HS1⟩ hb_ hon hoff
        refine ⟨_, rfl, fun K hK => ?_⟩
        have e1 : a.tmps[1]? = some (.pointer (some ⟨w.heap.size, 0, none⟩)) := by rw [ha]; exact (putSel_off rfl).trans rfl
        replace ha := Aside0.mk ha
        have HS0 := Aside0.mk (Q_HS0 (hoff 15 (by kernel_rfl)))
        refine value_ (w1 := w') (v := .pointer (some ⟨w.heap.size, 2, none⟩)) (by rfl) rfl ?_ ?_
        · go_simp
          (try simp only [i64_w])
          try rfl
        refine hK.out _ _ ⟨(by rw [ha.out]; exact putSel_upk 0 hb_ rfl rfl rfl), Q_HS0, fun h0_ => absurd ((hoff 15 (by kernel_rfl)).symm.trans h0_) (by decide)⟩
      refine steps_cons ?_ ?_
      · rintro b a w' ⟨ha, Q_HS0, Q_HS1⟩ hb_ hon hoff
        refine ⟨_, rfl, fun K hK => ?_⟩
        have e13 : a.tmps[13]? = some (.pointer (some ⟨w.heap.size, 2, none⟩)) := by rw [ha]; exact putSel_on (e := (0, 13, .pointer (some ⟨w.heap.size, 2, none⟩))) 0 rfl rfl (hon 0 (by kernel_rfl)) rfl
        replace ha := Aside0.mk ha
        have HS0 := Aside0.mk (Q_HS0 (hoff 15 (by kernel_rfl)))
        have hs_ : w'.cell? ⟨w.heap.size, 2, none⟩ = some (.slice A0_2 l0_2.length c0_2) := (blk_cell HS0.out.1 2).trans rfl
        refine value_ (w1 := w') (v := .slice A0_2 l0_2.length c0_2) (by rfl) rfl ?_ ?_
        · go_simp
          (try simp only [i64_w])
          try rfl
        refine hK.out _ _ ⟨(by rw [ha.out]; exact putSel_upk 1 hb_ rfl rfl rfl), Q_HS0, fun h0_ => absurd ((hoff 15 (by kernel_rfl)).symm.trans h0_) (by decide)⟩
      refine steps_cons ?_ ?_
      · rintro b a w' ⟨ha, Q_HS0, Q_HS1⟩ hb_ hon hoff
        refine ⟨_, rfl, fun K hK => ?_⟩
        have e14 : a.tmps[14]? = some (.slice A0_2 l0_2.length c0_2) := by rw [ha]; exact putSel_on (e := (1, 14, .slice A0_2 l0_2.length c0_2)) 1 rfl rfl (hon 1 (by kernel_rfl)) rfl
        replace ha := Aside0.mk ha
        have HS0 := Aside0.mk (Q_HS0 (hoff 15 (by kernel_rfl)))
        refine value_ (w1 := w') (v := .int .i64 (l0_2.length : Int)) (by rfl) rfl ?_ ?_
        · go_simp
          (try simp only [i64_w])
          try rfl
        refine hK.out _ _ ⟨(by rw [ha.out]; exact putSel_upk 2 hb_ rfl rfl rfl), Q_HS0, fun h0_ => absurd ((hoff 15 (by kernel_rfl)).symm.trans h0_) (by decide)⟩
      refine steps_cons ?_ ?_
      · rintro b a w' ⟨ha, Q_HS0, Q_HS1⟩ hb_ hon hoff
        refine ⟨_, rfl, fun K hK => ?_⟩
        have e15 : a.tmps[15]? = some (.int .i64 (l0_2.length : Int)) := by rw [ha]; exact putSel_on (e := (2, 15, .int .i64 (l0_2.length : Int))) 2 rfl rfl (hon 2 (by kernel_rfl)) rfl
        replace ha := Aside0.mk ha
        have HS0 := Aside0.mk (Q_HS0 (hoff 15 (by kernel_rfl)))
        refine goes_ (N := some 16) Try.func34 (by kernel_rfl) rfl #[.int .i64 (l0_2.length : Int)] (by rfl) rfl rfl (by first | (simp only [List.map_toArray, List.map_cons, List.map_nil, Act.eval, Array.getD_eq_getD_getElem?, Option.getD_some, e15]; done) | (simp only [List.map_toArray, List.map_cons, List.map_nil, Act.eval, Array.getD_eq_getD_getElem?, Option.getD_some, e15]; rfl)) ?_
        refine (HP2.out _).mono ?_
        rintro e w1 ⟨rfl, B_⟩
        refine ⟨_, rfl, ?_⟩
        refine hK.out _ _ ⟨(by rw [ha.out]; exact putSel_upk 3 hb_ rfl rfl rfl), fun _ => HS0.out.below B_, fun h0_ => absurd ((hoff 15 (by kernel_rfl)).symm.trans h0_) (by decide)⟩
      refine steps_cons ?_ ?_
      · rintro b a w' ⟨ha, Q_HS0, Q_HS1⟩ hb_ hon hoff
        refine ⟨_, rfl, fun K hK => ?_⟩
        have e16 : a.tmps[16]? = some (.string t2) := by rw [ha]; exact putSel_on (e := (3, 16, .string t2)) 3 rfl rfl (hon 3 (by kernel_rfl)) rfl
        replace ha := Aside0.mk ha
        have HS0 := Aside0.mk (Q_HS0 (hoff 15 (by kernel_rfl)))
        refine value_ (w1 := w') (v := .string ((⟨#[73, 77, 71, 49]⟩ : ByteArray) ++ t2)) (by rfl) rfl ?_ ?_
        · go_simp
          (try simp only [i64_w])
          try rfl
        refine hK.out _ _ ⟨(by rw [ha.out]; exact putSel_upk 4 hb_ rfl rfl rfl), Q_HS0, fun h0_ => absurd ((hoff 15 (by kernel_rfl)).symm.trans h0_) (by decide)⟩
      refine steps_cons ?_ ?_
      · rintro b a w' ⟨ha, Q_HS0, Q_HS1⟩ hb_ hon hoff
        refine ⟨_, rfl, fun K hK => ?_⟩
        have e1 : a.tmps[1]? = some (.pointer (some ⟨w.heap.size, 0, none⟩)) := by rw [ha]; exact (putSel_off rfl).trans rfl
        replace ha := Aside0.mk ha
        have HS0 := Aside0.mk (Q_HS0 (hoff 15 (by kernel_rfl)))
        refine value_ (w1 := w') (v := .pointer (some ⟨w.heap.size, 3, none⟩)) (by rfl) rfl ?_ ?_
        · go_simp
          (try simp only [i64_w])
          try rfl
        refine hK.out _ _ ⟨(by rw [ha.out]; exact putSel_upk 5 hb_ rfl rfl rfl), Q_HS0, fun h0_ => absurd ((hoff 15 (by kernel_rfl)).symm.trans h0_) (by decide)⟩
      refine steps_cons ?_ ?_
      · rintro b a w' ⟨ha, Q_HS0, Q_HS1⟩ hb_ hon hoff
        refine ⟨_, rfl, fun K hK => ?_⟩
        have e18 : a.tmps[18]? = some (.pointer (some ⟨w.heap.size, 3, none⟩)) := by rw [ha]; exact putSel_on (e := (5, 18, .pointer (some ⟨w.heap.size, 3, none⟩))) 5 rfl rfl (hon 5 (by kernel_rfl)) rfl
        replace ha := Aside0.mk ha
        have HS0 := Aside0.mk (Q_HS0 (hoff 15 (by kernel_rfl)))
        have hs_ : w'.cell? ⟨w.heap.size, 3, none⟩ = some (.slice A0_3 l0_3.length c0_3) := (blk_cell HS0.out.1 3).trans rfl
        refine value_ (w1 := w') (v := .slice A0_3 l0_3.length c0_3) (by rfl) rfl ?_ ?_
        · go_simp
          (try simp only [i64_w])
          try rfl
        refine hK.out _ _ ⟨(by rw [ha.out]; exact putSel_upk 6 hb_ rfl rfl rfl), Q_HS0, fun h0_ => absurd ((hoff 15 (by kernel_rfl)).symm.trans h0_) (by decide)⟩
      refine steps_cons ?_ ?_
      · rintro b a w' ⟨ha, Q_HS0, Q_HS1⟩ hb_ hon hoff
        refine ⟨_, rfl, fun K hK => ?_⟩
        have e19 : a.tmps[19]? = some (.slice A0_3 l0_3.length c0_3) := by rw [ha]; exact putSel_on (e := (6, 19, .slice A0_3 l0_3.length c0_3)) 6 rfl rfl (hon 6 (by kernel_rfl)) rfl
        replace ha := Aside0.mk ha
        have HS0 := Aside0.mk (Q_HS0 (hoff 15 (by kernel_rfl)))
        refine value_ (w1 := w') (v := .int .i64 (l0_3.length : Int)) (by rfl) rfl ?_ ?_
        · go_simp
          (try simp only [i64_w])
          try rfl
        refine hK.out _ _ ⟨(by rw [ha.out]; exact putSel_upk 7 hb_ rfl rfl rfl), Q_HS0, fun h0_ => absurd ((hoff 15 (by kernel_rfl)).symm.trans h0_) (by decide)⟩
      refine steps_cons ?_ ?_
      · rintro b a w' ⟨ha, Q_HS0, Q_HS1⟩ hb_ hon hoff
        refine ⟨_, rfl, fun K hK => ?_⟩
        have e20 : a.tmps[20]? = some (.int .i64 (l0_3.length : Int)) := by rw [ha]; exact putSel_on (e := (7, 20, .int .i64 (l0_3.length : Int))) 7 rfl rfl (hon 7 (by kernel_rfl)) rfl
        replace ha := Aside0.mk ha
        have HS0 := Aside0.mk (Q_HS0 (hoff 15 (by kernel_rfl)))
        refine goes_ (N := some 21) Try.func34 (by kernel_rfl) rfl #[.int .i64 (l0_3.length : Int)] (by rfl) rfl rfl (by first | (simp only [List.map_toArray, List.map_cons, List.map_nil, Act.eval, Array.getD_eq_getD_getElem?, Option.getD_some, e20]; done) | (simp only [List.map_toArray, List.map_cons, List.map_nil, Act.eval, Array.getD_eq_getD_getElem?, Option.getD_some, e20]; rfl)) ?_
        refine (HP3.out _).mono ?_
        rintro e w1 ⟨rfl, B_⟩
        refine ⟨_, rfl, ?_⟩
        refine hK.out _ _ ⟨(by rw [ha.out]; exact putSel_upk 8 hb_ rfl rfl rfl), fun _ => HS0.out.below B_, fun h0_ => absurd ((hoff 15 (by kernel_rfl)).symm.trans h0_) (by decide)⟩
      refine steps_cons ?_ ?_
      · rintro b a w' ⟨ha, Q_HS0, Q_HS1⟩ hb_ hon hoff
        refine ⟨_, rfl, fun K hK => ?_⟩
        have e17 : a.tmps[17]? = some (.string ((⟨#[73, 77, 71, 49]⟩ : ByteArray) ++ t2)) := by rw [ha]; exact putSel_on (e := (4, 17, .string ((⟨#[73, 77, 71, 49]⟩ : ByteArray) ++ t2))) 4 rfl rfl (hon 4 (by kernel_rfl)) rfl
        have e21 : a.tmps[21]? = some (.string t3) := by rw [ha]; exact putSel_on (e := (8, 21, .string t3)) 8 rfl rfl (hon 8 (by kernel_rfl)) rfl
        replace ha := Aside0.mk ha
        have HS0 := Aside0.mk (Q_HS0 (hoff 15 (by kernel_rfl)))
        refine value_ (w1 := w') (v := .string (((⟨#[73, 77, 71, 49]⟩ : ByteArray) ++ t2) ++ t3)) (by rfl) rfl ?_ ?_
        · go_simp
          (try simp only [i64_w])
          try rfl
        refine hK.out _ _ ⟨(by rw [ha.out]; exact putSel_upk 9 hb_ rfl rfl rfl), Q_HS0, fun h0_ => absurd ((hoff 15 (by kernel_rfl)).symm.trans h0_) (by decide)⟩
      refine steps_cons ?_ ?_
      · rintro b a w' ⟨ha, Q_HS0, Q_HS1⟩ hb_ hon hoff
        refine ⟨_, rfl, fun K hK => ?_⟩
        have e1 : a.tmps[1]? = some (.pointer (some ⟨w.heap.size, 0, none⟩)) := by rw [ha]; exact (putSel_off rfl).trans rfl
        replace ha := Aside0.mk ha
        have HS0 := Aside0.mk (Q_HS0 (hoff 15 (by kernel_rfl)))
        refine value_ (w1 := w') (v := .pointer (some ⟨w.heap.size, 4, none⟩)) (by rfl) rfl ?_ ?_
        · go_simp
          (try simp only [i64_w])
          try rfl
        refine hK.out _ _ ⟨(by rw [ha.out]; exact putSel_upk 10 hb_ rfl rfl rfl), Q_HS0, fun h0_ => absurd ((hoff 15 (by kernel_rfl)).symm.trans h0_) (by decide)⟩
      refine steps_cons ?_ ?_
      · rintro b a w' ⟨ha, Q_HS0, Q_HS1⟩ hb_ hon hoff
        refine ⟨_, rfl, fun K hK => ?_⟩
        have e23 : a.tmps[23]? = some (.pointer (some ⟨w.heap.size, 4, none⟩)) := by rw [ha]; exact putSel_on (e := (10, 23, .pointer (some ⟨w.heap.size, 4, none⟩))) 10 rfl rfl (hon 10 (by kernel_rfl)) rfl
        replace ha := Aside0.mk ha
        have HS0 := Aside0.mk (Q_HS0 (hoff 15 (by kernel_rfl)))
        have hs_ : w'.cell? ⟨w.heap.size, 4, none⟩ = some (.slice A0_4 l0_4.length c0_4) := (blk_cell HS0.out.1 4).trans rfl
        refine value_ (w1 := w') (v := .slice A0_4 l0_4.length c0_4) (by rfl) rfl ?_ ?_
        · go_simp
          (try simp only [i64_w])
          try rfl
        refine hK.out _ _ ⟨(by rw [ha.out]; exact putSel_upk 11 hb_ rfl rfl rfl), Q_HS0, fun h0_ => absurd ((hoff 15 (by kernel_rfl)).symm.trans h0_) (by decide)⟩
      refine steps_cons ?_ ?_
      · rintro b a w' ⟨ha, Q_HS0, Q_HS1⟩ hb_ hon hoff
        refine ⟨_, rfl, fun K hK => ?_⟩
        have e24 : a.tmps[24]? = some (.slice A0_4 l0_4.length c0_4) := by rw [ha]; exact putSel_on (e := (11, 24, .slice A0_4 l0_4.length c0_4)) 11 rfl rfl (hon 11 (by kernel_rfl)) rfl
        replace ha := Aside0.mk ha
        have HS0 := Aside0.mk (Q_HS0 (hoff 15 (by kernel_rfl)))
        refine value_ (w1 := w') (v := .int .i64 (l0_4.length : Int)) (by rfl) rfl ?_ ?_
        · go_simp
          (try simp only [i64_w])
          try rfl
        refine hK.out _ _ ⟨(by rw [ha.out]; exact putSel_upk 12 hb_ rfl rfl rfl), Q_HS0, fun h0_ => absurd ((hoff 15 (by kernel_rfl)).symm.trans h0_) (by decide)⟩
      refine steps_cons ?_ ?_
      · rintro b a w' ⟨ha, Q_HS0, Q_HS1⟩ hb_ hon hoff
        refine ⟨_, rfl, fun K hK => ?_⟩
        have e25 : a.tmps[25]? = some (.int .i64 (l0_4.length : Int)) := by rw [ha]; exact putSel_on (e := (12, 25, .int .i64 (l0_4.length : Int))) 12 rfl rfl (hon 12 (by kernel_rfl)) rfl
        replace ha := Aside0.mk ha
        have HS0 := Aside0.mk (Q_HS0 (hoff 15 (by kernel_rfl)))
        refine goes_ (N := some 26) Try.func34 (by kernel_rfl) rfl #[.int .i64 (l0_4.length : Int)] (by rfl) rfl rfl (by first | (simp only [List.map_toArray, List.map_cons, List.map_nil, Act.eval, Array.getD_eq_getD_getElem?, Option.getD_some, e25]; done) | (simp only [List.map_toArray, List.map_cons, List.map_nil, Act.eval, Array.getD_eq_getD_getElem?, Option.getD_some, e25]; rfl)) ?_
        refine (HP4.out _).mono ?_
        rintro e w1 ⟨rfl, B_⟩
        refine ⟨_, rfl, ?_⟩
        refine hK.out _ _ ⟨(by rw [ha.out]; exact putSel_upk 13 hb_ rfl rfl rfl), fun _ => HS0.out.below B_, fun h0_ => absurd ((hoff 15 (by kernel_rfl)).symm.trans h0_) (by decide)⟩
      refine steps_cons ?_ ?_
      · rintro b a w' ⟨ha, Q_HS0, Q_HS1⟩ hb_ hon hoff
        refine ⟨_, rfl, fun K hK => ?_⟩
        have e22 : a.tmps[22]? = some (.string (((⟨#[73, 77, 71, 49]⟩ : ByteArray) ++ t2) ++ t3)) := by rw [ha]; exact putSel_on (e := (9, 22, .string (((⟨#[73, 77, 71, 49]⟩ : ByteArray) ++ t2) ++ t3))) 9 rfl rfl (hon 9 (by kernel_rfl)) rfl
        have e26 : a.tmps[26]? = some (.string t4) := by rw [ha]; exact putSel_on (e := (13, 26, .string t4)) 13 rfl rfl (hon 13 (by kernel_rfl)) rfl
        replace ha := Aside0.mk ha
        have HS0 := Aside0.mk (Q_HS0 (hoff 15 (by kernel_rfl)))
        refine value_ (w1 := w') (v := .string ((((⟨#[73, 77, 71, 49]⟩ : ByteArray) ++ t2) ++ t3) ++ t4)) (by rfl) rfl ?_ ?_
        · go_simp
          (try simp only [i64_w])
          try rfl
        refine hK.out _ _ ⟨(by rw [ha.out]; exact putSel_upk 14 hb_ rfl rfl rfl), Q_HS0, fun h0_ => absurd ((hoff 15 (by kernel_rfl)).symm.trans h0_) (by decide)⟩
      refine steps_cons ?_ ?_
      · rintro b a w' ⟨ha, Q_HS0, Q_HS1⟩ hb_ hon hoff
        refine ⟨_, rfl, fun K hK => ?_⟩
        have e3 : a.tmps[3]? = some (.pointer (some ⟨gb, 0, none⟩)) := by rw [ha]; exact (putSel_off rfl).trans rfl
        have e27 : a.tmps[27]? = some (.string ((((⟨#[73, 77, 71, 49]⟩ : ByteArray) ++ t2) ++ t3) ++ t4)) := by rw [ha]; exact putSel_on (e := (14, 27, .string ((((⟨#[73, 77, 71, 49]⟩ : ByteArray) ++ t2) ++ t3) ++ t4))) 14 rfl rfl (hon 14 (by kernel_rfl)) rfl
        replace ha := Aside0.mk ha
        have HS0 := Aside0.mk (Q_HS0 hb_)
        refine goes_ (N := some 28) Try.func33 (by kernel_rfl) rfl #[.pointer (some ⟨gb, 0, none⟩), .string ((((⟨#[73, 77, 71, 49]⟩ : ByteArray) ++ t2) ++ t3) ++ t4)] (by rfl) rfl rfl (by first | (simp only [List.map_toArray, List.map_cons, List.map_nil, Act.eval, Array.getD_eq_getD_getElem?, Option.getD_some, e3, e27]; done) | (simp only [List.map_toArray, List.map_cons, List.map_nil, Act.eval, Array.getD_eq_getD_getElem?, Option.getD_some, e3, e27]; rfl)) ?_
        refine (HWS.out _ [] ((((⟨#[73, 77, 71, 49]⟩ : ByteArray) ++ t2) ++ t3) ++ t4) HS0.out (by rw [HSZ.out]; decide)).mono ?_
        rintro e w1 ⟨rfl, P_, K_⟩
        refine ⟨_, rfl, ?_⟩
        refine hK.out _ _ ⟨(by rw [ha.out]; exact putSel_upk 15 hb_ rfl rfl rfl), fun h0_ => absurd ((up_self b 15).symm.trans h0_) (by decide), fun _ => P_.out⟩
      exact steps_nil
    rintro b a w' hall ⟨ha, Q_HS0, Q_HS1⟩
    clear HS0
    have hb0_ := hall 0 (by kernel_rfl)
    have hb1_ := hall 1 (by kernel_rfl)
    have hb2_ := hall 2 (by kernel_rfl)
    have hb3_ := hall 3 (by kernel_rfl)
    have hb4_ := hall 4 (by kernel_rfl)
    have hb5_ := hall 5 (by kernel_rfl)
    have hb6_ := hall 6 (by kernel_rfl)
    have hb7_ := hall 7 (by kernel_rfl)
    have hb8_ := hall 8 (by kernel_rfl)
    have hb9_ := hall 9 (by kernel_rfl)
    have hb10_ := hall 10 (by kernel_rfl)
    have hb11_ := hall 11 (by kernel_rfl)
    have hb12_ := hall 12 (by kernel_rfl)
    have hb13_ := hall 13 (by kernel_rfl)
    have hb14_ := hall 14 (by kernel_rfl)
    have hb15_ := hall 15 (by kernel_rfl)
    subst ha
    simp only [putSel, hb0_, hb1_, hb2_, hb3_, hb4_, hb5_, hb6_, hb7_, hb8_, hb9_, hb10_, hb11_, hb12_, hb13_, hb14_, hb15_, if_true, Act.put, List.setIfInBounds_toArray, List.set_cons_zero, List.set_cons_succ]
    clear Q_HS0
    have HS1 := Aside0.mk (Q_HS1 hb15_)
    clear Q_HS1
    clear hall hb0_ hb1_ hb2_ hb3_ hb4_ hb5_ hb6_ hb7_ hb8_ hb9_ hb10_ hb11_ hb12_ hb13_ hb14_ hb15_
    (try go_wp2)
    go_meet
    case rel => exact HS1
  case rest =>
    rename_i hKK
    have HC := Aside0.mk hcut.out
    rw [← HHEAD.out] at HC
    clear hcut HS HP2 HP3 HP4 HSZ hz2 hz3 hz4 HHEAD
    have eg1 : ∀ args w, (callFunc 35 args).run Try.prog w = .ok (.enter 35 args) w := enters_of Try.func35 (by kernel_rfl) rfl
    have eg2 : ∀ args w, (callFunc 36 args).run Try.prog w = .ok (.enter 36 args) w := enters_of Try.func36 (by kernel_rfl) rfl
    have hL := HLEN.out
    unfold pkText at hL
    simp only [List.length_append] at hL
    have HL := Aside0.mk hL
    clear hL
    refine hKK _ _ ?_
    clear hKK
    have f0 : wc.cell? ⟨w.heap.size, 0, none⟩ = some (.string a0_0) := (blk_cell HC.out.1 0).trans rfl
    go_wp2_with (fail)
    go_at_call 35
    refine (pkName_calls w _ w.heap.size gb _ _ a0_0 HC.out (by have := HL.out; omega)).mono ?_
    rintro e w3 ⟨rfl, h3, _⟩
    have HC3 := Aside0.mk h3
    clear h3 f0 HC
    have f1 : w3.cell? ⟨w.heap.size, 1, none⟩ = some (.string a0_1) := (blk_cell HC3.out.1 1).trans rfl
    go_wp2_with (fail)
    go_at_call 35
    refine (pkName_calls w _ w.heap.size gb _ _ a0_1 HC3.out (by have := HL.out; rw [List.length_append]; omega)).mono ?_
    rintro e w4 ⟨rfl, h4, _⟩
    have HC4 := Aside0.mk h4
    clear h4 f1 HC3
    have f2 : w4.cell? ⟨w.heap.size, 2, none⟩ = some (.slice A0_2 l0_2.length c0_2) := (blk_cell HC4.out.1 2).trans rfl
    go_wp2_with (fail)
    go_at_call 36
    refine (pkTab_calls w _ w.heap.size gb _ _ A0_2 c0_2 l0_2 HR2.out HC4.out (by have := HL.out; rw [List.length_append, List.length_append]; omega)).mono ?_
    rintro e w5 ⟨rfl, h5, _⟩
    have HC5 := Aside0.mk h5
    clear h5 f2 HC4
    obtain ⟨pre, hpre⟩ : ∃ p, ((pkHead l0_2 l0_3 l0_4 ++ pkName a0_0) ++ pkName a0_1) ++ pkTab l0_2 = p := ⟨_, rfl⟩
    rw [hpre] at HC5
    have HPL : Aside0 (pre.length + (pkDat l0_3).length + (l0_4.flatMap pkSnap).length ≤ 1000000) := ⟨by have := HL.out; rw [← hpre]; simp only [List.length_append]; omega⟩
    have HPRE := Aside0.mk hpre
    clear hpre HL
    have f3 : w5.cell? ⟨w.heap.size, 3, none⟩ = some (.slice A0_3 l0_3.length c0_3) := (blk_cell HC5.out.1 3).trans rfl
    go_wp2_with (fail)
    go_loopg [46] l0_3.length (fun gq v46 wr => ∃ j : Nat, v46 = .int .i64 j ∧ Aside0 (j ≤ l0_3.length) ∧ Aside0 (l0_3.length - j ≤ gq) ∧ Aside0 (PkSt w wr w.heap.size gb #[.string a0_0, .string a0_1, .slice A0_2 l0_2.length c0_2, .slice A0_3 l0_3.length c0_3, .slice A0_4 l0_4.length c0_4] (pre ++ pkDat (l0_3.take j))))
    case atStart => exact ⟨0, rfl, ⟨Nat.zero_le _⟩, ⟨by omega⟩, ⟨by rw [List.take_zero]; unfold pkDat; rw [List.flatMap_nil, List.append_nil]; exact HC5.out⟩⟩
    case round =>
      clear f3
      obtain ⟨j, rfl, hj, hg, HP⟩ := hrel
      by_cases hlt : j < l0_3.length
      · have hltz : (j : Int) < (l0_3.length : Int) := by omega
        obtain ⟨ad, e_, hx⟩ := Kd.at_string HR3.out (j : Int) (by omega) hltz
        cases e_
        replace hx := pw_cell_below HP.out.2.2.1 hx
        rw [Int.toNat_natCast] at hx
        obtain ⟨x, hxx⟩ : ∃ x, rdOf ByteArray.empty l0_3 (j : Int) = x := ⟨_, rfl⟩
        rw [hxx] at hx
        have hxg : l0_3[j] = x := by rw [← hxx]; unfold rdOf; rw [Int.toNat_natCast, List.getD_eq_getElem?_getD, List.getElem?_eq_getElem hlt, Option.getD_some]
        have hft : pkDat (l0_3.take (j + 1)) = pkDat (l0_3.take j) ++ x.data.toList := by unfold pkDat; rw [flat_take _ _ _ hlt, hxg]
        have hfl : (pkDat (l0_3.take (j + 1))).length ≤ (pkDat l0_3).length := flat_le _ _ _
        have HFT := Aside0.mk hft
        have hle : (pre ++ pkDat (l0_3.take j)).length + x.size ≤ 1000000 := by
          have := HPL.out
          rw [hft, List.length_append, pkS_len] at hfl
          rw [List.length_append]; omega
        have HLE := Aside0.mk hle
        clear hxx hxg hft hfl hle
        go_wp2_with (fail)
        go_at_call 33
        refine (HWS.out _ _ x HP.out HLE.out).mono ?_
        rintro e w' ⟨rfl, P_, K_⟩
        go_wp2
        go_roundg (l0_3.length - (j + 1))
        case measure => have := hg.out; omega
        case rel => exact ⟨j + 1, by go_num, ⟨hlt⟩, ⟨by omega⟩, ⟨by rw [HFT.out, ← List.append_assoc]; exact P_.out⟩⟩
      · have hltz : ¬ (j : Int) < (l0_3.length : Int) := by omega
        have hjl : j = l0_3.length := by have := hj.out; omega
        subst hjl
        have HP6 : Aside0 (PkSt w wr w.heap.size gb #[.string a0_0, .string a0_1, .slice A0_2 l0_2.length c0_2, .slice A0_3 l0_3.length c0_3, .slice A0_4 l0_4.length c0_4] (pre ++ pkDat l0_3)) := ⟨by have := HP.out; rwa [List.take_length] at this⟩
        clear HP hltz hlt
        have f4 : wr.cell? ⟨w.heap.size, 4, none⟩ = some (.slice A0_4 l0_4.length c0_4) := (blk_cell HP6.out.1 4).trans rfl
        go_wp2_with (fail)
        go_loopg [56] l0_4.length (fun gq v56 wr => ∃ j : Nat, v56 = .int .i64 j ∧ Aside0 (j ≤ l0_4.length) ∧ Aside0 (l0_4.length - j ≤ gq) ∧ Aside0 (PkSt w wr w.heap.size gb #[.string a0_0, .string a0_1, .slice A0_2 l0_2.length c0_2, .slice A0_3 l0_3.length c0_3, .slice A0_4 l0_4.length c0_4] ((pre ++ pkDat l0_3) ++ (l0_4.take j).flatMap pkSnap)))
        case atStart => exact ⟨0, rfl, ⟨Nat.zero_le _⟩, ⟨by omega⟩, ⟨by rw [List.take_zero, List.flatMap_nil, List.append_nil]; exact HP6.out⟩⟩
        case round =>
          clear f4
          obtain ⟨i, rfl, hi, hgi, HPI⟩ := hrel
          rename World => W9
          by_cases hlti : i < l0_4.length
          · have hltzi : (i : Int) < (l0_4.length : Int) := by omega
            obtain ⟨ad, A1, c1, e_, hx0, hx1, hxl, hxr⟩ := at_T42 HR4.out (i : Int) (by omega) hltzi
            cases e_
            replace hx0 := pw_cell_below HPI.out.2.2.1 hx0
            replace hx1 := pw_cell_below HPI.out.2.2.1 hx1
            rw [Int.toNat_natCast] at hx0 hx1
            obtain ⟨y, hyy⟩ : ∃ y, rd_T42 l0_4 (i : Int) = y := ⟨_, rfl⟩
            rw [hyy] at hx0 hx1 hxl hxr
            have hyg : l0_4[i] = y := by rw [← hyy]; unfold rd_T42; rw [Int.toNat_natCast, List.getD_eq_getElem?_getD, List.getElem?_eq_getElem hlti, Option.getD_some]
            have hft : (l0_4.take (i + 1)).flatMap pkSnap = (l0_4.take i).flatMap pkSnap ++ pkSnap y := by rw [flat_take _ _ _ hlti, hyg]
            have hfl : ((l0_4.take (i + 1)).flatMap pkSnap).length ≤ (l0_4.flatMap pkSnap).length := flat_le _ _ _
            have HFT := Aside0.mk hft
            have HXR := Aside0.mk hxr
            have hle : ((pre ++ pkDat l0_3) ++ (l0_4.take i).flatMap pkSnap).length + (pkName y.f0).length + (pkTab y.f1).length ≤ 1000000 := by
              have := HPL.out
              rw [hft, List.length_append] at hfl
              unfold pkSnap at hfl
              rw [List.length_append] at hfl
              rw [List.length_append, List.length_append]
              unfold pkSnap at this ⊢
              omega
            have HLE := Aside0.mk hle
            have HNE : Aside0 (W9.heap.size ≠ gb) := ⟨by
              have := HPI.out.2.1.elim (fun h => h.lt) (fun h => h.lt)
              omega⟩
            clear hyy hyg hft hfl hle hxr hxl
            go_wp2_with (fail)
            go_at_call 35
            refine (pkName_calls w _ w.heap.size gb _ _ y.f0 (HPI.out.below (below_alloc (Below.refl _ _) _)) (by have := HLE.out; omega)).mono ?_
            rintro e w7 ⟨rfl, h7, k7⟩
            have HC7 := Aside0.mk h7
            have BK7 := Aside0.mk (k7 W9.heap.size _ (blk_new W9 (Obj.cells #[.string y.f0, .slice A1 y.f1.length c1] 42)) (by intro e_; exact HNE.out (Option.some.inj e_)) (by intro c fz e_; injection e_ with _ e2 _; exact absurd e2 (by decide)))
            clear h7 k7
            have g1 : w7.cell? ⟨W9.heap.size, 1, none⟩ = some (.slice A1 y.f1.length c1) := (blk_cell BK7.out 1).trans rfl
            go_wp2_with (fail)
            go_at_call 36
            refine (pkTab_calls w _ w.heap.size gb _ _ A1 c1 y.f1 HXR.out HC7.out (by have := HLE.out; rw [List.length_append]; omega)).mono ?_
            rintro e w8 ⟨rfl, h8, _⟩
            have HC8 := Aside0.mk h8
            clear h8 g1
            go_wp2
            go_roundg (l0_4.length - (i + 1))
            case measure => have := hgi.out; omega
            case rel => exact ⟨i + 1, by go_num, ⟨hlti⟩, ⟨by omega⟩, ⟨by rw [HFT.out]; unfold pkSnap; have := HC8.out; rw [List.append_assoc, List.append_assoc] at this; rw [List.append_assoc]; unfold pkSnap at this; simpa using this⟩⟩
          · have hltzi : ¬ (i : Int) < (l0_4.length : Int) := by omega
            have hil : i = l0_4.length := by have := hi.out; omega
            subst hil
            obtain ⟨T, hT⟩ : ∃ T, pkText a0_0 a0_1 l0_2 l0_3 l0_4 = T := ⟨_, rfl⟩
            have HPT : Aside0 (PkSt w W9 w.heap.size gb #[.string a0_0, .string a0_1, .slice A0_2 l0_2.length c0_2, .slice A0_3 l0_3.length c0_3, .slice A0_4 l0_4.length c0_4] T) := ⟨by have := HPI.out; rw [List.take_length] at this; rw [← hT]; unfold pkText; rw [HPRE.out]; exact this⟩
            rw [hT] at HM HLEN
            have HTT := Aside0.mk hT
            have hTs : (⟨T.toArray⟩ : ByteArray).size ≤ 1000000 := by have := HLEN.out; show T.toArray.size ≤ 1000000; rw [List.size_toArray]; exact this
            have HSTR : Aside0 (∀ W : World, PkSt w W w.heap.size gb #[.string a0_0, .string a0_1, .slice A0_2 l0_2.length c0_2, .slice A0_3 l0_3.length c0_3, .slice A0_4 l0_4.length c0_4] T → Calls Try.prog 37 #[.pointer (some ⟨gb, 0, none⟩)] W fun e w' => e = .returned (.string ⟨T.toArray⟩) ∧ PkSt w w' w.heap.size gb #[.string a0_0, .string a0_1, .slice A0_2 l0_2.length c0_2, .slice A0_3 l0_3.length c0_3, .slice A0_4 l0_4.length c0_4] T) := ⟨fun W h => pk_string T h⟩
            have HYM : Aside0 (∀ W : World, Calls Try.prog 38 #[.string ⟨T.toArray⟩, .int .i64 7] W fun e w' => e = .returned (.int .i64 m) ∧ Drawn0 W w') := ⟨fun W => impl_ymix.calls k ⟨T.toArray⟩ 7 m W HM.out⟩
            have HPW : Aside0 (∀ W : World, Calls Try.prog 34 #[.int .i64 m] W fun e w' => e = .returned (.string (pkW m)) ∧ Below W.heap.size W w') := ⟨fun W => impl_PutWord.calls m (pkW m) W (pkW_eq m)⟩
            have hz5 := pkW_size m
            clear hT hltzi HM
            obtain ⟨X, hX⟩ : ∃ X : ByteArray, (⟨T.toArray⟩ : ByteArray) = X := ⟨_, rfl⟩
            rw [hX] at hTs HSTR HYM
            obtain ⟨Y, hY⟩ : ∃ Y, pkW m = Y := ⟨_, rfl⟩
            rw [hY] at hz5 HPW
            have HX := Aside0.mk hX
            have HY := Aside0.mk hY
            clear hX hY
            go_wp2_with (fail)
            go_at_call 37
            refine (HSTR.out _ HPT.out).mono ?_
            rintro e w10 ⟨rfl, h10⟩
            have HA := Aside0.mk h10
            clear h10
            go_wp2_with (fail)
            go_at_call 37
            refine (HSTR.out _ HA.out).mono ?_
            rintro e w11 ⟨rfl, h11⟩
            have HA2 := Aside0.mk h11
            clear h11
            go_wp2_with (fail)
            go_at_call 38
            refine (HYM.out _).mono ?_
            rintro e w12 ⟨rfl, ⟨m1, rfl⟩⟩
            go_wp2_with (fail)
            go_at_call 34
            refine (HPW.out _).mono ?_
            rintro e w13 ⟨rfl, h13⟩
            have HB13 := Aside0.mk h13
            clear h13
            go_wp2
            go_ret
            exact ⟨by rw [HTT.out, HX.out, HY.out]; rfl, HA2.out.2.2.1.trans ((Below.trans (pw_below_drewN (Below.refl _ _) _) HB13.out).mono HA2.out.2.2.1.size)⟩

/-! ### laws_FnExactPackImage: function 4 -/
def laws_FnExactPackImage.f (k : Nat) (a0_0 : ByteArray) (a0_1 : ByteArray) (l0_2 : List Int) (l0_3 : List ByteArray) (l0_4 : List (S71)) : Option (Bool) := (laws_szImage.f k a0_0 a0_1 l0_2 l0_3 l0_4 1048576).bind fun t221 => (if t221 < 0 then (some true) else ((laws_toImage.f k a0_0 a0_1 l0_2 l0_3 l0_4).bind fun bt222 => ((spec_PackImage.f k bt222.1 bt222.2.1 bt222.2.2.1 bt222.2.2.2.1 bt222.2.2.2.2).bind fun t233 => ((laws_toImage.f k a0_0 a0_1 l0_2 l0_3 l0_4).bind fun bt234 => ((impl_PackImage.f k bt234.1 bt234.2.1 bt234.2.2.1 bt234.2.2.2.1 bt234.2.2.2.2).bind fun t246 => (if t246.toList = t233.toList then ((laws_toImage.f k a0_0 a0_1 l0_2 l0_3 l0_4).bind fun bt247 => ((laws_eqImage.f k bt234.1 bt234.2.1 bt234.2.2.1 bt234.2.2.2.1 bt234.2.2.2.2 bt247.1 bt247.2.1 bt247.2.2.1 bt247.2.2.2.1 bt247.2.2.2.2).bind fun t258 => (if t258 = true then (some true) else (some false)))) else (some false)))))))
theorem laws_FnExactPackImage.mono : ∀ a0 a1 a2 a3 a4 k, LeO (laws_FnExactPackImage.f k a0 a1 a2 a3 a4) (laws_FnExactPackImage.f (k + 1) a0 a1 a2 a3 a4) := by
 intro a0 a1 a2 a3 a4 k
 unfold laws_FnExactPackImage.f
 repeat' first
   | (with_reducible exact impl_PackImage.mono _ _ _ _ _ _)
   | (with_reducible exact laws_eqImage.mono _ _ _ _ _ _ _ _ _ _ _)
   | (with_reducible exact laws_szImage.mono _ _ _ _ _ _ _)
   | (with_reducible exact laws_toImage.mono _ _ _ _ _ _)
   | (with_reducible exact spec_PackImage.mono _ _ _ _ _ _)
   | (with_reducible exact LeO.refl _)
   | (with_reducible exact LeO.none _)
   | (with_reducible refine LeO.ite ?_ ?_)
   | (with_reducible refine LeO.bind ?_ (fun _ => ?_))
   | exact impl_PackImage.mono _ _ _ _ _ _
   | exact laws_eqImage.mono _ _ _ _ _ _ _ _ _ _ _
   | exact laws_szImage.mono _ _ _ _ _ _ _
   | exact laws_toImage.mono _ _ _ _ _ _
   | exact spec_PackImage.mono _ _ _ _ _ _
   | exact LeO.none _
   | refine LeO.ite ?_ ?_
   | refine LeO.bind ?_ (fun _ => ?_)
set_option maxHeartbeats 8000000 in
set_option maxRecDepth 100000 in
theorem laws_FnExactPackImage.calls (k : Nat) (a0_0 : ByteArray) (a0_1 : ByteArray) (A0_2 : Option Addr) (c0_2 : Nat) (l0_2 : List Int) (A0_3 : Option Addr) (c0_3 : Nat) (l0_3 : List ByteArray) (A0_4 : Option Addr) (c0_4 : Nat) (l0_4 : List (S71)) (r : Bool) (w : World) (hr0_2 : Kd.C (Kd.int .i64) w A0_2 l0_2.length l0_2) (hc0_2 : l0_2.length ≤ c0_2) (hr0_3 : Kd.C Kd.string w A0_3 l0_3.length l0_3) (hc0_3 : l0_3.length ≤ c0_3) (hr0_4 : Kd.C k71 w A0_4 l0_4.length l0_4) (hc0_4 : l0_4.length ≤ c0_4) (h : laws_FnExactPackImage.f k a0_0 a0_1 l0_2 l0_3 l0_4 = some r) :
  Calls Try.prog 4 #[.agg #[.string a0_0, .string a0_1, .slice A0_2 l0_2.length c0_2, .slice A0_3 l0_3.length c0_3, .slice A0_4 l0_4.length c0_4]] w fun e w' => e = .returned (.bool r) ∧ Below w.heap.size w w' := by
 have hu26 := Try.underlying26
 have hu31 := Try.underlying31
 have HR0_2 := Sq.l hr0_2
 have HC0_2 := Sq.l hc0_2
 clear hr0_2 hc0_2
 have HR0_3 := Sq.l hr0_3
 have HC0_3 := Sq.l hc0_3
 clear hr0_3 hc0_3
 have HR0_4 := Sq.l hr0_4
 have HC0_4 := Sq.l hc0_4
 clear hr0_4 hc0_4
 have HB := Sq.l (Below.refl w.heap.size w)
 have H : ((laws_szImage.f k a0_0 a0_1 l0_2 l0_3 l0_4 1048576).bind fun t221 => (if t221 < 0 then (some true) else ((laws_toImage.f k a0_0 a0_1 l0_2 l0_3 l0_4).bind fun bt222 => ((spec_PackImage.f k bt222.1 bt222.2.1 bt222.2.2.1 bt222.2.2.2.1 bt222.2.2.2.2).bind fun t233 => ((laws_toImage.f k a0_0 a0_1 l0_2 l0_3 l0_4).bind fun bt234 => ((impl_PackImage.f k bt234.1 bt234.2.1 bt234.2.2.1 bt234.2.2.2.1 bt234.2.2.2.2).bind fun t246 => (if t246.toList = t233.toList then ((laws_toImage.f k a0_0 a0_1 l0_2 l0_3 l0_4).bind fun bt247 => ((laws_eqImage.f k bt234.1 bt234.2.1 bt234.2.2.1 bt234.2.2.2.1 bt234.2.2.2.2 bt247.1 bt247.2.1 bt247.2.2.1 bt247.2.2.2.1 bt247.2.2.2.2).bind fun t258 => (if t258 = true then (some true) else (some false)))) else (some false)))))))) = some r := h
 clear h
 replace H := Option.bind_eq_some_iff.mp H
 obtain ⟨t221, A20, H⟩ := H
 (try dsimp only at H)
 have A2 := Sq.l A20
 clear A20
 have HC3 := Sq.l H
 clear H
 go_enter Try.func4, Try.ntmps4
 go_upto_if 11 with (first | ((with_reducible refine gate_dst (N := 1) rfl ?_); refine box_event ?hg (N := 1) ?hd (cs := #[.string a0_0, .string a0_1, .slice A0_2 l0_2.length c0_2, .slice A0_3 l0_3.length c0_3, .slice A0_4 l0_4.length c0_4]) (t := 26) ?hr ?_; (case hd => rfl); (case hg => rfl); (case hr => first | (go_simp; done) | (go_simp; rfl)); intro gb220 hg w4 hbox hb; have n0_ := Sq.l (Sq.a4 (by repeat (first | (with_reducible first | exact HB.out | apply Sq.i | apply Sq.j | apply Sq.k) | exact HB.out)) hb); have n1_ := Sq.l (hbox); have n2_ := Sq.l ((by rw [hg]; exact (Sq.a5 (by repeat (first | (with_reducible first | exact HB.out | apply Sq.i | apply Sq.j | apply Sq.k) | exact HB.out))) : w.heap.size ≤ gb220)); have n3_ := Sq.l ((by rw [hg]; exact (Sq.a5 (by repeat (first | (with_reducible first | exact HB.out | apply Sq.i | apply Sq.j | apply Sq.k) | exact HB.out))) : w.heap.size ≤ gb220)); clear HB; have HB := n0_; have BK220 := n1_; have GW220 := n2_; have GE220 := n3_; clear n0_ n1_ n2_ n3_; clear hb hbox hg; have hcz5_0 : w4.cell? ⟨gb220, 0, none⟩ = some (.string a0_0) := (Sq.o BK220.out 0).trans rfl; have hcz5_1 : w4.cell? ⟨gb220, 1, none⟩ = some (.string a0_1) := (Sq.o BK220.out 1).trans rfl; have hcz5_2 : w4.cell? ⟨gb220, 2, none⟩ = some (.slice A0_2 l0_2.length c0_2) := (Sq.o BK220.out 2).trans rfl; have hcz5_3 : w4.cell? ⟨gb220, 3, none⟩ = some (.slice A0_3 l0_3.length c0_3) := (Sq.o BK220.out 3).trans rfl; have hcz5_4 : w4.cell? ⟨gb220, 4, none⟩ = some (.slice A0_4 l0_4.length c0_4) := (Sq.o BK220.out 4).trans rfl; have hfz5_0 := Sq.r BK220.out 0; have hfz5_1 := Sq.r BK220.out 1; have hfz5_2 := Sq.r BK220.out 2; have hfz5_3 := Sq.r BK220.out 3; have hfz5_4 := Sq.r BK220.out 4) | ((with_reducible refine gate_callee (f := 5) rfl ?_); refine goesL_ (some 9) rfl rfl Try.func5 (by kernel_rfl) rfl #[.agg #[.string a0_0, .string a0_1, .slice A0_2 l0_2.length c0_2, .slice A0_3 l0_3.length c0_3, .slice A0_4 l0_4.length c0_4], .int .i64 1048576] rfl (by (try simp only [List.map_toArray, List.map_cons, List.map_nil]); first | done | rfl | (simp only [List.length_drop, List.length_take]; rfl)) ?_; (with_reducible refine (laws_szImage.calls k a0_0 a0_1 _ _ l0_2 _ _ l0_3 _ _ l0_4 1048576 t221 _ ?side1 ?side2 ?side3 ?side4 ?side5 ?side6 A2.out).mono ?_); (case side1 => repeat (first | exact (Sq.a1 HR0_2.out HB.out) | (with_reducible refine Sq.s ?_ _) | (with_reducible refine Sq.t ?_ _) | (with_reducible refine Sq.u ?_))); (case side2 => exact HC0_2.out); (case side3 => repeat (first | exact (Sq.a1 HR0_3.out HB.out) | (with_reducible refine Sq.s ?_ _) | (with_reducible refine Sq.t ?_ _) | (with_reducible refine Sq.u ?_))); (case side4 => exact HC0_3.out); (case side5 => repeat (first | exact (Sq.a1 HR0_4.out HB.out) | (with_reducible refine Sq.s ?_ _) | (with_reducible refine Sq.t ?_ _) | (with_reducible refine Sq.u ?_))); (case side6 => exact HC0_4.out); rintro e w6 ⟨rfl, hb⟩; refine ⟨_, rfl, ?_⟩; have n0_ := Sq.l (Sq.m (g := gb220) (o := .cells #[.string a0_0, .string a0_1, .slice A0_2 l0_2.length c0_2, .slice A0_3 l0_3.length c0_3, .slice A0_4 l0_4.length c0_4] 26 (0, 0)) (by (with_reducible repeat (first | refine Sq.d ?_ _ | refine Sq.e ?_ | refine Sq.f ?_ _)); exact BK220.out) hb); have n1_ := Sq.l (Sq.a4 (by repeat (first | (with_reducible first | exact HB.out | apply Sq.i | apply Sq.j | apply Sq.k | refine Sq.h ?_ GE220.out) | exact HB.out)) hb); clear BK220; clear HB; have BK220 := n0_; have HB := n1_; clear n0_ n1_; (try clear hb); (try clear hb2); (try clear hk); (try clear hi)))
 (try simp only [Act.put, List.setIfInBounds_toArray, List.set_cons_zero, List.set_cons_succ])
 have H := HC3.out
 clear HC3
 by_cases c7 : t221 < 0
 ·rw [if_pos c7] at H
  have c7b0 : decide (t221 < 0) = true := decide_eq_true c7
  clear c7
  (first | rw [c7b0] | (simp only [i64_w, i32_w]; rw [c7b0]) | skip)
  obtain rfl := Option.some.inj H
  go_wp2
  go_ret
  exact ⟨by first | rfl | (simp [errW_none, errW_some] <;> rfl) | (simp [*, errW_none, errW_some] <;> rfl), by repeat (first | (with_reducible first | exact HB.out | apply Sq.i | apply Sq.j | apply Sq.k | refine Sq.h ?_ GE220.out) | exact HB.out)⟩
 ·rw [if_neg c7] at H
  have c7b0 : decide (t221 < 0) = false := decide_eq_false c7
  clear c7
  (first | rw [c7b0] | (simp only [i64_w, i32_w]; rw [c7b0]) | skip)
  replace H := Option.bind_eq_some_iff.mp H
  obtain ⟨⟨t222, t223, t224, t227, t230⟩, A80, H⟩ := H
  (try dsimp only at H)
  have A8 := Sq.l A80
  clear A80
  replace H := Option.bind_eq_some_iff.mp H
  obtain ⟨t233, A90, H⟩ := H
  (try dsimp only at H)
  have A9 := Sq.l A90
  clear A90
  replace H := Option.bind_eq_some_iff.mp H
  obtain ⟨⟨t234, t235, t236, t239, t242⟩, A100, H⟩ := H
  (try dsimp only at H)
  have A10 := Sq.l A100
  clear A100
  replace H := Option.bind_eq_some_iff.mp H
  obtain ⟨t246, A110, H⟩ := H
  (try dsimp only at H)
  have A11 := Sq.l A110
  clear A110
  have HC12 := Sq.l H
  clear H
  have hcz13_0 : w6.cell? ⟨gb220, 0, none⟩ = some (.string a0_0) := (Sq.o BK220.out 0).trans rfl
  have hcz13_1 : w6.cell? ⟨gb220, 1, none⟩ = some (.string a0_1) := (Sq.o BK220.out 1).trans rfl
  have hcz13_2 : w6.cell? ⟨gb220, 2, none⟩ = some (.slice A0_2 l0_2.length c0_2) := (Sq.o BK220.out 2).trans rfl
  have hcz13_3 : w6.cell? ⟨gb220, 3, none⟩ = some (.slice A0_3 l0_3.length c0_3) := (Sq.o BK220.out 3).trans rfl
  have hcz13_4 : w6.cell? ⟨gb220, 4, none⟩ = some (.slice A0_4 l0_4.length c0_4) := (Sq.o BK220.out 4).trans rfl
  have hfz13_0 := Sq.r BK220.out 0
  have hfz13_1 := Sq.r BK220.out 1
  have hfz13_2 := Sq.r BK220.out 2
  have hfz13_3 := Sq.r BK220.out 3
  have hfz13_4 := Sq.r BK220.out 4
  go_upto_if 21 with (first | ((with_reducible refine gate_callee (f := 7) rfl ?_); refine goesL_ (some 13) rfl rfl Try.func7 (by kernel_rfl) rfl #[.agg #[.string a0_0, .string a0_1, .slice A0_2 l0_2.length c0_2, .slice A0_3 l0_3.length c0_3, .slice A0_4 l0_4.length c0_4]] rfl (by (try simp only [List.map_toArray, List.map_cons, List.map_nil]); first | done | rfl | (simp only [List.length_drop, List.length_take]; rfl)) ?_; (with_reducible refine (laws_toImage.calls k a0_0 a0_1 _ _ l0_2 _ _ l0_3 _ _ l0_4 t222 t223 t224 t227 t230 _ ?side1 ?side2 ?side3 ?side4 ?side5 ?side6 A8.out).mono ?_); (case side1 => repeat (first | exact (Sq.a1 HR0_2.out HB.out) | (with_reducible refine Sq.s ?_ _) | (with_reducible refine Sq.t ?_ _) | (with_reducible refine Sq.u ?_))); (case side2 => exact HC0_2.out); (case side3 => repeat (first | exact (Sq.a1 HR0_3.out HB.out) | (with_reducible refine Sq.s ?_ _) | (with_reducible refine Sq.t ?_ _) | (with_reducible refine Sq.u ?_))); (case side4 => exact HC0_3.out); (case side5 => repeat (first | exact (Sq.a1 HR0_4.out HB.out) | (with_reducible refine Sq.s ?_ _) | (with_reducible refine Sq.t ?_ _) | (with_reducible refine Sq.u ?_))); (case side6 => exact HC0_4.out); rintro e w14 ⟨v225, v228, v231, rfl, ho0, ho1, ho2, hb⟩; refine ⟨_, rfl, ?_⟩; have n0_ := Sq.l (Sq.a2 ho0 (Sq.a5 (by repeat (first | (with_reducible first | exact HB.out | apply Sq.i | apply Sq.j | apply Sq.k | refine Sq.h ?_ GE220.out) | exact HB.out)))); have n1_ := Sq.l (Sq.a2 ho1 (Sq.a5 (by repeat (first | (with_reducible first | exact HB.out | apply Sq.i | apply Sq.j | apply Sq.k | refine Sq.h ?_ GE220.out) | exact HB.out)))); have n2_ := Sq.l (Kd.S_lower ho2 (Sq.a5 (by repeat (first | (with_reducible first | exact HB.out | apply Sq.i | apply Sq.j | apply Sq.k | refine Sq.h ?_ GE220.out) | exact HB.out)))); have n3_ := Sq.l (Sq.m (g := gb220) (o := .cells #[.string a0_0, .string a0_1, .slice A0_2 l0_2.length c0_2, .slice A0_3 l0_3.length c0_3, .slice A0_4 l0_4.length c0_4] 26 (0, 0)) (by (with_reducible repeat (first | refine Sq.d ?_ _ | refine Sq.e ?_ | refine Sq.f ?_ _)); exact BK220.out) hb); have n4_ := Sq.l (Sq.a4 (by repeat (first | (with_reducible first | exact HB.out | apply Sq.i | apply Sq.j | apply Sq.k | refine Sq.h ?_ GE220.out) | exact HB.out)) hb); clear BK220; clear HB; have HO226 := n0_; have HO229 := n1_; have HO232 := n2_; have BK220 := n3_; have HB := n4_; clear n0_ n1_ n2_ n3_ n4_; (try clear hb); (try clear hb2); (try clear hk); (try clear hi); (try clear ho0); (try clear ho1); (try clear ho2); obtain ⟨Ao15, co15, eo15⟩ := Kd.R_slice HO226.out; subst eo15; obtain ⟨Ao16, co16, eo16⟩ := Kd.R_slice HO229.out; subst eo16; obtain ⟨Ao17, co17, eo17⟩ := Kd.S_slice HO232.out; subst eo17) | ((with_reducible refine gate_callee (f := 10) rfl ?_); refine goesL_ (some 14) rfl rfl Try.func10 (by kernel_rfl) rfl #[.agg #[.string t222, .string t223, .slice Ao15 t224.length co15, .slice Ao16 t227.length co16, .slice Ao17 t230.length co17]] rfl (by (try simp only [List.map_toArray, List.map_cons, List.map_nil]); first | done | rfl | (simp only [List.length_drop, List.length_take]; rfl)) ?_; (with_reducible refine (spec_PackImage.calls k t222 t223 _ _ t224 _ _ t227 _ _ t230 t233 _ ?side1 ?side2 ?side3 ?side4 ?side5 ?side6 A9.out).mono ?_); (case side1 => repeat (first | exact (Sq.b4 HO226.out).2.2 | (with_reducible refine Sq.s ?_ _) | (with_reducible refine Sq.t ?_ _) | (with_reducible refine Sq.u ?_))); (case side2 => exact (Sq.b4 HO226.out).2.1); (case side3 => repeat (first | exact (Sq.b4 HO229.out).2.2 | (with_reducible refine Sq.s ?_ _) | (with_reducible refine Sq.t ?_ _) | (with_reducible refine Sq.u ?_))); (case side4 => exact (Sq.b4 HO229.out).2.1); (case side5 => repeat (first | exact (Kd.S_reads' HO232.out).2.2 | (with_reducible refine Sq.s ?_ _) | (with_reducible refine Sq.t ?_ _) | (with_reducible refine Sq.u ?_))); (case side6 => exact (Kd.S_reads' HO232.out).2.1); rintro e w18 ⟨rfl, hb⟩; refine ⟨_, rfl, ?_⟩; have n0_ := Sq.l (Sq.n (by (with_reducible repeat (first | apply Sq.a | apply Sq.b | apply Sq.c)); exact HO226.out) hb); have n1_ := Sq.l (Sq.n (by (with_reducible repeat (first | apply Sq.a | apply Sq.b | apply Sq.c)); exact HO229.out) hb); have n2_ := Sq.l (Kd.S_below (by (with_reducible repeat (first | apply Sq.a7 | apply Sq.a8 | apply Sq.a9)); exact HO232.out) hb); have n3_ := Sq.l (Sq.m (g := gb220) (o := .cells #[.string a0_0, .string a0_1, .slice A0_2 l0_2.length c0_2, .slice A0_3 l0_3.length c0_3, .slice A0_4 l0_4.length c0_4] 26 (0, 0)) (by (with_reducible repeat (first | refine Sq.d ?_ _ | refine Sq.e ?_ | refine Sq.f ?_ _)); exact BK220.out) hb); have n4_ := Sq.l (Sq.a4 (by repeat (first | (with_reducible first | exact HB.out | apply Sq.i | apply Sq.j | apply Sq.k | refine Sq.h ?_ GE220.out) | exact HB.out)) hb); clear HO226; clear HO229; clear HO232; clear BK220; clear HB; have HO226 := n0_; have HO229 := n1_; have HO232 := n2_; have BK220 := n3_; have HB := n4_; clear n0_ n1_ n2_ n3_ n4_; (try clear hb); (try clear hb2); (try clear hk); (try clear hi); have hcz19_0 : w18.cell? ⟨gb220, 0, none⟩ = some (.string a0_0) := (Sq.o BK220.out 0).trans rfl; have hcz19_1 : w18.cell? ⟨gb220, 1, none⟩ = some (.string a0_1) := (Sq.o BK220.out 1).trans rfl; have hcz19_2 : w18.cell? ⟨gb220, 2, none⟩ = some (.slice A0_2 l0_2.length c0_2) := (Sq.o BK220.out 2).trans rfl; have hcz19_3 : w18.cell? ⟨gb220, 3, none⟩ = some (.slice A0_3 l0_3.length c0_3) := (Sq.o BK220.out 3).trans rfl; have hcz19_4 : w18.cell? ⟨gb220, 4, none⟩ = some (.slice A0_4 l0_4.length c0_4) := (Sq.o BK220.out 4).trans rfl; have hfz19_0 := Sq.r BK220.out 0; have hfz19_1 := Sq.r BK220.out 1; have hfz19_2 := Sq.r BK220.out 2; have hfz19_3 := Sq.r BK220.out 3; have hfz19_4 := Sq.r BK220.out 4) | ((with_reducible refine gate_callee (f := 7) rfl ?_); refine goesL_ (some 16) rfl rfl Try.func7 (by kernel_rfl) rfl #[.agg #[.string a0_0, .string a0_1, .slice A0_2 l0_2.length c0_2, .slice A0_3 l0_3.length c0_3, .slice A0_4 l0_4.length c0_4]] rfl (by (try simp only [List.map_toArray, List.map_cons, List.map_nil]); first | done | rfl | (simp only [List.length_drop, List.length_take]; rfl)) ?_; (with_reducible refine (laws_toImage.calls k a0_0 a0_1 _ _ l0_2 _ _ l0_3 _ _ l0_4 t234 t235 t236 t239 t242 _ ?side1 ?side2 ?side3 ?side4 ?side5 ?side6 A10.out).mono ?_); (case side1 => repeat (first | exact (Sq.a1 HR0_2.out HB.out) | (with_reducible refine Sq.s ?_ _) | (with_reducible refine Sq.t ?_ _) | (with_reducible refine Sq.u ?_))); (case side2 => exact HC0_2.out); (case side3 => repeat (first | exact (Sq.a1 HR0_3.out HB.out) | (with_reducible refine Sq.s ?_ _) | (with_reducible refine Sq.t ?_ _) | (with_reducible refine Sq.u ?_))); (case side4 => exact HC0_3.out); (case side5 => repeat (first | exact (Sq.a1 HR0_4.out HB.out) | (with_reducible refine Sq.s ?_ _) | (with_reducible refine Sq.t ?_ _) | (with_reducible refine Sq.u ?_))); (case side6 => exact HC0_4.out); rintro e w20 ⟨v237, v240, v243, rfl, ho0, ho1, ho2, hb⟩; refine ⟨_, rfl, ?_⟩; have n0_ := Sq.l (Sq.p (by (with_reducible repeat (first | apply Sq.a | apply Sq.b | apply Sq.c)); exact HO226.out) (Sq.b7 ho0) hb); have n1_ := Sq.l (Sq.p (by (with_reducible repeat (first | apply Sq.a | apply Sq.b | apply Sq.c)); exact HO229.out) (Sq.b7 ho1) hb); have n2_ := Sq.l (Kd.S_mono (Kd.S_told (Kd.S_told (Kd.S_old (by (with_reducible repeat (first | apply Sq.a7 | apply Sq.a8 | apply Sq.a9)); exact HO232.out) hb) (Sq.b7 ho0)) (Kd.S_base ho2)) (fun _ h_ => h_.1)); have n3_ := Sq.l (Sq.a2 (Sq.c1 ho0 (Sq.c2 (by (with_reducible repeat (first | apply Sq.a | apply Sq.b | apply Sq.c)); exact HO226.out))) (Sq.a5 (by repeat (first | (with_reducible first | exact HB.out | apply Sq.i | apply Sq.j | apply Sq.k | refine Sq.h ?_ GE220.out) | exact HB.out)))); have n4_ := Sq.l (Sq.a2 (Sq.c1 ho1 (Sq.c2 (by (with_reducible repeat (first | apply Sq.a | apply Sq.b | apply Sq.c)); exact HO229.out))) (Sq.a5 (by repeat (first | (with_reducible first | exact HB.out | apply Sq.i | apply Sq.j | apply Sq.k | refine Sq.h ?_ GE220.out) | exact HB.out)))); have n5_ := Sq.l (Kd.S_lower (Kd.S_new' (Kd.S_new' ho2 (Sq.c2 (by (with_reducible repeat (first | apply Sq.a | apply Sq.b | apply Sq.c)); exact HO226.out))) (Kd.S_lt (by (with_reducible repeat (first | apply Sq.a7 | apply Sq.a8 | apply Sq.a9)); exact HO232.out))) (Sq.a5 (by repeat (first | (with_reducible first | exact HB.out | apply Sq.i | apply Sq.j | apply Sq.k | refine Sq.h ?_ GE220.out) | exact HB.out)))); have n6_ := Sq.l (Sq.m (g := gb220) (o := .cells #[.string a0_0, .string a0_1, .slice A0_2 l0_2.length c0_2, .slice A0_3 l0_3.length c0_3, .slice A0_4 l0_4.length c0_4] 26 (0, 0)) (by (with_reducible repeat (first | refine Sq.d ?_ _ | refine Sq.e ?_ | refine Sq.f ?_ _)); exact BK220.out) hb); have n7_ := Sq.l (Sq.a4 (by repeat (first | (with_reducible first | exact HB.out | apply Sq.i | apply Sq.j | apply Sq.k | refine Sq.h ?_ GE220.out) | exact HB.out)) hb); clear HO226; clear HO229; clear HO232; clear BK220; clear HB; have HO226 := n0_; have HO229 := n1_; have HO232 := n2_; have HO238 := n3_; have HO241 := n4_; have HO244 := n5_; have BK220 := n6_; have HB := n7_; clear n0_ n1_ n2_ n3_ n4_ n5_ n6_ n7_; (try clear hb); (try clear hb2); (try clear hk); (try clear hi); (try clear ho0); (try clear ho1); (try clear ho2)) | ((with_reducible refine gate_dst (N := 5) rfl ?_); refine box_event ?hg (N := 5) ?hd (cs := #[.string (⟨#[]⟩ : ByteArray), .string (⟨#[]⟩ : ByteArray), .slice none 0 0, .slice none 0 0, .slice none 0 0]) (t := 31) ?hr ?_; (case hd => rfl); (case hg => rfl); (case hr => first | (go_simp; done) | (go_simp; rfl)); intro gb245 hg w21 hbox hb; have n0_ := Sq.l (Sq.n (by (with_reducible repeat (first | apply Sq.a | apply Sq.b | apply Sq.c)); exact HO226.out) hb); have n1_ := Sq.l (Sq.n (by (with_reducible repeat (first | apply Sq.a | apply Sq.b | apply Sq.c)); exact HO229.out) hb); have n2_ := Sq.l (Kd.S_below (by (with_reducible repeat (first | apply Sq.a7 | apply Sq.a8 | apply Sq.a9)); exact HO232.out) hb); have n3_ := Sq.l (Sq.n (by (with_reducible repeat (first | apply Sq.a | apply Sq.b | apply Sq.c)); exact HO238.out) hb); have n4_ := Sq.l (Sq.n (by (with_reducible repeat (first | apply Sq.a | apply Sq.b | apply Sq.c)); exact HO241.out) hb); have n5_ := Sq.l (Kd.S_below (by (with_reducible repeat (first | apply Sq.a7 | apply Sq.a8 | apply Sq.a9)); exact HO244.out) hb); have n6_ := Sq.l (Sq.m (g := gb220) (o := .cells #[.string a0_0, .string a0_1, .slice A0_2 l0_2.length c0_2, .slice A0_3 l0_3.length c0_3, .slice A0_4 l0_4.length c0_4] 26 (0, 0)) (by (with_reducible repeat (first | refine Sq.d ?_ _ | refine Sq.e ?_ | refine Sq.f ?_ _)); exact BK220.out) hb); have n7_ := Sq.l (Sq.a4 (by repeat (first | (with_reducible first | exact HB.out | apply Sq.i | apply Sq.j | apply Sq.k | refine Sq.h ?_ GE220.out) | exact HB.out)) hb); have n8_ := Sq.l (hbox); have n9_ := Sq.l ((by rw [hg]; exact (Sq.a5 (by repeat (first | (with_reducible first | exact HB.out | apply Sq.i | apply Sq.j | apply Sq.k | refine Sq.h ?_ GE220.out) | exact HB.out))) : w.heap.size ≤ gb245)); have n10_ := Sq.l ((by rw [hg]; exact (Sq.a5 (by repeat (first | (with_reducible first | exact HB.out | apply Sq.i | apply Sq.j | apply Sq.k | refine Sq.h ?_ GE220.out) | exact HB.out))) : w.heap.size ≤ gb245)); have n11_ := Sq.l ((by rw [hg]; exact Nat.ne_of_lt (blk_lt (g := gb220) (o := .cells #[.string a0_0, .string a0_1, .slice A0_2 l0_2.length c0_2, .slice A0_3 l0_3.length c0_3, .slice A0_4 l0_4.length c0_4] 26 (0, 0)) (by (with_reducible repeat (first | refine Sq.d ?_ _ | refine Sq.e ?_ | refine Sq.f ?_ _)); exact BK220.out)) : gb220 ≠ gb245)); have n12_ := Sq.l ((by rw [hg]; exact Nat.ne_of_gt (blk_lt (g := gb220) (o := .cells #[.string a0_0, .string a0_1, .slice A0_2 l0_2.length c0_2, .slice A0_3 l0_3.length c0_3, .slice A0_4 l0_4.length c0_4] 26 (0, 0)) (by (with_reducible repeat (first | refine Sq.d ?_ _ | refine Sq.e ?_ | refine Sq.f ?_ _)); exact BK220.out)) : gb245 ≠ gb220)); clear HO226; clear HO229; clear HO232; clear HO238; clear HO241; clear HO244; clear BK220; clear HB; have HO226 := n0_; have HO229 := n1_; have HO232 := n2_; have HO238 := n3_; have HO241 := n4_; have HO244 := n5_; have BK220 := n6_; have HB := n7_; have BK245 := n8_; have GW245 := n9_; have GE245 := n10_; have NB220_245 := n11_; have NB245_220 := n12_; clear n0_ n1_ n2_ n3_ n4_ n5_ n6_ n7_ n8_ n9_ n10_ n11_ n12_; clear hb hbox hg; have hnb22 := NB245_220.out; have hnc22 := NB220_245.out; have hcz23_0 : w21.cell? ⟨gb245, 0, none⟩ = some (.string (⟨#[]⟩ : ByteArray)) := (Sq.o BK245.out 0).trans rfl; have hcz23_1 : w21.cell? ⟨gb245, 1, none⟩ = some (.string (⟨#[]⟩ : ByteArray)) := (Sq.o BK245.out 1).trans rfl; have hcz23_2 : w21.cell? ⟨gb245, 2, none⟩ = some (.slice none 0 0) := (Sq.o BK245.out 2).trans rfl; have hcz23_3 : w21.cell? ⟨gb245, 3, none⟩ = some (.slice none 0 0) := (Sq.o BK245.out 3).trans rfl; have hcz23_4 : w21.cell? ⟨gb245, 4, none⟩ = some (.slice none 0 0) := (Sq.o BK245.out 4).trans rfl; have hfz23_0 := Sq.r BK245.out 0; have hfz23_1 := Sq.r BK245.out 1; have hfz23_2 := Sq.r BK245.out 2; have hfz23_3 := Sq.r BK245.out 3; have hfz23_4 := Sq.r BK245.out 4; obtain ⟨Ao24, co24, eo24⟩ := Kd.R_slice HO238.out; subst eo24; obtain ⟨Ao25, co25, eo25⟩ := Kd.R_slice HO241.out; subst eo25; obtain ⟨Ao26, co26, eo26⟩ := Kd.S_slice HO244.out; subst eo26) | ((with_reducible refine gate_callee (f := 11) rfl ?_); refine goesL_ (some 18) rfl rfl Try.func11 (by kernel_rfl) rfl #[.agg #[.string t234, .string t235, .slice Ao24 t236.length co24, .slice Ao25 t239.length co25, .slice Ao26 t242.length co26]] rfl (by (try simp only [List.map_toArray, List.map_cons, List.map_nil]); first | done | rfl | (simp only [List.length_drop, List.length_take]; rfl)) ?_; (with_reducible refine (impl_PackImage.calls k t234 t235 _ _ t236 _ _ t239 _ _ t242 t246 _ ?side1 ?side2 ?side3 ?side4 ?side5 ?side6 A11.out).mono ?_); (case side1 => refine (Sq.b4 (e := 2) (base := w.heap.size) (ok := fun k_ => (True ∧ some k_ ≠ (.slice Ao15 t224.length co15 : Value).ownBlock)) (n := t236.length) (c := co24) ?_).2.2; exact (by (with_reducible repeat (first | apply Sq.a | apply Sq.b | apply Sq.c)); exact (Sq.a3 (Sq.R5 (Sq.b5 HO238.out BK245.out (by decide)) (fun _ hk => hk.2)) (fun _ h_ => h_.1)))); (case side2 => exact (Sq.b4 HO238.out).2.1); (case side3 => refine (Sq.b4 (e := 9) (base := w.heap.size) (ok := fun k_ => (True ∧ some k_ ≠ (.slice Ao16 t227.length co16 : Value).ownBlock)) (n := t239.length) (c := co25) ?_).2.2; exact (by (with_reducible repeat (first | apply Sq.a | apply Sq.b | apply Sq.c)); exact (Sq.a3 (Sq.R5 (Sq.b5 HO241.out BK245.out (by decide)) (fun _ hk => hk.2)) (fun _ h_ => h_.1)))); (case side4 => exact (Sq.b4 HO241.out).2.1); (case side5 => refine (Kd.S_reads' (e := 42) (base := w.heap.size) (ok := fun k_ => ((some k_ ≠ (.slice Ao24 t236.length co24 : Value).ownBlock ∧ some k_ ≠ (.slice Ao15 t224.length co15 : Value).ownBlock) ∧ some k_ ≠ (.slice Ao17 t230.length co17 : Value).ownBlock)) (n := t242.length) (c := co26) ?_).2.2; exact (by (with_reducible repeat (first | apply Sq.a7 | apply Sq.a8 | apply Sq.a9)); exact (Kd.S_mono (Sq.S5 (Kd.S_types HO244.out BK245.out (by decide)) (fun _ hk => hk.2)) (fun _ h_ => h_.1)))); (case side6 => exact (Kd.S_reads' HO244.out).2.1); rintro e w27 ⟨rfl, hb⟩; refine ⟨_, rfl, ?_⟩; have n0_ := Sq.l (Sq.n (by (with_reducible repeat (first | apply Sq.a | apply Sq.b | apply Sq.c)); exact (Sq.a3 (Sq.R5 (Sq.b5 HO226.out BK245.out (by decide)) (fun _ hk => hk.2)) (fun _ h_ => h_.1))) hb); have n1_ := Sq.l (Sq.n (by (with_reducible repeat (first | apply Sq.a | apply Sq.b | apply Sq.c)); exact (Sq.a3 (Sq.R5 (Sq.b5 HO229.out BK245.out (by decide)) (fun _ hk => hk.2)) (fun _ h_ => h_.1))) hb); have n2_ := Sq.l (Kd.S_below (by (with_reducible repeat (first | apply Sq.a7 | apply Sq.a8 | apply Sq.a9)); exact (Kd.S_mono (Sq.S5 (Kd.S_types HO232.out BK245.out (by decide)) (fun _ hk => hk.2)) (fun _ h_ => h_.1))) hb); have n3_ := Sq.l (Sq.n (by (with_reducible repeat (first | apply Sq.a | apply Sq.b | apply Sq.c)); exact (Sq.a3 (Sq.R5 (Sq.b5 HO238.out BK245.out (by decide)) (fun _ hk => hk.2)) (fun _ h_ => h_.1))) hb); have n4_ := Sq.l (Sq.n (by (with_reducible repeat (first | apply Sq.a | apply Sq.b | apply Sq.c)); exact (Sq.a3 (Sq.R5 (Sq.b5 HO241.out BK245.out (by decide)) (fun _ hk => hk.2)) (fun _ h_ => h_.1))) hb); have n5_ := Sq.l (Kd.S_below (by (with_reducible repeat (first | apply Sq.a7 | apply Sq.a8 | apply Sq.a9)); exact (Kd.S_mono (Sq.S5 (Kd.S_types HO244.out BK245.out (by decide)) (fun _ hk => hk.2)) (fun _ h_ => h_.1))) hb); have n6_ := Sq.l (Sq.m (g := gb220) (o := .cells #[.string a0_0, .string a0_1, .slice A0_2 l0_2.length c0_2, .slice A0_3 l0_3.length c0_3, .slice A0_4 l0_4.length c0_4] 26 (0, 0)) (by (with_reducible repeat (first | refine Sq.d ?_ _ | refine Sq.e ?_ | refine Sq.f ?_ _)); refine Sq.B5 ?_ NB220_245.out; (with_reducible repeat (first | refine Sq.d ?_ _ | refine Sq.e ?_ | refine Sq.f ?_ _)); exact BK220.out) hb); have n7_ := Sq.l (Sq.m (g := gb245) (o := .cells #[.string t234, .string t235, .slice Ao24 t236.length co24, .slice Ao25 t239.length co25, .slice Ao26 t242.length co26] 31 (0, 0)) (by (with_reducible repeat (first | refine Sq.d ?_ _ | refine Sq.e ?_ | refine Sq.f ?_ _)); refine Sq.v (cs := #[.string t234, .string t235, .slice Ao24 t236.length co24, .slice Ao25 t239.length co25, .slice none 0 0]) ?_ 4 _ rfl; (with_reducible repeat (first | refine Sq.d ?_ _ | refine Sq.e ?_ | refine Sq.f ?_ _)); refine Sq.v (cs := #[.string t234, .string t235, .slice Ao24 t236.length co24, .slice none 0 0, .slice none 0 0]) ?_ 3 _ rfl; (with_reducible repeat (first | refine Sq.d ?_ _ | refine Sq.e ?_ | refine Sq.f ?_ _)); refine Sq.v (cs := #[.string t234, .string t235, .slice none 0 0, .slice none 0 0, .slice none 0 0]) ?_ 2 _ rfl; (with_reducible repeat (first | refine Sq.d ?_ _ | refine Sq.e ?_ | refine Sq.f ?_ _)); refine Sq.v (cs := #[.string t234, .string (⟨#[]⟩ : ByteArray), .slice none 0 0, .slice none 0 0, .slice none 0 0]) ?_ 1 _ rfl; (with_reducible repeat (first | refine Sq.d ?_ _ | refine Sq.e ?_ | refine Sq.f ?_ _)); refine Sq.v (cs := #[.string (⟨#[]⟩ : ByteArray), .string (⟨#[]⟩ : ByteArray), .slice none 0 0, .slice none 0 0, .slice none 0 0]) ?_ 0 _ rfl; (with_reducible repeat (first | refine Sq.d ?_ _ | refine Sq.e ?_ | refine Sq.f ?_ _)); exact BK245.out) hb); have n8_ := Sq.l (Sq.a4 (by repeat (first | (with_reducible first | exact HB.out | apply Sq.i | apply Sq.j | apply Sq.k | refine Sq.h ?_ GE220.out | refine Sq.h ?_ GE245.out) | exact HB.out)) hb); clear HO226; clear HO229; clear HO232; clear HO238; clear HO241; clear HO244; clear BK220; clear BK245; clear HB; have HO226 := n0_; have HO229 := n1_; have HO232 := n2_; have HO238 := n3_; have HO241 := n4_; have HO244 := n5_; have BK220 := n6_; have BK245 := n7_; have HB := n8_; clear n0_ n1_ n2_ n3_ n4_ n5_ n6_ n7_ n8_; (try clear hb); (try clear hb2); (try clear hk); (try clear hi)))
  (try simp only [Act.put, List.setIfInBounds_toArray, List.set_cons_zero, List.set_cons_succ])
  have H := HC12.out
  clear HC12
  by_cases c28 : t246.toList = t233.toList
  ·rw [if_pos c28] at H
   have c28b0 : (t246.toList == t233.toList) = true := beq_iff_eq.mpr c28
   have c28b1 : (t246.toList != t233.toList) = false := bne_eq_false_iff_eq.mpr c28
   clear c28
   (first | rw [c28b0] | (simp only [i64_w, i32_w]; rw [c28b0]) | skip)
   replace H := Option.bind_eq_some_iff.mp H
   obtain ⟨⟨t247, t248, t249, t252, t255⟩, A290, H⟩ := H
   (try dsimp only at H)
   have A29 := Sq.l A290
   clear A290
   replace H := Option.bind_eq_some_iff.mp H
   obtain ⟨t258, A300, H⟩ := H
   (try dsimp only at H)
   have A30 := Sq.l A300
   clear A300
   have HC31 := Sq.l H
   clear H
   try go_wp2
   have n0_ := Sq.l (Sq.c HO226.out)
   have n1_ := Sq.l (Sq.c HO229.out)
   have n2_ := Sq.l (Sq.a9 HO232.out)
   have n3_ := Sq.l (Sq.c HO238.out)
   have n4_ := Sq.l (Sq.c HO241.out)
   have n5_ := Sq.l (Sq.a9 HO244.out)
   have n6_ := Sq.l (Sq.e BK220.out)
   have n7_ := Sq.l (Sq.e BK245.out)
   have n8_ := Sq.l (Sq.k HB.out)
   clear HO226 HO229 HO232 HO238 HO241 HO244 BK220 BK245 HB; have HO226 := n0_; have HO229 := n1_; have HO232 := n2_; have HO238 := n3_; have HO241 := n4_; have HO244 := n5_; have BK220 := n6_; have BK245 := n7_; have HB := n8_; clear n0_ n1_ n2_ n3_ n4_ n5_ n6_ n7_ n8_
   refine start_ (n := 5) (S := fun w' => w'.cell? ⟨gb245, 0, none⟩ = some (.string t234) ∧ w'.cell? ⟨gb245, 1, none⟩ = some (.string t235) ∧ w'.cell? ⟨gb245, 2, none⟩ = some (.slice Ao24 t236.length co24) ∧ w'.cell? ⟨gb245, 3, none⟩ = some (.slice Ao25 t239.length co25) ∧ w'.cell? ⟨gb245, 4, none⟩ = some (.slice Ao26 t242.length co26) ∧ w'.cell? ⟨gb220, 0, none⟩ = some (.string a0_0) ∧ w'.cell? ⟨gb220, 1, none⟩ = some (.string a0_1) ∧ w'.cell? ⟨gb220, 2, none⟩ = some (.slice A0_2 l0_2.length c0_2) ∧ w'.cell? ⟨gb220, 3, none⟩ = some (.slice A0_3 l0_3.length c0_3) ∧ w'.cell? ⟨gb220, 4, none⟩ = some (.slice A0_4 l0_4.length c0_4)) (ds := []) #[false, false, false, false, false] (by kernel_rfl) rfl rfl ⟨(Sq.o BK245.out 0).trans rfl, (Sq.o BK245.out 1).trans rfl, (Sq.o BK245.out 2).trans rfl, (Sq.o BK245.out 3).trans rfl, (Sq.o BK245.out 4).trans rfl, (Sq.o BK220.out 0).trans rfl, (Sq.o BK220.out 1).trans rfl, (Sq.o BK220.out 2).trans rfl, (Sq.o BK220.out 3).trans rfl, (Sq.o BK220.out 4).trans rfl⟩ (fun hHeld => ?_)
   generalize w27.drew = w32 at HO226 HO229 HO232 HO238 HO241 HO244 BK220 BK245 HB hHeld ⊢
   refine take_ (i := 0) (N := some 22) (v := ?_) (a' := ?_) #[true, false, false, false, false] rfl rfl (by kernel_rfl) (fun _ _ _ h => h) (Or.inl ⟨by rfl, ?_⟩) hHeld ?_ ?_
   rotate_left
   ·rintro w' ⟨s0, s1, s2, s3, s4, s5, s6, s7, s8, s9⟩
    go_simp
    with_reducible rfl
   rotate_left
   ·simp only [Act.put, List.setIfInBounds_toArray, List.set_cons_zero, List.set_cons_succ, i64_w, i32_w]
    rfl
   refine take_ (i := 1) (N := some 23) (v := ?_) (a' := ?_) #[true, true, false, false, false] rfl rfl (by kernel_rfl) (fun _ _ _ h => h) (Or.inl ⟨by rfl, ?_⟩) hHeld ?_ ?_
   rotate_left
   ·rintro w' ⟨s0, s1, s2, s3, s4, s5, s6, s7, s8, s9⟩
    go_simp
    with_reducible rfl
   rotate_left
   ·simp only [Act.put, List.setIfInBounds_toArray, List.set_cons_zero, List.set_cons_succ, i64_w, i32_w]
    rfl
   refine one_ (i := 2) (N := some 24) #[true, true, true, false, false] rfl rfl (by kernel_rfl) (by decide) (fun K hK => ?_)
   refine goes_ Try.func7 (by kernel_rfl) rfl #[.agg #[.string a0_0, .string a0_1, .slice A0_2 l0_2.length c0_2, .slice A0_3 l0_3.length c0_3, .slice A0_4 l0_4.length c0_4]] (by rfl) rfl rfl (by (try simp only [List.map_toArray, List.map_cons, List.map_nil]); first | done | rfl | (simp only [List.length_drop, List.length_take]; rfl)) ?_
   with_reducible refine (laws_toImage.calls k a0_0 a0_1 _ _ l0_2 _ _ l0_3 _ _ l0_4 t247 t248 t249 t252 t255 _ ?side1 ?side2 ?side3 ?side4 ?side5 ?side6 A29.out).mono ?_
   (case side1 => repeat (first | exact (Sq.a1 HR0_2.out HB.out) | (with_reducible refine Sq.s ?_ _) | (with_reducible refine Sq.t ?_ _) | (with_reducible refine Sq.u ?_)))
   (case side2 => exact HC0_2.out)
   (case side3 => repeat (first | exact (Sq.a1 HR0_3.out HB.out) | (with_reducible refine Sq.s ?_ _) | (with_reducible refine Sq.t ?_ _) | (with_reducible refine Sq.u ?_)))
   (case side4 => exact HC0_3.out)
   (case side5 => repeat (first | exact (Sq.a1 HR0_4.out HB.out) | (with_reducible refine Sq.s ?_ _) | (with_reducible refine Sq.t ?_ _) | (with_reducible refine Sq.u ?_)))
   (case side6 => exact HC0_4.out)
   rintro e w33 ⟨v250, v253, v256, rfl, ho0, ho1, ho2, hb⟩
   refine ⟨_, rfl, ?_⟩
   have n0_ := Sq.l (Sq.p (by (with_reducible repeat (first | apply Sq.a | apply Sq.b | apply Sq.c)); exact HO226.out) (Sq.b7 ho0) hb)
   have n1_ := Sq.l (Sq.p (by (with_reducible repeat (first | apply Sq.a | apply Sq.b | apply Sq.c)); exact HO229.out) (Sq.b7 ho1) hb)
   have n2_ := Sq.l (Kd.S_mono (Kd.S_told (Kd.S_told (Kd.S_old (by (with_reducible repeat (first | apply Sq.a7 | apply Sq.a8 | apply Sq.a9)); exact HO232.out) hb) (Sq.b7 ho0)) (Kd.S_base ho2)) (fun _ h_ => h_.1))
   have n3_ := Sq.l (Sq.p (by (with_reducible repeat (first | apply Sq.a | apply Sq.b | apply Sq.c)); exact HO238.out) (Sq.b7 ho0) hb)
   have n4_ := Sq.l (Sq.p (by (with_reducible repeat (first | apply Sq.a | apply Sq.b | apply Sq.c)); exact HO241.out) (Sq.b7 ho1) hb)
   have n5_ := Sq.l (Kd.S_mono (Kd.S_told (Kd.S_told (Kd.S_old (by (with_reducible repeat (first | apply Sq.a7 | apply Sq.a8 | apply Sq.a9)); exact HO244.out) hb) (Sq.b7 ho0)) (Kd.S_base ho2)) (fun _ h_ => h_.1))
   have n6_ := Sq.l (Sq.a2 (Sq.c1 (Sq.c1 ho0 (Sq.c2 (by (with_reducible repeat (first | apply Sq.a | apply Sq.b | apply Sq.c)); exact HO226.out))) (Sq.c2 (by (with_reducible repeat (first | apply Sq.a | apply Sq.b | apply Sq.c)); exact HO238.out))) (Sq.a5 (by repeat (first | (with_reducible first | exact HB.out | apply Sq.i | apply Sq.j | apply Sq.k | refine Sq.h ?_ GE220.out | refine Sq.h ?_ GE245.out) | exact HB.out))))
   have n7_ := Sq.l (Sq.a2 (Sq.c1 (Sq.c1 ho1 (Sq.c2 (by (with_reducible repeat (first | apply Sq.a | apply Sq.b | apply Sq.c)); exact HO229.out))) (Sq.c2 (by (with_reducible repeat (first | apply Sq.a | apply Sq.b | apply Sq.c)); exact HO241.out))) (Sq.a5 (by repeat (first | (with_reducible first | exact HB.out | apply Sq.i | apply Sq.j | apply Sq.k | refine Sq.h ?_ GE220.out | refine Sq.h ?_ GE245.out) | exact HB.out))))
   have n8_ := Sq.l (Kd.S_lower (Kd.S_new' (Kd.S_new' (Kd.S_new' (Kd.S_new' ho2 (Sq.c2 (by (with_reducible repeat (first | apply Sq.a | apply Sq.b | apply Sq.c)); exact HO226.out))) (Kd.S_lt (by (with_reducible repeat (first | apply Sq.a7 | apply Sq.a8 | apply Sq.a9)); exact HO232.out))) (Sq.c2 (by (with_reducible repeat (first | apply Sq.a | apply Sq.b | apply Sq.c)); exact HO238.out))) (Kd.S_lt (by (with_reducible repeat (first | apply Sq.a7 | apply Sq.a8 | apply Sq.a9)); exact HO244.out))) (Sq.a5 (by repeat (first | (with_reducible first | exact HB.out | apply Sq.i | apply Sq.j | apply Sq.k | refine Sq.h ?_ GE220.out | refine Sq.h ?_ GE245.out) | exact HB.out))))
   have n9_ := Sq.l (Sq.m (g := gb220) (o := .cells #[.string a0_0, .string a0_1, .slice A0_2 l0_2.length c0_2, .slice A0_3 l0_3.length c0_3, .slice A0_4 l0_4.length c0_4] 26 (0, 0)) (by (with_reducible repeat (first | refine Sq.d ?_ _ | refine Sq.e ?_ | refine Sq.f ?_ _)); exact BK220.out) hb)
   have n10_ := Sq.l (Sq.m (g := gb245) (o := .cells #[.string t234, .string t235, .slice Ao24 t236.length co24, .slice Ao25 t239.length co25, .slice Ao26 t242.length co26] 31 (0, 0)) (by (with_reducible repeat (first | refine Sq.d ?_ _ | refine Sq.e ?_ | refine Sq.f ?_ _)); exact BK245.out) hb)
   have n11_ := Sq.l (Sq.a4 (by repeat (first | (with_reducible first | exact HB.out | apply Sq.i | apply Sq.j | apply Sq.k | refine Sq.h ?_ GE220.out | refine Sq.h ?_ GE245.out) | exact HB.out)) hb)
   clear HO226 HO229 HO232 HO238 HO241 HO244 BK220 BK245 HB; have HO226 := n0_; have HO229 := n1_; have HO232 := n2_; have HO238 := n3_; have HO241 := n4_; have HO244 := n5_; have HO251 := n6_; have HO254 := n7_; have HO257 := n8_; have BK220 := n9_; have BK245 := n10_; have HB := n11_; clear n0_ n1_ n2_ n3_ n4_ n5_ n6_ n7_ n8_ n9_ n10_ n11_; (try clear hb); (try clear hb2); (try clear hk); (try clear hi); (try clear ho0); (try clear ho1); (try clear ho2)
   obtain ⟨Ao34, co34, eo34⟩ := Kd.R_slice HO251.out
   (first | subst eo34 | (injection eo34 with f1_ f2_ f3_; have f4_ := f1_.symm; have f5_ := f3_.symm; clear f1_ f2_ f3_; subst f4_; subst f5_))
   obtain ⟨Ao35, co35, eo35⟩ := Kd.R_slice HO254.out
   (first | subst eo35 | (injection eo35 with f1_ f2_ f3_; have f4_ := f1_.symm; have f5_ := f3_.symm; clear f1_ f2_ f3_; subst f4_; subst f5_))
   obtain ⟨Ao36, co36, eo36⟩ := Kd.S_slice HO257.out
   (first | subst eo36 | (injection eo36 with f1_ f2_ f3_; have f4_ := f1_.symm; have f5_ := f3_.symm; clear f1_ f2_ f3_; subst f4_; subst f5_))
   refine hK.out _ _ ⟨(Sq.o BK245.out 0).trans rfl, (Sq.o BK245.out 1).trans rfl, (Sq.o BK245.out 2).trans rfl, (Sq.o BK245.out 3).trans rfl, (Sq.o BK245.out 4).trans rfl, (Sq.o BK220.out 0).trans rfl, (Sq.o BK220.out 1).trans rfl, (Sq.o BK220.out 2).trans rfl, (Sq.o BK220.out 3).trans rfl, (Sq.o BK220.out 4).trans rfl⟩ (fun hHeld => ?_)
   clear hK K
   refine norm_ (a' := ?_) ?_ ?_
   rotate_left
   ·show Act.put _ (some 24) _ = _
    simp only [Act.put, List.setIfInBounds_toArray, List.set_cons_zero, List.set_cons_succ, i64_w, i32_w]
    rfl
   refine one_ (i := 3) (N := some 25) #[true, true, true, true, false] rfl rfl (by kernel_rfl) (by decide) (fun K hK => ?_)
   refine goes_ Try.func9 (by kernel_rfl) rfl #[.agg #[.string t234, .string t235, .slice Ao24 t236.length co24, .slice Ao25 t239.length co25, .slice Ao26 t242.length co26], .agg #[.string t247, .string t248, .slice Ao34 t249.length co34, .slice Ao35 t252.length co35, .slice Ao36 t255.length co36]] (by rfl) rfl rfl (by (try simp only [List.map_toArray, List.map_cons, List.map_nil]); first | done | rfl | (simp only [List.length_drop, List.length_take]; rfl)) ?_
   with_reducible refine (laws_eqImage.calls k t234 t235 _ _ t236 _ _ t239 _ _ t242 t247 t248 _ _ t249 _ _ t252 _ _ t255 t258 _ ?side1 ?side2 ?side3 ?side4 ?side5 ?side6 ?side7 ?side8 ?side9 ?side10 ?side11 ?side12 A30.out).mono ?_
   (case side1 => repeat (first | exact (Sq.b4 HO238.out).2.2 | (with_reducible refine Sq.s ?_ _) | (with_reducible refine Sq.t ?_ _) | (with_reducible refine Sq.u ?_)))
   (case side2 => exact (Sq.b4 HO238.out).2.1)
   (case side3 => repeat (first | exact (Sq.b4 HO241.out).2.2 | (with_reducible refine Sq.s ?_ _) | (with_reducible refine Sq.t ?_ _) | (with_reducible refine Sq.u ?_)))
   (case side4 => exact (Sq.b4 HO241.out).2.1)
   (case side5 => repeat (first | exact (Kd.S_reads' HO244.out).2.2 | (with_reducible refine Sq.s ?_ _) | (with_reducible refine Sq.t ?_ _) | (with_reducible refine Sq.u ?_)))
   (case side6 => exact (Kd.S_reads' HO244.out).2.1)
   (case side7 => repeat (first | exact (Sq.b4 HO251.out).2.2 | (with_reducible refine Sq.s ?_ _) | (with_reducible refine Sq.t ?_ _) | (with_reducible refine Sq.u ?_)))
   (case side8 => exact (Sq.b4 HO251.out).2.1)
   (case side9 => repeat (first | exact (Sq.b4 HO254.out).2.2 | (with_reducible refine Sq.s ?_ _) | (with_reducible refine Sq.t ?_ _) | (with_reducible refine Sq.u ?_)))
   (case side10 => exact (Sq.b4 HO254.out).2.1)
   (case side11 => repeat (first | exact (Kd.S_reads' HO257.out).2.2 | (with_reducible refine Sq.s ?_ _) | (with_reducible refine Sq.t ?_ _) | (with_reducible refine Sq.u ?_)))
   (case side12 => exact (Kd.S_reads' HO257.out).2.1)
   rintro e w37 ⟨rfl, hb⟩
   refine ⟨_, rfl, ?_⟩
   have n0_ := Sq.l (Sq.n (by (with_reducible repeat (first | apply Sq.a | apply Sq.b | apply Sq.c)); exact HO226.out) hb)
   have n1_ := Sq.l (Sq.n (by (with_reducible repeat (first | apply Sq.a | apply Sq.b | apply Sq.c)); exact HO229.out) hb)
   have n2_ := Sq.l (Kd.S_below (by (with_reducible repeat (first | apply Sq.a7 | apply Sq.a8 | apply Sq.a9)); exact HO232.out) hb)
   have n3_ := Sq.l (Sq.n (by (with_reducible repeat (first | apply Sq.a | apply Sq.b | apply Sq.c)); exact HO238.out) hb)
   have n4_ := Sq.l (Sq.n (by (with_reducible repeat (first | apply Sq.a | apply Sq.b | apply Sq.c)); exact HO241.out) hb)
   have n5_ := Sq.l (Kd.S_below (by (with_reducible repeat (first | apply Sq.a7 | apply Sq.a8 | apply Sq.a9)); exact HO244.out) hb)
   have n6_ := Sq.l (Sq.n (by (with_reducible repeat (first | apply Sq.a | apply Sq.b | apply Sq.c)); exact HO251.out) hb)
   have n7_ := Sq.l (Sq.n (by (with_reducible repeat (first | apply Sq.a | apply Sq.b | apply Sq.c)); exact HO254.out) hb)
   have n8_ := Sq.l (Kd.S_below (by (with_reducible repeat (first | apply Sq.a7 | apply Sq.a8 | apply Sq.a9)); exact HO257.out) hb)
   have n9_ := Sq.l (Sq.m (g := gb220) (o := .cells #[.string a0_0, .string a0_1, .slice A0_2 l0_2.length c0_2, .slice A0_3 l0_3.length c0_3, .slice A0_4 l0_4.length c0_4] 26 (0, 0)) (by (with_reducible repeat (first | refine Sq.d ?_ _ | refine Sq.e ?_ | refine Sq.f ?_ _)); exact BK220.out) hb)
   have n10_ := Sq.l (Sq.m (g := gb245) (o := .cells #[.string t234, .string t235, .slice Ao24 t236.length co24, .slice Ao25 t239.length co25, .slice Ao26 t242.length co26] 31 (0, 0)) (by (with_reducible repeat (first | refine Sq.d ?_ _ | refine Sq.e ?_ | refine Sq.f ?_ _)); exact BK245.out) hb)
   have n11_ := Sq.l (Sq.a4 (by repeat (first | (with_reducible first | exact HB.out | apply Sq.i | apply Sq.j | apply Sq.k | refine Sq.h ?_ GE220.out | refine Sq.h ?_ GE245.out) | exact HB.out)) hb)
   clear HO226 HO229 HO232 HO238 HO241 HO244 HO251 HO254 HO257 BK220 BK245 HB; have HO226 := n0_; have HO229 := n1_; have HO232 := n2_; have HO238 := n3_; have HO241 := n4_; have HO244 := n5_; have HO251 := n6_; have HO254 := n7_; have HO257 := n8_; have BK220 := n9_; have BK245 := n10_; have HB := n11_; clear n0_ n1_ n2_ n3_ n4_ n5_ n6_ n7_ n8_ n9_ n10_ n11_; (try clear hb); (try clear hb2); (try clear hk); (try clear hi)
   refine hK.out _ _ ⟨(Sq.o BK245.out 0).trans rfl, (Sq.o BK245.out 1).trans rfl, (Sq.o BK245.out 2).trans rfl, (Sq.o BK245.out 3).trans rfl, (Sq.o BK245.out 4).trans rfl, (Sq.o BK220.out 0).trans rfl, (Sq.o BK220.out 1).trans rfl, (Sq.o BK220.out 2).trans rfl, (Sq.o BK220.out 3).trans rfl, (Sq.o BK220.out 4).trans rfl⟩ (fun hHeld => ?_)
   clear hK K
   refine norm_ (a' := ?_) ?_ ?_
   rotate_left
   ·show Act.put _ (some 25) _ = _
    simp only [Act.put, List.setIfInBounds_toArray, List.set_cons_zero, List.set_cons_succ, i64_w, i32_w]
    rfl
   refine pure_ (i := 4) (N := some 26) (v := ?_) (a' := ?_) #[true, true, true, true, true] rfl rfl (by kernel_rfl) (fun _ _ _ h => h) (Or.inl ⟨by rfl, ?_⟩) ?_ ?_
   rotate_left
   ·intro w'
    go_simp
    with_reducible rfl
   rotate_left
   ·simp only [Act.put, List.setIfInBounds_toArray, List.set_cons_zero, List.set_cons_succ, i64_w, i32_w]
    rfl
   refine done_ (by kernel_rfl) ?_
   go_upto_if 26 with (fail)
   have H := HC31.out
   clear HC31
   by_cases c38 : t258 = true
   ·subst c38
    rw [if_pos rfl] at H
    obtain rfl := Option.some.inj H
    go_wp2
    go_ret
    exact ⟨by first | rfl | (simp [errW_none, errW_some] <;> rfl) | (simp [*, errW_none, errW_some] <;> rfl), by repeat (first | (with_reducible first | exact HB.out | apply Sq.i | apply Sq.j | apply Sq.k | refine Sq.h ?_ GE220.out | refine Sq.h ?_ GE245.out) | exact HB.out)⟩
   ·replace c38 := Bool.eq_false_iff.mpr c38
    subst c38
    rw [if_neg (show ¬ (false = true) by decide)] at H
    obtain rfl := Option.some.inj H
    go_wp2
    go_ret
    exact ⟨by first | rfl | (simp [errW_none, errW_some] <;> rfl) | (simp [*, errW_none, errW_some] <;> rfl), by repeat (first | (with_reducible first | exact HB.out | apply Sq.i | apply Sq.j | apply Sq.k | refine Sq.h ?_ GE220.out | refine Sq.h ?_ GE245.out) | exact HB.out)⟩
  ·rw [if_neg c28] at H
   have c28b0 : (t246.toList == t233.toList) = false := beq_eq_false_iff_ne.mpr c28
   have c28b1 : (t246.toList != t233.toList) = true := bne_iff_ne.mpr c28
   (first | rw [c28b0] | (simp only [i64_w, i32_w]; rw [c28b0]) | skip)
   obtain rfl := Option.some.inj H
   go_wp2
   go_ret
   exact ⟨by first | rfl | (simp [errW_none, errW_some] <;> rfl) | (simp [*, errW_none, errW_some] <;> rfl), by repeat (first | (with_reducible first | exact HB.out | apply Sq.i | apply Sq.j | apply Sq.k | refine Sq.h ?_ GE220.out | refine Sq.h ?_ GE245.out) | exact HB.out)⟩

end Go.Proofs.Ytoifdnnjdohfmaa.QFnExactPackImage
