/- The program's CheckQuote returns what the reference's returns, for all arguments. Conditions: none. -/
import Derived.Test.YtpcpjkbjadgoiaaQFnExactCheckQuotex
import Derived.Test.YtpcpjkbjadgoiaaPl
import Derived.Test.YtpcpjkbjadgoiaaTFnExactCheckQuote
set_option linter.unusedVariables false
set_option linter.unusedSimpArgs false
namespace Go.Proofs.Ytpcpjkbjadgoiaa.Pure
open Go.RowKit Go.Proofs.Ytpcpjkbjadgoiaa.QFnExactCheckQuote Go.Proofs.YtpcpjkbjadgoiaaW.PrintWords Go.Proofs.YtpcpjkbjadgoiaaW.PrintLast Go.Proofs.Ytpcpjkbjadgoiaa.Pl Go.Proofs.YtpcpjkbjadgoiaaW.PrintMore
theorem toInt64S_ends (l : List Int) (hl : (l.length : Int) ≤ 1048576) (d : Nat) : ∀ (i : Nat) (m : List Int), i + d = l.length → m.length = l.length → (∀ j, j < i → m.getD j 0 = l.getD j 0) → Ev (fun k => laws_toInt64S.l0 k l m i) l := by
  induction d with
  | zero =>
    intro i m hi hm hj
    have e : m = l := by
      refine List.ext_getElem hm (fun j h1 h2 => ?_)
      have := hj j (by omega)
      rw [List.getD_eq_getElem?_getD, List.getD_eq_getElem?_getD, List.getElem?_eq_getElem h1, List.getElem?_eq_getElem h2] at this
      simpa using this
    exact Ev.step (f := fun _ => some l) (fun k => by simp only [laws_toInt64S.l0]; rw [if_neg (by omega), e]) (Ev.now _)
  | succ d ih =>
    intro i m hi hm hj
    refine Ev.step (fun k => ?_) (ih (i + 1) (m.set i (rd l i)) (by omega) (by simpa using hm) (fun j hji => ?_))
    · simp only [laws_toInt64S.l0]
      rw [if_pos (by omega), if_pos (by omega), if_pos (by omega), w64 (a := (i : Int) + 1) (by omega) (by omega), Int.toNat_natCast]
      have e1 : ((i : Int) + 1) = ((i + 1 : Nat) : Int) := by omega
      rw [e1]
    · by_cases e : j = i
      · subst e
        rw [List.getD_eq_getElem?_getD, List.getElem?_set_self (by omega)]
        unfold rd; rw [Int.toNat_natCast]; rfl
      · rw [List.getD_eq_getElem?_getD, List.getElem?_set_ne (by omega), ← List.getD_eq_getElem?_getD]
        exact hj j (by omega)
theorem toInt64S_ev (l : List Int) (hl : (l.length : Int) ≤ 1048576) : Ev (fun k => laws_toInt64S.f k l) l := by
  refine Ev.congr (fun k => ?_) (toInt64S_ends l hl l.length 0 (List.replicate l.length 0) (by omega) (by simp) (fun j hj => absurd hj (Nat.not_lt_zero _)))
  unfold laws_toInt64S.f
  rw [if_pos (by omega), if_pos (by omega), Int.toNat_natCast]; rfl
theorem eqInt64S_ends (l : List Int) (hl : (l.length : Int) ≤ 1048576) (d : Nat) : ∀ i : Nat, i + d = l.length → Ev (fun k => laws_eqInt64S.l0 k l l i) true := by
  induction d with
  | zero =>
    intro i hi
    exact Ev.step (f := fun _ => some true) (fun k => by simp only [laws_eqInt64S.l0]; rw [if_neg (by omega)]) (Ev.now _)
  | succ d ih =>
    intro i hi
    refine Ev.step (fun k => ?_) (ih (i + 1) (by omega))
    simp only [laws_eqInt64S.l0]
    rw [if_pos (by omega), if_pos (by omega), if_pos (by omega), if_pos trivial, w64 (a := (i : Int) + 1) (by omega) (by omega)]
    have e1 : ((i : Int) + 1) = ((i + 1 : Nat) : Int) := by omega
    rw [e1]
theorem eqInt64S_ev (l : List Int) (hl : (l.length : Int) ≤ 1048576) : Ev (fun k => laws_eqInt64S.f k l l) true := by
  refine Ev.congr (fun k => ?_) (eqInt64S_ends l hl l.length 0 (by omega))
  unfold laws_eqInt64S.f
  rw [if_pos rfl]; rfl

theorem spec_l01Mod_eq (a m : Int) (hm : 0 < m) (hm1 : m ≤ 4611686018427387904) : spec_l01Mod.f a m = some (a % m) := by
  unfold spec_l01Mod.f; rw [if_neg (by omega)]; exact go_mod a m hm hm1
theorem spec_Word_eq (a : Int) : spec_Word.f a = some (a % 4294967296) := by
  unfold spec_Word.f; rw [spec_l01Mod_eq _ _ (by omega) (by omega)]; rfl

/-- One step of the checksum, as the machine reckons it. -/
def mixStep (x b : Int) : Int := Int.tmod (wrap64 ((wrap64 ((wrap64 (x * 65599)) + (wrap64 b))) + 1)) 2147483629
def mixEnd (x : Int) : Int := Int.tmod (wrap64 ((wrap64 (x * 40503)) + 77)) 2147483629
def mixFrom (s : ByteArray) (x : Int) : Nat → Int
  | 0 => x
  | n + 1 => mixStep (mixFrom s x n) (bt s n)
/-- The checksum of a text. -/
def mixOf (s : ByteArray) (seed : Int) : Int := mixEnd (mixFrom s (seed % 2147483629 + 1) s.size)

theorem impl_mix_ends (s : ByteArray) (hs : (s.size : Int) ≤ 140737488351232) (x : Int) (d : Nat) : ∀ i : Nat, i + d = s.size → Ev (fun k => impl_ymix.l0 k s (mixFrom s x i) s.size i) (mixEnd (mixFrom s x s.size)) := by
  induction d with
  | zero =>
    intro i hi
    obtain rfl : i = s.size := by omega
    exact Ev.step (f := fun _ => some (mixEnd (mixFrom s x s.size))) (fun k => by simp only [impl_ymix.l0]; rw [if_neg (by omega)]; rfl) (Ev.now _)
  | succ d ih =>
    intro i hi
    refine Ev.step (fun k => ?_) (ih (i + 1) (by omega))
    simp only [impl_ymix.l0]
    rw [if_pos (by omega), if_pos (by omega), if_pos (by omega), w64 (a := (i : Int) + 1) (by omega) (by omega)]
    have e1 : ((i : Int) + 1) = ((i + 1 : Nat) : Int) := by omega
    rw [e1]; rfl
theorem impl_ymod_eq (a m : Int) (hm : 0 < m) (hm1 : m ≤ 4611686018427387904) : impl_ymod.f a m = some (a % m) := by
  unfold impl_ymod.f; rw [if_neg (by omega)]; exact go_mod a m hm hm1
theorem impl_ymix_ev (s : ByteArray) (seed : Int) (hs : (s.size : Int) ≤ 140737488351232) : Ev (fun k => impl_ymix.f k s seed) (mixOf s seed) := by
  have h0 := Int.emod_nonneg seed (show (2147483629:Int) ≠ 0 by decide)
  have h1 := Int.emod_lt_of_pos seed (show (0:Int) < 2147483629 by decide)
  refine Ev.congr (f := fun k => impl_ymix.l0 k s (mixFrom s (seed % 2147483629 + 1) 0) s.size (0 : Nat)) (fun k => ?_) (impl_mix_ends s hs _ s.size 0 (by omega))
  unfold impl_ymix.f
  rw [impl_ymod_eq _ _ (by omega) (by omega)]
  simp only [Option.bind_some]
  rw [w64 (by omega) (by omega)]; rfl

theorem spec_mix_ends (s : ByteArray) (hs : (s.size : Int) ≤ 140737488351232) (x : Int) (d : Nat) : ∀ i : Nat, i + d = s.size → Ev (fun k => spec_Mix.l0 k s (mixFrom s x i) i) (mixEnd (mixFrom s x s.size)) := by
  induction d with
  | zero =>
    intro i hi
    obtain rfl : i = s.size := by omega
    exact Ev.step (f := fun _ => some (mixEnd (mixFrom s x s.size))) (fun k => by simp only [spec_Mix.l0]; rw [if_neg (by omega)]; rfl) (Ev.now _)
  | succ d ih =>
    intro i hi
    refine Ev.step (fun k => ?_) (ih (i + 1) (by omega))
    simp only [spec_Mix.l0]
    rw [if_pos (by omega), if_pos (by omega), w64 (a := (i : Int) + 1) (by omega) (by omega)]
    have e1 : ((i : Int) + 1) = ((i + 1 : Nat) : Int) := by omega
    rw [e1]; rfl
theorem spec_Mix_ev (s : ByteArray) (seed : Int) (hs : (s.size : Int) ≤ 65536) : Ev (fun k => spec_Mix.f k s seed) (mixOf s seed) := by
  have h0 := Int.emod_nonneg seed (show (2147483629:Int) ≠ 0 by decide)
  have h1 := Int.emod_lt_of_pos seed (show (0:Int) < 2147483629 by decide)
  refine Ev.congr (f := fun k => spec_Mix.l0 k s (mixFrom s (seed % 2147483629 + 1) 0) (0 : Nat)) (fun k => ?_) (spec_mix_ends s (by omega) _ s.size 0 (by omega))
  unfold spec_Mix.f
  rw [if_neg (by omega), spec_l01Mod_eq _ _ (by omega) (by omega)]
  simp only [Option.bind_some]
  rw [w64 (by omega) (by omega)]; rfl

theorem rdAt (xs : List Int) (j : Nat) (hlt : j < xs.length) : rd xs (j : Int) = xs[j] := by unfold rd; rw [Int.toNat_natCast, List.getD_eq_getElem?_getD, List.getElem?_eq_getElem hlt, Option.getD_some]
theorem isWord_eq (n : Int) : spec_l01IsWord.f n = some (!(regBad n)) := by
  unfold spec_l01IsWord.f regBad
  by_cases h : n ≥ 0
  · rw [if_pos h, decide_eq_true h]; simp
  · rw [if_neg h, decide_eq_false h]; rfl
theorem words_loop (xs : List Int) (hlen : xs.length ≤ 100) (e : Nat) : ∀ j : Nat, j ≤ xs.length → xs.length - j = e → Ev (fun k => spec_l04Words.l0 k xs (xs.length : Int) (j : Int)) (!((xs.drop j).any regBad)) := by
  induction e with
  | zero =>
    intro j hj he
    rw [List.drop_eq_nil_of_le (by omega)]
    exact Ev.step (f := fun _ => some true) (fun k => by simp only [spec_l04Words.l0]; rw [if_neg (by omega)]) (Ev.now _)
  | succ e ih =>
    intro j hj he
    have hlt : j < xs.length := by omega
    rw [List.drop_eq_getElem_cons hlt, List.any_cons]
    have hstep : ∀ k, spec_l04Words.l0 (k + 1) xs (xs.length : Int) (j : Int) = if regBad xs[j] = true then some false else spec_l04Words.l0 k xs (xs.length : Int) (((j + 1 : Nat) : Int)) := by
      intro k
      simp only [spec_l04Words.l0]
      rw [if_pos (by omega), if_pos (by omega), if_pos (by omega), rdAt xs j hlt, isWord_eq, Option.bind_some, w64 (by omega) (by omega)]
      cases regBad xs[j] <;> rfl
    cases hv : regBad xs[j] with
    | true =>
      refine Ev.step (f := fun _ => some false) (fun k => by rw [hstep, hv, if_pos rfl]) ?_
      rw [Bool.true_or]; exact Ev.now _
    | false =>
      refine Ev.step (fun k => by rw [hstep, hv, if_neg (by simp)]) ?_
      rw [Bool.false_or]; exact ih (j + 1) (by omega) (by omega)
def regsB (l : List Int) : Bool := decide (1 ≤ (l.length : Int) ∧ (l.length : Int) ≤ 8) && !(l.any regBad)
theorem spec_regs_ev (l : List Int) : Ev (fun k => spec_l15Regs.f k l) (regsB l) := by
  unfold spec_l15Regs.f regsB
  by_cases h1 : (l.length : Int) ≥ 1
  · by_cases h2 : (l.length : Int) ≤ 8
    · simp only [if_pos h1, if_pos h2]
      rw [decide_eq_true ⟨h1, h2⟩, Bool.true_and]
      have := words_loop l (by omega) l.length 0 (Nat.zero_le _) rfl
      rw [List.drop_zero] at this
      refine Ev.bind (f := fun _ t => some t) ?_ (Ev.now _)
      exact Ev.congr (fun k => by unfold spec_l04Words.f; rw [if_pos rfl]; rfl) this
    · simp only [if_pos h1, if_neg h2]
      rw [decide_eq_false (fun h => h2 h.2)]; exact Ev.now _
  · simp only [if_neg h1]
    rw [decide_eq_false (fun h => h1 h.1)]; exact Ev.now _
theorem impl_regs_eq (l : List Int) : impl_yregsOk.f l = some (regsB l) := by
  unfold impl_yregsOk.f regsB
  by_cases h : 1 ≤ (l.length : Int) ∧ (l.length : Int) ≤ 8
  · rw [if_pos h, decide_eq_true h, Bool.true_and]
  · rw [if_neg h, decide_eq_false h]; rfl

theorem power_both (e : Nat) : ∀ (n x0 x5 : Int), n.toNat ≤ e → n ≤ 4611686018427387904 → ∃ v, Ev (fun k => spec_l15Power.l0 k x0 n x5) v ∧ Ev (fun k => impl_ypower.l0 k x0 n x5) v := by
  induction e with
  | zero =>
    intro n x0 x5 h hb
    have c : ¬ n > 0 := by omega
    exact ⟨x5, Ev.step (f := fun _ => some x5) (fun k => by simp only [spec_l15Power.l0]; rw [if_neg c]) (Ev.now _), Ev.step (f := fun _ => some x5) (fun k => by simp only [impl_ypower.l0]; rw [if_neg c]) (Ev.now _)⟩
  | succ e ih =>
    intro n x0 x5 h hb
    by_cases c : n > 0
    · have hm : Int.tmod n 2 = n % 2 := tmod_nn (by omega)
      have hd : wrap64 (Int.tdiv n 2) = n / 2 := by rw [tdiv_nn (by omega), w64 (by omega) (by omega)]
      have ha : Go.bits .and .i64 n 1 = n % 2 := and1 n
      by_cases c1 : n % 2 = 1
      · obtain ⟨v, v1, v2⟩ := ih (n / 2) (Int.tmod (wrap64 (x0 * x0)) 2147482763) (Int.tmod (wrap64 (x5 * x0)) 2147482763) (by omega) (by omega)
        exact ⟨v, Ev.step (fun k => by simp only [spec_l15Power.l0]; rw [if_pos c, hm, if_pos c1, hd]) v1, Ev.step (fun k => by simp only [impl_ypower.l0]; rw [if_pos c, ha, if_pos c1]) v2⟩
      · obtain ⟨v, v1, v2⟩ := ih (n / 2) (Int.tmod (wrap64 (x0 * x0)) 2147482763) x5 (by omega) (by omega)
        exact ⟨v, Ev.step (fun k => by simp only [spec_l15Power.l0]; rw [if_pos c, hm, if_neg c1, hd]) v1, Ev.step (fun k => by simp only [impl_ypower.l0]; rw [if_pos c, ha, if_neg c1]) v2⟩
    · exact ⟨x5, Ev.step (f := fun _ => some x5) (fun k => by simp only [spec_l15Power.l0]; rw [if_neg c]) (Ev.now _), Ev.step (f := fun _ => some x5) (fun k => by simp only [impl_ypower.l0]; rw [if_neg c]) (Ev.now _)⟩
theorem power_f (a n : Int) (h0 : 0 ≤ a) (h1 : a < 2147482763) (hn : n ≤ 4611686018427387904) : ∃ v, Ev (fun k => spec_l15Power.f k a n) v ∧ Ev (fun k => impl_ypower.f k a n) v := by
  obtain ⟨v, v1, v2⟩ := power_both n.toNat n a 1 (Nat.le_refl _) hn
  refine ⟨v, v1, ?_⟩
  unfold impl_ypower.f
  rw [tmod_nn h0, Int.emod_eq_of_lt h0 h1]
  exact v2
theorem spec_put (x : Int) : spec_PutWord.f x = some (wTx x) := by
  rw [← wTx_eq]
  unfold spec_PutWord.f impl_PutWord.f
  rw [spec_Word_eq, Option.bind_some, Int.emod_eq_of_lt (a := x % 4294967296 / 16777216) (b := 256) (by omega) (by omega)]
theorem ba_eq {x : ByteArray} {L : List UInt8} (h : x.data.toList = L) : x = ⟨L.toArray⟩ := by
  apply ByteArray.ext
  apply Array.toList_inj.1
  rw [h]
theorem size_list (s : ByteArray) : s.data.toList.length = s.size := by rw [Array.length_toList]; rfl
theorem all_loop (l : List Int) (hl : l.length ≤ 8) (nonce : ByteArray) (hn : nonce.size ≤ 65536) (W : List UInt8) (hW : W.length = 4) (d : Nat) : ∀ (i : Nat) (acc : ByteArray), i + d = l.length → acc.data.toList = W ++ regsTx (l.take i) →
    Ev (fun k => spec_l15All.l0 k l nonce acc (i : Int)) ⟨(W ++ regsTx l ++ nonce.data.toList).toArray⟩ := by
  induction d with
  | zero =>
    intro i acc hi ha
    have hs : acc.size = 4 + 4 * l.length := by
      rw [← size_list, ha, List.length_append, hW, regsTx_length, List.length_take]; omega
    rw [List.take_of_length_le (by omega)] at ha
    have he : acc ++ nonce = ⟨(W ++ regsTx l ++ nonce.data.toList).toArray⟩ := ba_eq (by rw [ByteArray.data_append, Array.toList_append, ha])
    refine Ev.step (f := fun _ => some (acc ++ nonce)) (fun k => ?_) ?_
    · simp only [spec_l15All.l0]
      rw [if_neg (by omega), if_pos (by omega)]
    · rw [he]; exact Ev.now _
  | succ d ih =>
    intro i acc hi ha
    have hlt : i < l.length := by omega
    have hs : acc.size ≤ 4 + 4 * 8 := by
      rw [← size_list, ha, List.length_append, hW, regsTx_length, List.length_take]; omega
    have hnext := ih (i + 1) (acc ++ wTx l[i]) (by omega) (by
      rw [List.take_succ_eq_append_getElem hlt, regsTx_snoc, ByteArray.data_append, Array.toList_append, ha, List.append_assoc])
    refine Ev.step (fun k => ?_) hnext
    simp only [spec_l15All.l0]
    rw [if_pos (by omega), if_pos (by omega), rdAt l i hlt, spec_put, Option.bind_some, wTx_size, if_pos (by omega), w64 (by omega) (by omega), show ((i : Int) + 1) = ((i + 1 : Nat) : Int) from by omega]
def quoteT (r : Int) (nonce : ByteArray) (l : List Int) : ByteArray := ⟨((wTx r).data.toList ++ regsTx l ++ nonce.data.toList).toArray⟩
theorem quoteT_size (r : Int) (nonce : ByteArray) (l : List Int) : (quoteT r nonce l).size = 4 + 4 * l.length + nonce.size := by
  show (List.toArray _).size = _
  rw [List.size_toArray, List.length_append, List.length_append, wTx_len, regsTx_length, size_list]
theorem spec_all (r : Int) (nonce : ByteArray) (l : List Int) (hl : l.length ≤ 8) (hn : nonce.size ≤ 65536) : Ev (fun k => spec_l15All.f k r l nonce) (quoteT r nonce l) := by
  unfold spec_l15All.f
  simp only [spec_put, Option.bind_some]
  exact all_loop l hl nonce hn (wTx r).data.toList (wTx_len r) l.length 0 (wTx r) (by omega) (by rw [List.take_zero]; simp [regsTx])
theorem impl_e (r : Int) (nonce : ByteArray) (l : List Int) (hl : l.length ≤ 8) (hn : nonce.size ≤ 4096) : Ev (fun k => impl_yquoteE.f k r nonce l) (Int.tmod (mixOf (quoteT r nonce l) 42) 1073741381) := by
  have hreg : impl_yregsText.f l = some ⟨(regsTx l).toArray⟩ := by unfold impl_yregsText.f; rw [if_pos (by omega)]
  have hjl : Lib.join (([wTx r, ⟨(regsTx l).toArray⟩, nonce] : List ByteArray).map (·.data.toList)) [] = (wTx r).data.toList ++ regsTx l ++ nonce.data.toList := by
    simp [Lib.join, List.intercalate]
  have hj : impl_yjoin.f ([wTx r, ⟨(regsTx l).toArray⟩, nonce] : List ByteArray) = some (quoteT r nonce l) := by
    unfold impl_yjoin.f
    rw [hjl, if_pos ⟨by simp, by simp, by rw [List.length_append, List.length_append, wTx_len, regsTx_length, size_list]; omega⟩]
    rfl
  unfold impl_yquoteE.f
  simp only [wTx_eq, Option.bind_some, hreg, hj]
  refine Ev.bind (impl_ymix_ev (quoteT r nonce l) 42 (by rw [quoteT_size]; omega)) ?_
  exact Ev.now _
theorem yin_dec (a lo hi : Int) : impl_yin.f a lo hi = some (decide (lo ≤ a ∧ a ≤ hi)) := by
  unfold impl_yin.f
  by_cases h : a ≥ lo
  · rw [if_pos h]
    refine congrArg some (decide_eq_decide.mpr ⟨fun h2 => ⟨h, h2⟩, fun h2 => h2.2⟩)
  · rw [if_neg h, decide_eq_false (fun h2 => h h2.1)]
theorem quote_both (a : Int) (nonce : ByteArray) (l : List Int) (r z : Int) : ∃ v, Ev (fun k => spec_CheckQuote.f k a nonce l r z) v ∧ Ev (fun k => impl_CheckQuote.f k a nonce l r z) v := by
  have sbad : Ev (fun k => spec_CheckQuote.j0 k a nonce l true r z) false := Ev.step (f := fun _ => some false) (fun k => by simp only [spec_CheckQuote.j0]; rw [if_pos trivial]) (Ev.now _)
  have ibad : Ev (fun k => impl_CheckQuote.j0 k a nonce l true r z) false := Ev.step (f := fun _ => some false) (fun k => by simp only [impl_CheckQuote.j0]; rw [if_pos trivial]) (Ev.now _)
  have hlk : impl_ylongKey.f ([nonce] : List ByteArray) = some (decide ((nonce.size : Int) > 4096)) := by
    unfold impl_ylongKey.f longKey
    simp
  by_cases c0 : (nonce.size : Int) > 4096
  · refine ⟨false, ?_, ?_⟩
    · unfold spec_CheckQuote.f; simp only [if_pos c0]; exact sbad
    · unfold impl_CheckQuote.f; simp only [hlk, Option.bind_some, decide_eq_true c0, if_true]; exact ibad
  · have hs := spec_regs_ev l
    have hi := impl_regs_eq l
    cases hr : regsB l with
    | false =>
      rw [hr] at hs hi
      refine ⟨false, ?_, ?_⟩
      · unfold spec_CheckQuote.f; simp only [if_neg c0]
        refine Ev.bind hs ?_
        simp only [Bool.false_eq_true, if_false]; exact sbad
      · unfold impl_CheckQuote.f; simp only [hlk, Option.bind_some, decide_eq_false c0, Bool.false_eq_true, if_false, hi]; exact ibad
    | true =>
      rw [hr] at hs hi
      unfold regsB at hr
      rw [Bool.and_eq_true] at hr
      have hlen := of_decide_eq_true hr.1
      by_cases c1 : 2 ≤ a ∧ a ≤ 2147482762
      · obtain ⟨p, p1, p2⟩ := power_f a 1073741381 (by omega) (by omega) (by omega)
        have g1 : ¬ a < 2 := by omega
        have g2 : ¬ a ≥ 2147482763 := by omega
        by_cases c2 : p = 1
        · subst c2
          by_cases c3 : 1 ≤ r ∧ r ≤ 2147482762
          · have g3 : ¬ r < 1 := by omega
            have g4 : ¬ r ≥ 2147482763 := by omega
            by_cases c4 : 0 ≤ z ∧ z ≤ 1073741380
            · have g5 : ¬ z < 0 := by omega
              have g6 : ¬ z ≥ 1073741381 := by omega
              obtain ⟨t, t1, t2⟩ := power_f 4 z (by omega) (by omega) (by omega)
              obtain ⟨u, u1, u2⟩ := power_f a (Int.tmod (mixOf (quoteT r nonce l) 42) 1073741381) (by omega) (by omega) (by have := Int.tmod_lt_of_pos (mixOf (quoteT r nonce l) 42) (show (0 : Int) < 1073741381 by decide); omega)
              have hall := spec_all r nonce l (by omega) (by omega)
              have hmix := spec_Mix_ev (quoteT r nonce l) 42 (by rw [quoteT_size]; omega)
              have he := impl_e r nonce l (by omega) (by omega)
              refine ⟨(t == Int.tmod (wrap64 (r * u)) 2147482763), ?_, ?_⟩
              · unfold spec_CheckQuote.f; simp only [if_neg c0]
                refine Ev.bind hs ?_
                simp only [if_true, if_neg g1, if_neg g2]
                refine Ev.bind p1 ?_
                simp only [if_true, if_neg g3, if_neg g4, if_neg g5, decide_eq_false g6]
                refine Ev.step (f := fun k => (spec_l15All.f k r l nonce).bind fun t123 => ((spec_Mix.f k t123 42).bind fun t124 => ((spec_l15Power.f k 4 z).bind fun t125 => ((spec_l15Power.f k a (Int.tmod t124 1073741381)).bind fun t126 => (some (t125 == (Int.tmod (wrap64 (r * t126)) 2147482763))))))) (fun k => by simp only [spec_CheckQuote.j0]; rw [if_neg (by simp)]) ?_
                exact Ev.bind hall (Ev.bind hmix (Ev.bind t1 (Ev.bind u1 (Ev.now _))))
              · unfold impl_CheckQuote.f
                simp only [hlk, Option.bind_some, decide_eq_false c0, Bool.false_eq_true, if_false, hi, if_true, yin_dec, decide_eq_true c1]
                refine Ev.bind p2 ?_
                simp only [if_true, decide_eq_true c3, decide_eq_true c4, Bool.not_true]
                refine Ev.step (f := fun k => (impl_ypower.f k 4 z).bind fun t153 => ((impl_yquoteE.f k r nonce l).bind fun t154 => ((impl_ypower.f k a t154).bind fun t155 => (some (t153 == (Int.tmod (wrap64 (r * t155)) 2147482763)))))) (fun k => by simp only [impl_CheckQuote.j0]; rw [if_neg (by simp)]) ?_
                exact Ev.bind t2 (Ev.bind he (Ev.bind u2 (Ev.now _)))
            · refine ⟨false, ?_, ?_⟩
              · unfold spec_CheckQuote.f; simp only [if_neg c0]
                refine Ev.bind hs ?_
                simp only [if_true, if_neg g1, if_neg g2]
                refine Ev.bind p1 ?_
                simp only [if_true, if_neg g3, if_neg g4]
                by_cases c5 : z < 0
                · simp only [if_pos c5]; exact sbad
                · have c6 : z ≥ 1073741381 := by omega
                  simp only [if_neg c5, decide_eq_true c6]; exact sbad
              · unfold impl_CheckQuote.f
                simp only [hlk, Option.bind_some, decide_eq_false c0, Bool.false_eq_true, if_false, hi, if_true, yin_dec, decide_eq_true c1]
                refine Ev.bind p2 ?_
                simp only [if_true, decide_eq_true c3, decide_eq_false c4, Bool.not_false]
                exact ibad
          · refine ⟨false, ?_, ?_⟩
            · unfold spec_CheckQuote.f; simp only [if_neg c0]
              refine Ev.bind hs ?_
              simp only [if_true, if_neg g1, if_neg g2]
              refine Ev.bind p1 ?_
              simp only [if_true]
              by_cases c5 : r < 1
              · simp only [if_pos c5]; exact sbad
              · have c6 : r ≥ 2147482763 := by omega
                simp only [if_neg c5, if_pos c6]; exact sbad
            · unfold impl_CheckQuote.f
              simp only [hlk, Option.bind_some, decide_eq_false c0, Bool.false_eq_true, if_false, hi, if_true, yin_dec, decide_eq_true c1]
              refine Ev.bind p2 ?_
              simp only [if_true, decide_eq_false c3, Bool.false_eq_true, if_false]
              exact ibad
        · refine ⟨false, ?_, ?_⟩
          · unfold spec_CheckQuote.f; simp only [if_neg c0]
            refine Ev.bind hs ?_
            simp only [if_true, if_neg g1, if_neg g2]
            refine Ev.bind p1 ?_
            simp only [if_neg c2]; exact sbad
          · unfold impl_CheckQuote.f
            simp only [hlk, Option.bind_some, decide_eq_false c0, Bool.false_eq_true, if_false, hi, if_true, yin_dec, decide_eq_true c1]
            refine Ev.bind p2 ?_
            simp only [if_neg c2]; exact ibad
      · refine ⟨false, ?_, ?_⟩
        · unfold spec_CheckQuote.f; simp only [if_neg c0]
          refine Ev.bind hs ?_
          simp only [if_true]
          by_cases c5 : a < 2
          · simp only [if_pos c5]; exact sbad
          · have c6 : a ≥ 2147482763 := by omega
            simp only [if_neg c5, if_pos c6]; exact sbad
        · unfold impl_CheckQuote.f
          simp only [hlk, Option.bind_some, decide_eq_false c0, Bool.false_eq_true, if_false, hi, if_true, yin_dec, decide_eq_false c1]
          exact ibad
theorem FnExactCheckQuote : laws_FnExactCheckQuote.Pure := by
  intro a nonce l r z _ _ _ _ _
  refine Ev.rounds (r := true) ?_
  unfold laws_FnExactCheckQuote.f laws_toQuote.f
  by_cases h0 : (nonce.size : Int) > 1048576
  · simp only [if_pos h0]; exact Ev.now _
  · by_cases h1 : (l.length : Int) > 1048576
    · simp only [if_neg h0, if_pos h1]; exact Ev.now _
    · simp only [if_neg h0, if_neg h1, Option.bind_some]
      have t1 := toInt64S_ev l (by omega)
      obtain ⟨v, v1, v2⟩ := quote_both a nonce l r z
      have hne : (v != v) = false := by simp
      refine Ev.bind t1 (Ev.bind v1 (Ev.bind t1 (Ev.bind v2 ?_)))
      simp only [hne, Bool.false_eq_true, if_false]
      refine Ev.bind t1 (Ev.bind (eqInt64S_ev l (by omega)) ?_)
      simp only [if_true]
      exact Ev.now _

end Go.Proofs.Ytpcpjkbjadgoiaa.Pure
