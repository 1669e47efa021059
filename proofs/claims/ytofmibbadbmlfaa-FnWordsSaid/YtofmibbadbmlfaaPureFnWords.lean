/- A drawn number as a word and as a signed number: both are the same number modulo 2^32, and the word comes back from its bytes (P1). Conditions: none. -/
import Derived.Test.YtofmibbadbmlfaaQFnWordsx
import Derived.Test.YtofmibbadbmlfaaPl
set_option linter.unusedVariables false
set_option linter.unusedSimpArgs false
namespace Go.Proofs.Ytofmibbadbmlfaa.Pure
open Go.RowKit Go.Proofs.Ytofmibbadbmlfaa.QFnWords Go.Proofs.YtofmibbadbmlfaaW.PrintWords Go.Proofs.YtofmibbadbmlfaaW.PrintLast Go.Proofs.Ytofmibbadbmlfaa.Pl Go.Proofs.YtofmibbadbmlfaaW.PrintMore
theorem spec_l01Mod_eq (a m : Int) (hm : 0 < m) (hm1 : m ≤ 4611686018427387904) : spec_l01Mod.f a m = some (a % m) := by
  unfold spec_l01Mod.f; rw [if_neg (by omega)]; exact go_mod a m hm hm1
theorem spec_Word_eq (a : Int) : spec_Word.f a = some (a % 4294967296) := by
  unfold spec_Word.f; rw [spec_l01Mod_eq _ _ (by omega) (by omega)]; rfl

theorem impl_ybig_end (k : Nat) (s : ByteArray) (hk : 2 ≤ k) : impl_ybig.f k [s] = some (decide ((s.size : Int) > 65536)) := by
  obtain ⟨k, rfl⟩ : ∃ m, k = m + 1 + 1 := ⟨k - 2, by omega⟩
  unfold impl_ybig.f
  simp only [impl_ybig.l0]
  have e0 : rdOf ByteArray.empty [s] 0 = s := rfl
  have e1 : (([s] : List ByteArray).length : Int) = 1 := rfl
  have e2 : wrap64 (0 + 1) = 1 := by unfold wrap64; omega
  rw [e0, e1, e2, if_pos (by decide), if_pos (by decide), if_pos (by decide)]
  by_cases h : (s.size : Int) > 65536
  · rw [if_pos h, decide_eq_true h]
  · rw [if_neg h, decide_eq_false h, if_neg (by decide)]
theorem impl_ybig_ev (s : ByteArray) : Ev (fun k => impl_ybig.f k [s]) (decide ((s.size : Int) > 65536)) := ⟨2, fun k hk => impl_ybig_end k s hk⟩

def wordAt (s : ByteArray) (n : Int) : Int := bt s n + bt s (n + 1) * 256 + bt s (n + 2) * 65536 + bt s (n + 3) * 16777216
theorem wordAt_range (s : ByteArray) (n : Int) : 0 ≤ wordAt s n ∧ wordAt s n ≤ 4294967295 := by
  unfold wordAt
  have h0 := bt_range s n; have h1 := bt_range s (n + 1); have h2 := bt_range s (n + 2); have h3 := bt_range s (n + 3)
  omega
theorem impl_ywordAt_eq (s : ByteArray) (n : Int) (h0 : 0 ≤ n) (h1 : n + 3 < (s.size : Int)) (h2 : (s.size : Int) ≤ 140737488351232) : impl_ywordAt.f s n = some (wordAt s n) := by
  unfold impl_ywordAt.f wordAt
  have b0 := bt_range s n; have b1 := bt_range s (n + 1); have b2 := bt_range s (n + 2); have b3 := bt_range s (n + 3)
  rw [w64 (a := n + 1) (by omega) (by omega), w64 (a := n + 2) (by omega) (by omega), w64 (a := n + 3) (by omega) (by omega)]
  rw [if_pos (by omega), if_pos (by omega), if_pos (by omega), if_pos (by omega), if_pos (by omega), if_pos (by omega), if_pos (by omega), if_pos (by omega)]
  rw [w64 (a := bt s n) (by omega) (by omega), w64 (a := bt s (n + 1)) (by omega) (by omega), w64 (a := bt s (n + 2)) (by omega) (by omega), w64 (a := bt s (n + 3)) (by omega) (by omega)]
  rw [w64 (a := bt s (n + 1) * 256) (by omega) (by omega), w64 (a := bt s (n + 2) * 65536) (by omega) (by omega), w64 (a := bt s (n + 3) * 16777216) (by omega) (by omega)]
  rw [or_join' 8 (bt s (n + 1) * 256) (bt s n) (by omega) (by omega) (by omega) (by omega) (by omega) (by omega), or_join' 16 (bt s (n + 2) * 65536) (bt s n + bt s (n + 1) * 256) (by omega) (by omega) (by omega) (by omega) (by omega) (by omega), or_join' 24 (bt s (n + 3) * 16777216) _ (by omega) (by omega) (by omega) (by omega) (by omega) (by omega)]
theorem impl_yfits_eq (n at_ size : Int) (hn0 : 0 ≤ n) (hn : n ≤ 140737488351232) (h0 : -9223372036854775808 ≤ at_) : impl_yfits.f n at_ size = some (decide (0 ≤ at_ ∧ 0 ≤ size ∧ at_ + size ≤ n ∧ at_ ≤ n)) := by
  unfold impl_yfits.f
  by_cases c0 : at_ ≥ 0
  · rw [if_pos c0]
    by_cases c1 : size ≥ 0
    · rw [if_pos c1]
      by_cases c2 : at_ ≤ n
      · rw [if_pos c2, w64 (by omega) (by omega)]
        congr 1
        by_cases c3 : size ≤ n - at_
        · rw [decide_eq_true c3, decide_eq_true (by omega)]
        · rw [decide_eq_false c3, decide_eq_false (by omega)]
      · rw [if_neg c2, decide_eq_false (by omega)]
    · rw [if_neg c1, decide_eq_false (by omega)]
  · rw [if_neg c0, decide_eq_false (by omega)]
def getOk (s : ByteArray) (n : Int) : Prop := (s.size : Int) ≤ 65536 ∧ 0 ≤ n ∧ n + 4 ≤ (s.size : Int)
theorem impl_GetWord_end (k : Nat) (hk : 2 ≤ k) (s : ByteArray) (n : Int) (hn : -9223372036854775808 ≤ n) : (getOk s n ∧ impl_GetWord.f k s n = some (true, wordAt s n)) ∨ (¬ getOk s n ∧ impl_GetWord.f k s n = some (false, 0)) := by
  unfold impl_GetWord.f getOk
  rw [impl_ybig_end k s hk]
  by_cases h0 : (s.size : Int) > 65536
  · rw [decide_eq_true h0]; right; exact ⟨fun h => by omega, rfl⟩
  · rw [decide_eq_false h0]
    simp only [Option.bind_some]
    rw [if_neg (by simp), impl_yfits_eq _ _ _ (by omega) (by omega) hn]
    by_cases h1 : 0 ≤ n ∧ (0:Int) ≤ 4 ∧ n + 4 ≤ (s.size : Int) ∧ n ≤ (s.size : Int)
    · rw [decide_eq_true h1]
      simp only [Option.bind_some, if_true]
      rw [impl_ywordAt_eq s n (by omega) (by omega) (by omega)]; left; exact ⟨by omega, rfl⟩
    · rw [decide_eq_false h1]; right; exact ⟨fun h => h1 (by omega), rfl⟩

theorem u64_wrap_range (x : Int) : 0 ≤ IntKind.u64.wrap x ∧ IntKind.u64.wrap x ≤ 18446744073709551615 := by
  simp only [IntKind.wrap, IntKind.signed, IntKind.bits, Bool.false_and]
  rw [if_neg (by simp)]; omega
theorem srcOut_range (v m a : Int) (h0 : 1 < a) (h1 : a ≤ 4611686018427387904) : 0 ≤ srcOut v m a ∧ srcOut v m a < a := by
  unfold srcOut
  have hr := u64_wrap_range (v + m / 1048576)
  rw [u64w (a := a) (by omega) (by omega), tmod_nn hr.1]
  have e0 := Int.emod_nonneg (IntKind.u64.wrap (v + m / 1048576)) (show a ≠ 0 by omega)
  have e1 := Int.emod_lt_of_pos (IntKind.u64.wrap (v + m / 1048576)) (show 0 < a by omega)
  rw [w64 (by omega) (by omega)]
  exact ⟨e0, e1⟩
/-- A draw: its number is below the bound, its place stays in the code or behind it. -/
theorem draw_n (l : List Int) (hl : (l.length : Int) ≤ 140737488351232) (p m z a : Int) (h0 : 0 ≤ p) (hp : p ≤ (l.length : Int)) (ha : 1 < a) (ha1 : a ≤ 4611686018427387904) :
    ∃ r p' m', spec_l01Src_n.f l p m z a = some (r, p', m', z) ∧ 0 ≤ p' ∧ p' ≤ (l.length : Int) ∧ 0 ≤ r ∧ r < a := by
  unfold spec_l01Src_n.f
  rw [if_neg (by omega), u64w (a := a) (by omega) (by omega), if_neg (by omega)]
  by_cases c : p < (l.length : Int)
  · rw [if_pos c, if_pos h0, w64 (a := p + 1) (by omega) (by omega)]
    obtain ⟨r0, r1⟩ := srcOut_range (IntKind.u64.wrap (rd l p)) (srcMix m) a ha ha1
    exact ⟨_, _, _, rfl, by omega, by omega, r0, r1⟩
  · rw [if_neg c]
    obtain ⟨r0, r1⟩ := srcOut_range 0 (srcMix m) a ha ha1
    exact ⟨_, _, _, rfl, h0, hp, r0, r1⟩

theorem draw_one (l : List Int) (hl : (l.length : Int) ≤ 140737488351232) (p m z a : Int) (h0 : 0 ≤ p) (hp : p ≤ (l.length : Int)) (ha : 1 < a) (ha1 : a ≤ 4611686018427387904) :
    ∃ b p' m', spec_l01Src_one.f l p m z a = some (b, p', m', z) ∧ 0 ≤ p' ∧ p' ≤ (l.length : Int) := by
  obtain ⟨r, p', m', e, h1, h2, _, _⟩ := draw_n l hl p m z a h0 hp ha ha1
  unfold spec_l01Src_one.f
  rw [e]
  exact ⟨_, _, _, rfl, h1, h2⟩
theorem draw_num (l : List Int) (hl : (l.length : Int) ≤ 140737488351232) (p m z : Int) (h0 : 0 ≤ p) (hp : p ≤ (l.length : Int)) :
    ∃ n p' m', spec_l01Src_num.f l p m z = some (n, p', m', z) ∧ 0 ≤ p' ∧ p' ≤ (l.length : Int) := by
  unfold spec_l01Src_num.f
  simp only [Option.bind_some]
  obtain ⟨b, p1, m1, e1, h1, h2⟩ := draw_one l hl p m z 3 h0 hp (by omega) (by omega)
  rw [e1]
  simp only [Option.bind_some]
  by_cases hb : b = true
  · rw [if_pos hb]
    obtain ⟨r, p', m', e, h3, h4, _, _⟩ := draw_n l hl p1 m1 z 1000 h1 h2 (by omega) (by omega)
    rw [e]
    exact ⟨_, _, _, rfl, h3, h4⟩
  · rw [if_neg hb]
    obtain ⟨r, p2, m2, e, h3, h4, h5, h6⟩ := draw_n l hl p1 m1 z 15 h1 h2 (by omega) (by omega)
    rw [e]
    simp only [Option.bind_some]
    rw [if_pos h5, if_pos (by simp only [List.length_cons, List.length_nil]; omega)]
    obtain ⟨r', p', m', e', h7, h8, _, _⟩ := draw_n l hl p2 m2 z 3 h3 h4 (by omega) (by omega)
    rw [e']
    exact ⟨_, _, _, rfl, h7, h8⟩

theorem bt_str (l : List Int) (i : Int) (h0 : 0 ≤ i) (h1 : i < (l.length : Int)) (h2 : 0 ≤ rd l i ∧ rd l i ≤ 255) : bt (strOfNums l) i = rd l i := by
  obtain ⟨n, rfl⟩ := Int.eq_ofNat_of_zero_le h0
  unfold bt rd at *
  have hs : (strOfNums l).size = l.length := strOfNums_size l
  have hn : n < l.length := by omega
  simp only [Int.toNat_natCast] at *
  rw [dif_pos (by rw [hs]; exact hn)]
  rw [List.getD_eq_getElem?_getD, List.getElem?_eq_getElem hn] at *
  simp only [Option.getD_some] at *
  have e : (strOfNums l)[n]'(by rw [hs]; exact hn) = UInt8.ofNat (l[n]).toNat := by
    show (strOfNums l).data[n]'_ = _
    simp [strOfNums]
  rw [e]
  have : (UInt8.ofNat (l[n]).toNat).toNat = (l[n]).toNat := by simp; omega
  rw [this]; omega
theorem FnWords : laws_FnWords.Pure := by
  intro l hl hl2 _
  refine ⟨2, ?_⟩
  unfold laws_FnWords.f
  by_cases hb : (l.length : Int) > 1048576
  · rw [if_pos hb]
  · rw [if_neg hb]
    have hd : ∃ n, spec_DrawWord.f l = some n := by
      unfold spec_DrawWord.f spec_l01Source.f
      simp only [Option.bind_some]
      obtain ⟨n, p', m', e, _, _⟩ := draw_num l (by omega) 0 (srcSeed l (min l.length 64)) (min (l.length : Int) 12) (by omega) (by omega)
      exact ⟨n, by rw [e]; rfl⟩
    obtain ⟨n, hn⟩ := hd
    rw [hn, Option.bind_some]
    unfold impl_Word.f impl_Signed.f impl_PutWord.f spec_Signed.f
    rw [Option.bind_some, Option.bind_some, Option.bind_some, spec_Word_eq]
    have hw0 : 0 ≤ n % 4294967296 := by omega
    have hw1 : n % 4294967296 < 4294967296 := by omega
    have hsz : (strOfNums [n % 4294967296 % 256, n % 4294967296 / 256 % 256, n % 4294967296 / 65536 % 256, n % 4294967296 / 16777216]).size = 4 := strOfNums_size _
    have hg : impl_GetWord.f 2 (strOfNums [n % 4294967296 % 256, n % 4294967296 / 256 % 256, n % 4294967296 / 65536 % 256, n % 4294967296 / 16777216]) 0 = some (true, n % 4294967296) := by
      rcases impl_GetWord_end 2 (Nat.le_refl _) (strOfNums [n % 4294967296 % 256, n % 4294967296 / 256 % 256, n % 4294967296 / 65536 % 256, n % 4294967296 / 16777216]) 0 (by omega) with ⟨_, e⟩ | ⟨h, _⟩
      · rw [e]
        congr 2
        unfold wordAt
        rw [bt_str _ 0 (by omega) (by simp) (by simp [rd]; omega), bt_str _ (0 + 1) (by omega) (by simp) (by simp [rd]; omega), bt_str _ (0 + 2) (by omega) (by simp) (by simp [rd]; omega), bt_str _ (0 + 3) (by omega) (by simp) (by simp [rd]; omega)]
        simp [rd]; omega
      · exact absurd ⟨by rw [hsz]; omega, by omega, by rw [hsz]; omega⟩ h
    rw [hg, Option.bind_some, Option.bind_some, if_pos rfl, Option.bind_some]
    by_cases h : n % 4294967296 ≥ 2147483648
    · rw [if_pos h, Option.bind_some]
      have e1 : wrap64 (wrap32 (n % 4294967296)) = n % 4294967296 - 4294967296 := by unfold wrap64 wrap32; omega
      have e2 : wrap64 (n % 4294967296 - 4294967296) = n % 4294967296 - 4294967296 := by unfold wrap64; omega
      rw [e1, e2, if_pos rfl, Option.bind_some, if_pos (by omega)]
      simp
    · rw [if_neg h, Option.bind_some]
      have e1 : wrap64 (wrap32 (n % 4294967296)) = n % 4294967296 := by unfold wrap64 wrap32; omega
      rw [e1, if_pos rfl, Option.bind_some, if_pos (by omega)]
      simp

end Go.Proofs.Ytofmibbadbmlfaa.Pure
