-- Written for this claim by this session's own driver (wip/xprint.py).
import Derived.Test.YtpcpjkbjadgoiaaQFnExactCryptx0
import Derived.Test.YtpcpjkbjadgoiaaQFnExactCryptx1
namespace Go.Proofs.Ytpcpjkbjadgoiaa.QFnExactCrypt
open Go.RowKit Go.Proofs.YtpcpjkbjadgoiaaW.PrintWords Go.Proofs.YtpcpjkbjadgoiaaW.PrintLast Go.Proofs.YtpcpjkbjadgoiaaW.PrintMore
attribute [local go_sem] max2_int min2_int max_two min_two max_three min_three max_four min_four   -- for this text's walks alone
set_option linter.unusedVariables false
set_option linter.unusedSimpArgs false

/-! ### impl_Crypt: function 8 -/
open Go.Proofs.Ytpcpjkbjadgoiaa.Pl Go.Proofs.Ytpcpjkbjadgoiaa.Cw in
theorem impl_mix_ends (s : ByteArray) (hs : (s.size : Int) ≤ 140737488351232) (x : Int) (d : Nat) : ∀ i : Nat, i + d = s.size → Ev (fun k => impl_ymix.l0 k s (mixFrom s x i) s.size i) (mixEnd (mixFrom s x s.size)) := by
  induction d with
  | zero =>
    intro i hi
    obtain rfl : i = s.size := by omega
    exact Ev.step (f := fun _ => some (mixEnd (mixFrom s x s.size))) (fun k => by simp only [impl_ymix.l0]; rw [if_neg (by omega)]; rfl) (Ev.now _)
  | succ d ih =>
    intro i hi
    refine Ev.step (fun k => ?_) (ih (i + 1) (by omega))
    simp only [impl_ymix.l0]
    rw [if_pos (by omega), if_pos (by omega), if_pos (by omega), w64 (a := (i : Int) + 1) (by omega) (by omega)]
    have e1 : ((i : Int) + 1) = ((i + 1 : Nat) : Int) := by omega
    rw [e1]; rfl
open Go.Proofs.Ytpcpjkbjadgoiaa.Pl Go.Proofs.Ytpcpjkbjadgoiaa.Cw in
theorem impl_ymod_eq (a m : Int) (hm : 0 < m) (hm1 : m ≤ 4611686018427387904) : impl_ymod.f a m = some (a % m) := by
  unfold impl_ymod.f; rw [if_neg (by omega)]; exact go_mod a m hm hm1
open Go.Proofs.Ytpcpjkbjadgoiaa.Pl Go.Proofs.Ytpcpjkbjadgoiaa.Cw in
theorem impl_ymix_ev (s : ByteArray) (seed : Int) (hs : (s.size : Int) ≤ 140737488351232) : Ev (fun k => impl_ymix.f k s seed) (mixOf s seed) := by
  have h0 := Int.emod_nonneg seed (show (2147483629:Int) ≠ 0 by decide)
  have h1 := Int.emod_lt_of_pos seed (show (0:Int) < 2147483629 by decide)
  refine Ev.congr (f := fun k => impl_ymix.l0 k s (mixFrom s (seed % 2147483629 + 1) 0) s.size (0 : Nat)) (fun k => ?_) (impl_mix_ends s hs _ s.size 0 (by omega))
  unfold impl_ymix.f
  rw [impl_ymod_eq _ _ (by omega) (by omega)]
  simp only [Option.bind_some]
  rw [w64 (by omega) (by omega)]; rfl
theorem impl_putW (x : Int) : impl_PutWord.f x = some (Go.Proofs.Ytpcpjkbjadgoiaa.Cw.wordTx x) := rfl
theorem icellAt {w : World} {g cap : Nat} {bs : List UInt8} (h : Go.Proofs.Ytpcpjkbjadgoiaa.By.BRow w g cap bs) (j : Nat) (x : UInt8) (hj : bs[j]? = some x) : w.cell? ⟨g, j, none⟩ = some (.int .u8 (x.toNat : Int)) := by
  obtain ⟨hl, rfl⟩ := List.getElem?_eq_some_iff.mp hj
  exact h.cell j hl
theorem ibrLen {w : World} {g cap : Nat} {bs : List UInt8} (h : Go.Proofs.Ytpcpjkbjadgoiaa.By.BRow w g cap bs) : bs.length ≤ cap := h.1
theorem ishr (v : Int) (q : Nat) : v / 2 ^ (8 * q) / 256 = v / 2 ^ (8 * (q + 1)) := by
  rw [Int.ediv_ediv_of_nonneg (by exact_mod_cast Nat.zero_le (2 ^ (8 * q)))]
  congr 1
  rw [show 8 * (q + 1) = 8 * q + 8 from by omega, Int.pow_add]
  rfl
theorem ione (W : World) (s : ByteArray) (e : TypeId) : Kd.C Kd.string (W.alloc (Obj.cells #[Value.string s] e)) (some ⟨W.heap.size, 0, none⟩) ([s] : List ByteArray).length [s] := by
  refine ⟨rfl, by simp, fun _ => ⟨⟨W.heap.size, 0, none⟩, rfl, fun j p hj => ⟨[.string p], rfl, rfl, fun i u hu => ?_⟩⟩⟩
  have hj0 : j = 0 := by
    rcases Nat.eq_zero_or_pos j with h | h
    · exact h
    · rw [List.getElem?_eq_none (by simp; omega)] at hj; exact absurd hj (by simp)
  have hi0 : i = 0 := by
    rcases Nat.eq_zero_or_pos i with h | h
    · exact h
    · rw [List.getElem?_eq_none (by simp; omega)] at hu; exact absurd hu (by simp)
  subst hj0
  subst hi0
  simp at hj hu
  subst hj
  subst hu
  simp [Kd.string, Kd.scalar, Addr.add]
theorem ithree (W : World) (s0 s1 s2 : ByteArray) (e : TypeId) : Kd.C Kd.string (W.alloc (Obj.cells #[Value.string s0, Value.string s1, Value.string s2] e)) (some ⟨W.heap.size, 0, none⟩) ([s0, s1, s2] : List ByteArray).length [s0, s1, s2] := by
  refine ⟨rfl, by simp, fun _ => ⟨⟨W.heap.size, 0, none⟩, rfl, fun j p hj => ⟨[.string p], rfl, rfl, fun i u hu => ?_⟩⟩⟩
  have hi0 : i = 0 := by
    rcases Nat.eq_zero_or_pos i with h | h
    · exact h
    · rw [List.getElem?_eq_none (by simp; omega)] at hu; exact absurd hu (by simp)
  subst hi0
  simp at hu
  subst hu
  match j, hj with
  | 0, hj => simp at hj; subst hj; simp [Kd.string, Kd.scalar, Addr.add]
  | 1, hj => simp at hj; subst hj; simp [Kd.string, Kd.scalar, Addr.add]
  | 2, hj => simp at hj; subst hj; simp [Kd.string, Kd.scalar, Addr.add]
  | n + 3, hj => simp at hj
theorem iBig (s : ByteArray) : impl_ybig.f 2 [s] = some (decide ((s.size : Int) > 65536)) := by
  unfold impl_ybig.f
  simp only [impl_ybig.l0]
  have e0 : rdOf ByteArray.empty [s] 0 = s := rfl
  have e1 : (([s] : List ByteArray).length : Int) = 1 := rfl
  have e2 : wrap64 (0 + 1) = 1 := by unfold wrap64; omega
  rw [e0, e1, e2, if_pos (by decide), if_pos (by decide), if_pos (by decide)]
  by_cases h : (s.size : Int) > 65536
  · rw [if_pos h, decide_eq_true h]
  · rw [if_neg h, decide_eq_false h, if_neg (by decide)]
theorem ilk (a0 : ByteArray) (W : World) (b : Nat) (hb : b = W.heap.size) : Calls Try.prog 26 #[.slice (some ⟨b, 0, none⟩) 1 1] (W.alloc (Obj.cells #[Value.string a0] 9)) fun e w' => e = .returned (.bool (decide ((a0.size : Int) > 4096))) ∧ Below W.heap.size W w' := by
  subst hb
  refine (impl_ylongKey.calls (some ⟨W.heap.size, 0, none⟩) 1 [a0] _ _ (ione W a0 9) (by simp) (by unfold impl_ylongKey.f; rfl)).mono ?_
  rintro e w' ⟨rfl, hb⟩
  exact ⟨by simp [longKey], (below_alloc (Below.refl _ _) _).trans (hb.mono (by simp))⟩
theorem ibg (a0 : ByteArray) (W : World) (b : Nat) (hb : b = W.heap.size) : Calls Try.prog 27 #[.slice (some ⟨b, 0, none⟩) 1 1] (W.alloc (Obj.cells #[Value.string a0] 9)) fun e w' => e = .returned (.bool (decide ((a0.size : Int) > 65536))) ∧ Below W.heap.size W w' := by
  subst hb
  refine (impl_ybig.calls 2 (some ⟨W.heap.size, 0, none⟩) 1 [a0] _ _ (ione W a0 9) (by simp) (iBig a0)).mono ?_
  rintro e w' ⟨rfl, ⟨m, rfl⟩⟩
  exact ⟨rfl, pw_below_drewN (below_alloc (Below.refl _ _) _) _⟩
theorem ijn (s0 s1 s2 : ByteArray) (hs : s0.size + s1.size + s2.size ≤ 1000000) (W : World) (b : Nat) (hb : b = W.heap.size) : Calls Try.prog 29 #[.slice (some ⟨b, 0, none⟩) 3 3] (W.alloc (Obj.cells #[Value.string s0, Value.string s1, Value.string s2] 9)) fun e w' => e = .returned (.string (s0 ++ s1 ++ s2)) ∧ Below W.heap.size W w' := by
  subst hb
  have hjl : Lib.join (([s0, s1, s2] : List ByteArray).map (·.data.toList)) [] = s0.data.toList ++ s1.data.toList ++ s2.data.toList := by
    simp [Lib.join, List.intercalate]
  have hsz : ∀ s : ByteArray, s.data.toList.length = s.size := fun s => by rw [Array.length_toList]; rfl
  have hj : impl_yjoin.f ([s0, s1, s2] : List ByteArray) = some (s0 ++ s1 ++ s2) := by
    unfold impl_yjoin.f
    rw [hjl, if_pos ⟨by simp, by simp, by rw [List.length_append, List.length_append, hsz, hsz, hsz]; omega⟩]
    refine congrArg some ?_
    apply ByteArray.ext
    apply Array.toList_inj.1
    rw [ByteArray.data_append, ByteArray.data_append, Array.toList_append, Array.toList_append]
  refine (impl_yjoin.calls (some ⟨W.heap.size, 0, none⟩) 3 [s0, s1, s2] _ _ (ithree W s0 s1 s2 9) (by simp) hj).mono ?_
  rintro e w' ⟨rfl, hb⟩
  exact ⟨rfl, (below_alloc (Below.refl _ _) _).trans (hb.mono (by simp))⟩
def impl_Crypt.f (a0 : ByteArray) (a1 : Int) (a2 : ByteArray) : Option (ByteArray) := if (a0.size : Int) > 4096 then some (⟨#[]⟩ : ByteArray) else if (a2.size : Int) > 65536 then some (⟨#[]⟩ : ByteArray) else some ⟨(Go.Proofs.Ytpcpjkbjadgoiaa.Cw.xorL a0 a1 a2.data.toList).toArray⟩
set_option maxHeartbeats 16000000 in
set_option maxRecDepth 100000 in
theorem impl_Crypt.calls (a0 : ByteArray) (a1 : Int) (a2 : ByteArray) (r : ByteArray) (w : World) (h : impl_Crypt.f a0 a1 a2 = some r) :
    Calls Try.prog 8 #[.string a0, .int .i64 a1, .string a2] w fun e w' => e = .returned (.string r) ∧ Below w.heap.size w w' := by
  have hl0 := fun W b hb => ilk a0 W b hb
  have hg0 := fun W b hb => ibg a2 W b hb
  unfold impl_Crypt.f at h
  by_cases c0 : (a0.size : Int) > 4096
  · rw [if_pos c0] at h
    obtain rfl := Option.some.inj h
    rw [decide_eq_true c0] at hl0
    clear h c0 hg0
    go_enter Try.func8, Try.ntmps8
    go_wp2_with (go_at_call 26; with_reducible refine (hl0 _ _ ?hbq).mono ?_; (case hbq => first | rfl | simp); rintro e w1 ⟨rfl, hb1⟩)
    go_ret
    exact ⟨rfl, hb1⟩
  · rw [if_neg c0] at h
    rw [decide_eq_false c0] at hl0
    by_cases c1 : (a2.size : Int) > 65536
    · rw [if_pos c1] at h
      obtain rfl := Option.some.inj h
      rw [decide_eq_true c1] at hg0
      clear h c0 c1
      go_enter Try.func8, Try.ntmps8
      go_wp2_with (first | (go_at_call 26; with_reducible refine (hl0 _ _ ?hbq).mono ?_; (case hbq => first | rfl | simp); rintro e w1 ⟨rfl, hb1⟩; have BB1 := Aside0.mk hb1; clear hb1) | (go_at_call 27; with_reducible refine (hg0 _ _ ?hbq).mono ?_; (case hbq => first | rfl | simp); rintro e w2 ⟨rfl, hb2⟩; have BB2 := Aside0.mk (BB1.out.trans (hb2.mono BB1.out.size)); clear hb2))
      go_ret
      exact ⟨rfl, BB2.out⟩
    · rw [if_neg c1] at h
      obtain rfl := Option.some.inj h
      rw [decide_eq_false c1] at hg0
      have H0 := Aside0.mk c0
      have H1 := Aside0.mk c1
      have kb := fun W => print_bytes (P := Try.prog) 9 45 5 Try.underlying9 Try.underlying45 Try.underlying5 a2 W
      clear h c0 c1
      go_enter Try.func8, Try.ntmps8
      go_wp2_with (first | (go_at_call 26; with_reducible refine (hl0 _ _ ?hbq).mono ?_; (case hbq => first | rfl | simp); rintro e w1 ⟨rfl, hb1⟩; have BB1 := Aside0.mk hb1; clear hb1) | (go_at_call 27; with_reducible refine (hg0 _ _ ?hbq).mono ?_; (case hbq => first | rfl | simp); rintro e w2 ⟨rfl, hb2⟩; have BB2 := Aside0.mk (BB1.out.trans (hb2.mono BB1.out.size)); clear hb2))
      have hsz : a2.size ≤ 9223372036854775807 := by have := H1.out; omega
      have R0 := Go.Proofs.Ytpcpjkbjadgoiaa.By.BRow.conv w2 5 a2 hsz
      have B0 : Below w.heap.size w (Lib.bytesWorld w2 5 a2) := BB2.out.trans (bytes_below (Below.refl _ _) BB2.out.size _ _)
      have L0 : a2.data.toList.length = a2.size := by rw [Array.length_toList]; rfl
      have G0 : w.heap.size ≤ w2.heap.size := BB2.out.size
      generalize Lib.bytesWorld w2 5 a2 = W1 at R0 B0 ⊢
      generalize grownCap w2 a2.size 0 5 = cap at R0 ⊢
      generalize w2.heap.size = g at R0 G0 ⊢
      rw [← Go.Proofs.Ytpcpjkbjadgoiaa.Cw.mid_zero a0 a1 a2.data.toList] at R0
      have RA := Aside0.mk R0
      have BA := Aside0.mk B0
      have LA := Aside0.mk L0
      have GA := Aside0.mk G0
      clear R0 B0 L0 G0 hsz hl0 hg0 BB1 BB2
      go_loopg [8, 9, 10, 23] a2.size (fun gg _ _ _ s23 wr => ∃ (ii : Nat), s23 = .int .i64 ii ∧ Aside0 (ii ≤ a2.size) ∧ Aside0 (a2.size - ii ≤ gg) ∧ Aside0 (Below w.heap.size w wr) ∧ Aside0 (Go.Proofs.Ytpcpjkbjadgoiaa.By.BRow wr g cap (Go.Proofs.Ytpcpjkbjadgoiaa.Cw.mid a0 a1 a2.data.toList (min a2.size (3 * ((ii + 2) / 3))))))
      case atStart => exact ⟨0, rfl, ⟨Nat.zero_le _⟩, ⟨by omega⟩, BA, ⟨by rw [show min a2.size (3 * ((0 + 2) / 3)) = 0 from by omega]; exact RA.out⟩⟩
      case round =>
        obtain ⟨ii, rfl, hii, hg, BW, RW⟩ := hrel
        by_cases hlt : ii < a2.size
        · have hltz : (ii : Int) < (a2.size : Int) := by omega
          have hb9 : ii ≤ 65536 := by have := H1.out; omega
          have e9 : wrap64 ((ii : Int) + 1) = ((ii + 1 : Nat) : Int) := by rw [Go.Proofs.Ytpcpjkbjadgoiaa.Pl.w64 (by omega) (by omega)]; omega
          have E9 := Aside0.mk e9
          clear e9
          by_cases c3 : ii % 3 = 0
          · have ht3 : Int.tmod (ii : Int) 3 = 0 := by rw [Int.tmod_eq_emod_of_nonneg (by omega)]; omega
            obtain ⟨d, hd⟩ : ∃ d : Nat, ii / 3 = d := ⟨_, rfl⟩
            have htd : Int.tdiv (ii : Int) 3 = (d : Int) := by rw [Int.tdiv_eq_ediv_of_nonneg (by omega)]; omega
            have wd : wrap64 (d : Int) = (d : Int) := Go.Proofs.Ytpcpjkbjadgoiaa.Pl.w64 (by omega) (by omega)
            have wd2 : IntKind.i64.wrap (d : Int) = (d : Int) := by rw [Go.Proofs.Ytpcpjkbjadgoiaa.Pl.i64w]; exact wd
            obtain ⟨t1, ht1⟩ : ∃ t1, Go.Proofs.Ytpcpjkbjadgoiaa.Cw.wordTx a1 = t1 := ⟨_, rfl⟩
            obtain ⟨t2, ht2⟩ : ∃ t2, Go.Proofs.Ytpcpjkbjadgoiaa.Cw.wordTx (d : Int) = t2 := ⟨_, rfl⟩
            have hts1 : t1.size = 4 := by rw [← ht1]; exact Go.Proofs.Ytpcpjkbjadgoiaa.Cw.wordTx_size _
            have hts2 : t2.size = 4 := by rw [← ht2]; exact Go.Proofs.Ytpcpjkbjadgoiaa.Cw.wordTx_size _
            have hp1 := fun W => impl_PutWord.calls a1 t1 W (by rw [impl_putW, ht1])
            have hp2 := fun W => impl_PutWord.calls (d : Int) t2 W (by rw [impl_putW, ht2])
            have hjn := fun W b hb => ijn a0 t1 t2 (by rw [hts1, hts2]; have := H0.out; omega) W b hb
            have hsum : (a0 ++ t1 ++ t2).size = a0.size + 4 + 4 := by rw [ByteArray.size_append, ByteArray.size_append, hts1, hts2]
            obtain ⟨km, hkm⟩ := impl_ymix_ev (a0 ++ t1 ++ t2) 11 (by rw [hsum]; have := H0.out; omega)
            have hmx := fun W => impl_ymix.calls km (a0 ++ t1 ++ t2) 11 _ W (hkm km (Nat.le_refl _))
            have hkey : Go.Proofs.Ytpcpjkbjadgoiaa.Cw.mixOf (a0 ++ t1 ++ t2) 11 = Go.Proofs.Ytpcpjkbjadgoiaa.Cw.keyAt a0 a1 d := by unfold Go.Proofs.Ytpcpjkbjadgoiaa.Cw.keyAt; rw [ht1, ht2]
            rw [hkey] at hmx
            obtain ⟨v, hv⟩ : ∃ v, Go.Proofs.Ytpcpjkbjadgoiaa.Cw.keyAt a0 a1 d = v := ⟨_, rfl⟩
            rw [hv] at hmx
            have HV := Aside0.mk hv
            have HD := Aside0.mk hd
            have hRW := RW.out
            rw [show min a2.size (3 * ((ii + 2) / 3)) = ii from by omega] at hRW
            have RWi := Aside0.mk hRW
            clear hkm hkey hv ht1 ht2 hsum hts1 hts2 hd hRW
            go_wp2_with (first | (go_at_call 30; with_reducible refine (hp2 _).mono ?_; rintro e w4 ⟨rfl, hb4⟩; have BW4 := Aside0.mk (BW3.out.trans (hb4.mono BW3.out.size)); have RW4 := Aside0.mk (RW3.out.below hb4 RW3.out.lt); clear hb4) | (go_at_call 30; with_reducible refine (hp1 _).mono ?_; rintro e w3 ⟨rfl, hb3⟩; have BW3 := Aside0.mk (BW.out.trans (hb3.mono BW.out.size)); have RW3 := Aside0.mk (RWi.out.below hb3 RWi.out.lt); clear hb3) | (go_at_call 29; with_reducible refine (hjn _ _ ?hbq).mono ?_; (case hbq => first | rfl | simp); rintro e w5 ⟨rfl, hb5⟩; have BW5 := Aside0.mk (BW4.out.trans (hb5.mono BW4.out.size)); have RW5 := Aside0.mk (RW4.out.below hb5 RW4.out.lt); clear hb5) | (go_at_call 28; with_reducible refine (hmx _).mono ?_; rintro e w6 ⟨rfl, ⟨m6, rfl⟩⟩))
            have RW6 := Aside0.mk (RW5.out.drewN m6)
            have BW6 := Aside0.mk (pw_below_drewN BW5.out m6)
            generalize w5.drewN m6 = w6 at RW6 BW6 ⊢
            have w3a : wrap64 ((ii : Int) + 3) = (ii : Int) + 3 := Go.Proofs.Ytpcpjkbjadgoiaa.Pl.w64 (by omega) (by omega)
            have w3b : IntKind.i64.wrap ((ii : Int) + 3) = (ii : Int) + 3 := by rw [Go.Proofs.Ytpcpjkbjadgoiaa.Pl.i64w]; exact w3a
            go_loopg [9, 10] 4 (fun gg2 s9 s10 wr2 => ∃ (jj : Nat) (sv : Int), s10 = .int .i64 jj ∧ s9 = .int .i64 sv ∧ Aside0 (ii ≤ jj ∧ jj ≤ a2.size ∧ jj ≤ ii + 3) ∧ Aside0 (ii + 4 - jj ≤ gg2) ∧ Aside0 (Below w.heap.size w wr2) ∧ Aside0 (Go.Proofs.Ytpcpjkbjadgoiaa.By.BRow wr2 g cap (Go.Proofs.Ytpcpjkbjadgoiaa.Cw.mid a0 a1 a2.data.toList jj)) ∧ Aside0 (sv = v / 2 ^ (8 * (jj - ii))))
            case atStart => exact ⟨ii, v, rfl, rfl, ⟨⟨Nat.le_refl _, by omega, by omega⟩⟩, ⟨by omega⟩, BW6, RW6, ⟨by rw [Nat.sub_self, Nat.mul_zero, Int.pow_zero, Int.ediv_one]⟩⟩
            case round =>
              obtain ⟨jj, sv, rfl, rfl, hjj, hg2, BW2, RW2, HS⟩ := hrel
              obtain ⟨hj0, hj1, hj2⟩ := hjj.out
              by_cases hjl : jj < a2.size ∧ jj < ii + 3
              · have hjl1 : jj < a2.size := hjl.1
                have hjl2 : jj < ii + 3 := hjl.2
                have hjz1 : (jj : Int) < (a2.size : Int) := by omega
                have hjz2 : (jj : Int) < (ii : Int) + 3 := by omega
                have hjl3 : jj < a2.data.toList.length := by rw [LA.out]; exact hjl1
                have hput := Go.Proofs.Ytpcpjkbjadgoiaa.Cw.mid_put a0 a1 a2.data.toList jj hjl3
                have hgx : (Go.Proofs.Ytpcpjkbjadgoiaa.Cw.mid a0 a1 a2.data.toList jj)[jj]? = some a2.data.toList[jj] := by
                  rw [Go.Proofs.Ytpcpjkbjadgoiaa.Cw.mid_get _ _ _ _ _ (by omega), if_neg (by omega), List.getElem?_eq_getElem hjl3]
                have hml : (Go.Proofs.Ytpcpjkbjadgoiaa.Cw.mid a0 a1 a2.data.toList jj).length = a2.size := by rw [Go.Proofs.Ytpcpjkbjadgoiaa.Cw.mid_length _ _ _ _ (by omega), LA.out]
                generalize a2.data.toList[jj] = x at hput hgx
                have hxb := Go.Proofs.Ytpcpjkbjadgoiaa.Cw.xb_int a0 a1 jj x
                have e8 : wrap64 ((jj : Int) + 1) = ((jj + 1 : Nat) : Int) := by rw [Go.Proofs.Ytpcpjkbjadgoiaa.Pl.w64 (by omega) (by omega)]; omega
                have hx := icellAt RW2.out jj x hgx
                have hf := RW2.out.frozen jj (Nat.lt_of_lt_of_le (by rw [hml]; exact hjl1) (ibrLen RW2.out))
                have HPU := Aside0.mk hput
                have HML := Aside0.mk hml
                have HXB := Aside0.mk hxb
                have E8 := Aside0.mk e8
                clear hput hgx hml hxb e8 hjl3
                go_wp2
                all_goals
                  have hval : Go.bits .xor .u8 (x.toNat : Int) (sv % 256) = Go.Proofs.Ytpcpjkbjadgoiaa.Cw.xv a0 a1 jj x := by
                    unfold Go.Proofs.Ytpcpjkbjadgoiaa.Cw.xv
                    rw [show jj / 3 = d from by have := HD.out; omega, HV.out, show jj % 3 = jj - ii from by omega, ← HS.out, IntKind.wrap_u8]
                  have hR2 := RW2.out.set jj (Go.Proofs.Ytpcpjkbjadgoiaa.Cw.xb a0 a1 jj x) (by rw [HML.out]; exact Nat.le_of_lt hjl1) (Nat.lt_of_lt_of_le (by rw [HML.out]; exact hjl1) (ibrLen RW2.out))
                  rw [HXB.out, HPU.out, ← hval] at hR2
                  have hB2 := Below.setCell BW2.out (p := ⟨g, jj, none⟩) (by exact GA.out) (.int .u8 (Go.bits .xor .u8 (x.toNat : Int) (sv % 256)))
                  have hs3 : sv / 256 = v / 2 ^ (8 * (jj + 1 - ii)) := by
                    rw [HS.out, ishr, show jj - ii + 1 = jj + 1 - ii from by omega]
                  go_roundg (ii + 4 - (jj + 1))
                  case measure => have := hg2.out; omega
                  case rel => exact ⟨jj + 1, sv / 256, by first | rfl | (rw [E8.out]), rfl, ⟨⟨by omega, by omega, by omega⟩⟩, ⟨by omega⟩, ⟨hB2⟩, ⟨hR2⟩, ⟨hs3⟩⟩
              · have hme : (min a2.size (3 * ((ii + 1 + 2) / 3))) = jj := by omega
                have HME := Aside0.mk hme
                clear hme
                by_cases hj8 : jj < a2.size
                · have hjz1 : (jj : Int) < (a2.size : Int) := by omega
                  have hjz2 : ¬ (jj : Int) < (ii : Int) + 3 := by omega
                  go_wp2
                  all_goals
                    go_roundg (a2.size - (ii + 1))
                    case measure => have := hg.out; omega
                    case rel => exact ⟨ii + 1, by first | rfl | (rw [E9.out]), ⟨hlt⟩, ⟨by omega⟩, BW2, ⟨by rw [HME.out]; exact RW2.out⟩⟩
                · have hjz1 : ¬ (jj : Int) < (a2.size : Int) := by omega
                  go_wp2
                  all_goals
                    go_roundg (a2.size - (ii + 1))
                    case measure => have := hg.out; omega
                    case rel => exact ⟨ii + 1, by first | rfl | (rw [E9.out]), ⟨hlt⟩, ⟨by omega⟩, BW2, ⟨by rw [HME.out]; exact RW2.out⟩⟩
          · have ht3 : ¬ Int.tmod (ii : Int) 3 = 0 := by rw [Int.tmod_eq_emod_of_nonneg (by omega)]; omega
            have ht3b : (Int.tmod (ii : Int) 3 == 0) = false := beq_eq_false_iff_ne.mpr ht3
            go_wp2
            go_roundg (a2.size - (ii + 1))
            case measure => have := hg.out; omega
            case rel => exact ⟨ii + 1, by first | rfl | (rw [E9.out]), ⟨hlt⟩, ⟨by omega⟩, BW, ⟨by rw [show 3 * ((ii + 1 + 2) / 3) = 3 * ((ii + 2) / 3) from by omega]; exact RW.out⟩⟩
        · have hltz : ¬ (ii : Int) < (a2.size : Int) := by omega
          have hkn : ii = a2.size := by have := hii.out; omega
          subst hkn
          have RF := RW.out
          rw [show min a2.size (3 * ((a2.size + 2) / 3)) = a2.size from by omega, ← LA.out, Go.Proofs.Ytpcpjkbjadgoiaa.Cw.mid_all] at RF
          have kc := fun c => RF.back (P := Try.prog) 45 9 5 Try.underlying45 Try.underlying5 Try.underlying9 c a2.size (by rw [Go.Proofs.Ytpcpjkbjadgoiaa.Cw.xorL_length, LA.out])
          clear RF
          go_wp2
          go_ret
          exact ⟨rfl, BW.out⟩

/-! ### laws_FnExactCrypt: function 3 -/
def laws_FnExactCrypt.f (a0 : ByteArray) (a1 : Int) (a2 : ByteArray) : Option (Bool) := if (a0.size : Int) > 1048576 then (some true) else (if (a2.size : Int) > 1048576 then (some true) else ((spec_Crypt.f a0 a1 a2).bind fun t113 => ((impl_Crypt.f a0 a1 a2).bind fun t114 => (if t114.toList = t113.toList then (some true) else (some false)))))
set_option maxHeartbeats 8000000 in
set_option maxRecDepth 100000 in
theorem laws_FnExactCrypt.calls (a0 : ByteArray) (a1 : Int) (a2 : ByteArray) (r : Bool) (w : World) (h : laws_FnExactCrypt.f a0 a1 a2 = some r) :
    Calls Try.prog 3 #[.string a0, .int .i64 a1, .string a2] w fun e w' => e = .returned (.bool r) ∧ Below w.heap.size w w' := by
  have HB := Aside0.mk (Below.refl w.heap.size w)
  have H : (if (a0.size : Int) > 1048576 then (some true) else (if (a2.size : Int) > 1048576 then (some true) else ((spec_Crypt.f a0 a1 a2).bind fun t113 => ((impl_Crypt.f a0 a1 a2).bind fun t114 => (if t114.toList = t113.toList then (some true) else (some false)))))) = some r := h
  clear h
  by_cases c4 : (a0.size : Int) > 1048576
  · rw [if_pos c4] at H
    have c4b0 : decide (1048576 < (a0.size : Int)) = true := decide_eq_true c4
    have c4b1 : decide (1048576 < a0.size) = true := decide_eq_true (by omega)
    clear c4
    obtain rfl := Option.some.inj H
    go_enter Try.func3, Try.ntmps3
    go_wp2
    go_ret
    exact ⟨by first | rfl | (simp [errW_none, errW_some] <;> rfl) | (simp [*, errW_none, errW_some] <;> rfl), by repeat (first | (with_reducible first | exact HB.out | apply below_alloc | apply pw_below_drewN | apply below_drew1) | exact HB.out)⟩
  · rw [if_neg c4] at H
    have c4b0 : decide (1048576 < (a0.size : Int)) = false := decide_eq_false c4
    have c4b1 : decide (1048576 < a0.size) = false := decide_eq_false (by omega)
    clear c4
    by_cases c5 : (a2.size : Int) > 1048576
    · rw [if_pos c5] at H
      have c5b0 : decide (1048576 < (a2.size : Int)) = true := decide_eq_true c5
      have c5b1 : decide (1048576 < a2.size) = true := decide_eq_true (by omega)
      clear c5
      obtain rfl := Option.some.inj H
      go_enter Try.func3, Try.ntmps3
      go_wp2
      go_ret
      exact ⟨by first | rfl | (simp [errW_none, errW_some] <;> rfl) | (simp [*, errW_none, errW_some] <;> rfl), by repeat (first | (with_reducible first | exact HB.out | apply below_alloc | apply pw_below_drewN | apply below_drew1) | exact HB.out)⟩
    · rw [if_neg c5] at H
      have c5b0 : decide (1048576 < (a2.size : Int)) = false := decide_eq_false c5
      have c5b1 : decide (1048576 < a2.size) = false := decide_eq_false (by omega)
      clear c5
      replace H := Option.bind_eq_some_iff.mp H
      obtain ⟨t113, A60, H⟩ := H
      replace H : ((impl_Crypt.f a0 a1 a2).bind fun t114 => (if t114.toList = t113.toList then (some true) else (some false))) = some r := H
      have A6 := Aside0.mk A60
      clear A60
      replace H := Option.bind_eq_some_iff.mp H
      obtain ⟨t114, A70, H⟩ := H
      replace H : (if t114.toList = t113.toList then (some true) else (some false)) = some r := H
      have A7 := Aside0.mk A70
      clear A70
      by_cases c8 : t114.toList = t113.toList
      · rw [if_pos c8] at H
        have c8b0 : (t114.toList == t113.toList) = true := beq_iff_eq.mpr c8
        have c8b1 : (t114.toList != t113.toList) = false := bne_eq_false_iff_eq.mpr c8
        clear c8
        obtain rfl := Option.some.inj H
        go_enter Try.func3, Try.ntmps3
        go_wp2_with (first | ((with_reducible refine gate_callee (f := 7) rfl ?_); refine goesL_ (some 18) rfl rfl Try.func7 (by kernel_rfl) rfl #[.string a0, .int .i64 a1, .string a2] rfl (by (try simp only [List.map_toArray, List.map_cons, List.map_nil]); first | done | rfl | (simp only [List.length_drop, List.length_take]; rfl)) ?_; (with_reducible refine (spec_Crypt.calls a0 a1 a2 t113 _ A6.out).mono ?_); rintro e w9 ⟨rfl, hb⟩; refine ⟨_, rfl, ?_⟩; have n0_ := Aside0.mk (below_step (by repeat (first | (with_reducible first | exact HB.out | apply below_alloc | apply pw_below_drewN | apply below_drew1) | exact HB.out)) hb); clear HB; have HB := n0_; clear n0_; (try clear hb); (try clear hb2); (try clear hk); (try clear hi)) | ((with_reducible refine gate_callee (f := 8) rfl ?_); refine goesL_ (some 22) rfl rfl Try.func8 (by kernel_rfl) rfl #[.string a0, .int .i64 a1, .string a2] rfl (by (try simp only [List.map_toArray, List.map_cons, List.map_nil]); first | done | rfl | (simp only [List.length_drop, List.length_take]; rfl)) ?_; (with_reducible refine (impl_Crypt.calls a0 a1 a2 t114 _ A7.out).mono ?_); rintro e w10 ⟨rfl, hb⟩; refine ⟨_, rfl, ?_⟩; have n0_ := Aside0.mk (below_step (by repeat (first | (with_reducible first | exact HB.out | apply below_alloc | apply pw_below_drewN | apply below_drew1) | exact HB.out)) hb); clear HB; have HB := n0_; clear n0_; (try clear hb); (try clear hb2); (try clear hk); (try clear hi)))
        go_ret
        exact ⟨by first | rfl | (simp [errW_none, errW_some] <;> rfl) | (simp [*, errW_none, errW_some] <;> rfl), by repeat (first | (with_reducible first | exact HB.out | apply below_alloc | apply pw_below_drewN | apply below_drew1) | exact HB.out)⟩
      · rw [if_neg c8] at H
        have c8b0 : (t114.toList == t113.toList) = false := beq_eq_false_iff_ne.mpr c8
        have c8b1 : (t114.toList != t113.toList) = true := bne_iff_ne.mpr c8
        obtain rfl := Option.some.inj H
        go_enter Try.func3, Try.ntmps3
        go_wp2_with (first | ((with_reducible refine gate_callee (f := 7) rfl ?_); refine goesL_ (some 18) rfl rfl Try.func7 (by kernel_rfl) rfl #[.string a0, .int .i64 a1, .string a2] rfl (by (try simp only [List.map_toArray, List.map_cons, List.map_nil]); first | done | rfl | (simp only [List.length_drop, List.length_take]; rfl)) ?_; (with_reducible refine (spec_Crypt.calls a0 a1 a2 t113 _ A6.out).mono ?_); rintro e w11 ⟨rfl, hb⟩; refine ⟨_, rfl, ?_⟩; have n0_ := Aside0.mk (below_step (by repeat (first | (with_reducible first | exact HB.out | apply below_alloc | apply pw_below_drewN | apply below_drew1) | exact HB.out)) hb); clear HB; have HB := n0_; clear n0_; (try clear hb); (try clear hb2); (try clear hk); (try clear hi)) | ((with_reducible refine gate_callee (f := 8) rfl ?_); refine goesL_ (some 22) rfl rfl Try.func8 (by kernel_rfl) rfl #[.string a0, .int .i64 a1, .string a2] rfl (by (try simp only [List.map_toArray, List.map_cons, List.map_nil]); first | done | rfl | (simp only [List.length_drop, List.length_take]; rfl)) ?_; (with_reducible refine (impl_Crypt.calls a0 a1 a2 t114 _ A7.out).mono ?_); rintro e w12 ⟨rfl, hb⟩; refine ⟨_, rfl, ?_⟩; have n0_ := Aside0.mk (below_step (by repeat (first | (with_reducible first | exact HB.out | apply below_alloc | apply pw_below_drewN | apply below_drew1) | exact HB.out)) hb); clear HB; have HB := n0_; clear n0_; (try clear hb); (try clear hb2); (try clear hk); (try clear hi)))
        go_ret
        exact ⟨by first | rfl | (simp [errW_none, errW_some] <;> rfl) | (simp [*, errW_none, errW_some] <;> rfl), by repeat (first | (with_reducible first | exact HB.out | apply below_alloc | apply pw_below_drewN | apply below_drew1) | exact HB.out)⟩

/-- THE ONE PURE STATEMENT of laws_FnExactCrypt: yours. -/
def laws_FnExactCrypt.Pure : Prop := ∀ (a0 : ByteArray) (a1 : Int) (a2 : ByteArray), a0.size ≤ 140737488351232 → (Lit.int .i64 a1).wf = true → a2.size ≤ 140737488351232 → laws_FnExactCrypt.f a0 a1 a2 = some true
theorem laws_FnExactCrypt.walk (P : laws_FnExactCrypt.Pure) (a0 : ByteArray) (a1 : Int) (a2 : ByteArray) (w : World) (w0 : a0.size ≤ 140737488351232) (w1 : (Lit.int .i64 a1).wf = true) (w2 : a2.size ≤ 140737488351232) :
    Calls Try.prog 3 #[.string a0, .int .i64 a1, .string a2] w fun e w' => e = .returned (.bool true) ∧ Below w.heap.size w w' := by
  have h := P a0 a1 a2 w0 w1 w2
  refine (laws_FnExactCrypt.calls a0 a1 a2 true w h).mono ?_
  rintro e w' ⟨rfl, hd⟩
  exact ⟨rfl, hd⟩

end Go.Proofs.Ytpcpjkbjadgoiaa.QFnExactCrypt
