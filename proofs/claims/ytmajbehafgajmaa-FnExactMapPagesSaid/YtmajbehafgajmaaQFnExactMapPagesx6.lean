-- Written for this claim by this session's own driver (wip/xprint.py).
import Derived.Test.YtmajbehafgajmaaQFnExactMapPagesx0
import Derived.Test.YtmajbehafgajmaaQFnExactMapPagesx3
import Derived.Test.YtmajbehafgajmaaQFnExactMapPagesx4
import Derived.Test.YtmajbehafgajmaaQFnExactMapPagesx5
namespace Go.Proofs.Ytmajbehafgajmaa.QFnExactMapPages
open Go.RowKit Go.Proofs.YtmajbehafgajmaaW.PrintWords Go.Proofs.YtmajbehafgajmaaW.PrintLast Go.Proofs.YtmajbehafgajmaaW.PrintMore
attribute [local go_sem] max2_int min2_int max_two min_two max_three min_three max_four min_four   -- for this text's walks alone
set_option linter.unusedVariables false
set_option linter.unusedSimpArgs false

/-! ### impl_MapPages: function 22 -/
theorem mone (W : World) (s : ByteArray) (e : TypeId) : Kd.C Kd.string (W.alloc (Obj.cells #[Value.string s] e)) (some ⟨W.heap.size, 0, none⟩) ([s] : List ByteArray).length [s] := by
  refine ⟨rfl, by simp, fun _ => ⟨⟨W.heap.size, 0, none⟩, rfl, fun j p hj => ⟨[.string p], rfl, rfl, fun i u hu => ?_⟩⟩⟩
  have hj0 : j = 0 := by
    rcases Nat.eq_zero_or_pos j with h | h
    · exact h
    · rw [List.getElem?_eq_none (by simp; omega)] at hj; exact absurd hj (by simp)
  have hi0 : i = 0 := by
    rcases Nat.eq_zero_or_pos i with h | h
    · exact h
    · rw [List.getElem?_eq_none (by simp; omega)] at hu; exact absurd hu (by simp)
  subst hj0
  subst hi0
  simp at hj hu
  subst hj
  subst hu
  simp [Kd.string, Kd.scalar, Addr.add]
theorem mBig (s : ByteArray) : impl_ybig.f 2 [s] = some (decide ((s.size : Int) > 65536)) := by
  unfold impl_ybig.f
  simp only [impl_ybig.l0]
  have e0 : rdOf ByteArray.empty [s] 0 = s := rfl
  have e1 : (([s] : List ByteArray).length : Int) = 1 := rfl
  have e2 : wrap64 (0 + 1) = 1 := by unfold wrap64; omega
  rw [e0, e1, e2, if_pos (by decide), if_pos (by decide), if_pos (by decide)]
  by_cases h : (s.size : Int) > 65536
  · rw [if_pos h, decide_eq_true h]
  · rw [if_neg h, decide_eq_false h, if_neg (by decide)]
theorem mbg (a0 : ByteArray) (W : World) (b : Nat) (hb : b = W.heap.size) : Calls Try.prog 73 #[.slice (some ⟨b, 0, none⟩) 1 1] (W.alloc (Obj.cells #[Value.string a0] 9)) fun e w' => e = .returned (.bool (decide ((a0.size : Int) > 65536))) ∧ Below W.heap.size W w' := by
  subst hb
  refine (impl_ybig.calls 2 (some ⟨W.heap.size, 0, none⟩) 1 [a0] _ _ (mone W a0 9) (by simp) (mBig a0)).mono ?_
  rintro e w' ⟨rfl, ⟨m, rfl⟩⟩
  exact ⟨rfl, pw_below_drewN (below_alloc (Below.refl _ _) _) _⟩
def ymapR (bs : List UInt8) (F root : Nat) (x : S124) (free : List Int) : Int × List UInt8 × List Int :=
  if mapBad x.f0 x.f1 x.f2 x.f3 = true then (1, bs, free) else if x.f3 = true then ymapL bs root x.f0.toNat x.f1 x.f2 free else ymapS bs F root x.f0.toNat x.f1 x.f2 free
theorem ymapR_calls (w : World) (g cap : Nat) (bs : List UInt8) (root : Nat) (x : S124) (A : Option Addr) (c : Nat) (F : Nat) (hb : Go.Proofs.Ytmajbehafgajmaa.By.BRow w g cap bs) (hF : bs.length = F * 256) (hn : F ≤ 256) (hroot : root < F) (free : List Int) (hfc : free.length ≤ c) (hft : ∀ t ∈ free, 0 ≤ t ∧ t < (F : Int)) (hfr0 : ∀ W, KB w W g → Kd.C (Kd.int .i64) W A free.length free) :
    Calls Try.prog 77 #[.slice (some ⟨g, 0, none⟩) bs.length cap, .int .i64 (root : Int), .agg #[.int .i64 x.f0, .int .i64 x.f1, .int .i64 x.f2, .bool x.f3], .slice A free.length c] w (YP w g cap (ymapR bs F root x free)) := by
  unfold ymapR
  cases hx : x.f3 with
  | true =>
    rw [if_pos rfl]
    exact ymapL_calls w g cap bs root x.f0 x.f1 x.f2 A free.length c F hb hF hn hroot free rfl hfc hft hfr0
  | false =>
    rw [if_neg Bool.false_ne_true]
    exact ymapS_calls w g cap bs root x.f0 x.f1 x.f2 A free.length c F hb hF hn hroot free rfl hfc hft hfr0
theorem mapBad_va {va fr fl : Int} {lg : Bool} (h : mapBad va fr fl lg = false) : 0 ≤ va ∧ va ≤ 262143 := by
  unfold mapBad at h
  have h1 := (Bool.or_eq_false_iff.mp h).1
  rw [Bool.not_eq_false'] at h1
  unfold inMB at h1
  rw [Bool.and_eq_true] at h1
  exact ⟨of_decide_eq_true h1.1, of_decide_eq_true h1.2⟩
theorem ymapTail_len (cs : List UInt8) (t vn F : Nat) (e : Int) (hF : cs.length = F * 256) (ht : t < F) : (ymapTail cs t vn e).2.length = cs.length := by
  unfold ymapTail
  split
  · exact put4_length _ _ _ (by omega)
  · rfl
theorem ymapL_keeps (bs : List UInt8) (root vn : Nat) (fr fl : Int) (free : List Int) (hat : root * 256 + 4 * (vn / 8192) + 4 ≤ bs.length) : (ymapL bs root vn fr fl free).2.1.length = bs.length ∧ (ymapL bs root vn fr fl free).2.2.length ≤ free.length ∧ ∀ t ∈ (ymapL bs root vn fr fl free).2.2, t ∈ free := by
  unfold ymapL
  generalize Go.bits .or .i64 (Go.bits .or .i64 (fr * 256) fl) 1 = ent
  split
  · exact ⟨put4_length _ _ _ hat, Nat.le_refl _, fun t h => h⟩
  · exact ⟨rfl, Nat.le_refl _, fun t h => h⟩
theorem ymapS_cons (bs : List UInt8) (F root vn : Nat) (fr fl t : Int) (rest : List Int) (h1 : Go.bits .and .i64 (gwB bs (root * 256 + 4 * (vn / 8192))) 1 = 0) : ymapS bs F root vn fr fl (t :: rest) = ((ymapTail (put4 (Go.Proofs.Ytmajbehafgajmaa.By.putAt bs (t.toNat * 256) (List.replicate 256 0)) (root * 256 + 4 * (vn / 8192)) (Go.bits .or .i64 (t * 256) 1)) t.toNat vn (Go.bits .or .i64 (Go.bits .or .i64 (fr * 256) fl) 1)).1, (ymapTail (put4 (Go.Proofs.Ytmajbehafgajmaa.By.putAt bs (t.toNat * 256) (List.replicate 256 0)) (root * 256 + 4 * (vn / 8192)) (Go.bits .or .i64 (t * 256) 1)) t.toNat vn (Go.bits .or .i64 (Go.bits .or .i64 (fr * 256) fl) 1)).2, rest) := by
  unfold ymapS
  rw [if_pos h1]
theorem ymapS_nil (bs : List UInt8) (F root vn : Nat) (fr fl : Int) (h1 : Go.bits .and .i64 (gwB bs (root * 256 + 4 * (vn / 8192))) 1 = 0) : ymapS bs F root vn fr fl [] = (4, bs, []) := by
  unfold ymapS
  rw [if_pos h1]
theorem ymapS_in (bs : List UInt8) (F root vn : Nat) (fr fl : Int) (free : List Int) (h1 : ¬ Go.bits .and .i64 (gwB bs (root * 256 + 4 * (vn / 8192))) 1 = 0) (h2 : Go.bits .and .i64 (gwB bs (root * 256 + 4 * (vn / 8192))) 14 = 0) (h3 : ¬ (F : Int) ≤ gwB bs (root * 256 + 4 * (vn / 8192)) / 256) : ymapS bs F root vn fr fl free = ((ymapTail bs (gwB bs (root * 256 + 4 * (vn / 8192)) / 256).toNat vn (Go.bits .or .i64 (Go.bits .or .i64 (fr * 256) fl) 1)).1, (ymapTail bs (gwB bs (root * 256 + 4 * (vn / 8192)) / 256).toNat vn (Go.bits .or .i64 (Go.bits .or .i64 (fr * 256) fl) 1)).2, free) := by
  unfold ymapS
  rw [if_neg h1, if_pos h2, if_neg h3]
theorem ymapS_far (bs : List UInt8) (F root vn : Nat) (fr fl : Int) (free : List Int) (h1 : ¬ Go.bits .and .i64 (gwB bs (root * 256 + 4 * (vn / 8192))) 1 = 0) (h2 : Go.bits .and .i64 (gwB bs (root * 256 + 4 * (vn / 8192))) 14 = 0) (h3 : (F : Int) ≤ gwB bs (root * 256 + 4 * (vn / 8192)) / 256) : ymapS bs F root vn fr fl free = (9, bs, free) := by
  unfold ymapS
  rw [if_neg h1, if_pos h2, if_pos h3]
theorem ymapS_leaf (bs : List UInt8) (F root vn : Nat) (fr fl : Int) (free : List Int) (h1 : ¬ Go.bits .and .i64 (gwB bs (root * 256 + 4 * (vn / 8192))) 1 = 0) (h2 : ¬ Go.bits .and .i64 (gwB bs (root * 256 + 4 * (vn / 8192))) 14 = 0) : ymapS bs F root vn fr fl free = (9, bs, free) := by
  unfold ymapS
  rw [if_neg h1, if_neg h2]
theorem keep_fin {n : Nat} (T : Int × List UInt8) (rest free : List Int) (h1 : T.2.length = n) (h2 : rest.length ≤ free.length) (h3 : ∀ t ∈ rest, t ∈ free) : (T.1, T.2, rest).2.1.length = n ∧ (T.1, T.2, rest).2.2.length ≤ free.length ∧ ∀ t ∈ (T.1, T.2, rest).2.2, t ∈ free := ⟨h1, h2, h3⟩
set_option maxRecDepth 4000 in
theorem ymapS_keeps (bs : List UInt8) (F root vn : Nat) (fr fl : Int) (free : List Int) (hF : bs.length = F * 256) (hft : ∀ t ∈ free, 0 ≤ t ∧ t < (F : Int)) (hat : root * 256 + 4 * (vn / 8192) + 4 ≤ bs.length) : (ymapS bs F root vn fr fl free).2.1.length = bs.length ∧ (ymapS bs F root vn fr fl free).2.2.length ≤ free.length ∧ ∀ t ∈ (ymapS bs F root vn fr fl free).2.2, t ∈ free := by
  by_cases h1 : Go.bits .and .i64 (gwB bs (root * 256 + 4 * (vn / 8192))) 1 = 0
  · cases free with
    | nil => rw [ymapS_nil _ _ _ _ _ _ h1]; exact ⟨rfl, Nat.le_refl _, fun t h => h⟩
    | cons t rest =>
      have ht := hft t (List.mem_cons_self ..)
      rw [ymapS_cons _ _ _ _ _ _ _ _ h1]
      clear h1 hft
      have hr : t.toNat * 256 + 256 ≤ bs.length := by omega
      have hz : (Go.Proofs.Ytmajbehafgajmaa.By.putAt bs (t.toNat * 256) (List.replicate 256 0)).length = bs.length := put_zero_length bs (t.toNat * 256) 256 hr
      generalize Go.Proofs.Ytmajbehafgajmaa.By.putAt bs (t.toNat * 256) (List.replicate 256 0) = Z at hz ⊢
      generalize Go.bits .or .i64 (t * 256) 1 = v
      have hp : (put4 Z (root * 256 + 4 * (vn / 8192)) v).length = bs.length := by rw [put4_length _ _ _ (by rw [hz]; exact hat), hz]
      generalize put4 Z (root * 256 + 4 * (vn / 8192)) v = Y at hp ⊢
      generalize Go.bits .or .i64 (Go.bits .or .i64 (fr * 256) fl) 1 = ent
      have h9 := ymapTail_len Y t.toNat vn F ent (by rw [hp, hF]) (by omega)
      rw [hp] at h9
      generalize ymapTail Y t.toNat vn ent = T at h9 ⊢
      exact keep_fin _ rest (t :: rest) h9 (Nat.le_succ _) (fun u h => List.mem_cons_of_mem _ h)
  · by_cases h2 : Go.bits .and .i64 (gwB bs (root * 256 + 4 * (vn / 8192))) 14 = 0
    · by_cases h3 : (F : Int) ≤ gwB bs (root * 256 + 4 * (vn / 8192)) / 256
      · rw [ymapS_far _ _ _ _ _ _ _ h1 h2 h3]; exact ⟨rfl, Nat.le_refl _, fun t h => h⟩
      · rw [ymapS_in _ _ _ _ _ _ _ h1 h2 h3]
        clear h1 h2
        have h5 : 0 ≤ gwB bs (root * 256 + 4 * (vn / 8192)) / 256 := Int.ediv_nonneg (gwB_range bs _).1 (by decide)
        generalize gwB bs (root * 256 + 4 * (vn / 8192)) / 256 = q at h3 h5 ⊢
        have h6 : q.toNat < F := by
          clear hat hF hft
          omega
        generalize Go.bits .or .i64 (Go.bits .or .i64 (fr * 256) fl) 1 = ent
        have h7 := ymapTail_len bs q.toNat vn F ent hF h6
        generalize ymapTail bs q.toNat vn ent = T at h7 ⊢
        exact keep_fin _ free free h7 (Nat.le_refl _) (fun t h => h)
    · rw [ymapS_leaf _ _ _ _ _ _ _ h1 h2]; exact ⟨rfl, Nat.le_refl _, fun t h => h⟩
theorem ymapR_keeps (bs : List UInt8) (F root : Nat) (x : S124) (free : List Int) (hF : bs.length = F * 256) (hroot : root < F) (hft : ∀ t ∈ free, 0 ≤ t ∧ t < (F : Int)) : (ymapR bs F root x free).2.1.length = bs.length ∧ (ymapR bs F root x free).2.2.length ≤ free.length ∧ ∀ t ∈ (ymapR bs F root x free).2.2, t ∈ free := by
  unfold ymapR
  cases hbad : mapBad x.f0 x.f1 x.f2 x.f3 with
  | true => rw [if_pos rfl]; exact ⟨rfl, Nat.le_refl _, fun t h => h⟩
  | false =>
    rw [if_neg Bool.false_ne_true]
    obtain ⟨v0, v1⟩ := mapBad_va hbad
    have hat : root * 256 + 4 * (x.f0.toNat / 8192) + 4 ≤ bs.length := by omega
    cases hx : x.f3 with
    | true => rw [if_pos rfl]; exact ymapL_keeps bs root _ _ _ free hat
    | false => rw [if_neg Bool.false_ne_true]; exact ymapS_keeps bs F root _ _ _ free hF hft hat
/-- The maps one after the other. -/
def mapsGo (F root : Nat) : List S124 → List UInt8 → List Int → Int → Int × Int × List UInt8 × List Int
  | [], bs, free, _ => (0, 0, bs, free)
  | x :: xs, bs, free, i => if (ymapR bs F root x free).1 = 0 then mapsGo F root xs (ymapR bs F root x free).2.1 (ymapR bs F root x free).2.2 (i + 1) else ((ymapR bs F root x free).1, i, [], [])
def mapSized (a0 : ByteArray) (l2 : List S124) (l3 : List Int) : Bool := decide ((a0.size : Int) > 65536) || (decide ((l2.length : Int) > 1000) || decide ((l3.length : Int) > 1000))
def mapMemOk (a0 : ByteArray) : Bool := decide ((a0.size : Int) ≥ 256) && (decide ((a0.size : Int) ≤ 65536) && (((a0.size : Int) % 256) == 0))
def mapFree (a0 : ByteArray) (x : Int) : Bool := !(inMB x 0 ((a0.size : Int) / 256 - 1))
def mapForm (a0 : ByteArray) (a1 : Int) (l3 : List Int) : Bool := !(mapMemOk a0) || (!(inMB a1 0 ((a0.size : Int) / 256 - 1)) || l3.any (mapFree a0))
def mapsEnd (r : Int × Int × List UInt8 × List Int) : Int × Int × ByteArray × List Int := if r.1 = 0 then (0, 0, ⟨r.2.2.1.toArray⟩, r.2.2.2) else (r.1, r.2.1, ⟨#[]⟩, [])
def impl_MapPages.f (a0 : ByteArray) (a1 : Int) (l2 : List S124) (l3 : List Int) : Option (Int × Int × ByteArray × List Int) :=
  if mapSized a0 l2 l3 = true then some (2, 0, ⟨#[]⟩, []) else if mapForm a0 a1 l3 = true then some (1, 0, ⟨#[]⟩, []) else some (mapsEnd (mapsGo (a0.size / 256) a1.toNat l2 a0.data.toList l3 0))
theorem memOk_eq (a0 : ByteArray) : impl_ymemOk.f a0 = some (mapMemOk a0) := by
  unfold impl_ymemOk.f mapMemOk
  by_cases h : (a0.size : Int) ≥ 256
  · rw [if_pos h, decide_eq_true h]
    by_cases h1 : (a0.size : Int) ≤ 65536
    · rw [if_pos h1, decide_eq_true h1]; rfl
    · rw [if_neg h1, decide_eq_false h1]; rfl
  · rw [if_neg h, decide_eq_false h]; rfl
set_option maxHeartbeats 4000000 in
theorem mapp_indexFunc (A : Option Addr) (c : Nat) (zs : List Int) (p : Int → Bool) (B0 : Nat) (eg : ∀ args w, (callFunc 76 args).run Try.prog w = .ok (.enter 76 args) w) (w : World)
    (hp : ∀ (W : World) (x : Int), Below w.heap.size w W → Calls Try.prog 76 #[.int .i64 x, .pointer (some ⟨B0, 0, none⟩)] W fun e w' => e = .returned (.bool (p x)) ∧ Below W.heap.size W w')
    (hr : Kd.C (Kd.int .i64) w A zs.length zs) :
    Calls Try.prog 116 #[.slice A zs.length c, .func (.func 76) #[] #[.pointer (some ⟨B0, 0, none⟩)]] w fun e w' => e = .returned (.int .i64 (Go.Proofs.Ytmajbehafgajmaa.Pl.idxFrom p zs 0)) ∧ Below w.heap.size w w' := by
  have HR := Aside0.mk hr
  have hbig := hr.2.1
  have HP := Aside0.mk hp
  clear hr hp
  go_enter Try.func116, Try.ntmps116
  go_wp2
  go_loopg [5, 8] zs.length (fun gg _ s8 wr => ∃ kk : Nat, s8 = .int .i64 kk ∧ Aside0 (kk ≤ zs.length) ∧ Aside0 (zs.length - kk ≤ gg) ∧ Aside0 (Below w.heap.size w wr) ∧ Aside0 (∀ j, j < kk → p (zs.getD j 0) = false))
  case atStart => exact ⟨0, rfl, ⟨Nat.zero_le _⟩, ⟨by omega⟩, ⟨Below.refl _ w⟩, ⟨fun j hj => absurd hj (Nat.not_lt_zero _)⟩⟩
  case round =>
    obtain ⟨kk, rfl, hkk, hg, BW, AA⟩ := hrel
    by_cases hlt : kk < zs.length
    · have hltz : (kk : Int) < (zs.length : Int) := by omega
      obtain ⟨ad, e_, hx⟩ := Kd.at_int HR.out (kk : Int) (by omega) (by omega)
      cases e_
      replace hx := pw_cell_below BW.out hx
      rw [Int.toNat_natCast] at hx
      have hcall := HP.out wr (zs.getD kk 0) BW.out
      have hy0 : rd zs (kk : Int) = zs.getD kk 0 := by unfold rd; rw [Int.toNat_natCast]
      rw [hy0] at hx
      clear hy0
      generalize hy : zs.getD kk 0 = y at hx hcall
      have BY := Aside0.mk hy
      clear hy
      cases hq : p y with
      | true =>
        rw [hq] at hcall
        have HQ := Aside0.mk hq
        clear hq
        go_wp2_with (go_at_call 76; refine hcall.mono ?_; rintro e w' ⟨rfl, hb'⟩)
        go_ret
        refine ⟨?_, BW.out.trans (hb'.mono BW.out.size)⟩
        rw [Go.Proofs.Ytmajbehafgajmaa.Pl.idxFrom_hit p 0 zs 0 kk hlt (by rw [BY.out]; exact HQ.out) AA.out, Nat.zero_add]
        rfl
      | false =>
        rw [hq] at hcall
        have HQ := Aside0.mk hq
        clear hq
        go_wp2_with (go_at_call 76; refine hcall.mono ?_; rintro e w' ⟨rfl, hb'⟩)
        go_roundg (zs.length - (kk + 1))
        case measure => have := hg.out; omega
        case rel =>
          refine ⟨kk + 1, by go_num, ⟨hlt⟩, ⟨by omega⟩, ⟨BW.out.trans (hb'.mono BW.out.size)⟩, ⟨fun j hj => ?_⟩⟩
          by_cases e : j = kk
          · subst e
            rw [BY.out]; exact HQ.out
          · exact AA.out j (by omega)
    · have hltz : ¬ (kk : Int) < (zs.length : Int) := by omega
      have hkn : kk = zs.length := by have := hkk.out; omega
      subst hkn
      go_wp2
      go_ret
      refine ⟨?_, BW.out⟩
      rw [Go.Proofs.Ytmajbehafgajmaa.Pl.idxFrom_miss p 0 zs 0 AA.out]
      rfl
theorem mapp_closure (W : World) (x : Int) (B : Nat) (s : ByteArray) (hs : (s.size : Int) ≤ 65536) (hB : W.cell? ⟨B, 0, none⟩ = some (.string s)) : Calls Try.prog 76 #[.int .i64 x, .pointer (some ⟨B, 0, none⟩)] W fun e w' => e = .returned (.bool (mapFree s x)) ∧ Below W.heap.size W w' := by
  have hq : Int.tdiv (s.size : Int) 256 = (s.size : Int) / 256 := Int.tdiv_eq_ediv_of_nonneg (by omega)
  have hw : wrap64 ((s.size : Int) / 256 - 1) = (s.size : Int) / 256 - 1 := by unfold wrap64; omega
  have hw2 : IntKind.i64.wrap ((s.size : Int) / 256 - 1) = (s.size : Int) / 256 - 1 := by rw [Go.Proofs.Ytmajbehafgajmaa.Pl.i64w]; exact hw
  have hw3 : wrap64 ((s.size : Int) / 256) = (s.size : Int) / 256 := by unfold wrap64; omega
  have hy := fun W => impl_yin.calls x 0 ((s.size : Int) / 256 - 1) _ W (yinM_eq _ _ _)
  unfold mapFree
  generalize inMB x 0 ((s.size : Int) / 256 - 1) = b at hy
  go_enter Try.func76, Try.ntmps76
  go_wp2_with (go_at_call 49; with_reducible refine (hy _).mono ?_; rintro e w' ⟨rfl, ⟨m1, rfl⟩⟩)
  go_ret
  exact ⟨by simp, (by repeat (first | exact Below.refl _ _ | apply pw_below_drewN | apply below_alloc))⟩
set_option maxHeartbeats 4000000 in
theorem mapp_contains (A : Option Addr) (c : Nat) (zs : List Int) (B : Nat) (s : ByteArray) (hs : (s.size : Int) ≤ 65536) (w : World) (hB : w.cell? ⟨B, 0, none⟩ = some (.string s)) (hr : Kd.C (Kd.int .i64) w A zs.length zs) :
    Calls Try.prog 75 #[.slice A zs.length c, .func (.func 76) #[] #[.pointer (some ⟨B, 0, none⟩)]] w fun e w' => e = .returned (.bool (zs.any (mapFree s))) ∧ Below w.heap.size w w' := by
  have eg : ∀ args w, (callFunc 76 args).run Try.prog w = .ok (.enter 76 args) w := enters_of Try.func76 (by kernel_rfl) rfl
  have hcon := fun W (hb : Below w.heap.size w W) => mapp_indexFunc A c zs (mapFree s) B eg W (fun W' x hb' => mapp_closure W' x B s hs (pw_cell_below hb' (pw_cell_below hb hB))) (Kd.C_below hr hb)
  have hany : (decide (0 ≤ Go.Proofs.Ytmajbehafgajmaa.Pl.idxFrom (mapFree s) zs 0)) = zs.any (mapFree s) := by rw [Go.Proofs.Ytmajbehafgajmaa.Pl.idxFrom_any]
  generalize Go.Proofs.Ytmajbehafgajmaa.Pl.idxFrom (mapFree s) zs 0 = q at hcon hany
  generalize zs.any (mapFree s) = r at hany
  clear hr hB
  subst hany
  go_enter Try.func75, Try.ntmps75
  go_wp2_with (go_at_call 116; refine (hcon _ (by repeat (first | exact Below.refl _ _ | apply pw_below_drewN | apply below_alloc))).mono ?_; rintro e w2 ⟨rfl, hb'⟩)
  go_ret
  exact ⟨by simp, Below.trans (by repeat (first | exact Below.refl _ _ | apply pw_below_drewN | apply below_alloc)) (hb'.mono (by simp))⟩
/-- The boxes of MapPages: its memory and its answer. -/
def MPW (w W : World) (a0 : ByteArray) : Prop := Below w.heap.size w W ∧ W.heap[w.heap.size]? = some (.cells #[.string a0] 9 (0, 0)) ∧ W.heap[w.heap.size + 1]? = some (.cells #[.int .i64 0, .int .i64 0, .string ⟨#[]⟩, .slice none 0 0] 53 (0, 0))
theorem MPW.below {w W W' : World} {a0 : ByteArray} (h : MPW w W a0) (hb : Below W.heap.size W W') : MPW w W' a0 := ⟨below_step h.1 hb, blk_below h.2.1 hb, blk_below h.2.2 hb⟩
theorem MPW.start (w : World) (a0 : ByteArray) : MPW w ((w.alloc (Obj.cells #[.string a0] 9)).alloc (Obj.cells #[.int .i64 0, .int .i64 0, .string ⟨#[]⟩, .slice none 0 0] 53)) a0 := by
  refine ⟨below_alloc (below_alloc (Below.refl _ _) _) _, blk_alloc (blk_new _ _) _, ?_⟩
  have := blk_new (w.alloc (Obj.cells #[.string a0] 9)) (Obj.cells #[.int .i64 0, .int .i64 0, .string ⟨#[]⟩, .slice none 0 0] 53)
  simpa using this
/-- What the answer's row holds lives on when the answer's box is written. -/
theorem mapForm_facts (a0 : ByteArray) (a1 : Int) (l3 : List Int) (h : mapForm a0 a1 l3 = false) : a0.size = a0.size / 256 * 256 ∧ a0.size / 256 ≤ 256 ∧ 0 ≤ a1 ∧ a1.toNat < a0.size / 256 ∧ ∀ t ∈ l3, 0 ≤ t ∧ t < ((a0.size / 256 : Nat) : Int) := by
  unfold mapForm at h
  obtain ⟨h1, h⟩ := Bool.or_eq_false_iff.mp h
  obtain ⟨h2, h3⟩ := Bool.or_eq_false_iff.mp h
  rw [Bool.not_eq_false'] at h1 h2
  unfold mapMemOk at h1
  rw [Bool.and_eq_true, Bool.and_eq_true] at h1
  have q0 := of_decide_eq_true h1.1
  have q1 := of_decide_eq_true h1.2.1
  have q2 : ((a0.size : Int) % 256) = 0 := by simpa using h1.2.2
  unfold inMB at h2
  rw [Bool.and_eq_true] at h2
  have q3 := of_decide_eq_true h2.1
  have q4 := of_decide_eq_true h2.2
  refine ⟨by omega, by omega, q3, by omega, fun t ht => ?_⟩
  have h4 := List.any_eq_false.mp h3 t ht
  unfold mapFree inMB at h4
  rw [Bool.not_eq_true, Bool.not_eq_false', Bool.and_eq_true] at h4
  have q5 := of_decide_eq_true h4.1
  have q6 := of_decide_eq_true h4.2
  omega
theorem MPW.kb {w W W' : World} {a0 : ByteArray} {g : Nat} (h : MPW w W a0) (k : KB W W' g) (hg : w.heap.size + 2 ≤ g) : MPW w W' a0 := ⟨h.1.trans (k.below (by omega) h.1.size), k.blk h.2.1 (by omega), k.blk h.2.2 (by omega)⟩
theorem map_end {bs : List UInt8} {free : List Int} {F root : Nat} {k : Int} {r1 r2 : Int} {r3 : ByteArray} {r4 : List Int} (h : mapsEnd (mapsGo F root [] bs free k) = (r1, r2, r3, r4)) : r1 = 0 ∧ r2 = 0 ∧ r3 = ⟨bs.toArray⟩ ∧ free = r4 := by
  unfold mapsGo mapsEnd at h
  rw [if_pos rfl] at h
  simp only [Prod.mk.injEq] at h
  exact ⟨h.1.symm, h.2.1.symm, h.2.2.1.symm, h.2.2.2⟩
theorem map_far {W : World} {base : Nat} {v : Value} {xs : List Int} {g : Nat} {cs : Array Value} (hk : W.heap[g]? = some (.cells cs 53 (0, 0))) (h : Kd.R (Kd.int .i64) 2 W base (fun _ => True) v xs) (a b c d : Value) : Kd.R (Kd.int .i64) 2 ((((W.setCell ⟨g, 0, none⟩ a).setCell ⟨g, 1, none⟩ b).setCell ⟨g, 2, none⟩ c).setCell ⟨g, 3, none⟩ d) base (fun _ => True) v xs :=
  Kd.R_mono (Kd.R_far (p := ⟨g, 3, none⟩) (Kd.R_far (p := ⟨g, 2, none⟩) (Kd.R_far (p := ⟨g, 1, none⟩) (Kd.R_far (p := ⟨g, 0, none⟩) (Kd.R_types h hk (by decide)) (fun _ hk => hk.2) a) (fun _ hk => hk.2) b) (fun _ hk => hk.2) c) (fun _ hk => hk.2) d) (fun _ _ => trivial)
set_option maxHeartbeats 16000000 in
set_option maxRecDepth 100000 in
theorem impl_MapPages.calls (a0 : ByteArray) (a1 : Int) (A2 : Option Addr) (c2 : Nat) (l2 : List S124) (A3 : Option Addr) (c3 : Nat) (l3 : List Int) (r1 : Int) (r2 : Int) (r3 : ByteArray) (r4 : List Int) (w : World) (hr2 : Kd.C k124 w A2 l2.length l2) (hc2 : l2.length ≤ c2) (hr3 : Kd.C (Kd.int .i64) w A3 l3.length l3) (hc3 : l3.length ≤ c3) (h : impl_MapPages.f a0 a1 l2 l3 = some (r1, r2, r3, r4)) :
    Calls Try.prog 22 #[.string a0, .int .i64 a1, .slice A2 l2.length c2, .slice A3 l3.length c3] w fun e w' => ∃ v3_ : Value, e = .returned (.agg #[.int .i64 r1, .int .i64 r2, .string r3, v3_]) ∧ Kd.R (Kd.int .i64) 2 w' w.heap.size (fun _ => True) v3_ r4 ∧ Below w.heap.size w w' := by
  have H := Aside0.mk h
  have HR2 := Aside0.mk hr2
  have HC2 := Aside0.mk hc2
  have HR3 := Aside0.mk hr3
  have HC3 := Aside0.mk hc3
  clear h hr2 hc2 hr3 hc3
  have hbg := fun W b hb => mbg a0 W b hb
  go_enter Try.func22, Try.ntmps22
  go_upto_region 1 with (fail)
  go_cut [25] (fun s25 wc => ∃ b : Bool, s25 = .bool b ∧ Aside0 (b = mapSized a0 l2 l3) ∧ Aside0 (MPW w wc a0))
  case first =>
    have HM := Aside0.mk (MPW.start w a0)
    obtain ⟨b0, hb0⟩ : ∃ b, decide ((a0.size : Int) > 65536) = b := ⟨_, rfl⟩
    obtain ⟨b1, hb1⟩ : ∃ b, decide ((l2.length : Int) > 1000) = b := ⟨_, rfl⟩
    obtain ⟨b2, hb2⟩ : ∃ b, decide ((l3.length : Int) > 1000) = b := ⟨_, rfl⟩
    have HS : Aside0 (mapSized a0 l2 l3 = (b0 || (b1 || b2))) := ⟨by unfold mapSized; rw [hb0, hb1, hb2]⟩
    rw [hb0] at hbg
    have e1 : decide (1000 < (l2.length : Int)) = b1 := hb1
    have e1' : decide (1000 < l2.length) = b1 := by rw [← hb1]; apply Bool.eq_iff_iff.mpr; simp only [decide_eq_true_eq]; omega
    have e2 : decide (1000 < (l3.length : Int)) = b2 := hb2
    have e2' : decide (1000 < l3.length) = b2 := by rw [← hb2]; apply Bool.eq_iff_iff.mpr; simp only [decide_eq_true_eq]; omega
    clear hb0 hb1 hb2
    go_wp2_with (fail)
    go_at_call 73
    refine (hbg _ _ ?hbq).mono ?_
    case hbq => first | rfl | simp
    rintro e w1 ⟨rfl, hb1⟩
    have HM1 := Aside0.mk (HM.out.below hb1)
    clear hb1 hbg
    cases b0 with
    | true =>
      go_wp2
      go_meet
      case rel => exact ⟨true, rfl, ⟨by rw [HS.out]; rfl⟩, HM1⟩
    | false =>
      cases b1 with
      | true =>
        go_wp2
        go_meet
        case rel => exact ⟨true, rfl, ⟨by rw [HS.out]; rfl⟩, HM1⟩
      | false =>
        cases b2 with
        | true =>
          go_wp2
          go_meet
          case rel => exact ⟨true, rfl, ⟨by rw [HS.out]; rfl⟩, HM1⟩
        | false =>
          go_wp2
          go_meet
          case rel => exact ⟨false, rfl, ⟨by rw [HS.out]; rfl⟩, HM1⟩
  case rest =>
    clear hbg
    obtain ⟨b, rfl, hbm, HM⟩ := hcut
    cases b with
    | true =>
      have h := H.out
      unfold impl_MapPages.f at h
      rw [if_pos hbm.out.symm] at h
      simp only [Option.some.injEq, Prod.mk.injEq] at h
      obtain ⟨rfl, rfl, rfl, rfl⟩ := h
      have f0 := blk_frozen HM.out.2.2 0
      have f1 := blk_frozen HM.out.2.2 1
      have f2 := blk_frozen HM.out.2.2 2
      have f3 := blk_frozen HM.out.2.2 3
      have z0 : wc.cell? ⟨w.heap.size + 1, 0, none⟩ = some (.int .i64 0) := (blk_cell HM.out.2.2 0).trans rfl
      have z1 : wc.cell? ⟨w.heap.size + 1, 1, none⟩ = some (.int .i64 0) := (blk_cell HM.out.2.2 1).trans rfl
      have z2 : wc.cell? ⟨w.heap.size + 1, 2, none⟩ = some (.string ⟨#[]⟩) := (blk_cell HM.out.2.2 2).trans rfl
      have z3 : wc.cell? ⟨w.heap.size + 1, 3, none⟩ = some (.slice none 0 0) := (blk_cell HM.out.2.2 3).trans rfl
      go_wp2
      refine bodyPost_ret (results_cell_row rfl _ _ (w.heap.size + 1) 53 #[.int .i64 (2), .int .i64 (0), .string (⟨#[]⟩), .slice none 0 0] (0, 0) _ rfl (blk_put (cs := #[.int .i64 (2), .int .i64 (0), .string (⟨#[]⟩), .slice none 0 0]) (blk_put (cs := #[.int .i64 (2), .int .i64 (0), .string ⟨#[]⟩, .slice none 0 0]) (blk_put (cs := #[.int .i64 (2), .int .i64 0, .string ⟨#[]⟩, .slice none 0 0]) (blk_put (cs := #[.int .i64 0, .int .i64 0, .string ⟨#[]⟩, .slice none 0 0]) HM.out.2.2 0 _ rfl) 1 _ rfl) 2 _ rfl) 3 _ rfl) Try.underlying53 rfl (by kernel_rfl)) rfl ?_
      exact ⟨_, rfl, map_far HM.out.2.2 (Kd.R_nil _ _ _ _ _) _ _ _ _, below_set (below_set (below_set (below_set HM.out.1 (by omega)) (by omega)) (by omega)) (by omega)⟩
    | false =>
      have hsz : mapSized a0 l2 l3 = false := hbm.out.symm
      have hb16 : (a0.size : Int) ≤ 65536 := by
        unfold mapSized at hsz
        have := (Bool.or_eq_false_iff.mp hsz).1
        have := of_decide_eq_false this
        omega
      have HSZ := Aside0.mk hsz
      clear hsz
      go_upto_region 3 with (fail)
      go_cut [43] (fun s43 wd => ∃ b : Bool, s43 = .bool b ∧ Aside0 (b = mapForm a0 a1 l3) ∧ Aside0 (MPW w wd a0))
      case first =>
        have hm0 := fun W => impl_ymemOk.calls a0 _ W (memOk_eq a0)
        have hy0 := fun W => impl_yin.calls a1 0 ((a0.size : Int) / 256 - 1) _ W (yinM_eq _ _ _)
        have hc0 := fun W B hB hC => mapp_contains A3 c3 l3 B a0 hb16 W hB hC
        obtain ⟨b0, hb0⟩ : ∃ b, mapMemOk a0 = b := ⟨_, rfl⟩
        obtain ⟨b1, hb1⟩ : ∃ b, inMB a1 0 ((a0.size : Int) / 256 - 1) = b := ⟨_, rfl⟩
        obtain ⟨b2, hb2⟩ : ∃ b, l3.any (mapFree a0) = b := ⟨_, rfl⟩
        have HS : Aside0 (mapForm a0 a1 l3 = (!b0 || (!b1 || b2))) := ⟨by unfold mapForm; rw [hb0, hb1, hb2]⟩
        rw [hb0] at hm0
        rw [hb1] at hy0
        rw [hb2] at hc0
        clear hb0 hb1 hb2
        have z0 : wc.cell? ⟨w.heap.size, 0, none⟩ = some (.string a0) := (blk_cell HM.out.2.1 0).trans rfl
        have hq : Int.tdiv (a0.size : Int) 256 = (a0.size : Int) / 256 := Int.tdiv_eq_ediv_of_nonneg (by omega)
        have hw : wrap64 ((a0.size : Int) / 256 - 1) = (a0.size : Int) / 256 - 1 := by unfold wrap64; omega
        have hw2 : IntKind.i64.wrap ((a0.size : Int) / 256 - 1) = (a0.size : Int) / 256 - 1 := by rw [Go.Proofs.Ytmajbehafgajmaa.Pl.i64w]; exact hw
        have hw3 : wrap64 ((a0.size : Int) / 256) = (a0.size : Int) / 256 := by unfold wrap64; omega
        go_wp2_with (fail)
        go_at_call 74
        refine (hm0 _).mono ?_
        rintro e w' ⟨rfl, ⟨m0, rfl⟩⟩
        clear hm0
        cases b0 with
        | false =>
          go_wp2
          go_meet
          case rel => exact ⟨true, rfl, ⟨by rw [HS.out]; rfl⟩, ⟨HM.out.below (pw_below_drewN (Below.refl _ _) _)⟩⟩
        | true =>
          go_wp2_with (fail)
          go_at_call 49
          refine (hy0 _).mono ?_
          rintro e w' ⟨rfl, ⟨m1, rfl⟩⟩
          clear hy0
          cases b1 with
          | false =>
            go_wp2
            go_meet
            case rel => exact ⟨true, rfl, ⟨by rw [HS.out]; rfl⟩, ⟨HM.out.below (by repeat (first | exact Below.refl _ _ | apply pw_below_drewN | apply below_alloc))⟩⟩
          | true =>
            have HM2 : Aside0 (MPW w (wc.drewN (m0 + m1)) a0) := ⟨HM.out.below (pw_below_drewN (Below.refl _ _) _)⟩
            go_wp2_with (fail)
            go_at_call 75
            refine (hc0 _ w.heap.size ((blk_cell HM2.out.2.1 0).trans rfl) (Kd.C_below HR3.out HM2.out.1)).mono ?_
            rintro e w' ⟨rfl, hb5⟩
            have HM3 := Aside0.mk (HM2.out.below hb5)
            clear hc0 hb5
            cases b2 with
            | true =>
              go_wp2
              go_meet
              case rel => exact ⟨true, rfl, ⟨by rw [HS.out]; rfl⟩, HM3⟩
            | false =>
              go_wp2
              go_meet
              case rel => exact ⟨false, rfl, ⟨by rw [HS.out]; rfl⟩, HM3⟩
      case rest =>
        obtain ⟨b, rfl, hbm, HM⟩ := hcut
        cases b with
        | true =>
          have h := H.out
          unfold impl_MapPages.f at h
          rw [HSZ.out, if_neg Bool.false_ne_true, if_pos hbm.out.symm] at h
          simp only [Option.some.injEq, Prod.mk.injEq] at h
          obtain ⟨rfl, rfl, rfl, rfl⟩ := h
          have f0 := blk_frozen HM.out.2.2 0
          have f1 := blk_frozen HM.out.2.2 1
          have f2 := blk_frozen HM.out.2.2 2
          have f3 := blk_frozen HM.out.2.2 3
          have z0 : wc.cell? ⟨w.heap.size + 1, 0, none⟩ = some (.int .i64 0) := (blk_cell HM.out.2.2 0).trans rfl
          have z1 : wc.cell? ⟨w.heap.size + 1, 1, none⟩ = some (.int .i64 0) := (blk_cell HM.out.2.2 1).trans rfl
          have z2 : wc.cell? ⟨w.heap.size + 1, 2, none⟩ = some (.string ⟨#[]⟩) := (blk_cell HM.out.2.2 2).trans rfl
          have z3 : wc.cell? ⟨w.heap.size + 1, 3, none⟩ = some (.slice none 0 0) := (blk_cell HM.out.2.2 3).trans rfl
          go_wp2
          refine bodyPost_ret (results_cell_row rfl _ _ (w.heap.size + 1) 53 #[.int .i64 (1), .int .i64 (0), .string (⟨#[]⟩), .slice none 0 0] (0, 0) _ rfl (blk_put (cs := #[.int .i64 (1), .int .i64 (0), .string (⟨#[]⟩), .slice none 0 0]) (blk_put (cs := #[.int .i64 (1), .int .i64 (0), .string ⟨#[]⟩, .slice none 0 0]) (blk_put (cs := #[.int .i64 (1), .int .i64 0, .string ⟨#[]⟩, .slice none 0 0]) (blk_put (cs := #[.int .i64 0, .int .i64 0, .string ⟨#[]⟩, .slice none 0 0]) HM.out.2.2 0 _ rfl) 1 _ rfl) 2 _ rfl) 3 _ rfl) Try.underlying53 rfl (by kernel_rfl)) rfl ?_
          exact ⟨_, rfl, map_far HM.out.2.2 (Kd.R_nil _ _ _ _ _) _ _ _ _, below_set (below_set (below_set (below_set HM.out.1 (by omega)) (by omega)) (by omega)) (by omega)⟩
        | false =>
          have h := H.out
          unfold impl_MapPages.f at h
          rw [HSZ.out, if_neg Bool.false_ne_true, hbm.out.symm, if_neg Bool.false_ne_true] at h
          obtain ⟨hF, hFn, ha1, hroot, hft⟩ := mapForm_facts a0 a1 l3 hbm.out.symm
          obtain ⟨F, hFe⟩ : ∃ F, a0.size / 256 = F := ⟨_, rfl⟩
          rw [hFe] at hF hFn hroot hft h
          obtain ⟨root, rfl⟩ : ∃ r : Nat, a1 = (r : Int) := ⟨a1.toNat, by omega⟩
          rw [Int.toNat_natCast] at hroot h
          have HRES := Aside0.mk (Option.some.inj h)
          have HF := Aside0.mk hF
          have HFN := Aside0.mk hFn
          have HROOT := Aside0.mk hroot
          have HFT := Aside0.mk hft
          clear h hF hFn hroot hft hFe ha1
          have z0 : wc.cell? ⟨w.heap.size, 0, none⟩ = some (.string a0) := (blk_cell HM.out.2.1 0).trans rfl
          have kb := fun W => print_bytes (P := Try.prog) 9 130 5 Try.underlying9 Try.underlying130 Try.underlying5 a0 W
          go_wp2
          have hsz : a0.size ≤ 9223372036854775807 := by have := hb16; omega
          have R0 := Go.Proofs.Ytmajbehafgajmaa.By.BRow.conv wc 5 a0 hsz
          have B0 : Below wc.heap.size wc (Lib.bytesWorld wc 5 a0) := bytes_below (Below.refl _ _) (Nat.le_refl _) _ _
          have L0 : a0.data.toList.length = a0.size := by rw [Array.length_toList]; rfl
          have M0 := HM.out.below B0
          have G0 : w.heap.size + 2 ≤ wc.heap.size := blk_lt HM.out.2.2
          generalize Lib.bytesWorld wc 5 a0 = W1 at R0 B0 M0 ⊢
          generalize grownCap wc a0.size 0 5 = cap at R0 ⊢
          generalize wc.heap.size = g at R0 G0 ⊢
          rw [← L0]
          generalize a0.data.toList = bs0 at R0 L0 HRES ⊢
          have H1000 : Aside0 (l3.length ≤ 1000) := ⟨by
            have := HSZ.out
            unfold mapSized at this
            have := (Bool.or_eq_false_iff.mp (Bool.or_eq_false_iff.mp this).2).2
            have := of_decide_eq_false this
            omega⟩
          have RA := Aside0.mk R0
          have MA := Aside0.mk M0
          have BA := Aside0.mk (HM.out.1.trans (B0.mono HM.out.1.size))
          have LA := Aside0.mk (show bs0.length = F * 256 from by rw [L0]; exact HF.out)
          have GA := Aside0.mk G0
          have hF0 := Aside0.mk (show ∀ W, KB W1 W g → Kd.C (Kd.int .i64) W A3 l3.length l3 from fun W hk => Kd.C_below HR3.out (BA.out.trans (hk.below (by have := GA.out; omega) BA.out.size)))
          clear R0 M0 B0 L0 G0 kb z0 hsz
          go_loopg [3, 49] l2.length (fun gg s3 s49 wr => ∃ (kk : Nat) (A : Option Addr) (n c : Nat) (bs : List UInt8) (free : List Int), s3 = .slice A n c ∧ s49 = .int .i64 kk ∧ Aside0 (n = free.length) ∧ Aside0 (kk ≤ l2.length) ∧ Aside0 (l2.length - kk ≤ gg) ∧ Aside0 (free.length ≤ c) ∧ Aside0 (MPW w wr a0) ∧ Aside0 (Go.Proofs.Ytmajbehafgajmaa.By.BRow wr g cap bs) ∧ Aside0 (bs.length = bs0.length) ∧ Aside0 (∀ t ∈ free, 0 ≤ t ∧ t < (F : Int)) ∧ Aside0 (free.length ≤ 1000) ∧ Aside0 (∀ W, KB wr W g → Kd.C (Kd.int .i64) W A free.length free) ∧ Aside0 (mapsGo F root (l2.drop kk) bs free (kk : Int) = mapsGo F root l2 bs0 l3 0))
          case atStart => exact ⟨0, A3, l3.length, c3, bs0, l3, rfl, rfl, ⟨rfl⟩, ⟨Nat.zero_le _⟩, ⟨by omega⟩, HC3, MA, RA, ⟨rfl⟩, HFT, H1000, hF0, ⟨rfl⟩⟩
          case round =>
            obtain ⟨kk, A, n, c, bs, free, rfl, rfl, hn, hkk, hg, hfc, hM, hB, hL, hft, hfl, hfr, hgo⟩ := hrel
            obtain rfl := hn.out
            clear hn
            by_cases hlt : kk < l2.length
            · have hltz : (kk : Int) < (l2.length : Int) := by omega
              obtain ⟨ad, e_, hx0, hx1, hx2, hx3⟩ := at_T124 HR2.out (kk : Int) (by omega) (by omega)
              cases e_
              replace hx0 := pw_cell_below hM.out.1 hx0
              replace hx1 := pw_cell_below hM.out.1 hx1
              replace hx2 := pw_cell_below hM.out.1 hx2
              replace hx3 := pw_cell_below hM.out.1 hx3
              have hdr : l2.drop kk = rd_T124 l2 (kk : Int) :: l2.drop (kk + 1) := by
                unfold rd_T124
                rw [Int.toNat_natCast, List.drop_eq_getElem_cons hlt, List.getD_eq_getElem?_getD, List.getElem?_eq_getElem hlt, Option.getD_some]
              rw [Int.toNat_natCast] at hx0 hx1 hx2 hx3
              have hg1 := hgo.out
              rw [hdr] at hg1
              clear hdr
              generalize rd_T124 l2 (kk : Int) = x at hx0 hx1 hx2 hx3 hg1
              have key : ∀ W2, Below wr.heap.size wr W2 → Calls Try.prog 77 #[.slice (some ⟨g, 0, none⟩) bs0.length cap, .int .i64 (root : Int), .agg #[.int .i64 x.f0, .int .i64 x.f1, .int .i64 x.f2, .bool x.f3], .slice A free.length c] W2 (YP W2 g cap (ymapR bs F root x free)) := fun W2 hb => by
                have := ymapR_calls W2 g cap bs root x A c F (hB.out.below hb hB.out.lt) (by rw [hL.out]; exact LA.out) HFN.out HROOT.out free hfc.out hft.out (fun W hk => hfr.out W ((KB.of_below hb).trans hk))
                rw [hL.out] at this
                exact this
              have keep := ymapR_keeps bs F root x free (by rw [hL.out]; exact LA.out) HROOT.out hft.out
              obtain ⟨res, hres⟩ : ∃ r, ymapR bs F root x free = r := ⟨_, rfl⟩
              rw [hres] at key keep
              have hg2 : mapsGo F root (x :: l2.drop (kk + 1)) bs free (kk : Int) = if res.1 = 0 then mapsGo F root (l2.drop (kk + 1)) res.2.1 res.2.2 ((kk : Int) + 1) else (res.1, (kk : Int), [], []) := by rw [← hres]; rfl
              rw [hg2] at hg1
              clear hg2 hres
              obtain ⟨code, bs2, free2⟩ := res
              dsimp only at hg1 keep
              have KEY := Aside0.mk key
              have KEEP := Aside0.mk keep
              have HG1 := Aside0.mk hg1
              clear key keep hg1
              go_wp2_with (fail)
              go_at_call 77
              refine (KEY.out _ ?hb).mono ?_
              case hb => repeat (first | exact Below.refl _ _ | apply pw_below_drewN | apply below_alloc | (refine below_set ?_ (by simp)))
              rintro e w2 ⟨A', c', rfl, hc', hfr', hB', hk'⟩
              dsimp only at hc' hfr' hB'
              have HM2 := Aside0.mk ((hM.out.below (below_alloc (Below.refl _ _) (Obj.cells #[.int .i64 x.f0, .int .i64 x.f1, .int .i64 x.f2, .bool x.f3] 124))).kb hk' GA.out)
              have HC' := Aside0.mk hc'
              have HFR' := Aside0.mk (show ∀ W, KB w2 W g → Kd.C (Kd.int .i64) W A' free2.length free2 from fun W hk => hfr' W (hk'.trans hk))
              have HB' := Aside0.mk hB'
              clear hc' hfr' hB' hk'
              by_cases hcode : code = 0
              · subst hcode
                go_wp2
                go_roundg (l2.length - (kk + 1))
                case measure => have := hg.out; omega
                case rel =>
                  have e9 : wrap64 ((kk : Int) + 1) = ((kk + 1 : Nat) : Int) := by
                    have := HR2.out.2.1
                    rw [Go.Proofs.Ytmajbehafgajmaa.Pl.w64 (by omega) (by omega)]; omega
                  have hg1 := HG1.out
                  first | rw [if_pos trivial] at hg1 | rw [if_pos rfl] at hg1
                  exact ⟨kk + 1, A', free2.length, c', bs2, free2, rfl, by first | (rw [e9]; done) | (rw [Go.Proofs.Ytmajbehafgajmaa.Pl.i64w, e9]; done) | (simp only [e9]; done), ⟨rfl⟩, ⟨hlt⟩, ⟨by omega⟩, HC', HM2, HB', ⟨by rw [KEEP.out.1, hL.out]⟩, ⟨fun t ht => hft.out t (KEEP.out.2.2 t ht)⟩, ⟨Nat.le_trans KEEP.out.2.1 hfl.out⟩, HFR', ⟨by rw [← hg1]; rfl⟩⟩
              · have hz1 : (code != 0) = true := bne_iff_ne.mpr hcode
                have hz2 : (code == 0) = false := beq_eq_false_iff_ne.mpr hcode
                have hres := HRES.out
                rw [← HG1.out, if_neg hcode] at hres
                unfold mapsEnd at hres
                rw [if_neg hcode] at hres
                simp only [Prod.mk.injEq] at hres
                obtain ⟨rfl, rfl, rfl, rfl⟩ := hres
                have f0 := blk_frozen HM2.out.2.2 0
                have f1 := blk_frozen HM2.out.2.2 1
                have f2 := blk_frozen HM2.out.2.2 2
                have f3 := blk_frozen HM2.out.2.2 3
                have z0 : w2.cell? ⟨w.heap.size + 1, 0, none⟩ = some (.int .i64 0) := (blk_cell HM2.out.2.2 0).trans rfl
                have z1 : w2.cell? ⟨w.heap.size + 1, 1, none⟩ = some (.int .i64 0) := (blk_cell HM2.out.2.2 1).trans rfl
                have z2 : w2.cell? ⟨w.heap.size + 1, 2, none⟩ = some (.string ⟨#[]⟩) := (blk_cell HM2.out.2.2 2).trans rfl
                have z3 : w2.cell? ⟨w.heap.size + 1, 3, none⟩ = some (.slice none 0 0) := (blk_cell HM2.out.2.2 3).trans rfl
                go_wp2
                refine bodyPost_ret (results_cell_row rfl _ _ (w.heap.size + 1) 53 #[.int .i64 (code), .int .i64 ((kk : Int)), .string (⟨#[]⟩), .slice none 0 0] (0, 0) _ rfl (blk_put (cs := #[.int .i64 (code), .int .i64 ((kk : Int)), .string (⟨#[]⟩), .slice none 0 0]) (blk_put (cs := #[.int .i64 (code), .int .i64 ((kk : Int)), .string ⟨#[]⟩, .slice none 0 0]) (blk_put (cs := #[.int .i64 (code), .int .i64 0, .string ⟨#[]⟩, .slice none 0 0]) (blk_put (cs := #[.int .i64 0, .int .i64 0, .string ⟨#[]⟩, .slice none 0 0]) HM2.out.2.2 0 _ rfl) 1 _ rfl) 2 _ rfl) 3 _ rfl) Try.underlying53 rfl (by kernel_rfl)) rfl ?_
                exact ⟨_, rfl, map_far HM2.out.2.2 (Kd.R_nil _ _ _ _ _) _ _ _ _, below_set (below_set (below_set (below_set HM2.out.1 (by omega)) (by omega)) (by omega)) (by omega)⟩
            · have hltz : ¬ (kk : Int) < (l2.length : Int) := by omega
              have hkl : kk = l2.length := by have := hkk.out; omega
              have hres := HRES.out
              rw [← hgo.out, hkl, List.drop_length] at hres
              obtain ⟨rfl, rfl, rfl, rfl⟩ := map_end hres
              clear hres
              have kc : ∀ W, Go.Proofs.Ytmajbehafgajmaa.By.BRow W g cap bs → ∀ c, (convert 130 9 (.slice (some ⟨g, 0, none⟩) bs0.length c)).run Try.prog W = .ok (.string ⟨bs.toArray⟩) W := fun W h c => Go.Proofs.Ytmajbehafgajmaa.By.BRow.back (P := Try.prog) h 130 9 5 Try.underlying130 Try.underlying5 Try.underlying9 c bs0.length hL.out
              have KC := Aside0.mk kc
              clear kc hkl
              go_upto_region 14 with (fail)
              have hBd : Go.Proofs.Ytmajbehafgajmaa.By.BRow wr.drew g cap bs := hB.out
              have kc0 := KC.out wr.drew hBd
              have HBD := Aside0.mk hBd
              have HCD : Aside0 (Kd.C (Kd.int .i64) wr.drew A free.length free) := ⟨Kd.C_below (hfr.out wr (KB.refl _ _)) (below_drew (Below.refl _ _))⟩
              have HMD : Aside0 (MPW w wr.drew a0) := ⟨hM.out.below (below_drew (Below.refl _ _))⟩
              have hclf : slices_Clone_int64_int64.f free = some free := by unfold slices_Clone_int64_int64.f; exact if_pos (by have := hfl.out; omega)
              have HCLF := Aside0.mk hclf
              clear hBd hclf
              have f0 := blk_frozen HMD.out.2.2 0
              have f1 := blk_frozen HMD.out.2.2 1
              have f2 := blk_frozen HMD.out.2.2 2
              have f3 := blk_frozen HMD.out.2.2 3
              have z0 : wr.drew.cell? ⟨w.heap.size + 1, 0, none⟩ = some (.int .i64 0) := (blk_cell HMD.out.2.2 0).trans rfl
              have z1 : wr.drew.cell? ⟨w.heap.size + 1, 1, none⟩ = some (.int .i64 0) := (blk_cell HMD.out.2.2 1).trans rfl
              have z2 : wr.drew.cell? ⟨w.heap.size + 1, 2, none⟩ = some (.string ⟨#[]⟩) := (blk_cell HMD.out.2.2 2).trans rfl
              have z3 : wr.drew.cell? ⟨w.heap.size + 1, 3, none⟩ = some (.slice none 0 0) := (blk_cell HMD.out.2.2 3).trans rfl
              go_region_with (first | (go_at_call 78; refine (slices_Clone_int64_int64.calls A c free free _ HCD.out hfc.out HCLF.out).mono ?_; rintro e w3 ⟨v3, rfl, hr3, hb3⟩; have kc3 := KC.out w3 (HBD.out.below hb3 HBD.out.lt); have HM3 := Aside0.mk (HMD.out.below hb3); obtain ⟨Ao, co, rfl⟩ := Kd.R_slice hr3; have HR3' := Aside0.mk hr3; clear hr3 hb3; have g0 := blk_frozen HM3.out.2.2 0; have g1 := blk_frozen HM3.out.2.2 1; have g2 := blk_frozen HM3.out.2.2 2; have g3 := blk_frozen HM3.out.2.2 3; have y0 : w3.cell? ⟨w.heap.size + 1, 0, none⟩ = some (.int .i64 0) := (blk_cell HM3.out.2.2 0).trans rfl; have y1 : w3.cell? ⟨w.heap.size + 1, 1, none⟩ = some (.int .i64 0) := (blk_cell HM3.out.2.2 1).trans rfl; have y2 : w3.cell? ⟨w.heap.size + 1, 2, none⟩ = some (.string ⟨#[]⟩) := (blk_cell HM3.out.2.2 2).trans rfl; have y3 : w3.cell? ⟨w.heap.size + 1, 3, none⟩ = some (.slice none 0 0) := (blk_cell HM3.out.2.2 3).trans rfl))
              all_goals
                go_wp2
                refine bodyPost_ret (results_cell_row rfl _ _ (w.heap.size + 1) 53 #[.int .i64 (0), .int .i64 (0), .string (⟨bs.toArray⟩), .slice Ao free.length co] (0, 0) _ rfl (blk_put (cs := #[.int .i64 (0), .int .i64 (0), .string (⟨bs.toArray⟩), .slice none 0 0]) (blk_put (cs := #[.int .i64 (0), .int .i64 (0), .string ⟨#[]⟩, .slice none 0 0]) (blk_put (cs := #[.int .i64 (0), .int .i64 0, .string ⟨#[]⟩, .slice none 0 0]) (blk_put (cs := #[.int .i64 0, .int .i64 0, .string ⟨#[]⟩, .slice none 0 0]) HM3.out.2.2 0 _ rfl) 1 _ rfl) 2 _ rfl) 3 _ rfl) Try.underlying53 rfl (by kernel_rfl)) rfl ?_
                exact ⟨_, rfl, map_far HM3.out.2.2 (Kd.R_lower HR3'.out HMD.out.1.size) _ _ _ _, below_set (below_set (below_set (below_set HM3.out.1 (by omega)) (by omega)) (by omega)) (by omega)⟩


/-! ### laws_eqInt64S: function 25 -/
def laws_eqInt64S.l0 : Nat → List Int → List Int → Int → Option (Bool)
  | 0, _, _, _ => none
  | k + 1, x0, x1, x5 => if x5 < (x0.length : Int) then (if 0 ≤ x5 then (if x5 < (x1.length : Int) then (if (rd x0 x5) = (rd x1 x5) then (laws_eqInt64S.l0 k x0 x1 (wrap64 (x5 + 1))) else (some false)) else (none)) else (none)) else (some true)
def laws_eqInt64S.f (k : Nat) (l0 : List Int) (l1 : List Int) : Option (Bool) := if (l0.length : Int) = (l1.length : Int) then (laws_eqInt64S.l0 k l0 l1 0) else (some false)
theorem laws_eqInt64S.mono_l : ∀ k, (∀ y0 y1 y2, LeO (laws_eqInt64S.l0 k y0 y1 y2) (laws_eqInt64S.l0 (k + 1) y0 y1 y2))
  | 0 => fun _ _ _ r h => by simp [laws_eqInt64S.l0] at h
  | k + 1 => by
    have ih0 := laws_eqInt64S.mono_l k
    · intro y0 y1 y2
      unfold laws_eqInt64S.l0
      repeat' first
      | (with_reducible exact ih0 _ _ _)
      | (with_reducible exact LeO.refl _)
      | (with_reducible exact LeO.none _)
      | (with_reducible refine LeO.ite ?_ ?_)
      | (with_reducible refine LeO.bind ?_ (fun _ => ?_))
      | exact ih0 _ _ _
      | exact LeO.none _
      | refine LeO.ite ?_ ?_
      | refine LeO.bind ?_ (fun _ => ?_)
theorem laws_eqInt64S.mono : ∀ a0 a1 k, LeO (laws_eqInt64S.f k a0 a1) (laws_eqInt64S.f (k + 1) a0 a1) := by
  intro a0 a1 k
  have ih0 := laws_eqInt64S.mono_l k
  unfold laws_eqInt64S.f
  repeat' first
      | (with_reducible exact ih0 _ _ _)
      | (with_reducible exact LeO.refl _)
      | (with_reducible exact LeO.none _)
      | (with_reducible refine LeO.ite ?_ ?_)
      | (with_reducible refine LeO.bind ?_ (fun _ => ?_))
      | exact ih0 _ _ _
      | exact LeO.none _
      | refine LeO.ite ?_ ?_
      | refine LeO.bind ?_ (fun _ => ?_)
set_option maxHeartbeats 8000000 in
set_option maxRecDepth 100000 in
theorem laws_eqInt64S.calls (k : Nat) (A0 : Option Addr) (c0 : Nat) (l0 : List Int) (A1 : Option Addr) (c1 : Nat) (l1 : List Int) (r : Bool) (w : World) (hr0 : Kd.C (Kd.int .i64) w A0 l0.length l0) (hc0 : l0.length ≤ c0) (hr1 : Kd.C (Kd.int .i64) w A1 l1.length l1) (hc1 : l1.length ≤ c1) (h : laws_eqInt64S.f k l0 l1 = some r) :
    Calls Try.prog 25 #[.slice A0 l0.length c0, .slice A1 l1.length c1] w fun e w' => e = .returned (.bool r) ∧ Drawn0 w w' := by
  have HR0 := Aside0.mk hr0
  have HC0 := Aside0.mk hc0
  clear hr0 hc0
  have HR1 := Aside0.mk hr1
  have HC1 := Aside0.mk hc1
  clear hr1 hc1
  have H : (if (l0.length : Int) = (l1.length : Int) then (laws_eqInt64S.l0 k l0 l1 0) else (some false)) = some r := h
  clear h
  by_cases c3 : (l0.length : Int) = (l1.length : Int)
  · rw [if_pos c3] at H
    have c3b0 : ((l0.length : Int) == (l1.length : Int)) = true := beq_iff_eq.mpr c3
    have c3b1 : ((l0.length : Int) != (l1.length : Int)) = false := bne_eq_false_iff_eq.mpr c3
    have c3b2 : (l0.length == l1.length) = true := by first | simpa using c3 | (simp at c3 ⊢; omega)
    clear c3
    have H' := Aside0.mk H
    clear H
    go_enter Try.func25, Try.ntmps25
    go_wp2
    repeat (go_quiet (fail); try go_wp2)
    go_loopg [5] k (fun kq v5 w' => ∃ (x5_1 : Int), v5 = .int .i64 x5_1 ∧ Aside0 (laws_eqInt64S.l0 kq l0 l1 x5_1 = some r) ∧ Aside0 (kq ≤ k) ∧ Drawn0 w w')
    case atStart => exact ⟨(0), (by first | rfl | (simp; done) | (simp [*]; done)), H', ⟨Nat.le_refl _⟩, by repeat (first | exact Drawn0.refl _ | apply Drawn0.step)⟩
    case round =>
      clear H'
      try clear c1
      try clear c2
      try clear p2
      try clear c3
      try clear c3b0
      try clear c3b1
      try clear c3b2
      obtain ⟨x5_1, rfl, HA, HK1, ⟨m1, rfl⟩⟩ := hrel
      cases gk with
      | zero => exact absurd HA.out (by simp [laws_eqInt64S.l0])
      | succ k1 =>
        have H := HA.out
        clear HA
        simp only [laws_eqInt64S.l0] at H
        by_cases c4 : x5_1 < (l0.length : Int)
        · rw [if_pos c4] at H
          have c4b0 : decide (x5_1 < (l0.length : Int)) = true := decide_eq_true c4
          clear c4
          by_cases c5 : 0 ≤ x5_1
          · rw [if_pos c5] at H
            have c5b0 : decide (0 ≤ x5_1) = true := decide_eq_true c5
            clear c5
            by_cases c6 : x5_1 < (l1.length : Int)
            · rw [if_pos c6] at H
              have c6b0 : decide (x5_1 < (l1.length : Int)) = true := decide_eq_true c6
              clear c6
              by_cases c7 : (rd l0 x5_1) = (rd l1 x5_1)
              · rw [if_pos c7] at H
                have c7b0 : ((rd l0 x5_1) == (rd l1 x5_1)) = true := beq_iff_eq.mpr c7
                have c7b1 : ((rd l0 x5_1) != (rd l1 x5_1)) = false := bne_eq_false_iff_eq.mpr c7
                clear c7
                have H' := Aside0.mk H
                clear H
                have p174 : 0 ≤ (x5_1 : Int) := of_decide_eq_true (by first | (with_reducible assumption) | assumption)
                have q174 : x5_1 < (l0.length : Int) := of_decide_eq_true (by first | (with_reducible assumption) | assumption)
                obtain ⟨ad174, e174, hx174_0⟩ := Kd.at_int HR0.out x5_1 p174 q174
                cases e174
                replace p174 := eq_true p174
                replace q174 := eq_true q174
                have p175 : 0 ≤ (x5_1 : Int) := of_decide_eq_true (by first | (with_reducible assumption) | assumption)
                have q175 : x5_1 < (l1.length : Int) := of_decide_eq_true (by first | (with_reducible assumption) | assumption)
                obtain ⟨ad175, e175, hx175_0⟩ := Kd.at_int HR1.out x5_1 p175 q175
                cases e175
                replace p175 := eq_true p175
                replace q175 := eq_true q175
                go_wp2
                repeat (go_quiet (fail); try go_wp2)
                go_roundg k1
                case measure => have := HK1.out; omega
                case rel => exact ⟨(wrap64 (x5_1 + 1)), (by first | rfl | (simp; done) | (simp [*]; done)), H', ⟨by have := HK1.out; omega⟩, by repeat (first | exact Drawn0.refl _ | apply Drawn0.step)⟩
              · rw [if_neg c7] at H
                have c7b0 : ((rd l0 x5_1) == (rd l1 x5_1)) = false := beq_eq_false_iff_ne.mpr c7
                have c7b1 : ((rd l0 x5_1) != (rd l1 x5_1)) = true := bne_iff_ne.mpr c7
                obtain rfl := Option.some.inj H
                have p174 : 0 ≤ (x5_1 : Int) := of_decide_eq_true (by first | (with_reducible assumption) | assumption)
                have q174 : x5_1 < (l0.length : Int) := of_decide_eq_true (by first | (with_reducible assumption) | assumption)
                obtain ⟨ad174, e174, hx174_0⟩ := Kd.at_int HR0.out x5_1 p174 q174
                cases e174
                replace p174 := eq_true p174
                replace q174 := eq_true q174
                have p175 : 0 ≤ (x5_1 : Int) := of_decide_eq_true (by first | (with_reducible assumption) | assumption)
                have q175 : x5_1 < (l1.length : Int) := of_decide_eq_true (by first | (with_reducible assumption) | assumption)
                obtain ⟨ad175, e175, hx175_0⟩ := Kd.at_int HR1.out x5_1 p175 q175
                cases e175
                replace p175 := eq_true p175
                replace q175 := eq_true q175
                go_wp2
                repeat (go_quiet (fail); try go_wp2)
                go_ret
                exact ⟨by first | rfl | (simp; done) | (simp [*]; done), by repeat (first | exact Drawn0.refl _ | apply Drawn0.step)⟩
            · rw [if_neg c6] at H
              exact absurd H (by simp)
          · rw [if_neg c5] at H
            exact absurd H (by simp)
        · rw [if_neg c4] at H
          have c4b0 : decide (x5_1 < (l0.length : Int)) = false := decide_eq_false c4
          clear c4
          obtain rfl := Option.some.inj H
          go_wp2
          repeat (go_quiet (fail); try go_wp2)
          go_ret
          exact ⟨by first | rfl | (simp; done) | (simp [*]; done), by repeat (first | exact Drawn0.refl _ | apply Drawn0.step)⟩
  · rw [if_neg c3] at H
    have c3b0 : ((l0.length : Int) == (l1.length : Int)) = false := beq_eq_false_iff_ne.mpr c3
    have c3b1 : ((l0.length : Int) != (l1.length : Int)) = true := bne_iff_ne.mpr c3
    have c3b2 : (l0.length == l1.length) = false := by first | simpa using c3 | (simp at c3 ⊢; omega)
    obtain rfl := Option.some.inj H
    go_enter Try.func25, Try.ntmps25
    go_wp2
    repeat (go_quiet (fail); try go_wp2)
    go_ret
    exact ⟨by first | rfl | (simp; done) | (simp [*]; done), by repeat (first | exact Drawn0.refl _ | apply Drawn0.step)⟩

/-! ### laws_eqMapRes: function 23 -/
def laws_eqMapRes.f (k : Nat) (a0_0 : Int) (a0_1 : Int) (a0_2 : ByteArray) (l0_3 : List Int) (a1_0 : Int) (a1_1 : Int) (a1_2 : ByteArray) (l1_3 : List Int) : Option (Bool) := if a0_0 = a1_0 then (if a0_1 = a1_1 then (if a0_2.toList = a1_2.toList then ((laws_eqInt64S.f k l0_3 l1_3).bind fun t178 => (if t178 = true then (some true) else (some false))) else (some false)) else (some false)) else (some false)
theorem laws_eqMapRes.mono : ∀ a0 a1 a2 a3 a4 a5 a6 a7 k, LeO (laws_eqMapRes.f k a0 a1 a2 a3 a4 a5 a6 a7) (laws_eqMapRes.f (k + 1) a0 a1 a2 a3 a4 a5 a6 a7) := by
 intro a0 a1 a2 a3 a4 a5 a6 a7 k
 unfold laws_eqMapRes.f
 repeat' first
   | (with_reducible exact laws_eqInt64S.mono _ _ _)
   | (with_reducible exact LeO.refl _)
   | (with_reducible exact LeO.none _)
   | (with_reducible refine LeO.ite ?_ ?_)
   | (with_reducible refine LeO.bind ?_ (fun _ => ?_))
   | exact laws_eqInt64S.mono _ _ _
   | exact LeO.none _
   | refine LeO.ite ?_ ?_
   | refine LeO.bind ?_ (fun _ => ?_)
set_option maxHeartbeats 8000000 in
set_option maxRecDepth 100000 in
theorem laws_eqMapRes.calls (k : Nat) (a0_0 : Int) (a0_1 : Int) (a0_2 : ByteArray) (A0_3 : Option Addr) (c0_3 : Nat) (l0_3 : List Int) (a1_0 : Int) (a1_1 : Int) (a1_2 : ByteArray) (A1_3 : Option Addr) (c1_3 : Nat) (l1_3 : List Int) (r : Bool) (w : World) (hr0_3 : Kd.C (Kd.int .i64) w A0_3 l0_3.length l0_3) (hc0_3 : l0_3.length ≤ c0_3) (hr1_3 : Kd.C (Kd.int .i64) w A1_3 l1_3.length l1_3) (hc1_3 : l1_3.length ≤ c1_3) (h : laws_eqMapRes.f k a0_0 a0_1 a0_2 l0_3 a1_0 a1_1 a1_2 l1_3 = some r) :
  Calls Try.prog 23 #[.agg #[.int .i64 a0_0, .int .i64 a0_1, .string a0_2, .slice A0_3 l0_3.length c0_3], .agg #[.int .i64 a1_0, .int .i64 a1_1, .string a1_2, .slice A1_3 l1_3.length c1_3]] w fun e w' => e = .returned (.bool r) ∧ Below w.heap.size w w' := by
 have hu53 := Try.underlying53
 have HR0_3 := Sq.l hr0_3
 have HC0_3 := Sq.l hc0_3
 clear hr0_3 hc0_3
 have HR1_3 := Sq.l hr1_3
 have HC1_3 := Sq.l hc1_3
 clear hr1_3 hc1_3
 have HB := Sq.l (Below.refl w.heap.size w)
 have H : (if a0_0 = a1_0 then (if a0_1 = a1_1 then (if a0_2.toList = a1_2.toList then ((laws_eqInt64S.f k l0_3 l1_3).bind fun t178 => (if t178 = true then (some true) else (some false))) else (some false)) else (some false)) else (some false)) = some r := h
 clear h
 by_cases c3 : a0_0 = a1_0
 ·rw [if_pos c3] at H
  have c3b0 : (a0_0 == a1_0) = true := beq_iff_eq.mpr c3
  have c3b1 : (a0_0 != a1_0) = false := bne_eq_false_iff_eq.mpr c3
  clear c3
  by_cases c4 : a0_1 = a1_1
  ·rw [if_pos c4] at H
   have c4b0 : (a0_1 == a1_1) = true := beq_iff_eq.mpr c4
   have c4b1 : (a0_1 != a1_1) = false := bne_eq_false_iff_eq.mpr c4
   clear c4
   by_cases c5 : a0_2.toList = a1_2.toList
   ·rw [if_pos c5] at H
    have c5b0 : (a0_2.toList == a1_2.toList) = true := beq_iff_eq.mpr c5
    have c5b1 : (a0_2.toList != a1_2.toList) = false := bne_eq_false_iff_eq.mpr c5
    clear c5
    replace H := Option.bind_eq_some_iff.mp H
    obtain ⟨t178, A60, H⟩ := H
    (try dsimp only at H)
    have A6 := Sq.l A60
    clear A60
    by_cases c7 : t178 = true
    ·subst c7
     rw [if_pos rfl] at H
     obtain rfl := Option.some.inj H
     go_enter Try.func23, Try.ntmps23
     go_wp2_with (first | ((with_reducible refine gate_dst (N := 2) rfl ?_); refine box_event ?hg (N := 2) ?hd (cs := #[.int .i64 a0_0, .int .i64 a0_1, .string a0_2, .slice A0_3 l0_3.length c0_3]) (t := 53) ?hr ?_; (case hd => rfl); (case hg => rfl); (case hr => first | (go_simp; done) | (go_simp; rfl)); intro gb176 hg w8 hbox hb; have n0_ := Sq.l (Sq.a4 (by repeat (first | (with_reducible first | exact HB.out | apply Sq.i | apply Sq.j | apply Sq.k) | exact HB.out)) hb); have n1_ := Sq.l (hbox); have n2_ := Sq.l ((by rw [hg]; exact (Sq.a5 (by repeat (first | (with_reducible first | exact HB.out | apply Sq.i | apply Sq.j | apply Sq.k) | exact HB.out))) : w.heap.size ≤ gb176)); have n3_ := Sq.l ((by rw [hg]; exact (Sq.a5 (by repeat (first | (with_reducible first | exact HB.out | apply Sq.i | apply Sq.j | apply Sq.k) | exact HB.out))) : w.heap.size ≤ gb176)); clear HB; have HB := n0_; have BK176 := n1_; have GW176 := n2_; have GE176 := n3_; clear n0_ n1_ n2_ n3_; clear hb hbox hg) | ((with_reducible refine gate_dst (N := 3) rfl ?_); refine box_event ?hg (N := 3) ?hd (cs := #[.int .i64 a1_0, .int .i64 a1_1, .string a1_2, .slice A1_3 l1_3.length c1_3]) (t := 53) ?hr ?_; (case hd => rfl); (case hg => rfl); (case hr => first | (go_simp; done) | (go_simp; rfl)); intro gb177 hg w9 hbox hb; have n0_ := Sq.l (Sq.m (g := gb176) (o := .cells #[.int .i64 a0_0, .int .i64 a0_1, .string a0_2, .slice A0_3 l0_3.length c0_3] 53 (0, 0)) (by (with_reducible repeat (first | refine Sq.d ?_ _ | refine Sq.e ?_ | refine Sq.f ?_ _)); exact BK176.out) hb); have n1_ := Sq.l (Sq.a4 (by repeat (first | (with_reducible first | exact HB.out | apply Sq.i | apply Sq.j | apply Sq.k | refine Sq.h ?_ GE176.out) | exact HB.out)) hb); have n2_ := Sq.l (hbox); have n3_ := Sq.l ((by rw [hg]; exact (Sq.a5 (by repeat (first | (with_reducible first | exact HB.out | apply Sq.i | apply Sq.j | apply Sq.k | refine Sq.h ?_ GE176.out) | exact HB.out))) : w.heap.size ≤ gb177)); have n4_ := Sq.l ((by rw [hg]; exact (Sq.a5 (by repeat (first | (with_reducible first | exact HB.out | apply Sq.i | apply Sq.j | apply Sq.k | refine Sq.h ?_ GE176.out) | exact HB.out))) : w.heap.size ≤ gb177)); have n5_ := Sq.l ((by rw [hg]; exact Nat.ne_of_lt (blk_lt (g := gb176) (o := .cells #[.int .i64 a0_0, .int .i64 a0_1, .string a0_2, .slice A0_3 l0_3.length c0_3] 53 (0, 0)) (by (with_reducible repeat (first | refine Sq.d ?_ _ | refine Sq.e ?_ | refine Sq.f ?_ _)); exact BK176.out)) : gb176 ≠ gb177)); have n6_ := Sq.l ((by rw [hg]; exact Nat.ne_of_gt (blk_lt (g := gb176) (o := .cells #[.int .i64 a0_0, .int .i64 a0_1, .string a0_2, .slice A0_3 l0_3.length c0_3] 53 (0, 0)) (by (with_reducible repeat (first | refine Sq.d ?_ _ | refine Sq.e ?_ | refine Sq.f ?_ _)); exact BK176.out)) : gb177 ≠ gb176)); clear BK176; clear HB; have BK176 := n0_; have HB := n1_; have BK177 := n2_; have GW177 := n3_; have GE177 := n4_; have NB176_177 := n5_; have NB177_176 := n6_; clear n0_ n1_ n2_ n3_ n4_ n5_ n6_; clear hb hbox hg; have hnb10 := NB176_177.out; have hnc10 := NB177_176.out; have hcz11_0 : w9.cell? ⟨gb176, 0, none⟩ = some (.int .i64 a0_0) := (Sq.o BK176.out 0).trans rfl; have hcz11_1 : w9.cell? ⟨gb176, 1, none⟩ = some (.int .i64 a0_1) := (Sq.o BK176.out 1).trans rfl; have hcz11_2 : w9.cell? ⟨gb176, 2, none⟩ = some (.string a0_2) := (Sq.o BK176.out 2).trans rfl; have hcz11_3 : w9.cell? ⟨gb176, 3, none⟩ = some (.slice A0_3 l0_3.length c0_3) := (Sq.o BK176.out 3).trans rfl; have hfz11_0 := Sq.r BK176.out 0; have hfz11_1 := Sq.r BK176.out 1; have hfz11_2 := Sq.r BK176.out 2; have hfz11_3 := Sq.r BK176.out 3; have hcz12_0 : w9.cell? ⟨gb177, 0, none⟩ = some (.int .i64 a1_0) := (Sq.o BK177.out 0).trans rfl; have hcz12_1 : w9.cell? ⟨gb177, 1, none⟩ = some (.int .i64 a1_1) := (Sq.o BK177.out 1).trans rfl; have hcz12_2 : w9.cell? ⟨gb177, 2, none⟩ = some (.string a1_2) := (Sq.o BK177.out 2).trans rfl; have hcz12_3 : w9.cell? ⟨gb177, 3, none⟩ = some (.slice A1_3 l1_3.length c1_3) := (Sq.o BK177.out 3).trans rfl; have hfz12_0 := Sq.r BK177.out 0; have hfz12_1 := Sq.r BK177.out 1; have hfz12_2 := Sq.r BK177.out 2; have hfz12_3 := Sq.r BK177.out 3) | ((with_reducible refine gate_callee (f := 25) rfl ?_); refine goesL_ (some 24) rfl rfl Try.func25 (by kernel_rfl) rfl #[.slice A0_3 l0_3.length c0_3, .slice A1_3 l1_3.length c1_3] rfl (by (try simp only [List.map_toArray, List.map_cons, List.map_nil]); first | done | rfl | (simp only [List.length_drop, List.length_take]; rfl)) ?_; (with_reducible refine (laws_eqInt64S.calls k _ _ l0_3 _ _ l1_3 true _ ?side1 ?side2 ?side3 ?side4 A6.out).mono ?_); (case side1 => repeat (first | exact (Sq.a1 HR0_3.out HB.out) | (with_reducible refine Sq.s ?_ _) | (with_reducible refine Sq.t ?_ _) | (with_reducible refine Sq.u ?_))); (case side2 => exact HC0_3.out); (case side3 => repeat (first | exact (Sq.a1 HR1_3.out HB.out) | (with_reducible refine Sq.s ?_ _) | (with_reducible refine Sq.t ?_ _) | (with_reducible refine Sq.u ?_))); (case side4 => exact HC1_3.out); rintro e w' ⟨rfl, ⟨nd, rfl⟩⟩; refine ⟨_, rfl, ?_⟩))
     go_ret
     exact ⟨by first | rfl | (simp [errW_none, errW_some] <;> rfl) | (simp [*, errW_none, errW_some] <;> rfl), by repeat (first | (with_reducible first | exact HB.out | apply Sq.i | apply Sq.j | apply Sq.k | refine Sq.h ?_ GE176.out | refine Sq.h ?_ GE177.out) | exact HB.out)⟩
    ·replace c7 := Bool.eq_false_iff.mpr c7
     subst c7
     rw [if_neg (show ¬ (false = true) by decide)] at H
     obtain rfl := Option.some.inj H
     go_enter Try.func23, Try.ntmps23
     go_wp2_with (first | ((with_reducible refine gate_dst (N := 2) rfl ?_); refine box_event ?hg (N := 2) ?hd (cs := #[.int .i64 a0_0, .int .i64 a0_1, .string a0_2, .slice A0_3 l0_3.length c0_3]) (t := 53) ?hr ?_; (case hd => rfl); (case hg => rfl); (case hr => first | (go_simp; done) | (go_simp; rfl)); intro gb176 hg w13 hbox hb; have n0_ := Sq.l (Sq.a4 (by repeat (first | (with_reducible first | exact HB.out | apply Sq.i | apply Sq.j | apply Sq.k) | exact HB.out)) hb); have n1_ := Sq.l (hbox); have n2_ := Sq.l ((by rw [hg]; exact (Sq.a5 (by repeat (first | (with_reducible first | exact HB.out | apply Sq.i | apply Sq.j | apply Sq.k) | exact HB.out))) : w.heap.size ≤ gb176)); have n3_ := Sq.l ((by rw [hg]; exact (Sq.a5 (by repeat (first | (with_reducible first | exact HB.out | apply Sq.i | apply Sq.j | apply Sq.k) | exact HB.out))) : w.heap.size ≤ gb176)); clear HB; have HB := n0_; have BK176 := n1_; have GW176 := n2_; have GE176 := n3_; clear n0_ n1_ n2_ n3_; clear hb hbox hg) | ((with_reducible refine gate_dst (N := 3) rfl ?_); refine box_event ?hg (N := 3) ?hd (cs := #[.int .i64 a1_0, .int .i64 a1_1, .string a1_2, .slice A1_3 l1_3.length c1_3]) (t := 53) ?hr ?_; (case hd => rfl); (case hg => rfl); (case hr => first | (go_simp; done) | (go_simp; rfl)); intro gb177 hg w14 hbox hb; have n0_ := Sq.l (Sq.m (g := gb176) (o := .cells #[.int .i64 a0_0, .int .i64 a0_1, .string a0_2, .slice A0_3 l0_3.length c0_3] 53 (0, 0)) (by (with_reducible repeat (first | refine Sq.d ?_ _ | refine Sq.e ?_ | refine Sq.f ?_ _)); exact BK176.out) hb); have n1_ := Sq.l (Sq.a4 (by repeat (first | (with_reducible first | exact HB.out | apply Sq.i | apply Sq.j | apply Sq.k | refine Sq.h ?_ GE176.out) | exact HB.out)) hb); have n2_ := Sq.l (hbox); have n3_ := Sq.l ((by rw [hg]; exact (Sq.a5 (by repeat (first | (with_reducible first | exact HB.out | apply Sq.i | apply Sq.j | apply Sq.k | refine Sq.h ?_ GE176.out) | exact HB.out))) : w.heap.size ≤ gb177)); have n4_ := Sq.l ((by rw [hg]; exact (Sq.a5 (by repeat (first | (with_reducible first | exact HB.out | apply Sq.i | apply Sq.j | apply Sq.k | refine Sq.h ?_ GE176.out) | exact HB.out))) : w.heap.size ≤ gb177)); have n5_ := Sq.l ((by rw [hg]; exact Nat.ne_of_lt (blk_lt (g := gb176) (o := .cells #[.int .i64 a0_0, .int .i64 a0_1, .string a0_2, .slice A0_3 l0_3.length c0_3] 53 (0, 0)) (by (with_reducible repeat (first | refine Sq.d ?_ _ | refine Sq.e ?_ | refine Sq.f ?_ _)); exact BK176.out)) : gb176 ≠ gb177)); have n6_ := Sq.l ((by rw [hg]; exact Nat.ne_of_gt (blk_lt (g := gb176) (o := .cells #[.int .i64 a0_0, .int .i64 a0_1, .string a0_2, .slice A0_3 l0_3.length c0_3] 53 (0, 0)) (by (with_reducible repeat (first | refine Sq.d ?_ _ | refine Sq.e ?_ | refine Sq.f ?_ _)); exact BK176.out)) : gb177 ≠ gb176)); clear BK176; clear HB; have BK176 := n0_; have HB := n1_; have BK177 := n2_; have GW177 := n3_; have GE177 := n4_; have NB176_177 := n5_; have NB177_176 := n6_; clear n0_ n1_ n2_ n3_ n4_ n5_ n6_; clear hb hbox hg; have hnb15 := NB176_177.out; have hnc15 := NB177_176.out; have hcz16_0 : w14.cell? ⟨gb176, 0, none⟩ = some (.int .i64 a0_0) := (Sq.o BK176.out 0).trans rfl; have hcz16_1 : w14.cell? ⟨gb176, 1, none⟩ = some (.int .i64 a0_1) := (Sq.o BK176.out 1).trans rfl; have hcz16_2 : w14.cell? ⟨gb176, 2, none⟩ = some (.string a0_2) := (Sq.o BK176.out 2).trans rfl; have hcz16_3 : w14.cell? ⟨gb176, 3, none⟩ = some (.slice A0_3 l0_3.length c0_3) := (Sq.o BK176.out 3).trans rfl; have hfz16_0 := Sq.r BK176.out 0; have hfz16_1 := Sq.r BK176.out 1; have hfz16_2 := Sq.r BK176.out 2; have hfz16_3 := Sq.r BK176.out 3; have hcz17_0 : w14.cell? ⟨gb177, 0, none⟩ = some (.int .i64 a1_0) := (Sq.o BK177.out 0).trans rfl; have hcz17_1 : w14.cell? ⟨gb177, 1, none⟩ = some (.int .i64 a1_1) := (Sq.o BK177.out 1).trans rfl; have hcz17_2 : w14.cell? ⟨gb177, 2, none⟩ = some (.string a1_2) := (Sq.o BK177.out 2).trans rfl; have hcz17_3 : w14.cell? ⟨gb177, 3, none⟩ = some (.slice A1_3 l1_3.length c1_3) := (Sq.o BK177.out 3).trans rfl; have hfz17_0 := Sq.r BK177.out 0; have hfz17_1 := Sq.r BK177.out 1; have hfz17_2 := Sq.r BK177.out 2; have hfz17_3 := Sq.r BK177.out 3) | ((with_reducible refine gate_callee (f := 25) rfl ?_); refine goesL_ (some 24) rfl rfl Try.func25 (by kernel_rfl) rfl #[.slice A0_3 l0_3.length c0_3, .slice A1_3 l1_3.length c1_3] rfl (by (try simp only [List.map_toArray, List.map_cons, List.map_nil]); first | done | rfl | (simp only [List.length_drop, List.length_take]; rfl)) ?_; (with_reducible refine (laws_eqInt64S.calls k _ _ l0_3 _ _ l1_3 false _ ?side1 ?side2 ?side3 ?side4 A6.out).mono ?_); (case side1 => repeat (first | exact (Sq.a1 HR0_3.out HB.out) | (with_reducible refine Sq.s ?_ _) | (with_reducible refine Sq.t ?_ _) | (with_reducible refine Sq.u ?_))); (case side2 => exact HC0_3.out); (case side3 => repeat (first | exact (Sq.a1 HR1_3.out HB.out) | (with_reducible refine Sq.s ?_ _) | (with_reducible refine Sq.t ?_ _) | (with_reducible refine Sq.u ?_))); (case side4 => exact HC1_3.out); rintro e w' ⟨rfl, ⟨nd, rfl⟩⟩; refine ⟨_, rfl, ?_⟩))
     go_ret
     exact ⟨by first | rfl | (simp [errW_none, errW_some] <;> rfl) | (simp [*, errW_none, errW_some] <;> rfl), by repeat (first | (with_reducible first | exact HB.out | apply Sq.i | apply Sq.j | apply Sq.k | refine Sq.h ?_ GE176.out | refine Sq.h ?_ GE177.out) | exact HB.out)⟩
   ·rw [if_neg c5] at H
    have c5b0 : (a0_2.toList == a1_2.toList) = false := beq_eq_false_iff_ne.mpr c5
    have c5b1 : (a0_2.toList != a1_2.toList) = true := bne_iff_ne.mpr c5
    obtain rfl := Option.some.inj H
    go_enter Try.func23, Try.ntmps23
    go_wp2_with (first | ((with_reducible refine gate_dst (N := 2) rfl ?_); refine box_event ?hg (N := 2) ?hd (cs := #[.int .i64 a0_0, .int .i64 a0_1, .string a0_2, .slice A0_3 l0_3.length c0_3]) (t := 53) ?hr ?_; (case hd => rfl); (case hg => rfl); (case hr => first | (go_simp; done) | (go_simp; rfl)); intro gb176 hg w18 hbox hb; have n0_ := Sq.l (Sq.a4 (by repeat (first | (with_reducible first | exact HB.out | apply Sq.i | apply Sq.j | apply Sq.k) | exact HB.out)) hb); have n1_ := Sq.l (hbox); have n2_ := Sq.l ((by rw [hg]; exact (Sq.a5 (by repeat (first | (with_reducible first | exact HB.out | apply Sq.i | apply Sq.j | apply Sq.k) | exact HB.out))) : w.heap.size ≤ gb176)); have n3_ := Sq.l ((by rw [hg]; exact (Sq.a5 (by repeat (first | (with_reducible first | exact HB.out | apply Sq.i | apply Sq.j | apply Sq.k) | exact HB.out))) : w.heap.size ≤ gb176)); clear HB; have HB := n0_; have BK176 := n1_; have GW176 := n2_; have GE176 := n3_; clear n0_ n1_ n2_ n3_; clear hb hbox hg) | ((with_reducible refine gate_dst (N := 3) rfl ?_); refine box_event ?hg (N := 3) ?hd (cs := #[.int .i64 a1_0, .int .i64 a1_1, .string a1_2, .slice A1_3 l1_3.length c1_3]) (t := 53) ?hr ?_; (case hd => rfl); (case hg => rfl); (case hr => first | (go_simp; done) | (go_simp; rfl)); intro gb177 hg w19 hbox hb; have n0_ := Sq.l (Sq.m (g := gb176) (o := .cells #[.int .i64 a0_0, .int .i64 a0_1, .string a0_2, .slice A0_3 l0_3.length c0_3] 53 (0, 0)) (by (with_reducible repeat (first | refine Sq.d ?_ _ | refine Sq.e ?_ | refine Sq.f ?_ _)); exact BK176.out) hb); have n1_ := Sq.l (Sq.a4 (by repeat (first | (with_reducible first | exact HB.out | apply Sq.i | apply Sq.j | apply Sq.k | refine Sq.h ?_ GE176.out) | exact HB.out)) hb); have n2_ := Sq.l (hbox); have n3_ := Sq.l ((by rw [hg]; exact (Sq.a5 (by repeat (first | (with_reducible first | exact HB.out | apply Sq.i | apply Sq.j | apply Sq.k | refine Sq.h ?_ GE176.out) | exact HB.out))) : w.heap.size ≤ gb177)); have n4_ := Sq.l ((by rw [hg]; exact (Sq.a5 (by repeat (first | (with_reducible first | exact HB.out | apply Sq.i | apply Sq.j | apply Sq.k | refine Sq.h ?_ GE176.out) | exact HB.out))) : w.heap.size ≤ gb177)); have n5_ := Sq.l ((by rw [hg]; exact Nat.ne_of_lt (blk_lt (g := gb176) (o := .cells #[.int .i64 a0_0, .int .i64 a0_1, .string a0_2, .slice A0_3 l0_3.length c0_3] 53 (0, 0)) (by (with_reducible repeat (first | refine Sq.d ?_ _ | refine Sq.e ?_ | refine Sq.f ?_ _)); exact BK176.out)) : gb176 ≠ gb177)); have n6_ := Sq.l ((by rw [hg]; exact Nat.ne_of_gt (blk_lt (g := gb176) (o := .cells #[.int .i64 a0_0, .int .i64 a0_1, .string a0_2, .slice A0_3 l0_3.length c0_3] 53 (0, 0)) (by (with_reducible repeat (first | refine Sq.d ?_ _ | refine Sq.e ?_ | refine Sq.f ?_ _)); exact BK176.out)) : gb177 ≠ gb176)); clear BK176; clear HB; have BK176 := n0_; have HB := n1_; have BK177 := n2_; have GW177 := n3_; have GE177 := n4_; have NB176_177 := n5_; have NB177_176 := n6_; clear n0_ n1_ n2_ n3_ n4_ n5_ n6_; clear hb hbox hg; have hnb20 := NB176_177.out; have hnc20 := NB177_176.out; have hcz21_0 : w19.cell? ⟨gb176, 0, none⟩ = some (.int .i64 a0_0) := (Sq.o BK176.out 0).trans rfl; have hcz21_1 : w19.cell? ⟨gb176, 1, none⟩ = some (.int .i64 a0_1) := (Sq.o BK176.out 1).trans rfl; have hcz21_2 : w19.cell? ⟨gb176, 2, none⟩ = some (.string a0_2) := (Sq.o BK176.out 2).trans rfl; have hcz21_3 : w19.cell? ⟨gb176, 3, none⟩ = some (.slice A0_3 l0_3.length c0_3) := (Sq.o BK176.out 3).trans rfl; have hfz21_0 := Sq.r BK176.out 0; have hfz21_1 := Sq.r BK176.out 1; have hfz21_2 := Sq.r BK176.out 2; have hfz21_3 := Sq.r BK176.out 3; have hcz22_0 : w19.cell? ⟨gb177, 0, none⟩ = some (.int .i64 a1_0) := (Sq.o BK177.out 0).trans rfl; have hcz22_1 : w19.cell? ⟨gb177, 1, none⟩ = some (.int .i64 a1_1) := (Sq.o BK177.out 1).trans rfl; have hcz22_2 : w19.cell? ⟨gb177, 2, none⟩ = some (.string a1_2) := (Sq.o BK177.out 2).trans rfl; have hcz22_3 : w19.cell? ⟨gb177, 3, none⟩ = some (.slice A1_3 l1_3.length c1_3) := (Sq.o BK177.out 3).trans rfl; have hfz22_0 := Sq.r BK177.out 0; have hfz22_1 := Sq.r BK177.out 1; have hfz22_2 := Sq.r BK177.out 2; have hfz22_3 := Sq.r BK177.out 3))
    go_ret
    exact ⟨by first | rfl | (simp [errW_none, errW_some] <;> rfl) | (simp [*, errW_none, errW_some] <;> rfl), by repeat (first | (with_reducible first | exact HB.out | apply Sq.i | apply Sq.j | apply Sq.k | refine Sq.h ?_ GE176.out | refine Sq.h ?_ GE177.out) | exact HB.out)⟩
  ·rw [if_neg c4] at H
   have c4b0 : (a0_1 == a1_1) = false := beq_eq_false_iff_ne.mpr c4
   have c4b1 : (a0_1 != a1_1) = true := bne_iff_ne.mpr c4
   obtain rfl := Option.some.inj H
   go_enter Try.func23, Try.ntmps23
   go_wp2_with (first | ((with_reducible refine gate_dst (N := 2) rfl ?_); refine box_event ?hg (N := 2) ?hd (cs := #[.int .i64 a0_0, .int .i64 a0_1, .string a0_2, .slice A0_3 l0_3.length c0_3]) (t := 53) ?hr ?_; (case hd => rfl); (case hg => rfl); (case hr => first | (go_simp; done) | (go_simp; rfl)); intro gb176 hg w23 hbox hb; have n0_ := Sq.l (Sq.a4 (by repeat (first | (with_reducible first | exact HB.out | apply Sq.i | apply Sq.j | apply Sq.k) | exact HB.out)) hb); have n1_ := Sq.l (hbox); have n2_ := Sq.l ((by rw [hg]; exact (Sq.a5 (by repeat (first | (with_reducible first | exact HB.out | apply Sq.i | apply Sq.j | apply Sq.k) | exact HB.out))) : w.heap.size ≤ gb176)); have n3_ := Sq.l ((by rw [hg]; exact (Sq.a5 (by repeat (first | (with_reducible first | exact HB.out | apply Sq.i | apply Sq.j | apply Sq.k) | exact HB.out))) : w.heap.size ≤ gb176)); clear HB; have HB := n0_; have BK176 := n1_; have GW176 := n2_; have GE176 := n3_; clear n0_ n1_ n2_ n3_; clear hb hbox hg) | ((with_reducible refine gate_dst (N := 3) rfl ?_); refine box_event ?hg (N := 3) ?hd (cs := #[.int .i64 a1_0, .int .i64 a1_1, .string a1_2, .slice A1_3 l1_3.length c1_3]) (t := 53) ?hr ?_; (case hd => rfl); (case hg => rfl); (case hr => first | (go_simp; done) | (go_simp; rfl)); intro gb177 hg w24 hbox hb; have n0_ := Sq.l (Sq.m (g := gb176) (o := .cells #[.int .i64 a0_0, .int .i64 a0_1, .string a0_2, .slice A0_3 l0_3.length c0_3] 53 (0, 0)) (by (with_reducible repeat (first | refine Sq.d ?_ _ | refine Sq.e ?_ | refine Sq.f ?_ _)); exact BK176.out) hb); have n1_ := Sq.l (Sq.a4 (by repeat (first | (with_reducible first | exact HB.out | apply Sq.i | apply Sq.j | apply Sq.k | refine Sq.h ?_ GE176.out) | exact HB.out)) hb); have n2_ := Sq.l (hbox); have n3_ := Sq.l ((by rw [hg]; exact (Sq.a5 (by repeat (first | (with_reducible first | exact HB.out | apply Sq.i | apply Sq.j | apply Sq.k | refine Sq.h ?_ GE176.out) | exact HB.out))) : w.heap.size ≤ gb177)); have n4_ := Sq.l ((by rw [hg]; exact (Sq.a5 (by repeat (first | (with_reducible first | exact HB.out | apply Sq.i | apply Sq.j | apply Sq.k | refine Sq.h ?_ GE176.out) | exact HB.out))) : w.heap.size ≤ gb177)); have n5_ := Sq.l ((by rw [hg]; exact Nat.ne_of_lt (blk_lt (g := gb176) (o := .cells #[.int .i64 a0_0, .int .i64 a0_1, .string a0_2, .slice A0_3 l0_3.length c0_3] 53 (0, 0)) (by (with_reducible repeat (first | refine Sq.d ?_ _ | refine Sq.e ?_ | refine Sq.f ?_ _)); exact BK176.out)) : gb176 ≠ gb177)); have n6_ := Sq.l ((by rw [hg]; exact Nat.ne_of_gt (blk_lt (g := gb176) (o := .cells #[.int .i64 a0_0, .int .i64 a0_1, .string a0_2, .slice A0_3 l0_3.length c0_3] 53 (0, 0)) (by (with_reducible repeat (first | refine Sq.d ?_ _ | refine Sq.e ?_ | refine Sq.f ?_ _)); exact BK176.out)) : gb177 ≠ gb176)); clear BK176; clear HB; have BK176 := n0_; have HB := n1_; have BK177 := n2_; have GW177 := n3_; have GE177 := n4_; have NB176_177 := n5_; have NB177_176 := n6_; clear n0_ n1_ n2_ n3_ n4_ n5_ n6_; clear hb hbox hg; have hnb25 := NB176_177.out; have hnc25 := NB177_176.out; have hcz26_0 : w24.cell? ⟨gb176, 0, none⟩ = some (.int .i64 a0_0) := (Sq.o BK176.out 0).trans rfl; have hcz26_1 : w24.cell? ⟨gb176, 1, none⟩ = some (.int .i64 a0_1) := (Sq.o BK176.out 1).trans rfl; have hcz26_2 : w24.cell? ⟨gb176, 2, none⟩ = some (.string a0_2) := (Sq.o BK176.out 2).trans rfl; have hcz26_3 : w24.cell? ⟨gb176, 3, none⟩ = some (.slice A0_3 l0_3.length c0_3) := (Sq.o BK176.out 3).trans rfl; have hfz26_0 := Sq.r BK176.out 0; have hfz26_1 := Sq.r BK176.out 1; have hfz26_2 := Sq.r BK176.out 2; have hfz26_3 := Sq.r BK176.out 3; have hcz27_0 : w24.cell? ⟨gb177, 0, none⟩ = some (.int .i64 a1_0) := (Sq.o BK177.out 0).trans rfl; have hcz27_1 : w24.cell? ⟨gb177, 1, none⟩ = some (.int .i64 a1_1) := (Sq.o BK177.out 1).trans rfl; have hcz27_2 : w24.cell? ⟨gb177, 2, none⟩ = some (.string a1_2) := (Sq.o BK177.out 2).trans rfl; have hcz27_3 : w24.cell? ⟨gb177, 3, none⟩ = some (.slice A1_3 l1_3.length c1_3) := (Sq.o BK177.out 3).trans rfl; have hfz27_0 := Sq.r BK177.out 0; have hfz27_1 := Sq.r BK177.out 1; have hfz27_2 := Sq.r BK177.out 2; have hfz27_3 := Sq.r BK177.out 3))
   go_ret
   exact ⟨by first | rfl | (simp [errW_none, errW_some] <;> rfl) | (simp [*, errW_none, errW_some] <;> rfl), by repeat (first | (with_reducible first | exact HB.out | apply Sq.i | apply Sq.j | apply Sq.k | refine Sq.h ?_ GE176.out | refine Sq.h ?_ GE177.out) | exact HB.out)⟩
 ·rw [if_neg c3] at H
  have c3b0 : (a0_0 == a1_0) = false := beq_eq_false_iff_ne.mpr c3
  have c3b1 : (a0_0 != a1_0) = true := bne_iff_ne.mpr c3
  obtain rfl := Option.some.inj H
  go_enter Try.func23, Try.ntmps23
  go_wp2_with (first | ((with_reducible refine gate_dst (N := 2) rfl ?_); refine box_event ?hg (N := 2) ?hd (cs := #[.int .i64 a0_0, .int .i64 a0_1, .string a0_2, .slice A0_3 l0_3.length c0_3]) (t := 53) ?hr ?_; (case hd => rfl); (case hg => rfl); (case hr => first | (go_simp; done) | (go_simp; rfl)); intro gb176 hg w28 hbox hb; have n0_ := Sq.l (Sq.a4 (by repeat (first | (with_reducible first | exact HB.out | apply Sq.i | apply Sq.j | apply Sq.k) | exact HB.out)) hb); have n1_ := Sq.l (hbox); have n2_ := Sq.l ((by rw [hg]; exact (Sq.a5 (by repeat (first | (with_reducible first | exact HB.out | apply Sq.i | apply Sq.j | apply Sq.k) | exact HB.out))) : w.heap.size ≤ gb176)); have n3_ := Sq.l ((by rw [hg]; exact (Sq.a5 (by repeat (first | (with_reducible first | exact HB.out | apply Sq.i | apply Sq.j | apply Sq.k) | exact HB.out))) : w.heap.size ≤ gb176)); clear HB; have HB := n0_; have BK176 := n1_; have GW176 := n2_; have GE176 := n3_; clear n0_ n1_ n2_ n3_; clear hb hbox hg) | ((with_reducible refine gate_dst (N := 3) rfl ?_); refine box_event ?hg (N := 3) ?hd (cs := #[.int .i64 a1_0, .int .i64 a1_1, .string a1_2, .slice A1_3 l1_3.length c1_3]) (t := 53) ?hr ?_; (case hd => rfl); (case hg => rfl); (case hr => first | (go_simp; done) | (go_simp; rfl)); intro gb177 hg w29 hbox hb; have n0_ := Sq.l (Sq.m (g := gb176) (o := .cells #[.int .i64 a0_0, .int .i64 a0_1, .string a0_2, .slice A0_3 l0_3.length c0_3] 53 (0, 0)) (by (with_reducible repeat (first | refine Sq.d ?_ _ | refine Sq.e ?_ | refine Sq.f ?_ _)); exact BK176.out) hb); have n1_ := Sq.l (Sq.a4 (by repeat (first | (with_reducible first | exact HB.out | apply Sq.i | apply Sq.j | apply Sq.k | refine Sq.h ?_ GE176.out) | exact HB.out)) hb); have n2_ := Sq.l (hbox); have n3_ := Sq.l ((by rw [hg]; exact (Sq.a5 (by repeat (first | (with_reducible first | exact HB.out | apply Sq.i | apply Sq.j | apply Sq.k | refine Sq.h ?_ GE176.out) | exact HB.out))) : w.heap.size ≤ gb177)); have n4_ := Sq.l ((by rw [hg]; exact (Sq.a5 (by repeat (first | (with_reducible first | exact HB.out | apply Sq.i | apply Sq.j | apply Sq.k | refine Sq.h ?_ GE176.out) | exact HB.out))) : w.heap.size ≤ gb177)); have n5_ := Sq.l ((by rw [hg]; exact Nat.ne_of_lt (blk_lt (g := gb176) (o := .cells #[.int .i64 a0_0, .int .i64 a0_1, .string a0_2, .slice A0_3 l0_3.length c0_3] 53 (0, 0)) (by (with_reducible repeat (first | refine Sq.d ?_ _ | refine Sq.e ?_ | refine Sq.f ?_ _)); exact BK176.out)) : gb176 ≠ gb177)); have n6_ := Sq.l ((by rw [hg]; exact Nat.ne_of_gt (blk_lt (g := gb176) (o := .cells #[.int .i64 a0_0, .int .i64 a0_1, .string a0_2, .slice A0_3 l0_3.length c0_3] 53 (0, 0)) (by (with_reducible repeat (first | refine Sq.d ?_ _ | refine Sq.e ?_ | refine Sq.f ?_ _)); exact BK176.out)) : gb177 ≠ gb176)); clear BK176; clear HB; have BK176 := n0_; have HB := n1_; have BK177 := n2_; have GW177 := n3_; have GE177 := n4_; have NB176_177 := n5_; have NB177_176 := n6_; clear n0_ n1_ n2_ n3_ n4_ n5_ n6_; clear hb hbox hg; have hnb30 := NB176_177.out; have hnc30 := NB177_176.out; have hcz31_0 : w29.cell? ⟨gb176, 0, none⟩ = some (.int .i64 a0_0) := (Sq.o BK176.out 0).trans rfl; have hcz31_1 : w29.cell? ⟨gb176, 1, none⟩ = some (.int .i64 a0_1) := (Sq.o BK176.out 1).trans rfl; have hcz31_2 : w29.cell? ⟨gb176, 2, none⟩ = some (.string a0_2) := (Sq.o BK176.out 2).trans rfl; have hcz31_3 : w29.cell? ⟨gb176, 3, none⟩ = some (.slice A0_3 l0_3.length c0_3) := (Sq.o BK176.out 3).trans rfl; have hfz31_0 := Sq.r BK176.out 0; have hfz31_1 := Sq.r BK176.out 1; have hfz31_2 := Sq.r BK176.out 2; have hfz31_3 := Sq.r BK176.out 3; have hcz32_0 : w29.cell? ⟨gb177, 0, none⟩ = some (.int .i64 a1_0) := (Sq.o BK177.out 0).trans rfl; have hcz32_1 : w29.cell? ⟨gb177, 1, none⟩ = some (.int .i64 a1_1) := (Sq.o BK177.out 1).trans rfl; have hcz32_2 : w29.cell? ⟨gb177, 2, none⟩ = some (.string a1_2) := (Sq.o BK177.out 2).trans rfl; have hcz32_3 : w29.cell? ⟨gb177, 3, none⟩ = some (.slice A1_3 l1_3.length c1_3) := (Sq.o BK177.out 3).trans rfl; have hfz32_0 := Sq.r BK177.out 0; have hfz32_1 := Sq.r BK177.out 1; have hfz32_2 := Sq.r BK177.out 2; have hfz32_3 := Sq.r BK177.out 3))
  go_ret
  exact ⟨by first | rfl | (simp [errW_none, errW_some] <;> rfl) | (simp [*, errW_none, errW_some] <;> rfl), by repeat (first | (with_reducible first | exact HB.out | apply Sq.i | apply Sq.j | apply Sq.k | refine Sq.h ?_ GE176.out | refine Sq.h ?_ GE177.out) | exact HB.out)⟩

/-! ### laws_eqPageMap: function 79 -/
def laws_eqPageMap.f (a0_0 : Int) (a0_1 : Int) (a0_2 : Int) (a0_3 : Bool) (a1_0 : Int) (a1_1 : Int) (a1_2 : Int) (a1_3 : Bool) : Option (Bool) := if a0_0 = a1_0 then (if a0_1 = a1_1 then (if a0_2 = a1_2 then (if (a0_3 != a1_3) = true then (some false) else (some true)) else (some false)) else (some false)) else (some false)
set_option maxHeartbeats 8000000 in
set_option maxRecDepth 100000 in
theorem laws_eqPageMap.calls (a0_0 : Int) (a0_1 : Int) (a0_2 : Int) (a0_3 : Bool) (a1_0 : Int) (a1_1 : Int) (a1_2 : Int) (a1_3 : Bool) (r : Bool) (w : World) (h : laws_eqPageMap.f a0_0 a0_1 a0_2 a0_3 a1_0 a1_1 a1_2 a1_3 = some r) :
  Calls Try.prog 79 #[.agg #[.int .i64 a0_0, .int .i64 a0_1, .int .i64 a0_2, .bool a0_3], .agg #[.int .i64 a1_0, .int .i64 a1_1, .int .i64 a1_2, .bool a1_3]] w fun e w' => e = .returned (.bool r) ∧ Below w.heap.size w w' := by
 have hu124 := Try.underlying124
 have HB := Sq.l (Below.refl w.heap.size w)
 have H : (if a0_0 = a1_0 then (if a0_1 = a1_1 then (if a0_2 = a1_2 then (if (a0_3 != a1_3) = true then (some false) else (some true)) else (some false)) else (some false)) else (some false)) = some r := h
 clear h
 by_cases c3 : a0_0 = a1_0
 ·rw [if_pos c3] at H
  have c3b0 : (a0_0 == a1_0) = true := beq_iff_eq.mpr c3
  have c3b1 : (a0_0 != a1_0) = false := bne_eq_false_iff_eq.mpr c3
  clear c3
  by_cases c4 : a0_1 = a1_1
  ·rw [if_pos c4] at H
   have c4b0 : (a0_1 == a1_1) = true := beq_iff_eq.mpr c4
   have c4b1 : (a0_1 != a1_1) = false := bne_eq_false_iff_eq.mpr c4
   clear c4
   by_cases c5 : a0_2 = a1_2
   ·rw [if_pos c5] at H
    have c5b0 : (a0_2 == a1_2) = true := beq_iff_eq.mpr c5
    have c5b1 : (a0_2 != a1_2) = false := bne_eq_false_iff_eq.mpr c5
    clear c5
    by_cases c6 : (a0_3 != a1_3) = true
    ·rw [if_pos c6] at H
     have c6b0 : (a0_3 != a1_3) = true := c6
     (try (have c6b1 : decide (a0_3 = a1_3) = false := by simpa using c6))
     (try (have c6b2 : (a0_3 == a1_3) = false := by simpa using c6))
     (try (have c6b3 : ¬ (a0_3 = a1_3) := by simpa using c6))
     clear c6
     obtain rfl := Option.some.inj H
     go_enter Try.func79, Try.ntmps79
     go_wp2_with (first | ((with_reducible refine gate_dst (N := 2) rfl ?_); refine box_event ?hg (N := 2) ?hd (cs := #[.int .i64 a0_0, .int .i64 a0_1, .int .i64 a0_2, .bool a0_3]) (t := 124) ?hr ?_; (case hd => rfl); (case hg => rfl); (case hr => first | (go_simp; done) | (go_simp; rfl)); intro gb179 hg w7 hbox hb; have n0_ := Sq.l (Sq.a4 (by repeat (first | (with_reducible first | exact HB.out | apply Sq.i | apply Sq.j | apply Sq.k) | exact HB.out)) hb); have n1_ := Sq.l (hbox); have n2_ := Sq.l ((by rw [hg]; exact (Sq.a5 (by repeat (first | (with_reducible first | exact HB.out | apply Sq.i | apply Sq.j | apply Sq.k) | exact HB.out))) : w.heap.size ≤ gb179)); have n3_ := Sq.l ((by rw [hg]; exact (Sq.a5 (by repeat (first | (with_reducible first | exact HB.out | apply Sq.i | apply Sq.j | apply Sq.k) | exact HB.out))) : w.heap.size ≤ gb179)); clear HB; have HB := n0_; have BK179 := n1_; have GW179 := n2_; have GE179 := n3_; clear n0_ n1_ n2_ n3_; clear hb hbox hg) | ((with_reducible refine gate_dst (N := 3) rfl ?_); refine box_event ?hg (N := 3) ?hd (cs := #[.int .i64 a1_0, .int .i64 a1_1, .int .i64 a1_2, .bool a1_3]) (t := 124) ?hr ?_; (case hd => rfl); (case hg => rfl); (case hr => first | (go_simp; done) | (go_simp; rfl)); intro gb180 hg w8 hbox hb; have n0_ := Sq.l (Sq.m (g := gb179) (o := .cells #[.int .i64 a0_0, .int .i64 a0_1, .int .i64 a0_2, .bool a0_3] 124 (0, 0)) (by (with_reducible repeat (first | refine Sq.d ?_ _ | refine Sq.e ?_ | refine Sq.f ?_ _)); exact BK179.out) hb); have n1_ := Sq.l (Sq.a4 (by repeat (first | (with_reducible first | exact HB.out | apply Sq.i | apply Sq.j | apply Sq.k | refine Sq.h ?_ GE179.out) | exact HB.out)) hb); have n2_ := Sq.l (hbox); have n3_ := Sq.l ((by rw [hg]; exact (Sq.a5 (by repeat (first | (with_reducible first | exact HB.out | apply Sq.i | apply Sq.j | apply Sq.k | refine Sq.h ?_ GE179.out) | exact HB.out))) : w.heap.size ≤ gb180)); have n4_ := Sq.l ((by rw [hg]; exact (Sq.a5 (by repeat (first | (with_reducible first | exact HB.out | apply Sq.i | apply Sq.j | apply Sq.k | refine Sq.h ?_ GE179.out) | exact HB.out))) : w.heap.size ≤ gb180)); have n5_ := Sq.l ((by rw [hg]; exact Nat.ne_of_lt (blk_lt (g := gb179) (o := .cells #[.int .i64 a0_0, .int .i64 a0_1, .int .i64 a0_2, .bool a0_3] 124 (0, 0)) (by (with_reducible repeat (first | refine Sq.d ?_ _ | refine Sq.e ?_ | refine Sq.f ?_ _)); exact BK179.out)) : gb179 ≠ gb180)); have n6_ := Sq.l ((by rw [hg]; exact Nat.ne_of_gt (blk_lt (g := gb179) (o := .cells #[.int .i64 a0_0, .int .i64 a0_1, .int .i64 a0_2, .bool a0_3] 124 (0, 0)) (by (with_reducible repeat (first | refine Sq.d ?_ _ | refine Sq.e ?_ | refine Sq.f ?_ _)); exact BK179.out)) : gb180 ≠ gb179)); clear BK179; clear HB; have BK179 := n0_; have HB := n1_; have BK180 := n2_; have GW180 := n3_; have GE180 := n4_; have NB179_180 := n5_; have NB180_179 := n6_; clear n0_ n1_ n2_ n3_ n4_ n5_ n6_; clear hb hbox hg; have hnb9 := NB179_180.out; have hnc9 := NB180_179.out; have hcz10_0 : w8.cell? ⟨gb179, 0, none⟩ = some (.int .i64 a0_0) := (Sq.o BK179.out 0).trans rfl; have hcz10_1 : w8.cell? ⟨gb179, 1, none⟩ = some (.int .i64 a0_1) := (Sq.o BK179.out 1).trans rfl; have hcz10_2 : w8.cell? ⟨gb179, 2, none⟩ = some (.int .i64 a0_2) := (Sq.o BK179.out 2).trans rfl; have hcz10_3 : w8.cell? ⟨gb179, 3, none⟩ = some (.bool a0_3) := (Sq.o BK179.out 3).trans rfl; have hfz10_0 := Sq.r BK179.out 0; have hfz10_1 := Sq.r BK179.out 1; have hfz10_2 := Sq.r BK179.out 2; have hfz10_3 := Sq.r BK179.out 3; have hcz11_0 : w8.cell? ⟨gb180, 0, none⟩ = some (.int .i64 a1_0) := (Sq.o BK180.out 0).trans rfl; have hcz11_1 : w8.cell? ⟨gb180, 1, none⟩ = some (.int .i64 a1_1) := (Sq.o BK180.out 1).trans rfl; have hcz11_2 : w8.cell? ⟨gb180, 2, none⟩ = some (.int .i64 a1_2) := (Sq.o BK180.out 2).trans rfl; have hcz11_3 : w8.cell? ⟨gb180, 3, none⟩ = some (.bool a1_3) := (Sq.o BK180.out 3).trans rfl; have hfz11_0 := Sq.r BK180.out 0; have hfz11_1 := Sq.r BK180.out 1; have hfz11_2 := Sq.r BK180.out 2; have hfz11_3 := Sq.r BK180.out 3))
     go_ret
     exact ⟨by first | rfl | (simp [errW_none, errW_some] <;> rfl) | (simp [*, errW_none, errW_some] <;> rfl), by repeat (first | (with_reducible first | exact HB.out | apply Sq.i | apply Sq.j | apply Sq.k | refine Sq.h ?_ GE179.out | refine Sq.h ?_ GE180.out) | exact HB.out)⟩
    ·rw [if_neg c6] at H
     have c6b0 : (a0_3 != a1_3) = false := by simpa using c6
     (try (have c6b1 : decide (a0_3 = a1_3) = true := by simpa using c6))
     (try (have c6b2 : (a0_3 == a1_3) = true := by simpa using c6))
     clear c6
     obtain rfl := Option.some.inj H
     go_enter Try.func79, Try.ntmps79
     go_wp2_with (first | ((with_reducible refine gate_dst (N := 2) rfl ?_); refine box_event ?hg (N := 2) ?hd (cs := #[.int .i64 a0_0, .int .i64 a0_1, .int .i64 a0_2, .bool a0_3]) (t := 124) ?hr ?_; (case hd => rfl); (case hg => rfl); (case hr => first | (go_simp; done) | (go_simp; rfl)); intro gb179 hg w12 hbox hb; have n0_ := Sq.l (Sq.a4 (by repeat (first | (with_reducible first | exact HB.out | apply Sq.i | apply Sq.j | apply Sq.k) | exact HB.out)) hb); have n1_ := Sq.l (hbox); have n2_ := Sq.l ((by rw [hg]; exact (Sq.a5 (by repeat (first | (with_reducible first | exact HB.out | apply Sq.i | apply Sq.j | apply Sq.k) | exact HB.out))) : w.heap.size ≤ gb179)); have n3_ := Sq.l ((by rw [hg]; exact (Sq.a5 (by repeat (first | (with_reducible first | exact HB.out | apply Sq.i | apply Sq.j | apply Sq.k) | exact HB.out))) : w.heap.size ≤ gb179)); clear HB; have HB := n0_; have BK179 := n1_; have GW179 := n2_; have GE179 := n3_; clear n0_ n1_ n2_ n3_; clear hb hbox hg) | ((with_reducible refine gate_dst (N := 3) rfl ?_); refine box_event ?hg (N := 3) ?hd (cs := #[.int .i64 a1_0, .int .i64 a1_1, .int .i64 a1_2, .bool a1_3]) (t := 124) ?hr ?_; (case hd => rfl); (case hg => rfl); (case hr => first | (go_simp; done) | (go_simp; rfl)); intro gb180 hg w13 hbox hb; have n0_ := Sq.l (Sq.m (g := gb179) (o := .cells #[.int .i64 a0_0, .int .i64 a0_1, .int .i64 a0_2, .bool a0_3] 124 (0, 0)) (by (with_reducible repeat (first | refine Sq.d ?_ _ | refine Sq.e ?_ | refine Sq.f ?_ _)); exact BK179.out) hb); have n1_ := Sq.l (Sq.a4 (by repeat (first | (with_reducible first | exact HB.out | apply Sq.i | apply Sq.j | apply Sq.k | refine Sq.h ?_ GE179.out) | exact HB.out)) hb); have n2_ := Sq.l (hbox); have n3_ := Sq.l ((by rw [hg]; exact (Sq.a5 (by repeat (first | (with_reducible first | exact HB.out | apply Sq.i | apply Sq.j | apply Sq.k | refine Sq.h ?_ GE179.out) | exact HB.out))) : w.heap.size ≤ gb180)); have n4_ := Sq.l ((by rw [hg]; exact (Sq.a5 (by repeat (first | (with_reducible first | exact HB.out | apply Sq.i | apply Sq.j | apply Sq.k | refine Sq.h ?_ GE179.out) | exact HB.out))) : w.heap.size ≤ gb180)); have n5_ := Sq.l ((by rw [hg]; exact Nat.ne_of_lt (blk_lt (g := gb179) (o := .cells #[.int .i64 a0_0, .int .i64 a0_1, .int .i64 a0_2, .bool a0_3] 124 (0, 0)) (by (with_reducible repeat (first | refine Sq.d ?_ _ | refine Sq.e ?_ | refine Sq.f ?_ _)); exact BK179.out)) : gb179 ≠ gb180)); have n6_ := Sq.l ((by rw [hg]; exact Nat.ne_of_gt (blk_lt (g := gb179) (o := .cells #[.int .i64 a0_0, .int .i64 a0_1, .int .i64 a0_2, .bool a0_3] 124 (0, 0)) (by (with_reducible repeat (first | refine Sq.d ?_ _ | refine Sq.e ?_ | refine Sq.f ?_ _)); exact BK179.out)) : gb180 ≠ gb179)); clear BK179; clear HB; have BK179 := n0_; have HB := n1_; have BK180 := n2_; have GW180 := n3_; have GE180 := n4_; have NB179_180 := n5_; have NB180_179 := n6_; clear n0_ n1_ n2_ n3_ n4_ n5_ n6_; clear hb hbox hg; have hnb14 := NB179_180.out; have hnc14 := NB180_179.out; have hcz15_0 : w13.cell? ⟨gb179, 0, none⟩ = some (.int .i64 a0_0) := (Sq.o BK179.out 0).trans rfl; have hcz15_1 : w13.cell? ⟨gb179, 1, none⟩ = some (.int .i64 a0_1) := (Sq.o BK179.out 1).trans rfl; have hcz15_2 : w13.cell? ⟨gb179, 2, none⟩ = some (.int .i64 a0_2) := (Sq.o BK179.out 2).trans rfl; have hcz15_3 : w13.cell? ⟨gb179, 3, none⟩ = some (.bool a0_3) := (Sq.o BK179.out 3).trans rfl; have hfz15_0 := Sq.r BK179.out 0; have hfz15_1 := Sq.r BK179.out 1; have hfz15_2 := Sq.r BK179.out 2; have hfz15_3 := Sq.r BK179.out 3; have hcz16_0 : w13.cell? ⟨gb180, 0, none⟩ = some (.int .i64 a1_0) := (Sq.o BK180.out 0).trans rfl; have hcz16_1 : w13.cell? ⟨gb180, 1, none⟩ = some (.int .i64 a1_1) := (Sq.o BK180.out 1).trans rfl; have hcz16_2 : w13.cell? ⟨gb180, 2, none⟩ = some (.int .i64 a1_2) := (Sq.o BK180.out 2).trans rfl; have hcz16_3 : w13.cell? ⟨gb180, 3, none⟩ = some (.bool a1_3) := (Sq.o BK180.out 3).trans rfl; have hfz16_0 := Sq.r BK180.out 0; have hfz16_1 := Sq.r BK180.out 1; have hfz16_2 := Sq.r BK180.out 2; have hfz16_3 := Sq.r BK180.out 3))
     go_ret
     exact ⟨by first | rfl | (simp [errW_none, errW_some] <;> rfl) | (simp [*, errW_none, errW_some] <;> rfl), by repeat (first | (with_reducible first | exact HB.out | apply Sq.i | apply Sq.j | apply Sq.k | refine Sq.h ?_ GE179.out | refine Sq.h ?_ GE180.out) | exact HB.out)⟩
   ·rw [if_neg c5] at H
    have c5b0 : (a0_2 == a1_2) = false := beq_eq_false_iff_ne.mpr c5
    have c5b1 : (a0_2 != a1_2) = true := bne_iff_ne.mpr c5
    obtain rfl := Option.some.inj H
    go_enter Try.func79, Try.ntmps79
    go_wp2_with (first | ((with_reducible refine gate_dst (N := 2) rfl ?_); refine box_event ?hg (N := 2) ?hd (cs := #[.int .i64 a0_0, .int .i64 a0_1, .int .i64 a0_2, .bool a0_3]) (t := 124) ?hr ?_; (case hd => rfl); (case hg => rfl); (case hr => first | (go_simp; done) | (go_simp; rfl)); intro gb179 hg w17 hbox hb; have n0_ := Sq.l (Sq.a4 (by repeat (first | (with_reducible first | exact HB.out | apply Sq.i | apply Sq.j | apply Sq.k) | exact HB.out)) hb); have n1_ := Sq.l (hbox); have n2_ := Sq.l ((by rw [hg]; exact (Sq.a5 (by repeat (first | (with_reducible first | exact HB.out | apply Sq.i | apply Sq.j | apply Sq.k) | exact HB.out))) : w.heap.size ≤ gb179)); have n3_ := Sq.l ((by rw [hg]; exact (Sq.a5 (by repeat (first | (with_reducible first | exact HB.out | apply Sq.i | apply Sq.j | apply Sq.k) | exact HB.out))) : w.heap.size ≤ gb179)); clear HB; have HB := n0_; have BK179 := n1_; have GW179 := n2_; have GE179 := n3_; clear n0_ n1_ n2_ n3_; clear hb hbox hg) | ((with_reducible refine gate_dst (N := 3) rfl ?_); refine box_event ?hg (N := 3) ?hd (cs := #[.int .i64 a1_0, .int .i64 a1_1, .int .i64 a1_2, .bool a1_3]) (t := 124) ?hr ?_; (case hd => rfl); (case hg => rfl); (case hr => first | (go_simp; done) | (go_simp; rfl)); intro gb180 hg w18 hbox hb; have n0_ := Sq.l (Sq.m (g := gb179) (o := .cells #[.int .i64 a0_0, .int .i64 a0_1, .int .i64 a0_2, .bool a0_3] 124 (0, 0)) (by (with_reducible repeat (first | refine Sq.d ?_ _ | refine Sq.e ?_ | refine Sq.f ?_ _)); exact BK179.out) hb); have n1_ := Sq.l (Sq.a4 (by repeat (first | (with_reducible first | exact HB.out | apply Sq.i | apply Sq.j | apply Sq.k | refine Sq.h ?_ GE179.out) | exact HB.out)) hb); have n2_ := Sq.l (hbox); have n3_ := Sq.l ((by rw [hg]; exact (Sq.a5 (by repeat (first | (with_reducible first | exact HB.out | apply Sq.i | apply Sq.j | apply Sq.k | refine Sq.h ?_ GE179.out) | exact HB.out))) : w.heap.size ≤ gb180)); have n4_ := Sq.l ((by rw [hg]; exact (Sq.a5 (by repeat (first | (with_reducible first | exact HB.out | apply Sq.i | apply Sq.j | apply Sq.k | refine Sq.h ?_ GE179.out) | exact HB.out))) : w.heap.size ≤ gb180)); have n5_ := Sq.l ((by rw [hg]; exact Nat.ne_of_lt (blk_lt (g := gb179) (o := .cells #[.int .i64 a0_0, .int .i64 a0_1, .int .i64 a0_2, .bool a0_3] 124 (0, 0)) (by (with_reducible repeat (first | refine Sq.d ?_ _ | refine Sq.e ?_ | refine Sq.f ?_ _)); exact BK179.out)) : gb179 ≠ gb180)); have n6_ := Sq.l ((by rw [hg]; exact Nat.ne_of_gt (blk_lt (g := gb179) (o := .cells #[.int .i64 a0_0, .int .i64 a0_1, .int .i64 a0_2, .bool a0_3] 124 (0, 0)) (by (with_reducible repeat (first | refine Sq.d ?_ _ | refine Sq.e ?_ | refine Sq.f ?_ _)); exact BK179.out)) : gb180 ≠ gb179)); clear BK179; clear HB; have BK179 := n0_; have HB := n1_; have BK180 := n2_; have GW180 := n3_; have GE180 := n4_; have NB179_180 := n5_; have NB180_179 := n6_; clear n0_ n1_ n2_ n3_ n4_ n5_ n6_; clear hb hbox hg; have hnb19 := NB179_180.out; have hnc19 := NB180_179.out; have hcz20_0 : w18.cell? ⟨gb179, 0, none⟩ = some (.int .i64 a0_0) := (Sq.o BK179.out 0).trans rfl; have hcz20_1 : w18.cell? ⟨gb179, 1, none⟩ = some (.int .i64 a0_1) := (Sq.o BK179.out 1).trans rfl; have hcz20_2 : w18.cell? ⟨gb179, 2, none⟩ = some (.int .i64 a0_2) := (Sq.o BK179.out 2).trans rfl; have hcz20_3 : w18.cell? ⟨gb179, 3, none⟩ = some (.bool a0_3) := (Sq.o BK179.out 3).trans rfl; have hfz20_0 := Sq.r BK179.out 0; have hfz20_1 := Sq.r BK179.out 1; have hfz20_2 := Sq.r BK179.out 2; have hfz20_3 := Sq.r BK179.out 3; have hcz21_0 : w18.cell? ⟨gb180, 0, none⟩ = some (.int .i64 a1_0) := (Sq.o BK180.out 0).trans rfl; have hcz21_1 : w18.cell? ⟨gb180, 1, none⟩ = some (.int .i64 a1_1) := (Sq.o BK180.out 1).trans rfl; have hcz21_2 : w18.cell? ⟨gb180, 2, none⟩ = some (.int .i64 a1_2) := (Sq.o BK180.out 2).trans rfl; have hcz21_3 : w18.cell? ⟨gb180, 3, none⟩ = some (.bool a1_3) := (Sq.o BK180.out 3).trans rfl; have hfz21_0 := Sq.r BK180.out 0; have hfz21_1 := Sq.r BK180.out 1; have hfz21_2 := Sq.r BK180.out 2; have hfz21_3 := Sq.r BK180.out 3))
    go_ret
    exact ⟨by first | rfl | (simp [errW_none, errW_some] <;> rfl) | (simp [*, errW_none, errW_some] <;> rfl), by repeat (first | (with_reducible first | exact HB.out | apply Sq.i | apply Sq.j | apply Sq.k | refine Sq.h ?_ GE179.out | refine Sq.h ?_ GE180.out) | exact HB.out)⟩
  ·rw [if_neg c4] at H
   have c4b0 : (a0_1 == a1_1) = false := beq_eq_false_iff_ne.mpr c4
   have c4b1 : (a0_1 != a1_1) = true := bne_iff_ne.mpr c4
   obtain rfl := Option.some.inj H
   go_enter Try.func79, Try.ntmps79
   go_wp2_with (first | ((with_reducible refine gate_dst (N := 2) rfl ?_); refine box_event ?hg (N := 2) ?hd (cs := #[.int .i64 a0_0, .int .i64 a0_1, .int .i64 a0_2, .bool a0_3]) (t := 124) ?hr ?_; (case hd => rfl); (case hg => rfl); (case hr => first | (go_simp; done) | (go_simp; rfl)); intro gb179 hg w22 hbox hb; have n0_ := Sq.l (Sq.a4 (by repeat (first | (with_reducible first | exact HB.out | apply Sq.i | apply Sq.j | apply Sq.k) | exact HB.out)) hb); have n1_ := Sq.l (hbox); have n2_ := Sq.l ((by rw [hg]; exact (Sq.a5 (by repeat (first | (with_reducible first | exact HB.out | apply Sq.i | apply Sq.j | apply Sq.k) | exact HB.out))) : w.heap.size ≤ gb179)); have n3_ := Sq.l ((by rw [hg]; exact (Sq.a5 (by repeat (first | (with_reducible first | exact HB.out | apply Sq.i | apply Sq.j | apply Sq.k) | exact HB.out))) : w.heap.size ≤ gb179)); clear HB; have HB := n0_; have BK179 := n1_; have GW179 := n2_; have GE179 := n3_; clear n0_ n1_ n2_ n3_; clear hb hbox hg) | ((with_reducible refine gate_dst (N := 3) rfl ?_); refine box_event ?hg (N := 3) ?hd (cs := #[.int .i64 a1_0, .int .i64 a1_1, .int .i64 a1_2, .bool a1_3]) (t := 124) ?hr ?_; (case hd => rfl); (case hg => rfl); (case hr => first | (go_simp; done) | (go_simp; rfl)); intro gb180 hg w23 hbox hb; have n0_ := Sq.l (Sq.m (g := gb179) (o := .cells #[.int .i64 a0_0, .int .i64 a0_1, .int .i64 a0_2, .bool a0_3] 124 (0, 0)) (by (with_reducible repeat (first | refine Sq.d ?_ _ | refine Sq.e ?_ | refine Sq.f ?_ _)); exact BK179.out) hb); have n1_ := Sq.l (Sq.a4 (by repeat (first | (with_reducible first | exact HB.out | apply Sq.i | apply Sq.j | apply Sq.k | refine Sq.h ?_ GE179.out) | exact HB.out)) hb); have n2_ := Sq.l (hbox); have n3_ := Sq.l ((by rw [hg]; exact (Sq.a5 (by repeat (first | (with_reducible first | exact HB.out | apply Sq.i | apply Sq.j | apply Sq.k | refine Sq.h ?_ GE179.out) | exact HB.out))) : w.heap.size ≤ gb180)); have n4_ := Sq.l ((by rw [hg]; exact (Sq.a5 (by repeat (first | (with_reducible first | exact HB.out | apply Sq.i | apply Sq.j | apply Sq.k | refine Sq.h ?_ GE179.out) | exact HB.out))) : w.heap.size ≤ gb180)); have n5_ := Sq.l ((by rw [hg]; exact Nat.ne_of_lt (blk_lt (g := gb179) (o := .cells #[.int .i64 a0_0, .int .i64 a0_1, .int .i64 a0_2, .bool a0_3] 124 (0, 0)) (by (with_reducible repeat (first | refine Sq.d ?_ _ | refine Sq.e ?_ | refine Sq.f ?_ _)); exact BK179.out)) : gb179 ≠ gb180)); have n6_ := Sq.l ((by rw [hg]; exact Nat.ne_of_gt (blk_lt (g := gb179) (o := .cells #[.int .i64 a0_0, .int .i64 a0_1, .int .i64 a0_2, .bool a0_3] 124 (0, 0)) (by (with_reducible repeat (first | refine Sq.d ?_ _ | refine Sq.e ?_ | refine Sq.f ?_ _)); exact BK179.out)) : gb180 ≠ gb179)); clear BK179; clear HB; have BK179 := n0_; have HB := n1_; have BK180 := n2_; have GW180 := n3_; have GE180 := n4_; have NB179_180 := n5_; have NB180_179 := n6_; clear n0_ n1_ n2_ n3_ n4_ n5_ n6_; clear hb hbox hg; have hnb24 := NB179_180.out; have hnc24 := NB180_179.out; have hcz25_0 : w23.cell? ⟨gb179, 0, none⟩ = some (.int .i64 a0_0) := (Sq.o BK179.out 0).trans rfl; have hcz25_1 : w23.cell? ⟨gb179, 1, none⟩ = some (.int .i64 a0_1) := (Sq.o BK179.out 1).trans rfl; have hcz25_2 : w23.cell? ⟨gb179, 2, none⟩ = some (.int .i64 a0_2) := (Sq.o BK179.out 2).trans rfl; have hcz25_3 : w23.cell? ⟨gb179, 3, none⟩ = some (.bool a0_3) := (Sq.o BK179.out 3).trans rfl; have hfz25_0 := Sq.r BK179.out 0; have hfz25_1 := Sq.r BK179.out 1; have hfz25_2 := Sq.r BK179.out 2; have hfz25_3 := Sq.r BK179.out 3; have hcz26_0 : w23.cell? ⟨gb180, 0, none⟩ = some (.int .i64 a1_0) := (Sq.o BK180.out 0).trans rfl; have hcz26_1 : w23.cell? ⟨gb180, 1, none⟩ = some (.int .i64 a1_1) := (Sq.o BK180.out 1).trans rfl; have hcz26_2 : w23.cell? ⟨gb180, 2, none⟩ = some (.int .i64 a1_2) := (Sq.o BK180.out 2).trans rfl; have hcz26_3 : w23.cell? ⟨gb180, 3, none⟩ = some (.bool a1_3) := (Sq.o BK180.out 3).trans rfl; have hfz26_0 := Sq.r BK180.out 0; have hfz26_1 := Sq.r BK180.out 1; have hfz26_2 := Sq.r BK180.out 2; have hfz26_3 := Sq.r BK180.out 3))
   go_ret
   exact ⟨by first | rfl | (simp [errW_none, errW_some] <;> rfl) | (simp [*, errW_none, errW_some] <;> rfl), by repeat (first | (with_reducible first | exact HB.out | apply Sq.i | apply Sq.j | apply Sq.k | refine Sq.h ?_ GE179.out | refine Sq.h ?_ GE180.out) | exact HB.out)⟩
 ·rw [if_neg c3] at H
  have c3b0 : (a0_0 == a1_0) = false := beq_eq_false_iff_ne.mpr c3
  have c3b1 : (a0_0 != a1_0) = true := bne_iff_ne.mpr c3
  obtain rfl := Option.some.inj H
  go_enter Try.func79, Try.ntmps79
  go_wp2_with (first | ((with_reducible refine gate_dst (N := 2) rfl ?_); refine box_event ?hg (N := 2) ?hd (cs := #[.int .i64 a0_0, .int .i64 a0_1, .int .i64 a0_2, .bool a0_3]) (t := 124) ?hr ?_; (case hd => rfl); (case hg => rfl); (case hr => first | (go_simp; done) | (go_simp; rfl)); intro gb179 hg w27 hbox hb; have n0_ := Sq.l (Sq.a4 (by repeat (first | (with_reducible first | exact HB.out | apply Sq.i | apply Sq.j | apply Sq.k) | exact HB.out)) hb); have n1_ := Sq.l (hbox); have n2_ := Sq.l ((by rw [hg]; exact (Sq.a5 (by repeat (first | (with_reducible first | exact HB.out | apply Sq.i | apply Sq.j | apply Sq.k) | exact HB.out))) : w.heap.size ≤ gb179)); have n3_ := Sq.l ((by rw [hg]; exact (Sq.a5 (by repeat (first | (with_reducible first | exact HB.out | apply Sq.i | apply Sq.j | apply Sq.k) | exact HB.out))) : w.heap.size ≤ gb179)); clear HB; have HB := n0_; have BK179 := n1_; have GW179 := n2_; have GE179 := n3_; clear n0_ n1_ n2_ n3_; clear hb hbox hg) | ((with_reducible refine gate_dst (N := 3) rfl ?_); refine box_event ?hg (N := 3) ?hd (cs := #[.int .i64 a1_0, .int .i64 a1_1, .int .i64 a1_2, .bool a1_3]) (t := 124) ?hr ?_; (case hd => rfl); (case hg => rfl); (case hr => first | (go_simp; done) | (go_simp; rfl)); intro gb180 hg w28 hbox hb; have n0_ := Sq.l (Sq.m (g := gb179) (o := .cells #[.int .i64 a0_0, .int .i64 a0_1, .int .i64 a0_2, .bool a0_3] 124 (0, 0)) (by (with_reducible repeat (first | refine Sq.d ?_ _ | refine Sq.e ?_ | refine Sq.f ?_ _)); exact BK179.out) hb); have n1_ := Sq.l (Sq.a4 (by repeat (first | (with_reducible first | exact HB.out | apply Sq.i | apply Sq.j | apply Sq.k | refine Sq.h ?_ GE179.out) | exact HB.out)) hb); have n2_ := Sq.l (hbox); have n3_ := Sq.l ((by rw [hg]; exact (Sq.a5 (by repeat (first | (with_reducible first | exact HB.out | apply Sq.i | apply Sq.j | apply Sq.k | refine Sq.h ?_ GE179.out) | exact HB.out))) : w.heap.size ≤ gb180)); have n4_ := Sq.l ((by rw [hg]; exact (Sq.a5 (by repeat (first | (with_reducible first | exact HB.out | apply Sq.i | apply Sq.j | apply Sq.k | refine Sq.h ?_ GE179.out) | exact HB.out))) : w.heap.size ≤ gb180)); have n5_ := Sq.l ((by rw [hg]; exact Nat.ne_of_lt (blk_lt (g := gb179) (o := .cells #[.int .i64 a0_0, .int .i64 a0_1, .int .i64 a0_2, .bool a0_3] 124 (0, 0)) (by (with_reducible repeat (first | refine Sq.d ?_ _ | refine Sq.e ?_ | refine Sq.f ?_ _)); exact BK179.out)) : gb179 ≠ gb180)); have n6_ := Sq.l ((by rw [hg]; exact Nat.ne_of_gt (blk_lt (g := gb179) (o := .cells #[.int .i64 a0_0, .int .i64 a0_1, .int .i64 a0_2, .bool a0_3] 124 (0, 0)) (by (with_reducible repeat (first | refine Sq.d ?_ _ | refine Sq.e ?_ | refine Sq.f ?_ _)); exact BK179.out)) : gb180 ≠ gb179)); clear BK179; clear HB; have BK179 := n0_; have HB := n1_; have BK180 := n2_; have GW180 := n3_; have GE180 := n4_; have NB179_180 := n5_; have NB180_179 := n6_; clear n0_ n1_ n2_ n3_ n4_ n5_ n6_; clear hb hbox hg; have hnb29 := NB179_180.out; have hnc29 := NB180_179.out; have hcz30_0 : w28.cell? ⟨gb179, 0, none⟩ = some (.int .i64 a0_0) := (Sq.o BK179.out 0).trans rfl; have hcz30_1 : w28.cell? ⟨gb179, 1, none⟩ = some (.int .i64 a0_1) := (Sq.o BK179.out 1).trans rfl; have hcz30_2 : w28.cell? ⟨gb179, 2, none⟩ = some (.int .i64 a0_2) := (Sq.o BK179.out 2).trans rfl; have hcz30_3 : w28.cell? ⟨gb179, 3, none⟩ = some (.bool a0_3) := (Sq.o BK179.out 3).trans rfl; have hfz30_0 := Sq.r BK179.out 0; have hfz30_1 := Sq.r BK179.out 1; have hfz30_2 := Sq.r BK179.out 2; have hfz30_3 := Sq.r BK179.out 3; have hcz31_0 : w28.cell? ⟨gb180, 0, none⟩ = some (.int .i64 a1_0) := (Sq.o BK180.out 0).trans rfl; have hcz31_1 : w28.cell? ⟨gb180, 1, none⟩ = some (.int .i64 a1_1) := (Sq.o BK180.out 1).trans rfl; have hcz31_2 : w28.cell? ⟨gb180, 2, none⟩ = some (.int .i64 a1_2) := (Sq.o BK180.out 2).trans rfl; have hcz31_3 : w28.cell? ⟨gb180, 3, none⟩ = some (.bool a1_3) := (Sq.o BK180.out 3).trans rfl; have hfz31_0 := Sq.r BK180.out 0; have hfz31_1 := Sq.r BK180.out 1; have hfz31_2 := Sq.r BK180.out 2; have hfz31_3 := Sq.r BK180.out 3))
  go_ret
  exact ⟨by first | rfl | (simp [errW_none, errW_some] <;> rfl) | (simp [*, errW_none, errW_some] <;> rfl), by repeat (first | (with_reducible first | exact HB.out | apply Sq.i | apply Sq.j | apply Sq.k | refine Sq.h ?_ GE179.out | refine Sq.h ?_ GE180.out) | exact HB.out)⟩

end Go.Proofs.Ytmajbehafgajmaa.QFnExactMapPages
