-- Written for this claim by this session's own driver (wip/xprint.py).
import Derived.Test.YtpcpjkbjadgoiaaQFnExactCryptDiskx0
import Derived.Test.YtpcpjkbjadgoiaaQFnExactCryptDiskx1
namespace Go.Proofs.Ytpcpjkbjadgoiaa.QFnExactCryptDisk
open Go.RowKit Go.Proofs.YtpcpjkbjadgoiaaW.PrintWords Go.Proofs.YtpcpjkbjadgoiaaW.PrintLast Go.Proofs.YtpcpjkbjadgoiaaW.PrintMore
attribute [local go_sem] max2_int min2_int max_two min_two max_three min_three max_four min_four   -- for this text's walks alone
set_option linter.unusedVariables false
set_option linter.unusedSimpArgs false

/-! ### impl_ymix: function 28 -/
def impl_ymix.l0 : Nat → ByteArray → Int → Int → Int → Option (Int)
  | 0, _, _, _, _ => none
  | k + 1, x0, x5, x11, x12 => if x12 < x11 then (if 0 ≤ x12 then (if x12 < (x0.size : Int) then (impl_ymix.l0 k x0 (Int.tmod (wrap64 ((wrap64 ((wrap64 (x5 * 65599)) + (wrap64 (bt x0 x12)))) + 1)) 2147483629) x11 (wrap64 (x12 + 1))) else (none)) else (none)) else (some (Int.tmod (wrap64 ((wrap64 (x5 * 40503)) + 77)) 2147483629))
def impl_ymix.f (k : Nat) (a0 : ByteArray) (a1 : Int) : Option (Int) := (impl_ymod.f a1 2147483629).bind fun t109 => (impl_ymix.l0 k a0 (wrap64 (t109 + 1)) (a0.size : Int) 0)
theorem impl_ymix.mono_l : ∀ k, (∀ y0 y1 y2 y3, LeO (impl_ymix.l0 k y0 y1 y2 y3) (impl_ymix.l0 (k + 1) y0 y1 y2 y3))
  | 0 => fun _ _ _ _ r h => by simp [impl_ymix.l0] at h
  | k + 1 => by
    have ih0 := impl_ymix.mono_l k
    · intro y0 y1 y2 y3
      unfold impl_ymix.l0
      repeat' first
      | (with_reducible exact ih0 _ _ _ _)
      | (with_reducible exact LeO.refl _)
      | (with_reducible exact LeO.none _)
      | (with_reducible refine LeO.ite ?_ ?_)
      | (with_reducible refine LeO.bind ?_ (fun _ => ?_))
      | exact ih0 _ _ _ _
      | exact LeO.none _
      | refine LeO.ite ?_ ?_
      | refine LeO.bind ?_ (fun _ => ?_)
theorem impl_ymix.mono : ∀ a0 a1 k, LeO (impl_ymix.f k a0 a1) (impl_ymix.f (k + 1) a0 a1) := by
  intro a0 a1 k
  have ih0 := impl_ymix.mono_l k
  unfold impl_ymix.f
  repeat' first
      | (with_reducible exact ih0 _ _ _ _)
      | (with_reducible exact LeO.refl _)
      | (with_reducible exact LeO.none _)
      | (with_reducible refine LeO.ite ?_ ?_)
      | (with_reducible refine LeO.bind ?_ (fun _ => ?_))
      | exact ih0 _ _ _ _
      | exact LeO.none _
      | refine LeO.ite ?_ ?_
      | refine LeO.bind ?_ (fun _ => ?_)
set_option maxHeartbeats 8000000 in
set_option maxRecDepth 100000 in
theorem impl_ymix.calls (k : Nat) (a0 : ByteArray) (a1 : Int) (r : Int) (w : World) (h : impl_ymix.f k a0 a1 = some r) :
    Calls Try.prog 28 #[.string a0, .int .i64 a1] w fun e w' => e = .returned (.int .i64 r) ∧ Drawn0 w w' := by
  have H : ((impl_ymod.f a1 2147483629).bind fun t109 => (impl_ymix.l0 k a0 (wrap64 (t109 + 1)) (a0.size : Int) 0)) = some r := h
  clear h
  replace H := Option.bind_eq_some_iff.mp H
  obtain ⟨t109, A30, H⟩ := H
  replace H : (impl_ymix.l0 k a0 (wrap64 (t109 + 1)) (a0.size : Int) 0) = some r := H
  have A3 := Aside0.mk A30
  clear A30
  have H' := Aside0.mk H
  clear H
  go_enter Try.func28, Try.ntmps28
  go_wp2_with (first | ((with_reducible refine gate_callee (f := 52) rfl ?_); refine goesL_ (some 8) rfl rfl Try.func52 (by kernel_rfl) rfl #[.int .i64 a1, .int .i64 2147483629] rfl (by (try simp only [List.map_toArray, List.map_cons, List.map_nil]); first | done | rfl | (simp only [List.length_drop, List.length_take]; rfl)) ?_; (with_reducible refine (impl_ymod.calls a1 2147483629 t109 _ A3.out).mono ?_); rintro e w' ⟨rfl, ⟨nd, rfl⟩⟩; refine ⟨_, rfl, ?_⟩))
  go_loopg [5, 12] k (fun kq v5 v12 w' => ∃ (x5_1 : Int) (x12_1 : Int), v5 = .int .i64 x5_1 ∧ v12 = .int .i64 x12_1 ∧ Aside0 (impl_ymix.l0 kq a0 x5_1 (a0.size : Int) x12_1 = some r) ∧ Aside0 (kq ≤ k) ∧ Drawn0 w w')
  case atStart => exact ⟨(wrap64 (t109 + 1)), (0), (by first | rfl | (simp; done) | (simp [*]; done)), (by first | rfl | (simp; done) | (simp [*]; done)), H', ⟨Nat.le_refl _⟩, by repeat (first | exact Drawn0.refl _ | apply Drawn0.step)⟩
  case round =>
    clear H'
    try clear c2
    try clear p2
    obtain ⟨x5_1, x12_1, rfl, rfl, HA, HK1, ⟨m1, rfl⟩⟩ := hrel
    cases gk with
    | zero => exact absurd HA.out (by simp [impl_ymix.l0])
    | succ k1 =>
      have H := HA.out
      clear HA
      simp only [impl_ymix.l0] at H
      by_cases c4 : x12_1 < (a0.size : Int)
      · rw [if_pos c4] at H
        have c4b0 : decide (x12_1 < (a0.size : Int)) = true := decide_eq_true c4
        clear c4
        by_cases c5 : 0 ≤ x12_1
        · rw [if_pos c5] at H
          have c5b0 : decide (0 ≤ x12_1) = true := decide_eq_true c5
          clear c5
          by_cases c6 : x12_1 < (a0.size : Int)
          · rw [if_pos c6] at H
            have c6b0 : decide (x12_1 < (a0.size : Int)) = true := decide_eq_true c6
            clear c6
            have H' := Aside0.mk H
            clear H
            have p7 : 0 ≤ (x12_1 : Int) := of_decide_eq_true (by first | (with_reducible assumption) | assumption)
            have q7 : x12_1 < (a0.size : Int) := of_decide_eq_true (by first | (with_reducible assumption) | assumption)
            have hx7 := bt_at a0 x12_1
            replace p7 := eq_true p7
            replace q7 := eq_true q7
            go_wp2
            go_roundg k1
            case measure => have := HK1.out; omega
            case rel => exact ⟨(Int.tmod (wrap64 ((wrap64 ((wrap64 (x5_1 * 65599)) + (wrap64 (bt a0 x12_1)))) + 1)) 2147483629), (wrap64 (x12_1 + 1)), (by first | rfl | (simp; done) | (simp [*]; done)), (by first | rfl | (simp; done) | (simp [*]; done)), H', ⟨by have := HK1.out; omega⟩, by repeat (first | exact Drawn0.refl _ | apply Drawn0.step)⟩
          · rw [if_neg c6] at H
            exact absurd H (by simp)
        · rw [if_neg c5] at H
          exact absurd H (by simp)
      · rw [if_neg c4] at H
        have c4b0 : decide (x12_1 < (a0.size : Int)) = false := decide_eq_false c4
        clear c4
        obtain rfl := Option.some.inj H
        go_wp2
        go_ret
        exact ⟨by first | rfl | (simp; done) | (simp [*]; done), by repeat (first | exact Drawn0.refl _ | apply Drawn0.step)⟩

-- NOT PRINTED: function 64 (abi_NoEscape)

-- NOT PRINTED: function 54 (strings_Builder_copyCheck)

-- NOT PRINTED: function 31 (strings_Builder_WriteString)

-- NOT PRINTED: function 32 (strings_Builder_String)

-- NOT PRINTED: function 68 (bytealg_MakeNoZero)

-- NOT PRINTED: function 67 (strings_Builder_grow)

-- NOT PRINTED: function 63 (strings_Builder_Grow)

-- NOT PRINTED: function 53 (strings_Join)

/-! ### impl_yjoin: function 29 -/
def impl_yjoin.f (l0 : List ByteArray) : Option (ByteArray) := if 0 < l0.length ∧ l0.length ≤ 140737488355328 ∧ (Lib.join (l0.map (·.data.toList)) []).length ≤ 140737488355328 then some ⟨(Lib.join (l0.map (·.data.toList)) []).toArray⟩ else none
set_option maxHeartbeats 4000000 in
set_option maxRecDepth 100000 in
theorem impl_yjoin.calls (A0 : Option Addr) (c0 : Nat) (l0 : List ByteArray) (r : ByteArray) (w : World) (hr0 : Kd.C Kd.string w A0 l0.length l0) (hc0 : l0.length ≤ c0) (h : impl_yjoin.f l0 = some r) :
    Calls Try.prog 29 #[.slice A0 l0.length c0] w fun e w' => e = .returned (.string r) ∧ Below w.heap.size w w' := by
  unfold impl_yjoin.f at h
  by_cases hc : 0 < l0.length ∧ l0.length ≤ 140737488355328 ∧ (Lib.join (l0.map (·.data.toList)) []).length ≤ 140737488355328
  · rw [if_pos hc] at h
    obtain rfl := Option.some.inj h
    obtain ⟨q0, q1, q2⟩ := hc
    obtain ⟨ad, rfl, hcell⟩ := hr0.2.2 q0
    obtain ⟨bk, o, sp⟩ := ad
    have hrd : ∀ (j : Nat) x, l0[j]? = some x → w.cell? ((⟨bk, o, sp⟩ : Addr).add j) = some (.string x) := fun j x hx => by
      obtain ⟨c, hl, hk, hcc⟩ := hcell j x hx
      have hk' : c = [Value.string x] := hk
      have := hcc 0 (.string x) (by rw [hk']; rfl)
      rw [Nat.add_zero] at this
      have e1 : j * Kd.string.sz = j := Nat.mul_one j
      rw [e1] at this
      exact this
    have hsp : sp = none := by
      have h0 := hrd 0 l0[0] (List.getElem?_eq_getElem q0)
      cases sp with
      | none => rfl
      | some s =>
        have : (⟨bk, o, some s⟩ : Addr).add 0 = ⟨bk, o, some s⟩ := by simp [Addr.add]
        rw [this] at h0
        unfold World.cell? at h0
        split at h0 <;> simp at h0
    subst hsp
    have hcs : ∀ (j : Nat) x, l0[j]? = some x → w.cell? ⟨bk, o + j, none⟩ = some (.string x) := fun j x hx => by
      have := hrd j x hx
      rwa [Addr.add_lit] at this
    have hbk : bk < w.heap.size := World.block_lt_of_cell? w _ (hcs 0 l0[0] (List.getElem?_eq_getElem q0))
    have hj : Calls Try.prog 53 #[.slice (some ⟨bk, o, none⟩) l0.length c0, .string ⟨#[]⟩] w fun e w' => e = .returned (.string ⟨(Lib.join (l0.map (·.data.toList)) []).toArray⟩) ∧ Below w.heap.size w w' := Any.strings_Join Try.lays156 Try.Builder_Extra_156 bk o c0 l0 ⟨#[]⟩ w hcs hbk q1 hc0 q2
    clear h hr0 hcell hrd hcs
    go_enter Try.func29, Try.ntmps29
    go_wp2_with (go_at_call 53; with_reducible refine hj.mono ?_; rintro e w3 ⟨rfl, hb3⟩)
    go_ret
    exact ⟨rfl, hb3⟩
  · rw [if_neg hc] at h; exact absurd h (by simp)

/-! ### impl_PutWord: function 30 -/
def impl_PutWord.f (a0 : Int) : Option (ByteArray) := some (strOfNums (([((a0) % 4294967296) % 256, (((a0) % 4294967296) / 256) % 256, (((a0) % 4294967296) / 65536) % 256, ((a0) % 4294967296) / 16777216] : List Int)))
set_option maxHeartbeats 8000000 in
set_option maxRecDepth 100000 in
theorem impl_PutWord.calls (a0 : Int) (r : ByteArray) (w : World) (h : impl_PutWord.f a0 = some r) :
    Calls Try.prog 30 #[.int .i64 a0] w fun e w' => e = .returned (.string r) ∧ Below w.heap.size w w' := by
  have HB := Aside0.mk (Below.refl w.heap.size w)
  have H : (some (strOfNums (([((a0) % 4294967296) % 256, (((a0) % 4294967296) / 256) % 256, (((a0) % 4294967296) / 65536) % 256, ((a0) % 4294967296) / 16777216] : List Int)))) = some r := h
  clear h
  obtain ⟨y111, hy111⟩ : ∃ y_ : List Int, y_ = (([((a0) % 4294967296) % 256, (((a0) % 4294967296) / 256) % 256, (((a0) % 4294967296) / 65536) % 256, ((a0) % 4294967296) / 16777216] : List Int)) := ⟨_, rfl⟩
  replace H : (some (strOfNums y111)) = some r := by first | (rw [hy111]; with_reducible exact H) | (have H2_ := (Option.bind_some _ _).symm.trans H; rw [hy111]; with_reducible exact H2_) | (have H2_ := (Option.bind_some _ _).symm.trans H; with_reducible exact H2_) | with_reducible exact H | (rw [hy111]; exact H) | exact H
  have Ny111 := Aside0.mk hy111
  clear hy111
  obtain rfl := Option.some.inj H
  go_enter Try.func30, Try.ntmps30
  go_wp2_with (first | ((with_reducible refine gate_dst (N := 17) rfl ?_); refine Kd.R_lit (Kd.int .u8) _ 5 ?hg (N := 17) ?hd (xs := ([((a0) % 4294967296) % 256, (((a0) % 4294967296) / 256) % 256, (((a0) % 4294967296) / 65536) % 256, ((a0) % 4294967296) / 16777216] : List Int)) (inner := [.int .u8 (((a0) % 4294967296) % 256), .int .u8 ((((a0) % 4294967296) / 256) % 256), .int .u8 ((((a0) % 4294967296) / 65536) % 256), .int .u8 (((a0) % 4294967296) / 16777216)]) (ok := fun _ => True) (okp := fun _ => True) ?hr ?hp (fun _ hk => hk) trivial (Below.refl _ _) (Nat.le_refl _) (by simp) ?_; (case hd => rfl); (case hg => rfl); (case hr => first | (go_simp; done) | (go_simp; rfl)); (case hp => exact (Reps.one (show Kd.M (Kd.int .u8) _ _ _ (((a0) % 4294967296) % 256) [.int .u8 (((a0) % 4294967296) % 256)] from rfl) (Reps.one (show Kd.M (Kd.int .u8) _ _ _ ((((a0) % 4294967296) / 256) % 256) [.int .u8 ((((a0) % 4294967296) / 256) % 256)] from rfl) (Reps.one (show Kd.M (Kd.int .u8) _ _ _ ((((a0) % 4294967296) / 65536) % 256) [.int .u8 ((((a0) % 4294967296) / 65536) % 256)] from rfl) (Reps.one (show Kd.M (Kd.int .u8) _ _ _ (((a0) % 4294967296) / 16777216) [.int .u8 (((a0) % 4294967296) / 16777216)] from rfl) (Reps.none _ _)))))); intro v112 w2 ho3 hb hg_ hnew_; clear hg_ hnew_; (first | rw [← Ny111.out] at ho3 | (simp only [Int.reduceToNat] at ho3; rw [← Ny111.out] at ho3)); have n0_ := Aside0.mk (Kd.R_lower ho3 (below_size (by repeat (first | (with_reducible first | exact HB.out | apply below_alloc | apply pw_below_drewN | apply below_drew1) | exact HB.out)))); have n1_ := Aside0.mk (below_step (by repeat (first | (with_reducible first | exact HB.out | apply below_alloc | apply pw_below_drewN | apply below_drew1) | exact HB.out)) hb); clear HB; have HO113 := n0_; have HB := n1_; clear n0_ n1_; clear hb ho3; have hcv4 := own_string (P := Try.prog) Try.underlying45 Try.underlying5 Try.underlying9 (Kd.own_of_R HO113.out)))
  go_ret
  exact ⟨by first | rfl | (simp [errW_none, errW_some] <;> rfl) | (simp [*, errW_none, errW_some] <;> rfl), by repeat (first | (with_reducible first | exact HB.out | apply below_alloc | apply pw_below_drewN | apply below_drew1) | exact HB.out)⟩

/-! ### impl_Crypt: function 8 -/
open Go.Proofs.Ytpcpjkbjadgoiaa.Pl Go.Proofs.Ytpcpjkbjadgoiaa.Cw in
theorem impl_mix_ends (s : ByteArray) (hs : (s.size : Int) ≤ 140737488351232) (x : Int) (d : Nat) : ∀ i : Nat, i + d = s.size → Ev (fun k => impl_ymix.l0 k s (mixFrom s x i) s.size i) (mixEnd (mixFrom s x s.size)) := by
  induction d with
  | zero =>
    intro i hi
    obtain rfl : i = s.size := by omega
    exact Ev.step (f := fun _ => some (mixEnd (mixFrom s x s.size))) (fun k => by simp only [impl_ymix.l0]; rw [if_neg (by omega)]; rfl) (Ev.now _)
  | succ d ih =>
    intro i hi
    refine Ev.step (fun k => ?_) (ih (i + 1) (by omega))
    simp only [impl_ymix.l0]
    rw [if_pos (by omega), if_pos (by omega), if_pos (by omega), w64 (a := (i : Int) + 1) (by omega) (by omega)]
    have e1 : ((i : Int) + 1) = ((i + 1 : Nat) : Int) := by omega
    rw [e1]; rfl
open Go.Proofs.Ytpcpjkbjadgoiaa.Pl Go.Proofs.Ytpcpjkbjadgoiaa.Cw in
theorem impl_ymod_eq (a m : Int) (hm : 0 < m) (hm1 : m ≤ 4611686018427387904) : impl_ymod.f a m = some (a % m) := by
  unfold impl_ymod.f; rw [if_neg (by omega)]; exact go_mod a m hm hm1
open Go.Proofs.Ytpcpjkbjadgoiaa.Pl Go.Proofs.Ytpcpjkbjadgoiaa.Cw in
theorem impl_ymix_ev (s : ByteArray) (seed : Int) (hs : (s.size : Int) ≤ 140737488351232) : Ev (fun k => impl_ymix.f k s seed) (mixOf s seed) := by
  have h0 := Int.emod_nonneg seed (show (2147483629:Int) ≠ 0 by decide)
  have h1 := Int.emod_lt_of_pos seed (show (0:Int) < 2147483629 by decide)
  refine Ev.congr (f := fun k => impl_ymix.l0 k s (mixFrom s (seed % 2147483629 + 1) 0) s.size (0 : Nat)) (fun k => ?_) (impl_mix_ends s hs _ s.size 0 (by omega))
  unfold impl_ymix.f
  rw [impl_ymod_eq _ _ (by omega) (by omega)]
  simp only [Option.bind_some]
  rw [w64 (by omega) (by omega)]; rfl
theorem impl_putW (x : Int) : impl_PutWord.f x = some (Go.Proofs.Ytpcpjkbjadgoiaa.Cw.wordTx x) := rfl
theorem icellAt {w : World} {g cap : Nat} {bs : List UInt8} (h : Go.Proofs.Ytpcpjkbjadgoiaa.By.BRow w g cap bs) (j : Nat) (x : UInt8) (hj : bs[j]? = some x) : w.cell? ⟨g, j, none⟩ = some (.int .u8 (x.toNat : Int)) := by
  obtain ⟨hl, rfl⟩ := List.getElem?_eq_some_iff.mp hj
  exact h.cell j hl
theorem ibrLen {w : World} {g cap : Nat} {bs : List UInt8} (h : Go.Proofs.Ytpcpjkbjadgoiaa.By.BRow w g cap bs) : bs.length ≤ cap := h.1
theorem ishr (v : Int) (q : Nat) : v / 2 ^ (8 * q) / 256 = v / 2 ^ (8 * (q + 1)) := by
  rw [Int.ediv_ediv_of_nonneg (by exact_mod_cast Nat.zero_le (2 ^ (8 * q)))]
  congr 1
  rw [show 8 * (q + 1) = 8 * q + 8 from by omega, Int.pow_add]
  rfl
theorem ione (W : World) (s : ByteArray) (e : TypeId) : Kd.C Kd.string (W.alloc (Obj.cells #[Value.string s] e)) (some ⟨W.heap.size, 0, none⟩) ([s] : List ByteArray).length [s] := by
  refine ⟨rfl, by simp, fun _ => ⟨⟨W.heap.size, 0, none⟩, rfl, fun j p hj => ⟨[.string p], rfl, rfl, fun i u hu => ?_⟩⟩⟩
  have hj0 : j = 0 := by
    rcases Nat.eq_zero_or_pos j with h | h
    · exact h
    · rw [List.getElem?_eq_none (by simp; omega)] at hj; exact absurd hj (by simp)
  have hi0 : i = 0 := by
    rcases Nat.eq_zero_or_pos i with h | h
    · exact h
    · rw [List.getElem?_eq_none (by simp; omega)] at hu; exact absurd hu (by simp)
  subst hj0
  subst hi0
  simp at hj hu
  subst hj
  subst hu
  simp [Kd.string, Kd.scalar, Addr.add]
theorem ithree (W : World) (s0 s1 s2 : ByteArray) (e : TypeId) : Kd.C Kd.string (W.alloc (Obj.cells #[Value.string s0, Value.string s1, Value.string s2] e)) (some ⟨W.heap.size, 0, none⟩) ([s0, s1, s2] : List ByteArray).length [s0, s1, s2] := by
  refine ⟨rfl, by simp, fun _ => ⟨⟨W.heap.size, 0, none⟩, rfl, fun j p hj => ⟨[.string p], rfl, rfl, fun i u hu => ?_⟩⟩⟩
  have hi0 : i = 0 := by
    rcases Nat.eq_zero_or_pos i with h | h
    · exact h
    · rw [List.getElem?_eq_none (by simp; omega)] at hu; exact absurd hu (by simp)
  subst hi0
  simp at hu
  subst hu
  match j, hj with
  | 0, hj => simp at hj; subst hj; simp [Kd.string, Kd.scalar, Addr.add]
  | 1, hj => simp at hj; subst hj; simp [Kd.string, Kd.scalar, Addr.add]
  | 2, hj => simp at hj; subst hj; simp [Kd.string, Kd.scalar, Addr.add]
  | n + 3, hj => simp at hj
theorem iBig (s : ByteArray) : impl_ybig.f 2 [s] = some (decide ((s.size : Int) > 65536)) := by
  unfold impl_ybig.f
  simp only [impl_ybig.l0]
  have e0 : rdOf ByteArray.empty [s] 0 = s := rfl
  have e1 : (([s] : List ByteArray).length : Int) = 1 := rfl
  have e2 : wrap64 (0 + 1) = 1 := by unfold wrap64; omega
  rw [e0, e1, e2, if_pos (by decide), if_pos (by decide), if_pos (by decide)]
  by_cases h : (s.size : Int) > 65536
  · rw [if_pos h, decide_eq_true h]
  · rw [if_neg h, decide_eq_false h, if_neg (by decide)]
theorem ilk (a0 : ByteArray) (W : World) (b : Nat) (hb : b = W.heap.size) : Calls Try.prog 26 #[.slice (some ⟨b, 0, none⟩) 1 1] (W.alloc (Obj.cells #[Value.string a0] 9)) fun e w' => e = .returned (.bool (decide ((a0.size : Int) > 4096))) ∧ Below W.heap.size W w' := by
  subst hb
  refine (impl_ylongKey.calls (some ⟨W.heap.size, 0, none⟩) 1 [a0] _ _ (ione W a0 9) (by simp) (by unfold impl_ylongKey.f; rfl)).mono ?_
  rintro e w' ⟨rfl, hb⟩
  exact ⟨by simp [longKey], (below_alloc (Below.refl _ _) _).trans (hb.mono (by simp))⟩
theorem ibg (a0 : ByteArray) (W : World) (b : Nat) (hb : b = W.heap.size) : Calls Try.prog 27 #[.slice (some ⟨b, 0, none⟩) 1 1] (W.alloc (Obj.cells #[Value.string a0] 9)) fun e w' => e = .returned (.bool (decide ((a0.size : Int) > 65536))) ∧ Below W.heap.size W w' := by
  subst hb
  refine (impl_ybig.calls 2 (some ⟨W.heap.size, 0, none⟩) 1 [a0] _ _ (ione W a0 9) (by simp) (iBig a0)).mono ?_
  rintro e w' ⟨rfl, ⟨m, rfl⟩⟩
  exact ⟨rfl, pw_below_drewN (below_alloc (Below.refl _ _) _) _⟩
theorem ijn (s0 s1 s2 : ByteArray) (hs : s0.size + s1.size + s2.size ≤ 1000000) (W : World) (b : Nat) (hb : b = W.heap.size) : Calls Try.prog 29 #[.slice (some ⟨b, 0, none⟩) 3 3] (W.alloc (Obj.cells #[Value.string s0, Value.string s1, Value.string s2] 9)) fun e w' => e = .returned (.string (s0 ++ s1 ++ s2)) ∧ Below W.heap.size W w' := by
  subst hb
  have hjl : Lib.join (([s0, s1, s2] : List ByteArray).map (·.data.toList)) [] = s0.data.toList ++ s1.data.toList ++ s2.data.toList := by
    simp [Lib.join, List.intercalate]
  have hsz : ∀ s : ByteArray, s.data.toList.length = s.size := fun s => by rw [Array.length_toList]; rfl
  have hj : impl_yjoin.f ([s0, s1, s2] : List ByteArray) = some (s0 ++ s1 ++ s2) := by
    unfold impl_yjoin.f
    rw [hjl, if_pos ⟨by simp, by simp, by rw [List.length_append, List.length_append, hsz, hsz, hsz]; omega⟩]
    refine congrArg some ?_
    apply ByteArray.ext
    apply Array.toList_inj.1
    rw [ByteArray.data_append, ByteArray.data_append, Array.toList_append, Array.toList_append]
  refine (impl_yjoin.calls (some ⟨W.heap.size, 0, none⟩) 3 [s0, s1, s2] _ _ (ithree W s0 s1 s2 9) (by simp) hj).mono ?_
  rintro e w' ⟨rfl, hb⟩
  exact ⟨rfl, (below_alloc (Below.refl _ _) _).trans (hb.mono (by simp))⟩
def impl_Crypt.f (a0 : ByteArray) (a1 : Int) (a2 : ByteArray) : Option (ByteArray) := if (a0.size : Int) > 4096 then some (⟨#[]⟩ : ByteArray) else if (a2.size : Int) > 65536 then some (⟨#[]⟩ : ByteArray) else some ⟨(Go.Proofs.Ytpcpjkbjadgoiaa.Cw.xorL a0 a1 a2.data.toList).toArray⟩
set_option maxHeartbeats 16000000 in
set_option maxRecDepth 100000 in
theorem impl_Crypt.calls (a0 : ByteArray) (a1 : Int) (a2 : ByteArray) (r : ByteArray) (w : World) (h : impl_Crypt.f a0 a1 a2 = some r) :
    Calls Try.prog 8 #[.string a0, .int .i64 a1, .string a2] w fun e w' => e = .returned (.string r) ∧ Below w.heap.size w w' := by
  have hl0 := fun W b hb => ilk a0 W b hb
  have hg0 := fun W b hb => ibg a2 W b hb
  unfold impl_Crypt.f at h
  by_cases c0 : (a0.size : Int) > 4096
  · rw [if_pos c0] at h
    obtain rfl := Option.some.inj h
    rw [decide_eq_true c0] at hl0
    clear h c0 hg0
    go_enter Try.func8, Try.ntmps8
    go_wp2_with (go_at_call 26; with_reducible refine (hl0 _ _ ?hbq).mono ?_; (case hbq => first | rfl | simp); rintro e w1 ⟨rfl, hb1⟩)
    go_ret
    exact ⟨rfl, hb1⟩
  · rw [if_neg c0] at h
    rw [decide_eq_false c0] at hl0
    by_cases c1 : (a2.size : Int) > 65536
    · rw [if_pos c1] at h
      obtain rfl := Option.some.inj h
      rw [decide_eq_true c1] at hg0
      clear h c0 c1
      go_enter Try.func8, Try.ntmps8
      go_wp2_with (first | (go_at_call 26; with_reducible refine (hl0 _ _ ?hbq).mono ?_; (case hbq => first | rfl | simp); rintro e w1 ⟨rfl, hb1⟩; have BB1 := Aside0.mk hb1; clear hb1) | (go_at_call 27; with_reducible refine (hg0 _ _ ?hbq).mono ?_; (case hbq => first | rfl | simp); rintro e w2 ⟨rfl, hb2⟩; have BB2 := Aside0.mk (BB1.out.trans (hb2.mono BB1.out.size)); clear hb2))
      go_ret
      exact ⟨rfl, BB2.out⟩
    · rw [if_neg c1] at h
      obtain rfl := Option.some.inj h
      rw [decide_eq_false c1] at hg0
      have H0 := Aside0.mk c0
      have H1 := Aside0.mk c1
      have kb := fun W => print_bytes (P := Try.prog) 9 45 5 Try.underlying9 Try.underlying45 Try.underlying5 a2 W
      clear h c0 c1
      go_enter Try.func8, Try.ntmps8
      go_wp2_with (first | (go_at_call 26; with_reducible refine (hl0 _ _ ?hbq).mono ?_; (case hbq => first | rfl | simp); rintro e w1 ⟨rfl, hb1⟩; have BB1 := Aside0.mk hb1; clear hb1) | (go_at_call 27; with_reducible refine (hg0 _ _ ?hbq).mono ?_; (case hbq => first | rfl | simp); rintro e w2 ⟨rfl, hb2⟩; have BB2 := Aside0.mk (BB1.out.trans (hb2.mono BB1.out.size)); clear hb2))
      have hsz : a2.size ≤ 9223372036854775807 := by have := H1.out; omega
      have R0 := Go.Proofs.Ytpcpjkbjadgoiaa.By.BRow.conv w2 5 a2 hsz
      have B0 : Below w.heap.size w (Lib.bytesWorld w2 5 a2) := BB2.out.trans (bytes_below (Below.refl _ _) BB2.out.size _ _)
      have L0 : a2.data.toList.length = a2.size := by rw [Array.length_toList]; rfl
      have G0 : w.heap.size ≤ w2.heap.size := BB2.out.size
      generalize Lib.bytesWorld w2 5 a2 = W1 at R0 B0 ⊢
      generalize grownCap w2 a2.size 0 5 = cap at R0 ⊢
      generalize w2.heap.size = g at R0 G0 ⊢
      rw [← Go.Proofs.Ytpcpjkbjadgoiaa.Cw.mid_zero a0 a1 a2.data.toList] at R0
      have RA := Aside0.mk R0
      have BA := Aside0.mk B0
      have LA := Aside0.mk L0
      have GA := Aside0.mk G0
      clear R0 B0 L0 G0 hsz hl0 hg0 BB1 BB2
      go_loopg [8, 9, 10, 23] a2.size (fun gg _ _ _ s23 wr => ∃ (ii : Nat), s23 = .int .i64 ii ∧ Aside0 (ii ≤ a2.size) ∧ Aside0 (a2.size - ii ≤ gg) ∧ Aside0 (Below w.heap.size w wr) ∧ Aside0 (Go.Proofs.Ytpcpjkbjadgoiaa.By.BRow wr g cap (Go.Proofs.Ytpcpjkbjadgoiaa.Cw.mid a0 a1 a2.data.toList (min a2.size (3 * ((ii + 2) / 3))))))
      case atStart => exact ⟨0, rfl, ⟨Nat.zero_le _⟩, ⟨by omega⟩, BA, ⟨by rw [show min a2.size (3 * ((0 + 2) / 3)) = 0 from by omega]; exact RA.out⟩⟩
      case round =>
        obtain ⟨ii, rfl, hii, hg, BW, RW⟩ := hrel
        by_cases hlt : ii < a2.size
        · have hltz : (ii : Int) < (a2.size : Int) := by omega
          have hb9 : ii ≤ 65536 := by have := H1.out; omega
          have e9 : wrap64 ((ii : Int) + 1) = ((ii + 1 : Nat) : Int) := by rw [Go.Proofs.Ytpcpjkbjadgoiaa.Pl.w64 (by omega) (by omega)]; omega
          have E9 := Aside0.mk e9
          clear e9
          by_cases c3 : ii % 3 = 0
          · have ht3 : Int.tmod (ii : Int) 3 = 0 := by rw [Int.tmod_eq_emod_of_nonneg (by omega)]; omega
            obtain ⟨d, hd⟩ : ∃ d : Nat, ii / 3 = d := ⟨_, rfl⟩
            have htd : Int.tdiv (ii : Int) 3 = (d : Int) := by rw [Int.tdiv_eq_ediv_of_nonneg (by omega)]; omega
            have wd : wrap64 (d : Int) = (d : Int) := Go.Proofs.Ytpcpjkbjadgoiaa.Pl.w64 (by omega) (by omega)
            have wd2 : IntKind.i64.wrap (d : Int) = (d : Int) := by rw [Go.Proofs.Ytpcpjkbjadgoiaa.Pl.i64w]; exact wd
            obtain ⟨t1, ht1⟩ : ∃ t1, Go.Proofs.Ytpcpjkbjadgoiaa.Cw.wordTx a1 = t1 := ⟨_, rfl⟩
            obtain ⟨t2, ht2⟩ : ∃ t2, Go.Proofs.Ytpcpjkbjadgoiaa.Cw.wordTx (d : Int) = t2 := ⟨_, rfl⟩
            have hts1 : t1.size = 4 := by rw [← ht1]; exact Go.Proofs.Ytpcpjkbjadgoiaa.Cw.wordTx_size _
            have hts2 : t2.size = 4 := by rw [← ht2]; exact Go.Proofs.Ytpcpjkbjadgoiaa.Cw.wordTx_size _
            have hp1 := fun W => impl_PutWord.calls a1 t1 W (by rw [impl_putW, ht1])
            have hp2 := fun W => impl_PutWord.calls (d : Int) t2 W (by rw [impl_putW, ht2])
            have hjn := fun W b hb => ijn a0 t1 t2 (by rw [hts1, hts2]; have := H0.out; omega) W b hb
            have hsum : (a0 ++ t1 ++ t2).size = a0.size + 4 + 4 := by rw [ByteArray.size_append, ByteArray.size_append, hts1, hts2]
            obtain ⟨km, hkm⟩ := impl_ymix_ev (a0 ++ t1 ++ t2) 11 (by rw [hsum]; have := H0.out; omega)
            have hmx := fun W => impl_ymix.calls km (a0 ++ t1 ++ t2) 11 _ W (hkm km (Nat.le_refl _))
            have hkey : Go.Proofs.Ytpcpjkbjadgoiaa.Cw.mixOf (a0 ++ t1 ++ t2) 11 = Go.Proofs.Ytpcpjkbjadgoiaa.Cw.keyAt a0 a1 d := by unfold Go.Proofs.Ytpcpjkbjadgoiaa.Cw.keyAt; rw [ht1, ht2]
            rw [hkey] at hmx
            obtain ⟨v, hv⟩ : ∃ v, Go.Proofs.Ytpcpjkbjadgoiaa.Cw.keyAt a0 a1 d = v := ⟨_, rfl⟩
            rw [hv] at hmx
            have HV := Aside0.mk hv
            have HD := Aside0.mk hd
            have hRW := RW.out
            rw [show min a2.size (3 * ((ii + 2) / 3)) = ii from by omega] at hRW
            have RWi := Aside0.mk hRW
            clear hkm hkey hv ht1 ht2 hsum hts1 hts2 hd hRW
            go_wp2_with (first | (go_at_call 30; with_reducible refine (hp2 _).mono ?_; rintro e w4 ⟨rfl, hb4⟩; have BW4 := Aside0.mk (BW3.out.trans (hb4.mono BW3.out.size)); have RW4 := Aside0.mk (RW3.out.below hb4 RW3.out.lt); clear hb4) | (go_at_call 30; with_reducible refine (hp1 _).mono ?_; rintro e w3 ⟨rfl, hb3⟩; have BW3 := Aside0.mk (BW.out.trans (hb3.mono BW.out.size)); have RW3 := Aside0.mk (RWi.out.below hb3 RWi.out.lt); clear hb3) | (go_at_call 29; with_reducible refine (hjn _ _ ?hbq).mono ?_; (case hbq => first | rfl | simp); rintro e w5 ⟨rfl, hb5⟩; have BW5 := Aside0.mk (BW4.out.trans (hb5.mono BW4.out.size)); have RW5 := Aside0.mk (RW4.out.below hb5 RW4.out.lt); clear hb5) | (go_at_call 28; with_reducible refine (hmx _).mono ?_; rintro e w6 ⟨rfl, ⟨m6, rfl⟩⟩))
            have RW6 := Aside0.mk (RW5.out.drewN m6)
            have BW6 := Aside0.mk (pw_below_drewN BW5.out m6)
            generalize w5.drewN m6 = w6 at RW6 BW6 ⊢
            have w3a : wrap64 ((ii : Int) + 3) = (ii : Int) + 3 := Go.Proofs.Ytpcpjkbjadgoiaa.Pl.w64 (by omega) (by omega)
            have w3b : IntKind.i64.wrap ((ii : Int) + 3) = (ii : Int) + 3 := by rw [Go.Proofs.Ytpcpjkbjadgoiaa.Pl.i64w]; exact w3a
            go_loopg [9, 10] 4 (fun gg2 s9 s10 wr2 => ∃ (jj : Nat) (sv : Int), s10 = .int .i64 jj ∧ s9 = .int .i64 sv ∧ Aside0 (ii ≤ jj ∧ jj ≤ a2.size ∧ jj ≤ ii + 3) ∧ Aside0 (ii + 4 - jj ≤ gg2) ∧ Aside0 (Below w.heap.size w wr2) ∧ Aside0 (Go.Proofs.Ytpcpjkbjadgoiaa.By.BRow wr2 g cap (Go.Proofs.Ytpcpjkbjadgoiaa.Cw.mid a0 a1 a2.data.toList jj)) ∧ Aside0 (sv = v / 2 ^ (8 * (jj - ii))))
            case atStart => exact ⟨ii, v, rfl, rfl, ⟨⟨Nat.le_refl _, by omega, by omega⟩⟩, ⟨by omega⟩, BW6, RW6, ⟨by rw [Nat.sub_self, Nat.mul_zero, Int.pow_zero, Int.ediv_one]⟩⟩
            case round =>
              obtain ⟨jj, sv, rfl, rfl, hjj, hg2, BW2, RW2, HS⟩ := hrel
              obtain ⟨hj0, hj1, hj2⟩ := hjj.out
              by_cases hjl : jj < a2.size ∧ jj < ii + 3
              · have hjl1 : jj < a2.size := hjl.1
                have hjl2 : jj < ii + 3 := hjl.2
                have hjz1 : (jj : Int) < (a2.size : Int) := by omega
                have hjz2 : (jj : Int) < (ii : Int) + 3 := by omega
                have hjl3 : jj < a2.data.toList.length := by rw [LA.out]; exact hjl1
                have hput := Go.Proofs.Ytpcpjkbjadgoiaa.Cw.mid_put a0 a1 a2.data.toList jj hjl3
                have hgx : (Go.Proofs.Ytpcpjkbjadgoiaa.Cw.mid a0 a1 a2.data.toList jj)[jj]? = some a2.data.toList[jj] := by
                  rw [Go.Proofs.Ytpcpjkbjadgoiaa.Cw.mid_get _ _ _ _ _ (by omega), if_neg (by omega), List.getElem?_eq_getElem hjl3]
                have hml : (Go.Proofs.Ytpcpjkbjadgoiaa.Cw.mid a0 a1 a2.data.toList jj).length = a2.size := by rw [Go.Proofs.Ytpcpjkbjadgoiaa.Cw.mid_length _ _ _ _ (by omega), LA.out]
                generalize a2.data.toList[jj] = x at hput hgx
                have hxb := Go.Proofs.Ytpcpjkbjadgoiaa.Cw.xb_int a0 a1 jj x
                have e8 : wrap64 ((jj : Int) + 1) = ((jj + 1 : Nat) : Int) := by rw [Go.Proofs.Ytpcpjkbjadgoiaa.Pl.w64 (by omega) (by omega)]; omega
                have hx := icellAt RW2.out jj x hgx
                have hf := RW2.out.frozen jj (Nat.lt_of_lt_of_le (by rw [hml]; exact hjl1) (ibrLen RW2.out))
                have HPU := Aside0.mk hput
                have HML := Aside0.mk hml
                have HXB := Aside0.mk hxb
                have E8 := Aside0.mk e8
                clear hput hgx hml hxb e8 hjl3
                go_wp2
                all_goals
                  have hval : Go.bits .xor .u8 (x.toNat : Int) (sv % 256) = Go.Proofs.Ytpcpjkbjadgoiaa.Cw.xv a0 a1 jj x := by
                    unfold Go.Proofs.Ytpcpjkbjadgoiaa.Cw.xv
                    rw [show jj / 3 = d from by have := HD.out; omega, HV.out, show jj % 3 = jj - ii from by omega, ← HS.out, IntKind.wrap_u8]
                  have hR2 := RW2.out.set jj (Go.Proofs.Ytpcpjkbjadgoiaa.Cw.xb a0 a1 jj x) (by rw [HML.out]; exact Nat.le_of_lt hjl1) (Nat.lt_of_lt_of_le (by rw [HML.out]; exact hjl1) (ibrLen RW2.out))
                  rw [HXB.out, HPU.out, ← hval] at hR2
                  have hB2 := Below.setCell BW2.out (p := ⟨g, jj, none⟩) (by exact GA.out) (.int .u8 (Go.bits .xor .u8 (x.toNat : Int) (sv % 256)))
                  have hs3 : sv / 256 = v / 2 ^ (8 * (jj + 1 - ii)) := by
                    rw [HS.out, ishr, show jj - ii + 1 = jj + 1 - ii from by omega]
                  go_roundg (ii + 4 - (jj + 1))
                  case measure => have := hg2.out; omega
                  case rel => exact ⟨jj + 1, sv / 256, by first | rfl | (rw [E8.out]), rfl, ⟨⟨by omega, by omega, by omega⟩⟩, ⟨by omega⟩, ⟨hB2⟩, ⟨hR2⟩, ⟨hs3⟩⟩
              · have hme : (min a2.size (3 * ((ii + 1 + 2) / 3))) = jj := by omega
                have HME := Aside0.mk hme
                clear hme
                by_cases hj8 : jj < a2.size
                · have hjz1 : (jj : Int) < (a2.size : Int) := by omega
                  have hjz2 : ¬ (jj : Int) < (ii : Int) + 3 := by omega
                  go_wp2
                  all_goals
                    go_roundg (a2.size - (ii + 1))
                    case measure => have := hg.out; omega
                    case rel => exact ⟨ii + 1, by first | rfl | (rw [E9.out]), ⟨hlt⟩, ⟨by omega⟩, BW2, ⟨by rw [HME.out]; exact RW2.out⟩⟩
                · have hjz1 : ¬ (jj : Int) < (a2.size : Int) := by omega
                  go_wp2
                  all_goals
                    go_roundg (a2.size - (ii + 1))
                    case measure => have := hg.out; omega
                    case rel => exact ⟨ii + 1, by first | rfl | (rw [E9.out]), ⟨hlt⟩, ⟨by omega⟩, BW2, ⟨by rw [HME.out]; exact RW2.out⟩⟩
          · have ht3 : ¬ Int.tmod (ii : Int) 3 = 0 := by rw [Int.tmod_eq_emod_of_nonneg (by omega)]; omega
            have ht3b : (Int.tmod (ii : Int) 3 == 0) = false := beq_eq_false_iff_ne.mpr ht3
            go_wp2
            go_roundg (a2.size - (ii + 1))
            case measure => have := hg.out; omega
            case rel => exact ⟨ii + 1, by first | rfl | (rw [E9.out]), ⟨hlt⟩, ⟨by omega⟩, BW, ⟨by rw [show 3 * ((ii + 1 + 2) / 3) = 3 * ((ii + 2) / 3) from by omega]; exact RW.out⟩⟩
        · have hltz : ¬ (ii : Int) < (a2.size : Int) := by omega
          have hkn : ii = a2.size := by have := hii.out; omega
          subst hkn
          have RF := RW.out
          rw [show min a2.size (3 * ((a2.size + 2) / 3)) = a2.size from by omega, ← LA.out, Go.Proofs.Ytpcpjkbjadgoiaa.Cw.mid_all] at RF
          have kc := fun c => RF.back (P := Try.prog) 45 9 5 Try.underlying45 Try.underlying5 Try.underlying9 c a2.size (by rw [Go.Proofs.Ytpcpjkbjadgoiaa.Cw.xorL_length, LA.out])
          clear RF
          go_wp2
          go_ret
          exact ⟨rfl, BW.out⟩

/-! ### impl_CryptDisk: function 10 -/
def ckB (key disk : ByteArray) (n : Nat) : ByteArray := ⟨(Go.Proofs.Ytpcpjkbjadgoiaa.Cw.xorL key (n : Int) (disk.extract (16 * n) (16 * n + 16)).data.toList).toArray⟩
def ckL (key disk : ByteArray) : Nat → List UInt8
  | 0 => []
  | n + 1 => ckL key disk n ++ (ckB key disk n).data.toList
theorem ext_size (disk : ByteArray) (n : Nat) (h : 16 * n + 16 ≤ disk.size) : (disk.extract (16 * n) (16 * n + 16)).size = 16 := by
  rw [ByteArray.size_extract]; omega
theorem ckB_len (key disk : ByteArray) (n : Nat) (h : 16 * n + 16 ≤ disk.size) : (ckB key disk n).data.toList.length = 16 := by
  unfold ckB
  rw [List.toList_toArray, Go.Proofs.Ytpcpjkbjadgoiaa.Cw.xorL_length, Array.length_toList]
  exact ext_size disk n h
theorem ckB_size (key disk : ByteArray) (n : Nat) (h : 16 * n + 16 ≤ disk.size) : (ckB key disk n).size = 16 := by
  rw [← ckB_len key disk n h, Array.length_toList]; rfl
theorem ckL_len (key disk : ByteArray) : ∀ n : Nat, 16 * n ≤ disk.size → (ckL key disk n).length = 16 * n
  | 0, _ => rfl
  | n + 1, h => by
    unfold ckL
    rw [List.length_append, ckL_len key disk n (by omega), ckB_len key disk n (by omega)]
    omega
theorem ck_crypt (key disk : ByteArray) (n : Nat) (h : 16 * n + 16 ≤ disk.size) (hk : ¬ (key.size : Int) > 4096) : impl_Crypt.f key (n : Int) (disk.extract (16 * n) (16 * n + 16)) = some (ckB key disk n) := by
  unfold impl_Crypt.f
  rw [if_neg hk, ext_size disk n h, if_neg (by omega)]
  rfl
theorem regsUsed {T e : TypeId} {B b : Nat} {bs : List Value} {w : World} (h : Lib.BuilderAt T e B b (.pointer (some ⟨b, 0, none⟩)) bs w) : Lib.IsBuilder T e B b bs w := Or.inr h
theorem isBuilder_below {T e : TypeId} {B b : Nat} {bs : List Value} {w w' : World} (h : Lib.IsBuilder T e B b bs w) (hb : Below w.heap.size w w') (_ : B ≤ w.heap.size) : Lib.IsBuilder T e B b bs w' := by
  have key : ∀ p, Lib.BuilderAt T e B b p bs w → Lib.BuilderAt T e B b p bs w' := fun p h => by
    obtain ⟨hB, v, hbk, hown, hne⟩ := h
    have lt : ∀ (j : Nat) (o : Obj), w.heap[j]? = some o → j < w.heap.size := fun j o hj => by
      rcases Nat.lt_or_ge j w.heap.size with h' | h'
      · exact h'
      · rw [Array.getElem?_eq_none h'] at hj; exact absurd hj (by simp)
    refine ⟨hB, v, by rw [hb.block b (lt _ _ hbk)]; exact hbk, ⟨hown.1, ?_⟩, hne⟩
    rcases hown.2 with h0 | ⟨g, cap, cur, hv, hg, hh, r⟩
    · exact Or.inl h0
    · exact Or.inr ⟨g, cap, cur, hv, hg, by rw [hb.block g (lt _ _ hh)]; exact hh, r⟩
  rcases h with h | h
  · exact Or.inl (key _ h)
  · exact Or.inr (key _ h)
def impl_CryptDisk.f (a0 : ByteArray) (a1 : ByteArray) : Option (ByteArray) := if (a0.size : Int) > 4096 then some (⟨#[]⟩ : ByteArray) else if (a1.size : Int) > 65536 then some (⟨#[]⟩ : ByteArray) else if a1.size % 16 ≠ 0 then some (⟨#[]⟩ : ByteArray) else some ⟨(ckL a0 a1 (a1.size / 16)).toArray⟩
set_option maxHeartbeats 16000000 in
set_option maxRecDepth 100000 in
theorem impl_CryptDisk.calls (a0 : ByteArray) (a1 : ByteArray) (r : ByteArray) (w : World) (h : impl_CryptDisk.f a0 a1 = some r) :
    Calls Try.prog 10 #[.string a0, .string a1] w fun e w' => e = .returned (.string r) ∧ Below w.heap.size w w' := by
  have hl0 := fun W b hb => ilk a0 W b hb
  have hg0 := fun W b hb => ibg a1 W b hb
  unfold impl_CryptDisk.f at h
  by_cases c0 : (a0.size : Int) > 4096
  · rw [if_pos c0] at h
    obtain rfl := Option.some.inj h
    rw [decide_eq_true c0] at hl0
    clear h c0 hg0
    go_enter Try.func10, Try.ntmps10
    go_wp2_with (go_at_call 26; with_reducible refine (hl0 _ _ ?hbq).mono ?_; (case hbq => first | rfl | simp); rintro e w1 ⟨rfl, hb1⟩)
    go_ret
    exact ⟨rfl, hb1⟩
  · rw [if_neg c0] at h
    rw [decide_eq_false c0] at hl0
    by_cases c1 : (a1.size : Int) > 65536
    · rw [if_pos c1] at h
      obtain rfl := Option.some.inj h
      rw [decide_eq_true c1] at hg0
      clear h c0 c1
      go_enter Try.func10, Try.ntmps10
      go_wp2_with (first | (go_at_call 26; with_reducible refine (hl0 _ _ ?hbq).mono ?_; (case hbq => first | rfl | simp); rintro e w1 ⟨rfl, hb1⟩; have BB1 := Aside0.mk hb1; clear hb1) | (go_at_call 27; with_reducible refine (hg0 _ _ ?hbq).mono ?_; (case hbq => first | rfl | simp); rintro e w2 ⟨rfl, hb2⟩; have BB2 := Aside0.mk (BB1.out.trans (hb2.mono BB1.out.size)); clear hb2))
      go_ret
      exact ⟨rfl, BB2.out⟩
    · rw [if_neg c1] at h
      rw [decide_eq_false c1] at hg0
      obtain ⟨m, hm⟩ : ∃ m : Nat, a1.size % 16 = m := ⟨_, rfl⟩
      have htm : Int.tmod (a1.size : Int) 16 = (m : Int) := by rw [Int.tmod_eq_emod_of_nonneg (by omega)]; omega
      by_cases c2 : a1.size % 16 ≠ 0
      · rw [if_pos c2] at h
        obtain rfl := Option.some.inj h
        have hm1 : ¬ m = 0 := by omega
        have hm2 : ((m : Int) != 0) = true := by simp [hm1]
        have hm3 : ((m : Int) == 0) = false := by simp [hm1]
        clear h c0 c1 c2 hm
        go_enter Try.func10, Try.ntmps10
        go_wp2_with (first | (go_at_call 26; with_reducible refine (hl0 _ _ ?hbq).mono ?_; (case hbq => first | rfl | simp); rintro e w1 ⟨rfl, hb1⟩; have BB1 := Aside0.mk hb1; clear hb1) | (go_at_call 27; with_reducible refine (hg0 _ _ ?hbq).mono ?_; (case hbq => first | rfl | simp); rintro e w2 ⟨rfl, hb2⟩; have BB2 := Aside0.mk (BB1.out.trans (hb2.mono BB1.out.size)); clear hb2))
        go_ret
        exact ⟨rfl, BB2.out⟩
      · rw [if_neg c2] at h
        obtain rfl := Option.some.inj h
        have c3 : a1.size % 16 = 0 := by omega
        obtain rfl : m = 0 := by omega
        have H0 := Aside0.mk c0
        have H1 := Aside0.mk c1
        have H3 := Aside0.mk c3
        clear h c0 c1 c2 c3 hm
        go_enter Try.func10, Try.ntmps10
        go_wp2_with (first | (go_at_call 26; with_reducible refine (hl0 _ _ ?hbq).mono ?_; (case hbq => first | rfl | simp); rintro e w1 ⟨rfl, hb1⟩; have BB1 := Aside0.mk hb1; clear hb1) | (go_at_call 27; with_reducible refine (hg0 _ _ ?hbq).mono ?_; (case hbq => first | rfl | simp); rintro e w2 ⟨rfl, hb2⟩; have BB2 := Aside0.mk (BB1.out.trans (hb2.mono BB1.out.size)); clear hb2))
        have HIB : Aside0 (Lib.IsBuilder 53 5 w.heap.size w2.heap.size (Lib.byteCells (ckL a0 a1 0)) (w2.alloc (Obj.cells #[Value.pointer none, Value.slice none 0 0] 53))) := ⟨Or.inl ⟨BB2.out.size, .slice none 0 0, blk_new _ _, World.ownsRow_nil _ _ _ _, by simp [Value.ownBlock]⟩⟩
        have HBL : Aside0 (Below w.heap.size w (w2.alloc (Obj.cells #[Value.pointer none, Value.slice none 0 0] 53))) := ⟨below_alloc BB2.out _⟩
        have HG0 : Aside0 (w.heap.size ≤ w2.heap.size) := ⟨BB2.out.size⟩
        generalize w2.alloc (Obj.cells #[Value.pointer none, Value.slice none 0 0] 53) = W2 at HIB HBL ⊢
        generalize w2.heap.size = g at HIB HG0 ⊢
        have hwb : ∀ (bs : List Value) (s : ByteArray) (W : World), Lib.IsBuilder 53 5 w.heap.size g bs W → bs.length + s.size ≤ 140737488355328 → w.heap.size ≤ W.heap.size → Calls Try.prog 31 #[.pointer (some ⟨g, 0, none⟩), .string s] W fun e w' => e = .returned (.tuple #[.int .i64 s.size, .nilIface]) ∧ (Lib.BuilderAt 53 5 w.heap.size g (.pointer (some ⟨g, 0, none⟩)) (bs ++ Lib.strCells s) w' ∧ Below w.heap.size W w') := fun bs s W h1 h2 h3 => Any.Builder_WriteString Try.lays166 Try.Builder_Extra_166 w.heap.size g bs s W h1 h2 h3
        have HWB := Aside0.mk hwb
        clear hwb hl0 hg0 BB1 BB2 htm
        go_loopg [6] a1.size (fun gg s6 wr => ∃ kk q : Nat, s6 = .int .i64 q ∧ Aside0 (q = 16 * kk) ∧ Aside0 (q ≤ a1.size) ∧ Aside0 (a1.size - q ≤ gg) ∧ Aside0 (Below w.heap.size w wr) ∧ Aside0 (Lib.IsBuilder 53 5 w.heap.size g (Lib.byteCells (ckL a0 a1 kk)) wr))
        case atStart => exact ⟨0, 0, rfl, ⟨rfl⟩, ⟨Nat.zero_le _⟩, ⟨by omega⟩, HBL, HIB⟩
        case round =>
          obtain ⟨kk, q, rfl, hqk, hqs, hg, BW, HI⟩ := hrel
          by_cases hlt : q < a1.size
          · have hltz : (q : Int) < (a1.size : Int) := by omega
            have hb9 : q ≤ 65536 := by have := H1.out; omega
            obtain ⟨q2, hq2⟩ : ∃ q2 : Nat, q + 16 = q2 := ⟨_, rfl⟩
            have hq3 : q2 ≤ a1.size := by have := hqk.out; have := H3.out; omega
            have hq3z : (q2 : Int) ≤ (a1.size : Int) := by omega
            have hq4 : q ≤ q2 := by omega
            have hq4z : (q : Int) ≤ (q2 : Int) := by omega
            have w16 : wrap64 ((q : Int) + 16) = (q2 : Int) := by rw [Go.Proofs.Ytpcpjkbjadgoiaa.Pl.w64 (by omega) (by omega)]; omega
            have w16b : IntKind.i64.wrap ((q : Int) + 16) = (q2 : Int) := by rw [Go.Proofs.Ytpcpjkbjadgoiaa.Pl.i64w]; exact w16
            have htd : Int.tdiv (q : Int) 16 = (kk : Int) := by rw [Int.tdiv_eq_ediv_of_nonneg (by omega)]; have := hqk.out; omega
            have wd : wrap64 (kk : Int) = (kk : Int) := Go.Proofs.Ytpcpjkbjadgoiaa.Pl.w64 (by omega) (by have := hqk.out; omega)
            have wd2 : IntKind.i64.wrap (kk : Int) = (kk : Int) := by rw [Go.Proofs.Ytpcpjkbjadgoiaa.Pl.i64w]; exact wd
            have hle : 16 * kk + 16 ≤ a1.size := by have := hqk.out; omega
            have hcr0 := ck_crypt a0 a1 kk hle (Int.not_lt.mpr H0.out)
            rw [← hqk.out, hq2] at hcr0
            have hcells : Lib.byteCells (ckL a0 a1 (kk + 1)) = Lib.byteCells (ckL a0 a1 kk) ++ Lib.strCells (ckB a0 a1 kk) := by
              show Lib.byteCells (ckL a0 a1 kk ++ (ckB a0 a1 kk).data.toList) = _
              simp [Lib.byteCells, Lib.strCells]
            have hlen1 : (Lib.byteCells (ckL a0 a1 kk)).length + (ckB a0 a1 kk).size ≤ 140737488355328 := by
              rw [Lib.byteCells_length, ckL_len a0 a1 kk (by omega), ckB_size a0 a1 kk hle]
              have := H1.out; omega
            generalize ckB a0 a1 kk = blk at hcr0 hcells hlen1
            have hcr := fun W => impl_Crypt.calls a0 (kk : Int) (a1.extract q q2) blk W hcr0
            have HCE := Aside0.mk hcells
            have HLE := Aside0.mk hlen1
            have HQ2 := Aside0.mk hq2
            clear hcells hlen1 hcr0 hle hq2
            go_wp2_with (first | (go_at_call 8; with_reducible refine (hcr _).mono ?_; rintro e w3 ⟨rfl, hb3⟩; have BW3 := Aside0.mk (BW.out.trans (hb3.mono BW.out.size)); have HI3 := Aside0.mk (isBuilder_below HI.out hb3 BW.out.size); clear hb3) | (go_at_call 31; with_reducible refine (HWB.out _ blk _ HI3.out HLE.out ?s1).mono ?_; (case s1 => exact BW3.out.size); rintro e w4 ⟨rfl, ⟨h1, hb1⟩⟩; have HU := Aside0.mk (regsUsed h1); have BW4 := Aside0.mk (BW3.out.trans hb1); clear h1 hb1))
            go_roundg (a1.size - q2)
            case measure => have := hg.out; have := HQ2.out; omega
            case rel => exact ⟨kk + 1, q2, rfl, ⟨by have := hqk.out; have := HQ2.out; omega⟩, ⟨hq3⟩, ⟨by omega⟩, BW4, ⟨by rw [HCE.out]; exact HU.out⟩⟩
          · have hltz : ¬ (q : Int) < (a1.size : Int) := by omega
            have hkn : kk = a1.size / 16 := by have := hqs.out; have := hqk.out; omega
            have hI := HI.out
            rw [hkn] at hI
            have hst : Calls Try.prog 32 #[.pointer (some ⟨g, 0, none⟩)] wr fun e w' => e = .returned (.string ⟨(ckL a0 a1 (a1.size / 16)).toArray⟩) ∧ Below w.heap.size wr w' := Any.Builder_String_any Try.lays169 Try.Builder_Extra_169 w.heap.size g (ckL a0 a1 (a1.size / 16)) wr hI BW.out.size
            clear hI hkn
            go_wp2_with (go_at_call 32; with_reducible refine hst.mono ?_; rintro e w3 ⟨rfl, hb3⟩)
            go_ret
            exact ⟨rfl, BW.out.trans hb3⟩

/-! ### laws_FnExactCryptDisk: function 4 -/
def laws_FnExactCryptDisk.f (k : Nat) (a0 : ByteArray) (a1 : ByteArray) : Option (Bool) := if (a0.size : Int) > 1048576 then (some true) else (if (a1.size : Int) > 1048576 then (some true) else ((spec_CryptDisk.f k a0 a1).bind fun t114 => ((impl_CryptDisk.f a0 a1).bind fun t115 => (if t115.toList = t114.toList then (some true) else (some false)))))
theorem laws_FnExactCryptDisk.mono : ∀ a0 a1 k, LeO (laws_FnExactCryptDisk.f k a0 a1) (laws_FnExactCryptDisk.f (k + 1) a0 a1) := by
  intro a0 a1 k
  unfold laws_FnExactCryptDisk.f
  repeat' first
      | (with_reducible exact spec_CryptDisk.mono _ _ _)
      | (with_reducible exact LeO.refl _)
      | (with_reducible exact LeO.none _)
      | (with_reducible refine LeO.ite ?_ ?_)
      | (with_reducible refine LeO.bind ?_ (fun _ => ?_))
      | exact spec_CryptDisk.mono _ _ _
      | exact LeO.none _
      | refine LeO.ite ?_ ?_
      | refine LeO.bind ?_ (fun _ => ?_)
set_option maxHeartbeats 8000000 in
set_option maxRecDepth 100000 in
theorem laws_FnExactCryptDisk.calls (k : Nat) (a0 : ByteArray) (a1 : ByteArray) (r : Bool) (w : World) (h : laws_FnExactCryptDisk.f k a0 a1 = some r) :
    Calls Try.prog 4 #[.string a0, .string a1] w fun e w' => e = .returned (.bool r) ∧ Below w.heap.size w w' := by
  have HB := Aside0.mk (Below.refl w.heap.size w)
  have H : (if (a0.size : Int) > 1048576 then (some true) else (if (a1.size : Int) > 1048576 then (some true) else ((spec_CryptDisk.f k a0 a1).bind fun t114 => ((impl_CryptDisk.f a0 a1).bind fun t115 => (if t115.toList = t114.toList then (some true) else (some false)))))) = some r := h
  clear h
  by_cases c3 : (a0.size : Int) > 1048576
  · rw [if_pos c3] at H
    have c3b0 : decide (1048576 < (a0.size : Int)) = true := decide_eq_true c3
    have c3b1 : decide (1048576 < a0.size) = true := decide_eq_true (by omega)
    clear c3
    obtain rfl := Option.some.inj H
    go_enter Try.func4, Try.ntmps4
    go_wp2
    go_ret
    exact ⟨by first | rfl | (simp [errW_none, errW_some] <;> rfl) | (simp [*, errW_none, errW_some] <;> rfl), by repeat (first | (with_reducible first | exact HB.out | apply below_alloc | apply pw_below_drewN | apply below_drew1) | exact HB.out)⟩
  · rw [if_neg c3] at H
    have c3b0 : decide (1048576 < (a0.size : Int)) = false := decide_eq_false c3
    have c3b1 : decide (1048576 < a0.size) = false := decide_eq_false (by omega)
    clear c3
    by_cases c4 : (a1.size : Int) > 1048576
    · rw [if_pos c4] at H
      have c4b0 : decide (1048576 < (a1.size : Int)) = true := decide_eq_true c4
      have c4b1 : decide (1048576 < a1.size) = true := decide_eq_true (by omega)
      clear c4
      obtain rfl := Option.some.inj H
      go_enter Try.func4, Try.ntmps4
      go_wp2
      go_ret
      exact ⟨by first | rfl | (simp [errW_none, errW_some] <;> rfl) | (simp [*, errW_none, errW_some] <;> rfl), by repeat (first | (with_reducible first | exact HB.out | apply below_alloc | apply pw_below_drewN | apply below_drew1) | exact HB.out)⟩
    · rw [if_neg c4] at H
      have c4b0 : decide (1048576 < (a1.size : Int)) = false := decide_eq_false c4
      have c4b1 : decide (1048576 < a1.size) = false := decide_eq_false (by omega)
      clear c4
      replace H := Option.bind_eq_some_iff.mp H
      obtain ⟨t114, A50, H⟩ := H
      replace H : ((impl_CryptDisk.f a0 a1).bind fun t115 => (if t115.toList = t114.toList then (some true) else (some false))) = some r := H
      have A5 := Aside0.mk A50
      clear A50
      replace H := Option.bind_eq_some_iff.mp H
      obtain ⟨t115, A60, H⟩ := H
      replace H : (if t115.toList = t114.toList then (some true) else (some false)) = some r := H
      have A6 := Aside0.mk A60
      clear A60
      by_cases c7 : t115.toList = t114.toList
      · rw [if_pos c7] at H
        have c7b0 : (t115.toList == t114.toList) = true := beq_iff_eq.mpr c7
        have c7b1 : (t115.toList != t114.toList) = false := bne_eq_false_iff_eq.mpr c7
        clear c7
        obtain rfl := Option.some.inj H
        go_enter Try.func4, Try.ntmps4
        go_wp2_with (first | ((with_reducible refine gate_callee (f := 9) rfl ?_); refine goesL_ (some 15) rfl rfl Try.func9 (by kernel_rfl) rfl #[.string a0, .string a1] rfl (by (try simp only [List.map_toArray, List.map_cons, List.map_nil]); first | done | rfl | (simp only [List.length_drop, List.length_take]; rfl)) ?_; (with_reducible refine (spec_CryptDisk.calls k a0 a1 t114 _ A5.out).mono ?_); rintro e w8 ⟨rfl, hb⟩; refine ⟨_, rfl, ?_⟩; have n0_ := Aside0.mk (below_step (by repeat (first | (with_reducible first | exact HB.out | apply below_alloc | apply pw_below_drewN | apply below_drew1) | exact HB.out)) hb); clear HB; have HB := n0_; clear n0_; (try clear hb); (try clear hb2); (try clear hk); (try clear hi)) | ((with_reducible refine gate_callee (f := 10) rfl ?_); refine goesL_ (some 18) rfl rfl Try.func10 (by kernel_rfl) rfl #[.string a0, .string a1] rfl (by (try simp only [List.map_toArray, List.map_cons, List.map_nil]); first | done | rfl | (simp only [List.length_drop, List.length_take]; rfl)) ?_; (with_reducible refine (impl_CryptDisk.calls a0 a1 t115 _ A6.out).mono ?_); rintro e w9 ⟨rfl, hb⟩; refine ⟨_, rfl, ?_⟩; have n0_ := Aside0.mk (below_step (by repeat (first | (with_reducible first | exact HB.out | apply below_alloc | apply pw_below_drewN | apply below_drew1) | exact HB.out)) hb); clear HB; have HB := n0_; clear n0_; (try clear hb); (try clear hb2); (try clear hk); (try clear hi)))
        go_ret
        exact ⟨by first | rfl | (simp [errW_none, errW_some] <;> rfl) | (simp [*, errW_none, errW_some] <;> rfl), by repeat (first | (with_reducible first | exact HB.out | apply below_alloc | apply pw_below_drewN | apply below_drew1) | exact HB.out)⟩
      · rw [if_neg c7] at H
        have c7b0 : (t115.toList == t114.toList) = false := beq_eq_false_iff_ne.mpr c7
        have c7b1 : (t115.toList != t114.toList) = true := bne_iff_ne.mpr c7
        obtain rfl := Option.some.inj H
        go_enter Try.func4, Try.ntmps4
        go_wp2_with (first | ((with_reducible refine gate_callee (f := 9) rfl ?_); refine goesL_ (some 15) rfl rfl Try.func9 (by kernel_rfl) rfl #[.string a0, .string a1] rfl (by (try simp only [List.map_toArray, List.map_cons, List.map_nil]); first | done | rfl | (simp only [List.length_drop, List.length_take]; rfl)) ?_; (with_reducible refine (spec_CryptDisk.calls k a0 a1 t114 _ A5.out).mono ?_); rintro e w10 ⟨rfl, hb⟩; refine ⟨_, rfl, ?_⟩; have n0_ := Aside0.mk (below_step (by repeat (first | (with_reducible first | exact HB.out | apply below_alloc | apply pw_below_drewN | apply below_drew1) | exact HB.out)) hb); clear HB; have HB := n0_; clear n0_; (try clear hb); (try clear hb2); (try clear hk); (try clear hi)) | ((with_reducible refine gate_callee (f := 10) rfl ?_); refine goesL_ (some 18) rfl rfl Try.func10 (by kernel_rfl) rfl #[.string a0, .string a1] rfl (by (try simp only [List.map_toArray, List.map_cons, List.map_nil]); first | done | rfl | (simp only [List.length_drop, List.length_take]; rfl)) ?_; (with_reducible refine (impl_CryptDisk.calls a0 a1 t115 _ A6.out).mono ?_); rintro e w11 ⟨rfl, hb⟩; refine ⟨_, rfl, ?_⟩; have n0_ := Aside0.mk (below_step (by repeat (first | (with_reducible first | exact HB.out | apply below_alloc | apply pw_below_drewN | apply below_drew1) | exact HB.out)) hb); clear HB; have HB := n0_; clear n0_; (try clear hb); (try clear hb2); (try clear hk); (try clear hi)))
        go_ret
        exact ⟨by first | rfl | (simp [errW_none, errW_some] <;> rfl) | (simp [*, errW_none, errW_some] <;> rfl), by repeat (first | (with_reducible first | exact HB.out | apply below_alloc | apply pw_below_drewN | apply below_drew1) | exact HB.out)⟩

/-- THE ONE PURE STATEMENT of laws_FnExactCryptDisk: yours. -/
def laws_FnExactCryptDisk.Pure : Prop := ∀ (a0 : ByteArray) (a1 : ByteArray), a0.size ≤ 140737488351232 → a1.size ≤ 140737488351232 → ∃ k, laws_FnExactCryptDisk.f k a0 a1 = some true
theorem laws_FnExactCryptDisk.walk (P : laws_FnExactCryptDisk.Pure) (a0 : ByteArray) (a1 : ByteArray) (w : World) (w0 : a0.size ≤ 140737488351232) (w1 : a1.size ≤ 140737488351232) :
    Calls Try.prog 4 #[.string a0, .string a1] w fun e w' => e = .returned (.bool true) ∧ Below w.heap.size w w' := by
  obtain ⟨k, h⟩ := P a0 a1 w0 w1
  refine (laws_FnExactCryptDisk.calls k a0 a1 true w h).mono ?_
  rintro e w' ⟨rfl, hd⟩
  exact ⟨rfl, hd⟩

end Go.Proofs.Ytpcpjkbjadgoiaa.QFnExactCryptDisk
