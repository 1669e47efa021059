-- Written for this claim by this session's own driver (wip/xprint.py).
import Derived.Test.YtpcpjkbjadgoiaaQFnExactCheckQuotex0
import Derived.Test.YtpcpjkbjadgoiaaQFnExactCheckQuotex2
namespace Go.Proofs.Ytpcpjkbjadgoiaa.QFnExactCheckQuote
open Go.RowKit Go.Proofs.YtpcpjkbjadgoiaaW.PrintWords Go.Proofs.YtpcpjkbjadgoiaaW.PrintLast Go.Proofs.YtpcpjkbjadgoiaaW.PrintMore
attribute [local go_sem] max2_int min2_int max_two min_two max_three min_three max_four min_four   -- for this text's walks alone
set_option linter.unusedVariables false
set_option linter.unusedSimpArgs false

/-! ### impl_ymix: function 28 -/
def impl_ymix.l0 : Nat → ByteArray → Int → Int → Int → Option (Int)
  | 0, _, _, _, _ => none
  | k + 1, x0, x5, x11, x12 => if x12 < x11 then (if 0 ≤ x12 then (if x12 < (x0.size : Int) then (impl_ymix.l0 k x0 (Int.tmod (wrap64 ((wrap64 ((wrap64 (x5 * 65599)) + (wrap64 (bt x0 x12)))) + 1)) 2147483629) x11 (wrap64 (x12 + 1))) else (none)) else (none)) else (some (Int.tmod (wrap64 ((wrap64 (x5 * 40503)) + 77)) 2147483629))
def impl_ymix.f (k : Nat) (a0 : ByteArray) (a1 : Int) : Option (Int) := (impl_ymod.f a1 2147483629).bind fun t131 => (impl_ymix.l0 k a0 (wrap64 (t131 + 1)) (a0.size : Int) 0)
theorem impl_ymix.mono_l : ∀ k, (∀ y0 y1 y2 y3, LeO (impl_ymix.l0 k y0 y1 y2 y3) (impl_ymix.l0 (k + 1) y0 y1 y2 y3))
  | 0 => fun _ _ _ _ r h => by simp [impl_ymix.l0] at h
  | k + 1 => by
    have ih0 := impl_ymix.mono_l k
    · intro y0 y1 y2 y3
      unfold impl_ymix.l0
      repeat' first
      | (with_reducible exact ih0 _ _ _ _)
      | (with_reducible exact LeO.refl _)
      | (with_reducible exact LeO.none _)
      | (with_reducible refine LeO.ite ?_ ?_)
      | (with_reducible refine LeO.bind ?_ (fun _ => ?_))
      | exact ih0 _ _ _ _
      | exact LeO.none _
      | refine LeO.ite ?_ ?_
      | refine LeO.bind ?_ (fun _ => ?_)
theorem impl_ymix.mono : ∀ a0 a1 k, LeO (impl_ymix.f k a0 a1) (impl_ymix.f (k + 1) a0 a1) := by
  intro a0 a1 k
  have ih0 := impl_ymix.mono_l k
  unfold impl_ymix.f
  repeat' first
      | (with_reducible exact ih0 _ _ _ _)
      | (with_reducible exact LeO.refl _)
      | (with_reducible exact LeO.none _)
      | (with_reducible refine LeO.ite ?_ ?_)
      | (with_reducible refine LeO.bind ?_ (fun _ => ?_))
      | exact ih0 _ _ _ _
      | exact LeO.none _
      | refine LeO.ite ?_ ?_
      | refine LeO.bind ?_ (fun _ => ?_)
set_option maxHeartbeats 8000000 in
set_option maxRecDepth 100000 in
theorem impl_ymix.calls (k : Nat) (a0 : ByteArray) (a1 : Int) (r : Int) (w : World) (h : impl_ymix.f k a0 a1 = some r) :
    Calls Try.prog 28 #[.string a0, .int .i64 a1] w fun e w' => e = .returned (.int .i64 r) ∧ Drawn0 w w' := by
  have H : ((impl_ymod.f a1 2147483629).bind fun t131 => (impl_ymix.l0 k a0 (wrap64 (t131 + 1)) (a0.size : Int) 0)) = some r := h
  clear h
  replace H := Option.bind_eq_some_iff.mp H
  obtain ⟨t131, A30, H⟩ := H
  replace H : (impl_ymix.l0 k a0 (wrap64 (t131 + 1)) (a0.size : Int) 0) = some r := H
  have A3 := Aside0.mk A30
  clear A30
  have H' := Aside0.mk H
  clear H
  go_enter Try.func28, Try.ntmps28
  go_wp2_with (first | ((with_reducible refine gate_callee (f := 52) rfl ?_); refine goesL_ (some 8) rfl rfl Try.func52 (by kernel_rfl) rfl #[.int .i64 a1, .int .i64 2147483629] rfl (by (try simp only [List.map_toArray, List.map_cons, List.map_nil]); first | done | rfl | (simp only [List.length_drop, List.length_take]; rfl)) ?_; (with_reducible refine (impl_ymod.calls a1 2147483629 t131 _ A3.out).mono ?_); rintro e w' ⟨rfl, ⟨nd, rfl⟩⟩; refine ⟨_, rfl, ?_⟩))
  go_loopg [5, 12] k (fun kq v5 v12 w' => ∃ (x5_1 : Int) (x12_1 : Int), v5 = .int .i64 x5_1 ∧ v12 = .int .i64 x12_1 ∧ Aside0 (impl_ymix.l0 kq a0 x5_1 (a0.size : Int) x12_1 = some r) ∧ Aside0 (kq ≤ k) ∧ Drawn0 w w')
  case atStart => exact ⟨(wrap64 (t131 + 1)), (0), (by first | rfl | (simp; done) | (simp [*]; done)), (by first | rfl | (simp; done) | (simp [*]; done)), H', ⟨Nat.le_refl _⟩, by repeat (first | exact Drawn0.refl _ | apply Drawn0.step)⟩
  case round =>
    clear H'
    try clear c2
    try clear p2
    obtain ⟨x5_1, x12_1, rfl, rfl, HA, HK1, ⟨m1, rfl⟩⟩ := hrel
    cases gk with
    | zero => exact absurd HA.out (by simp [impl_ymix.l0])
    | succ k1 =>
      have H := HA.out
      clear HA
      simp only [impl_ymix.l0] at H
      by_cases c4 : x12_1 < (a0.size : Int)
      · rw [if_pos c4] at H
        have c4b0 : decide (x12_1 < (a0.size : Int)) = true := decide_eq_true c4
        clear c4
        by_cases c5 : 0 ≤ x12_1
        · rw [if_pos c5] at H
          have c5b0 : decide (0 ≤ x12_1) = true := decide_eq_true c5
          clear c5
          by_cases c6 : x12_1 < (a0.size : Int)
          · rw [if_pos c6] at H
            have c6b0 : decide (x12_1 < (a0.size : Int)) = true := decide_eq_true c6
            clear c6
            have H' := Aside0.mk H
            clear H
            have p7 : 0 ≤ (x12_1 : Int) := of_decide_eq_true (by first | (with_reducible assumption) | assumption)
            have q7 : x12_1 < (a0.size : Int) := of_decide_eq_true (by first | (with_reducible assumption) | assumption)
            have hx7 := bt_at a0 x12_1
            replace p7 := eq_true p7
            replace q7 := eq_true q7
            go_wp2
            go_roundg k1
            case measure => have := HK1.out; omega
            case rel => exact ⟨(Int.tmod (wrap64 ((wrap64 ((wrap64 (x5_1 * 65599)) + (wrap64 (bt a0 x12_1)))) + 1)) 2147483629), (wrap64 (x12_1 + 1)), (by first | rfl | (simp; done) | (simp [*]; done)), (by first | rfl | (simp; done) | (simp [*]; done)), H', ⟨by have := HK1.out; omega⟩, by repeat (first | exact Drawn0.refl _ | apply Drawn0.step)⟩
          · rw [if_neg c6] at H
            exact absurd H (by simp)
        · rw [if_neg c5] at H
          exact absurd H (by simp)
      · rw [if_neg c4] at H
        have c4b0 : decide (x12_1 < (a0.size : Int)) = false := decide_eq_false c4
        clear c4
        obtain rfl := Option.some.inj H
        go_wp2
        go_ret
        exact ⟨by first | rfl | (simp; done) | (simp [*]; done), by repeat (first | exact Drawn0.refl _ | apply Drawn0.step)⟩

-- NOT PRINTED: function 64 (abi_NoEscape)

-- NOT PRINTED: function 54 (strings_Builder_copyCheck)

-- NOT PRINTED: function 31 (strings_Builder_WriteString)

-- NOT PRINTED: function 32 (strings_Builder_String)

-- NOT PRINTED: function 68 (bytealg_MakeNoZero)

-- NOT PRINTED: function 67 (strings_Builder_grow)

-- NOT PRINTED: function 63 (strings_Builder_Grow)

-- NOT PRINTED: function 53 (strings_Join)

/-! ### impl_yjoin: function 29 -/
def impl_yjoin.f (l0 : List ByteArray) : Option (ByteArray) := if 0 < l0.length ∧ l0.length ≤ 140737488355328 ∧ (Lib.join (l0.map (·.data.toList)) []).length ≤ 140737488355328 then some ⟨(Lib.join (l0.map (·.data.toList)) []).toArray⟩ else none
set_option maxHeartbeats 4000000 in
set_option maxRecDepth 100000 in
theorem impl_yjoin.calls (A0 : Option Addr) (c0 : Nat) (l0 : List ByteArray) (r : ByteArray) (w : World) (hr0 : Kd.C Kd.string w A0 l0.length l0) (hc0 : l0.length ≤ c0) (h : impl_yjoin.f l0 = some r) :
    Calls Try.prog 29 #[.slice A0 l0.length c0] w fun e w' => e = .returned (.string r) ∧ Below w.heap.size w w' := by
  unfold impl_yjoin.f at h
  by_cases hc : 0 < l0.length ∧ l0.length ≤ 140737488355328 ∧ (Lib.join (l0.map (·.data.toList)) []).length ≤ 140737488355328
  · rw [if_pos hc] at h
    obtain rfl := Option.some.inj h
    obtain ⟨q0, q1, q2⟩ := hc
    obtain ⟨ad, rfl, hcell⟩ := hr0.2.2 q0
    obtain ⟨bk, o, sp⟩ := ad
    have hrd : ∀ (j : Nat) x, l0[j]? = some x → w.cell? ((⟨bk, o, sp⟩ : Addr).add j) = some (.string x) := fun j x hx => by
      obtain ⟨c, hl, hk, hcc⟩ := hcell j x hx
      have hk' : c = [Value.string x] := hk
      have := hcc 0 (.string x) (by rw [hk']; rfl)
      rw [Nat.add_zero] at this
      have e1 : j * Kd.string.sz = j := Nat.mul_one j
      rw [e1] at this
      exact this
    have hsp : sp = none := by
      have h0 := hrd 0 l0[0] (List.getElem?_eq_getElem q0)
      cases sp with
      | none => rfl
      | some s =>
        have : (⟨bk, o, some s⟩ : Addr).add 0 = ⟨bk, o, some s⟩ := by simp [Addr.add]
        rw [this] at h0
        unfold World.cell? at h0
        split at h0 <;> simp at h0
    subst hsp
    have hcs : ∀ (j : Nat) x, l0[j]? = some x → w.cell? ⟨bk, o + j, none⟩ = some (.string x) := fun j x hx => by
      have := hrd j x hx
      rwa [Addr.add_lit] at this
    have hbk : bk < w.heap.size := World.block_lt_of_cell? w _ (hcs 0 l0[0] (List.getElem?_eq_getElem q0))
    have hj : Calls Try.prog 53 #[.slice (some ⟨bk, o, none⟩) l0.length c0, .string ⟨#[]⟩] w fun e w' => e = .returned (.string ⟨(Lib.join (l0.map (·.data.toList)) []).toArray⟩) ∧ Below w.heap.size w w' := Any.strings_Join Try.lays156 Try.Builder_Extra_156 bk o c0 l0 ⟨#[]⟩ w hcs hbk q1 hc0 q2
    clear h hr0 hcell hrd hcs
    go_enter Try.func29, Try.ntmps29
    go_wp2_with (go_at_call 53; with_reducible refine hj.mono ?_; rintro e w3 ⟨rfl, hb3⟩)
    go_ret
    exact ⟨rfl, hb3⟩
  · rw [if_neg hc] at h; exact absurd h (by simp)

/-! ### impl_PutWord: function 30 -/
def impl_PutWord.f (a0 : Int) : Option (ByteArray) := some (strOfNums (([((a0) % 4294967296) % 256, (((a0) % 4294967296) / 256) % 256, (((a0) % 4294967296) / 65536) % 256, ((a0) % 4294967296) / 16777216] : List Int)))
set_option maxHeartbeats 8000000 in
set_option maxRecDepth 100000 in
theorem impl_PutWord.calls (a0 : Int) (r : ByteArray) (w : World) (h : impl_PutWord.f a0 = some r) :
    Calls Try.prog 30 #[.int .i64 a0] w fun e w' => e = .returned (.string r) ∧ Below w.heap.size w w' := by
  have HB := Aside0.mk (Below.refl w.heap.size w)
  have H : (some (strOfNums (([((a0) % 4294967296) % 256, (((a0) % 4294967296) / 256) % 256, (((a0) % 4294967296) / 65536) % 256, ((a0) % 4294967296) / 16777216] : List Int)))) = some r := h
  clear h
  obtain ⟨y133, hy133⟩ : ∃ y_ : List Int, y_ = (([((a0) % 4294967296) % 256, (((a0) % 4294967296) / 256) % 256, (((a0) % 4294967296) / 65536) % 256, ((a0) % 4294967296) / 16777216] : List Int)) := ⟨_, rfl⟩
  replace H : (some (strOfNums y133)) = some r := by first | (rw [hy133]; with_reducible exact H) | (have H2_ := (Option.bind_some _ _).symm.trans H; rw [hy133]; with_reducible exact H2_) | (have H2_ := (Option.bind_some _ _).symm.trans H; with_reducible exact H2_) | with_reducible exact H | (rw [hy133]; exact H) | exact H
  have Ny133 := Aside0.mk hy133
  clear hy133
  obtain rfl := Option.some.inj H
  go_enter Try.func30, Try.ntmps30
  go_wp2_with (first | ((with_reducible refine gate_dst (N := 17) rfl ?_); refine Kd.R_lit (Kd.int .u8) _ 5 ?hg (N := 17) ?hd (xs := ([((a0) % 4294967296) % 256, (((a0) % 4294967296) / 256) % 256, (((a0) % 4294967296) / 65536) % 256, ((a0) % 4294967296) / 16777216] : List Int)) (inner := [.int .u8 (((a0) % 4294967296) % 256), .int .u8 ((((a0) % 4294967296) / 256) % 256), .int .u8 ((((a0) % 4294967296) / 65536) % 256), .int .u8 (((a0) % 4294967296) / 16777216)]) (ok := fun _ => True) (okp := fun _ => True) ?hr ?hp (fun _ hk => hk) trivial (Below.refl _ _) (Nat.le_refl _) (by simp) ?_; (case hd => rfl); (case hg => rfl); (case hr => first | (go_simp; done) | (go_simp; rfl)); (case hp => exact (Reps.one (show Kd.M (Kd.int .u8) _ _ _ (((a0) % 4294967296) % 256) [.int .u8 (((a0) % 4294967296) % 256)] from rfl) (Reps.one (show Kd.M (Kd.int .u8) _ _ _ ((((a0) % 4294967296) / 256) % 256) [.int .u8 ((((a0) % 4294967296) / 256) % 256)] from rfl) (Reps.one (show Kd.M (Kd.int .u8) _ _ _ ((((a0) % 4294967296) / 65536) % 256) [.int .u8 ((((a0) % 4294967296) / 65536) % 256)] from rfl) (Reps.one (show Kd.M (Kd.int .u8) _ _ _ (((a0) % 4294967296) / 16777216) [.int .u8 (((a0) % 4294967296) / 16777216)] from rfl) (Reps.none _ _)))))); intro v134 w2 ho3 hb hg_ hnew_; clear hg_ hnew_; (first | rw [← Ny133.out] at ho3 | (simp only [Int.reduceToNat] at ho3; rw [← Ny133.out] at ho3)); have n0_ := Aside0.mk (Kd.R_lower ho3 (below_size (by repeat (first | (with_reducible first | exact HB.out | apply below_alloc | apply pw_below_drewN | apply below_drew1) | exact HB.out)))); have n1_ := Aside0.mk (below_step (by repeat (first | (with_reducible first | exact HB.out | apply below_alloc | apply pw_below_drewN | apply below_drew1) | exact HB.out)) hb); clear HB; have HO135 := n0_; have HB := n1_; clear n0_ n1_; clear hb ho3; have hcv4 := own_string (P := Try.prog) Try.underlying45 Try.underlying5 Try.underlying9 (Kd.own_of_R HO135.out)))
  go_ret
  exact ⟨by first | rfl | (simp [errW_none, errW_some] <;> rfl) | (simp [*, errW_none, errW_some] <;> rfl), by repeat (first | (with_reducible first | exact HB.out | apply below_alloc | apply pw_below_drewN | apply below_drew1) | exact HB.out)⟩

/-! ### impl_yregsText: function 61 -/
def wTx (n : Int) : ByteArray := (impl_PutWord.f n).getD ⟨#[]⟩
theorem wTx_eq (n : Int) : impl_PutWord.f n = some (wTx n) := rfl
theorem wTx_size (n : Int) : (wTx n).size = 4 := by
  unfold wTx impl_PutWord.f
  rw [Option.getD_some, strOfNums_size]
  rfl
theorem wTx_len (n : Int) : (wTx n).data.toList.length = 4 := by rw [Array.length_toList]; exact wTx_size n
def regsTx (l : List Int) : List UInt8 := l.flatMap fun n => (wTx n).data.toList
theorem regsTx_snoc (l : List Int) (n : Int) : regsTx (l ++ [n]) = regsTx l ++ (wTx n).data.toList := by simp [regsTx]
theorem regsTx_length : ∀ l : List Int, (regsTx l).length = 4 * l.length
  | [] => rfl
  | n :: l => by
    have := regsTx_length l
    unfold regsTx at this ⊢
    rw [List.flatMap_cons, List.length_append, this, wTx_len, List.length_cons]
    omega
theorem regsUsed {T e : TypeId} {B b : Nat} {bs : List Value} {w : World} (h : Lib.BuilderAt T e B b (.pointer (some ⟨b, 0, none⟩)) bs w) : Lib.IsBuilder T e B b bs w := Or.inr h
theorem isBuilder_below {T e : TypeId} {B b : Nat} {bs : List Value} {w w' : World} (h : Lib.IsBuilder T e B b bs w) (hb : Below w.heap.size w w') (_ : B ≤ w.heap.size) : Lib.IsBuilder T e B b bs w' := by
  have key : ∀ p, Lib.BuilderAt T e B b p bs w → Lib.BuilderAt T e B b p bs w' := fun p h => by
    obtain ⟨hB, v, hbk, hown, hne⟩ := h
    have lt : ∀ (j : Nat) (o : Obj), w.heap[j]? = some o → j < w.heap.size := fun j o hj => by
      rcases Nat.lt_or_ge j w.heap.size with h' | h'
      · exact h'
      · rw [Array.getElem?_eq_none h'] at hj; exact absurd hj (by simp)
    refine ⟨hB, v, by rw [hb.block b (lt _ _ hbk)]; exact hbk, ⟨hown.1, ?_⟩, hne⟩
    rcases hown.2 with h0 | ⟨g, cap, cur, hv, hg, hh, r⟩
    · exact Or.inl h0
    · exact Or.inr ⟨g, cap, cur, hv, hg, by rw [hb.block g (lt _ _ hh)]; exact hh, r⟩
  rcases h with h | h
  · exact Or.inl (key _ h)
  · exact Or.inr (key _ h)
def impl_yregsText.f (l0 : List Int) : Option (ByteArray) := if l0.length ≤ 1000 then some ⟨(regsTx l0).toArray⟩ else none
set_option maxHeartbeats 8000000 in
set_option maxRecDepth 100000 in
theorem impl_yregsText.calls (A0 : Option Addr) (c0 : Nat) (l0 : List Int) (r : ByteArray) (w : World) (hr0 : Kd.C (Kd.int .i64) w A0 l0.length l0) (hc0 : l0.length ≤ c0) (h : impl_yregsText.f l0 = some r) :
    Calls Try.prog 61 #[.slice A0 l0.length c0] w fun e w' => e = .returned (.string r) ∧ Below w.heap.size w w' := by
  unfold impl_yregsText.f at h
  by_cases hc : l0.length ≤ 1000
  · rw [if_pos hc] at h
    obtain rfl := Option.some.inj h
    have HR := Aside0.mk hr0
    have HC := Aside0.mk hc
    clear hr0 h hc
    go_enter Try.func61, Try.ntmps61
    go_wp2
    have HIB : Aside0 (Lib.IsBuilder 53 5 w.heap.size w.heap.size (Lib.byteCells (regsTx (l0.take 0))) (w.alloc (Obj.cells #[Value.pointer none, Value.slice none 0 0] 53))) := ⟨Or.inl ⟨Nat.le_refl _, .slice none 0 0, blk_new _ _, World.ownsRow_nil _ _ _ _, by simp [Value.ownBlock]⟩⟩
    have HBL : Aside0 (Below w.heap.size w (w.alloc (Obj.cells #[Value.pointer none, Value.slice none 0 0] 53))) := ⟨below_alloc (Below.refl _ _) _⟩
    generalize w.alloc (Obj.cells #[Value.pointer none, Value.slice none 0 0] 53) = W2 at HIB HBL ⊢
    have hwb : ∀ (bs : List Value) (s : ByteArray) (W : World), Lib.IsBuilder 53 5 w.heap.size w.heap.size bs W → bs.length + s.size ≤ 140737488355328 → w.heap.size ≤ W.heap.size → Calls Try.prog 31 #[.pointer (some ⟨w.heap.size, 0, none⟩), .string s] W fun e w' => e = .returned (.tuple #[.int .i64 s.size, .nilIface]) ∧ (Lib.BuilderAt 53 5 w.heap.size w.heap.size (.pointer (some ⟨w.heap.size, 0, none⟩)) (bs ++ Lib.strCells s) w' ∧ Below w.heap.size W w') := fun bs s W h1 h2 h3 => Any.Builder_WriteString Try.lays166 Try.Builder_Extra_166 w.heap.size w.heap.size bs s W h1 h2 h3
    have HWB := Aside0.mk hwb
    clear hwb
    go_loopg [5, 8] l0.length (fun gg _ s8 wr => ∃ kk : Nat, s8 = .int .i64 kk ∧ Aside0 (kk ≤ l0.length) ∧ Aside0 (l0.length - kk ≤ gg) ∧ Aside0 (Below w.heap.size w wr) ∧ Aside0 (Lib.IsBuilder 53 5 w.heap.size w.heap.size (Lib.byteCells (regsTx (l0.take kk))) wr))
    case atStart => exact ⟨0, rfl, ⟨Nat.zero_le _⟩, ⟨by omega⟩, HBL, HIB⟩
    case round =>
      obtain ⟨kk, rfl, hkk, hg, BW, HI⟩ := hrel
      by_cases hlt : kk < l0.length
      · have hltz : (kk : Int) < (l0.length : Int) := by omega
        obtain ⟨ad, e_, hx⟩ := Kd.at_int HR.out (kk : Int) (by omega) (by omega)
        cases e_
        replace hx := pw_cell_below BW.out hx
        rw [Int.toNat_natCast] at hx
        have hxe : rd l0 (kk : Int) = l0[kk] := by unfold rd; rw [Int.toNat_natCast, List.getD_eq_getElem?_getD, List.getElem?_eq_getElem hlt, Option.getD_some]
        have hsn := regsTx_snoc (l0.take kk) l0[kk]
        rw [← List.take_succ_eq_append_getElem hlt] at hsn
        rw [hxe] at hx
        clear hxe
        generalize l0[kk] = n at hx hsn
        have hpw := fun W => impl_PutWord.calls n (wTx n) W (wTx_eq n)
        have hcells : Lib.byteCells (regsTx (l0.take (kk + 1))) = Lib.byteCells (regsTx (l0.take kk)) ++ Lib.strCells (wTx n) := by
          rw [hsn]
          simp [Lib.byteCells, Lib.strCells]
        have hlen1 : (Lib.byteCells (regsTx (l0.take kk))).length + (wTx n).size ≤ 140737488355328 := by
          rw [Lib.byteCells_length, regsTx_length, List.length_take, wTx_size]
          have := HC.out; omega
        have e9 : wrap64 ((kk : Int) + 1) = ((kk + 1 : Nat) : Int) := by rw [Go.Proofs.Ytpcpjkbjadgoiaa.Pl.w64 (by omega) (by have := HC.out; omega)]; omega
        have HCE := Aside0.mk hcells
        have HLE := Aside0.mk hlen1
        have E9 := Aside0.mk e9
        clear hcells hlen1 hsn e9
        go_wp2_with (first | (go_at_call 30; with_reducible refine (hpw _).mono ?_; rintro e w3 ⟨rfl, hb3⟩; have BW3 := Aside0.mk (BW.out.trans (hb3.mono BW.out.size)); have HI3 := Aside0.mk (isBuilder_below HI.out hb3 BW.out.size); clear hb3) | (go_at_call 31; with_reducible refine (HWB.out _ (wTx n) _ HI3.out HLE.out ?s1).mono ?_; (case s1 => exact BW3.out.size); rintro e w4 ⟨rfl, ⟨h1, hb1⟩⟩; have H1 := Aside0.mk (regsUsed h1); have BW4 := Aside0.mk (BW3.out.trans hb1); clear h1 hb1))
        go_roundg (l0.length - (kk + 1))
        case measure => have := hg.out; omega
        case rel => exact ⟨kk + 1, by rw [E9.out], ⟨hlt⟩, ⟨by omega⟩, BW4, ⟨by rw [HCE.out]; exact H1.out⟩⟩
      · have hltz : ¬ (kk : Int) < (l0.length : Int) := by omega
        have hkn : kk = l0.length := by have := hkk.out; omega
        subst hkn
        have hI := HI.out
        rw [List.take_length] at hI
        have hst : Calls Try.prog 32 #[.pointer (some ⟨w.heap.size, 0, none⟩)] wr fun e w' => e = .returned (.string ⟨(regsTx l0).toArray⟩) ∧ Below w.heap.size wr w' := Any.Builder_String_any Try.lays169 Try.Builder_Extra_169 w.heap.size w.heap.size (regsTx l0) wr hI BW.out.size
        clear hI
        go_wp2_with (go_at_call 32; with_reducible refine hst.mono ?_; rintro e w3 ⟨rfl, hb3⟩)
        go_ret
        exact ⟨rfl, BW.out.trans hb3⟩
  · rw [if_neg hc] at h; exact absurd h (by simp)

/-! ### impl_yquoteE: function 47 -/
def impl_yquoteE.f (k : Nat) (a0 : Int) (a1 : ByteArray) (l2 : List Int) : Option (Int) := (impl_PutWord.f a0).bind fun t136 => ((impl_yregsText.f l2).bind fun t137 => ((impl_yjoin.f (([t136, t137, a1] : List ByteArray))).bind fun t141 => ((impl_ymix.f k t141 42).bind fun t142 => (some (Int.tmod t142 1073741381)))))
theorem impl_yquoteE.mono : ∀ a0 a1 a2 k, LeO (impl_yquoteE.f k a0 a1 a2) (impl_yquoteE.f (k + 1) a0 a1 a2) := by
  intro a0 a1 a2 k
  unfold impl_yquoteE.f
  repeat' first
      | (with_reducible exact impl_ymix.mono _ _ _)
      | (with_reducible exact LeO.refl _)
      | (with_reducible exact LeO.none _)
      | (with_reducible refine LeO.ite ?_ ?_)
      | (with_reducible refine LeO.bind ?_ (fun _ => ?_))
      | exact impl_ymix.mono _ _ _
      | exact LeO.none _
      | refine LeO.ite ?_ ?_
      | refine LeO.bind ?_ (fun _ => ?_)
set_option maxHeartbeats 8000000 in
set_option maxRecDepth 100000 in
theorem impl_yquoteE.calls (k : Nat) (a0 : Int) (a1 : ByteArray) (A2 : Option Addr) (c2 : Nat) (l2 : List Int) (r : Int) (w : World) (hr2 : Kd.C (Kd.int .i64) w A2 l2.length l2) (hc2 : l2.length ≤ c2) (h : impl_yquoteE.f k a0 a1 l2 = some r) :
    Calls Try.prog 47 #[.int .i64 a0, .string a1, .slice A2 l2.length c2] w fun e w' => e = .returned (.int .i64 r) ∧ Below w.heap.size w w' := by
  have HR2 := Aside0.mk hr2
  have HC2 := Aside0.mk hc2
  clear hr2 hc2
  have HB := Aside0.mk (Below.refl w.heap.size w)
  have H : ((impl_PutWord.f a0).bind fun t136 => ((impl_yregsText.f l2).bind fun t137 => ((impl_yjoin.f (([t136, t137, a1] : List ByteArray))).bind fun t141 => ((impl_ymix.f k t141 42).bind fun t142 => (some (Int.tmod t142 1073741381)))))) = some r := h
  clear h
  replace H := Option.bind_eq_some_iff.mp H
  obtain ⟨t136, A40, H⟩ := H
  replace H : ((impl_yregsText.f l2).bind fun t137 => ((impl_yjoin.f (([t136, t137, a1] : List ByteArray))).bind fun t141 => ((impl_ymix.f k t141 42).bind fun t142 => (some (Int.tmod t142 1073741381))))) = some r := H
  have A4 := Aside0.mk A40
  clear A40
  replace H := Option.bind_eq_some_iff.mp H
  obtain ⟨t137, A50, H⟩ := H
  replace H : ((impl_yjoin.f (([t136, t137, a1] : List ByteArray))).bind fun t141 => ((impl_ymix.f k t141 42).bind fun t142 => (some (Int.tmod t142 1073741381)))) = some r := H
  have A5 := Aside0.mk A50
  clear A50
  obtain ⟨y138, hy138⟩ : ∃ y_ : List ByteArray, y_ = (([t136, t137, a1] : List ByteArray)) := ⟨_, rfl⟩
  replace H : ((impl_yjoin.f y138).bind fun t141 => ((impl_ymix.f k t141 42).bind fun t142 => (some (Int.tmod t142 1073741381)))) = some r := by first | (rw [hy138]; with_reducible exact H) | (have H2_ := (Option.bind_some _ _).symm.trans H; rw [hy138]; with_reducible exact H2_) | (have H2_ := (Option.bind_some _ _).symm.trans H; with_reducible exact H2_) | with_reducible exact H | (rw [hy138]; exact H) | exact H
  have Ny138 := Aside0.mk hy138
  clear hy138
  replace H := Option.bind_eq_some_iff.mp H
  obtain ⟨t141, A60, H⟩ := H
  replace H : ((impl_ymix.f k t141 42).bind fun t142 => (some (Int.tmod t142 1073741381))) = some r := H
  have A6 := Aside0.mk A60
  clear A60
  replace H := Option.bind_eq_some_iff.mp H
  obtain ⟨t142, A70, H⟩ := H
  replace H : (some (Int.tmod t142 1073741381)) = some r := H
  have A7 := Aside0.mk A70
  clear A70
  obtain rfl := Option.some.inj H
  go_enter Try.func47, Try.ntmps47
  go_wp2_with (first | ((with_reducible refine gate_callee (f := 30) rfl ?_); refine goesL_ (some 8) rfl rfl Try.func30 (by kernel_rfl) rfl #[.int .i64 a0] rfl (by (try simp only [List.map_toArray, List.map_cons, List.map_nil]); first | done | rfl | (simp only [List.length_drop, List.length_take]; rfl)) ?_; (with_reducible refine (impl_PutWord.calls a0 t136 _ A4.out).mono ?_); rintro e w8 ⟨rfl, hb⟩; refine ⟨_, rfl, ?_⟩; have n0_ := Aside0.mk (below_step (by repeat (first | (with_reducible first | exact HB.out | apply below_alloc | apply pw_below_drewN | apply below_drew1) | exact HB.out)) hb); clear HB; have HB := n0_; clear n0_; (try clear hb); (try clear hb2); (try clear hk); (try clear hi)) | ((with_reducible refine gate_callee (f := 61) rfl ?_); refine goesL_ (some 10) rfl rfl Try.func61 (by kernel_rfl) rfl #[.slice A2 l2.length c2] rfl (by (try simp only [List.map_toArray, List.map_cons, List.map_nil]); first | done | rfl | (simp only [List.length_drop, List.length_take]; rfl)) ?_; (with_reducible refine (impl_yregsText.calls _ _ l2 t137 _ ?side1 ?side2 A5.out).mono ?_); (case side1 => repeat (first | exact (Kd.C_below HR2.out HB.out) | (with_reducible refine Kd.C_alloc ?_ _) | (with_reducible refine Kd.C_drewN ?_ _) | (with_reducible refine Kd.C_drew ?_))); (case side2 => exact HC2.out); rintro e w9 ⟨rfl, hb⟩; refine ⟨_, rfl, ?_⟩; have n0_ := Aside0.mk (below_step (by repeat (first | (with_reducible first | exact HB.out | apply below_alloc | apply pw_below_drewN | apply below_drew1) | exact HB.out)) hb); clear HB; have HB := n0_; clear n0_; (try clear hb); (try clear hb2); (try clear hk); (try clear hi)) | ((with_reducible refine gate_dst (N := 12) rfl ?_); refine Kd.R_lit Kd.string _ 9 ?hg (N := 12) ?hd (xs := ([t136, t137, a1] : List ByteArray)) (inner := [.string t136, .string t137, .string a1]) (ok := fun _ => True) (okp := fun _ => True) ?hr ?hp (fun _ hk => hk) trivial (Below.refl _ _) (Nat.le_refl _) (by simp) ?_; (case hd => rfl); (case hg => rfl); (case hr => first | (go_simp; done) | (go_simp; rfl)); (case hp => exact (Reps.one (show Kd.M Kd.string _ _ _ t136 [.string t136] from rfl) (Reps.one (show Kd.M Kd.string _ _ _ t137 [.string t137] from rfl) (Reps.one (show Kd.M Kd.string _ _ _ a1 [.string a1] from rfl) (Reps.none _ _))))); intro v139 w10 ho11 hb hg_ hnew_; clear hg_ hnew_; (first | rw [← Ny138.out] at ho11 | (simp only [Int.reduceToNat] at ho11; rw [← Ny138.out] at ho11)); have n0_ := Aside0.mk (Kd.R_lower ho11 (below_size (by repeat (first | (with_reducible first | exact HB.out | apply below_alloc | apply pw_below_drewN | apply below_drew1) | exact HB.out)))); have n1_ := Aside0.mk (below_step (by repeat (first | (with_reducible first | exact HB.out | apply below_alloc | apply pw_below_drewN | apply below_drew1) | exact HB.out)) hb); clear HB; have HO140 := n0_; have HB := n1_; clear n0_ n1_; clear hb ho11; obtain ⟨Ao12, co12, eo12⟩ := Kd.R_slice HO140.out; subst eo12) | ((with_reducible refine gate_callee (f := 29) rfl ?_); refine goesL_ (some 13) rfl rfl Try.func29 (by kernel_rfl) rfl #[.slice Ao12 y138.length co12] rfl (by (try simp only [List.map_toArray, List.map_cons, List.map_nil]); first | done | rfl | (simp only [List.length_drop, List.length_take]; rfl)) ?_; (with_reducible refine (impl_yjoin.calls _ _ y138 t141 _ ?side1 ?side2 A6.out).mono ?_); (case side1 => repeat (first | exact (Kd.R_reads' HO140.out).2.2 | (with_reducible refine Kd.C_alloc ?_ _) | (with_reducible refine Kd.C_drewN ?_ _) | (with_reducible refine Kd.C_drew ?_))); (case side2 => exact (Kd.R_reads' HO140.out).2.1); rintro e w13 ⟨rfl, hb⟩; refine ⟨_, rfl, ?_⟩; have n0_ := Aside0.mk (Kd.R_below (by (with_reducible repeat (first | apply Kd.R_alloc | apply Kd.R_drewN | apply Kd.R_drew)); exact HO140.out) hb); have n1_ := Aside0.mk (below_step (by repeat (first | (with_reducible first | exact HB.out | apply below_alloc | apply pw_below_drewN | apply below_drew1) | exact HB.out)) hb); clear HO140; clear HB; have HO140 := n0_; have HB := n1_; clear n0_ n1_; (try clear hb); (try clear hb2); (try clear hk); (try clear hi)) | ((with_reducible refine gate_callee (f := 28) rfl ?_); refine goesL_ (some 14) rfl rfl Try.func28 (by kernel_rfl) rfl #[.string t141, .int .i64 42] rfl (by (try simp only [List.map_toArray, List.map_cons, List.map_nil]); first | done | rfl | (simp only [List.length_drop, List.length_take]; rfl)) ?_; (with_reducible refine (impl_ymix.calls k t141 42 t142 _ A7.out).mono ?_); rintro e w' ⟨rfl, ⟨nd, rfl⟩⟩; refine ⟨_, rfl, ?_⟩))
  go_ret
  exact ⟨by first | rfl | (simp [errW_none, errW_some] <;> rfl) | (simp [*, errW_none, errW_some] <;> rfl), by repeat (first | (with_reducible first | exact HB.out | apply below_alloc | apply pw_below_drewN | apply below_drew1) | exact HB.out)⟩

/-! ### impl_CheckQuote: function 23 -/
def impl_CheckQuote.j0 : Nat → Int → ByteArray → List Int → Bool → Int → Int → Option (Bool)
  | 0, _, _, _, _, _, _ => none
  | k + 1, x0, x1, x2, x38, x144000, x144001 => if x38 = true then (some false) else ((impl_ypower.f k 4 x144001).bind fun t153 => ((impl_yquoteE.f k x144000 x1 x2).bind fun t154 => ((impl_ypower.f k x0 t154).bind fun t155 => (some (t153 == (Int.tmod (wrap64 (x144000 * t155)) 2147482763))))))
def impl_CheckQuote.f (k : Nat) (a0 : Int) (a1 : ByteArray) (l2 : List Int) (a3_0 : Int) (a3_1 : Int) : Option (Bool) := (impl_ylongKey.f (([a1] : List ByteArray))).bind fun t147 => (if t147 = true then (impl_CheckQuote.j0 k a0 a1 l2 true a3_0 a3_1) else ((impl_yregsOk.f l2).bind fun t148 => (if t148 = true then ((impl_yin.f a0 2 2147482762).bind fun t149 => (if t149 = true then ((impl_ypower.f k a0 1073741381).bind fun t150 => (if t150 = 1 then ((impl_yin.f a3_0 1 2147482762).bind fun t151 => (if t151 = true then ((impl_yin.f a3_1 0 1073741380).bind fun t152 => (impl_CheckQuote.j0 k a0 a1 l2 (!t152) a3_0 a3_1)) else (impl_CheckQuote.j0 k a0 a1 l2 true a3_0 a3_1))) else (impl_CheckQuote.j0 k a0 a1 l2 true a3_0 a3_1))) else (impl_CheckQuote.j0 k a0 a1 l2 true a3_0 a3_1))) else (impl_CheckQuote.j0 k a0 a1 l2 true a3_0 a3_1))))
theorem impl_CheckQuote.mono_l : ∀ k, (∀ y0 y1 y2 y3 y4 y5, LeO (impl_CheckQuote.j0 k y0 y1 y2 y3 y4 y5) (impl_CheckQuote.j0 (k + 1) y0 y1 y2 y3 y4 y5))
  | 0 => fun _ _ _ _ _ _ r h => by simp [impl_CheckQuote.j0] at h
  | k + 1 => by
    have ih0 := impl_CheckQuote.mono_l k
    · intro y0 y1 y2 y3 y4 y5
      unfold impl_CheckQuote.j0
      repeat' first
      | (with_reducible exact ih0 _ _ _ _ _ _)
      | (with_reducible exact impl_ypower.mono _ _ _)
      | (with_reducible exact impl_yquoteE.mono _ _ _ _)
      | (with_reducible exact LeO.refl _)
      | (with_reducible exact LeO.none _)
      | (with_reducible refine LeO.ite ?_ ?_)
      | (with_reducible refine LeO.bind ?_ (fun _ => ?_))
      | exact ih0 _ _ _ _ _ _
      | exact impl_ypower.mono _ _ _
      | exact impl_yquoteE.mono _ _ _ _
      | exact LeO.none _
      | refine LeO.ite ?_ ?_
      | refine LeO.bind ?_ (fun _ => ?_)
theorem impl_CheckQuote.mono : ∀ a0 a1 a2 a3 a4 k, LeO (impl_CheckQuote.f k a0 a1 a2 a3 a4) (impl_CheckQuote.f (k + 1) a0 a1 a2 a3 a4) := by
  intro a0 a1 a2 a3 a4 k
  have ih0 := impl_CheckQuote.mono_l k
  unfold impl_CheckQuote.f
  repeat' first
      | (with_reducible exact ih0 _ _ _ _ _ _)
      | (with_reducible exact impl_ypower.mono _ _ _)
      | (with_reducible exact impl_yquoteE.mono _ _ _ _)
      | (with_reducible exact LeO.refl _)
      | (with_reducible exact LeO.none _)
      | (with_reducible refine LeO.ite ?_ ?_)
      | (with_reducible refine LeO.bind ?_ (fun _ => ?_))
      | exact ih0 _ _ _ _ _ _
      | exact impl_ypower.mono _ _ _
      | exact impl_yquoteE.mono _ _ _ _
      | exact LeO.none _
      | refine LeO.ite ?_ ?_
      | refine LeO.bind ?_ (fun _ => ?_)
def impl_CheckQuote.T3 : Bool × List (List Nat × List Nat) := (true, [([], []), ([0], [0]), ([1], [1]), ([], []), ([3], [3]), ([], []), ([], []), ([6], [6]), ([], []), ([], []), ([7, 8, 9, 2], [7, 8, 9]), ([5, 10, 10], [5, 10]), ([4, 11], [4, 11]), ([12], [12]), ([2, 13], [2, 13]), ([14, 11, 0, 1, 2, 3, 4, 5, 6, 7, 8, 9, 10, 11, 12, 13, 14], [14])])
def impl_CheckQuote.B3 : List Nat := [0, 1, 3, 0, 8, 0, 0, 64, 0, 0, 967, 2023, 4095, 8191, 16383, 32767]
theorem impl_CheckQuote.tab3 : rtab .any (opsOf Try.f23 3) = impl_CheckQuote.T3 := by kernel_rfl
theorem impl_CheckQuote.bits3 : waitsOk impl_CheckQuote.T3.2 impl_CheckQuote.B3 = true := by kernel_rfl
set_option maxHeartbeats 8000000 in
set_option maxRecDepth 100000 in
theorem impl_CheckQuote.calls (k : Nat) (a0 : Int) (a1 : ByteArray) (A2 : Option Addr) (c2 : Nat) (l2 : List Int) (a3_0 : Int) (a3_1 : Int) (r : Bool) (w : World) (hr2 : Kd.C (Kd.int .i64) w A2 l2.length l2) (hc2 : l2.length ≤ c2) (h : impl_CheckQuote.f k a0 a1 l2 a3_0 a3_1 = some r) :
    Calls Try.prog 23 #[.int .i64 a0, .string a1, .slice A2 l2.length c2, .agg #[.int .i64 a3_0, .int .i64 a3_1]] w fun e w' => e = .returned (.bool r) ∧ Below w.heap.size w w' := by
  have hu41 := Try.underlying41
  have HR2 := Aside0.mk hr2
  have HC2 := Aside0.mk hc2
  clear hr2 hc2
  have HB := Aside0.mk (Below.refl w.heap.size w)
  have H : ((impl_ylongKey.f (([a1] : List ByteArray))).bind fun t147 => (if t147 = true then (impl_CheckQuote.j0 k a0 a1 l2 true a3_0 a3_1) else ((impl_yregsOk.f l2).bind fun t148 => (if t148 = true then ((impl_yin.f a0 2 2147482762).bind fun t149 => (if t149 = true then ((impl_ypower.f k a0 1073741381).bind fun t150 => (if t150 = 1 then ((impl_yin.f a3_0 1 2147482762).bind fun t151 => (if t151 = true then ((impl_yin.f a3_1 0 1073741380).bind fun t152 => (impl_CheckQuote.j0 k a0 a1 l2 (!t152) a3_0 a3_1)) else (impl_CheckQuote.j0 k a0 a1 l2 true a3_0 a3_1))) else (impl_CheckQuote.j0 k a0 a1 l2 true a3_0 a3_1))) else (impl_CheckQuote.j0 k a0 a1 l2 true a3_0 a3_1))) else (impl_CheckQuote.j0 k a0 a1 l2 true a3_0 a3_1))))) = some r := h
  clear h
  have HC5 := Aside0.mk H
  clear H
  go_enter Try.func23, Try.ntmps23
  go_upto_region 1 with (first | ((with_reducible refine gate_dst (N := 7) rfl ?_); refine box_event ?hg (N := 7) ?hd (cs := #[.int .i64 a3_0, .int .i64 a3_1]) (t := 41) ?hr ?_; (case hd => rfl); (case hg => rfl); (case hr => first | (go_simp; done) | (go_simp; rfl)); intro gb143 hg w6 hbox hb; have n0_ := Aside0.mk (below_step (by repeat (first | (with_reducible first | exact HB.out | apply below_alloc | apply pw_below_drewN | apply below_drew1) | exact HB.out)) hb); have n1_ := Aside0.mk (hbox); have n2_ := Aside0.mk ((by rw [hg]; exact (below_size (by repeat (first | (with_reducible first | exact HB.out | apply below_alloc | apply pw_below_drewN | apply below_drew1) | exact HB.out))) : w.heap.size ≤ gb143)); have n3_ := Aside0.mk ((by rw [hg]; exact (below_size (by repeat (first | (with_reducible first | exact HB.out | apply below_alloc | apply pw_below_drewN | apply below_drew1) | exact HB.out))) : w.heap.size ≤ gb143)); clear HB; have HB := n0_; have BK143 := n1_; have GW143 := n2_; have GE143 := n3_; clear n0_ n1_ n2_ n3_; clear hb hbox hg))
  (try simp only [Act.put, List.setIfInBounds_toArray, List.set_cons_zero, List.set_cons_succ])
  go_cut [38] (fun v38 wc => ∃ (kq : Nat) (x38_4 : Bool), v38 = .bool x38_4 ∧ Aside0 (impl_CheckQuote.j0 kq a0 a1 l2 x38_4 a3_0 a3_1 = some r) ∧ Aside0 (kq ≤ k) ∧ Aside0 (wc.heap[gb143]? = some (.cells #[.int .i64 a3_0, .int .i64 a3_1] 41 (0, 0))) ∧ Aside0 (Below w.heap.size w wc))
  case first =>
    have H := HC5.out
    clear HC5
    obtain ⟨y144, hy144⟩ : ∃ y_ : List ByteArray, y_ = (([a1] : List ByteArray)) := ⟨_, rfl⟩
    replace H : ((impl_ylongKey.f y144).bind fun t147 => (if t147 = true then (impl_CheckQuote.j0 k a0 a1 l2 true a3_0 a3_1) else ((impl_yregsOk.f l2).bind fun t148 => (if t148 = true then ((impl_yin.f a0 2 2147482762).bind fun t149 => (if t149 = true then ((impl_ypower.f k a0 1073741381).bind fun t150 => (if t150 = 1 then ((impl_yin.f a3_0 1 2147482762).bind fun t151 => (if t151 = true then ((impl_yin.f a3_1 0 1073741380).bind fun t152 => (impl_CheckQuote.j0 k a0 a1 l2 (!t152) a3_0 a3_1)) else (impl_CheckQuote.j0 k a0 a1 l2 true a3_0 a3_1))) else (impl_CheckQuote.j0 k a0 a1 l2 true a3_0 a3_1))) else (impl_CheckQuote.j0 k a0 a1 l2 true a3_0 a3_1))) else (impl_CheckQuote.j0 k a0 a1 l2 true a3_0 a3_1))))) = some r := by first | (rw [hy144]; with_reducible exact H) | (have H2_ := (Option.bind_some _ _).symm.trans H; rw [hy144]; with_reducible exact H2_) | (have H2_ := (Option.bind_some _ _).symm.trans H; with_reducible exact H2_) | with_reducible exact H | (rw [hy144]; exact H) | exact H
    have Ny144 := Aside0.mk hy144
    clear hy144
    replace H := Option.bind_eq_some_iff.mp H
    obtain ⟨t147, A70, H⟩ := H
    replace H : (if t147 = true then (impl_CheckQuote.j0 k a0 a1 l2 true a3_0 a3_1) else ((impl_yregsOk.f l2).bind fun t148 => (if t148 = true then ((impl_yin.f a0 2 2147482762).bind fun t149 => (if t149 = true then ((impl_ypower.f k a0 1073741381).bind fun t150 => (if t150 = 1 then ((impl_yin.f a3_0 1 2147482762).bind fun t151 => (if t151 = true then ((impl_yin.f a3_1 0 1073741380).bind fun t152 => (impl_CheckQuote.j0 k a0 a1 l2 (!t152) a3_0 a3_1)) else (impl_CheckQuote.j0 k a0 a1 l2 true a3_0 a3_1))) else (impl_CheckQuote.j0 k a0 a1 l2 true a3_0 a3_1))) else (impl_CheckQuote.j0 k a0 a1 l2 true a3_0 a3_1))) else (impl_CheckQuote.j0 k a0 a1 l2 true a3_0 a3_1)))) = some r := H
    have A7 := Aside0.mk A70
    clear A70
    by_cases c8 : t147 = true
    · subst c8
      have H1 : (impl_CheckQuote.j0 k a0 a1 l2 true a3_0 a3_1) = some r := by rw [if_pos rfl] at H; exact H
      clear H
      have H := H1
      clear H1
      have H' := Aside0.mk H
      clear H
      go_wp2_with (first | ((with_reducible refine gate_dst (N := 10) rfl ?_); refine Kd.R_lit Kd.string _ 9 ?hg (N := 10) ?hd (xs := ([a1] : List ByteArray)) (inner := [.string a1]) (ok := fun _ => True) (okp := fun _ => True) ?hr ?hp (fun _ hk => hk) trivial (Below.refl _ _) (Nat.le_refl _) (by simp) ?_; (case hd => rfl); (case hg => rfl); (case hr => first | (go_simp; done) | (go_simp; rfl)); (case hp => exact (Reps.one (show Kd.M Kd.string _ _ _ a1 [.string a1] from rfl) (Reps.none _ _))); intro v145 w9 ho10 hb hg_ hnew_; clear hg_ hnew_; (first | rw [← Ny144.out] at ho10 | (simp only [Int.reduceToNat] at ho10; rw [← Ny144.out] at ho10)); have n0_ := Aside0.mk (Kd.R_lower ho10 (below_size (by repeat (first | (with_reducible first | exact HB.out | apply below_alloc | apply pw_below_drewN | apply below_drew1 | refine below_set ?_ GE143.out) | exact HB.out)))); have n1_ := Aside0.mk (blk_below (g := gb143) (o := .cells #[.int .i64 a3_0, .int .i64 a3_1] 41 (0, 0)) (by (with_reducible repeat (first | refine blk_drewN ?_ _ | refine blk_drew ?_ | refine blk_alloc ?_ _)); exact BK143.out) hb); have n2_ := Aside0.mk (below_step (by repeat (first | (with_reducible first | exact HB.out | apply below_alloc | apply pw_below_drewN | apply below_drew1 | refine below_set ?_ GE143.out) | exact HB.out)) hb); clear BK143; clear HB; have HO146 := n0_; have BK143 := n1_; have HB := n2_; clear n0_ n1_ n2_; clear hb ho10; obtain ⟨Ao11, co11, eo11⟩ := Kd.R_slice HO146.out; subst eo11) | ((with_reducible refine gate_callee (f := 26) rfl ?_); refine goesL_ (some 11) rfl rfl Try.func26 (by kernel_rfl) rfl #[.slice Ao11 y144.length co11] rfl (by (try simp only [List.map_toArray, List.map_cons, List.map_nil]); first | done | rfl | (simp only [List.length_drop, List.length_take]; rfl)) ?_; (with_reducible refine (impl_ylongKey.calls _ _ y144 true _ ?side1 ?side2 A7.out).mono ?_); (case side1 => repeat (first | exact (Kd.R_reads' HO146.out).2.2 | (with_reducible refine Kd.C_alloc ?_ _) | (with_reducible refine Kd.C_drewN ?_ _) | (with_reducible refine Kd.C_drew ?_))); (case side2 => exact (Kd.R_reads' HO146.out).2.1); rintro e w12 ⟨rfl, hb⟩; refine ⟨_, rfl, ?_⟩; have n0_ := Aside0.mk (Kd.R_below (by (with_reducible repeat (first | apply Kd.R_alloc | apply Kd.R_drewN | apply Kd.R_drew)); exact HO146.out) hb); have n1_ := Aside0.mk (blk_below (g := gb143) (o := .cells #[.int .i64 a3_0, .int .i64 a3_1] 41 (0, 0)) (by (with_reducible repeat (first | refine blk_drewN ?_ _ | refine blk_drew ?_ | refine blk_alloc ?_ _)); exact BK143.out) hb); have n2_ := Aside0.mk (below_step (by repeat (first | (with_reducible first | exact HB.out | apply below_alloc | apply pw_below_drewN | apply below_drew1 | refine below_set ?_ GE143.out) | exact HB.out)) hb); clear HO146; clear BK143; clear HB; have HO146 := n0_; have BK143 := n1_; have HB := n2_; clear n0_ n1_ n2_; (try clear hb); (try clear hb2); (try clear hk); (try clear hi)))
      go_meet
      case rel => exact ⟨_, (true), (by first | rfl | (simp; done) | (simp [*]; done)), H', ⟨by first | omega | exact Nat.le_refl _⟩, ⟨by (with_reducible repeat (first | refine blk_drewN ?_ _ | refine blk_drew ?_ | refine blk_alloc ?_ _)); exact BK143.out⟩, ⟨by repeat (first | (with_reducible first | exact HB.out | apply below_alloc | apply pw_below_drewN | apply below_drew1 | refine below_set ?_ GE143.out) | exact HB.out)⟩⟩
    · replace c8 := Bool.eq_false_iff.mpr c8
      subst c8
      have H1 : ((impl_yregsOk.f l2).bind fun t148 => (if t148 = true then ((impl_yin.f a0 2 2147482762).bind fun t149 => (if t149 = true then ((impl_ypower.f k a0 1073741381).bind fun t150 => (if t150 = 1 then ((impl_yin.f a3_0 1 2147482762).bind fun t151 => (if t151 = true then ((impl_yin.f a3_1 0 1073741380).bind fun t152 => (impl_CheckQuote.j0 k a0 a1 l2 (!t152) a3_0 a3_1)) else (impl_CheckQuote.j0 k a0 a1 l2 true a3_0 a3_1))) else (impl_CheckQuote.j0 k a0 a1 l2 true a3_0 a3_1))) else (impl_CheckQuote.j0 k a0 a1 l2 true a3_0 a3_1))) else (impl_CheckQuote.j0 k a0 a1 l2 true a3_0 a3_1))) = some r := by rw [if_neg (show ¬ (false = true) by decide)] at H; exact H
      clear H
      have H := H1
      clear H1
      replace H := Option.bind_eq_some_iff.mp H
      obtain ⟨t148, A130, H⟩ := H
      replace H : (if t148 = true then ((impl_yin.f a0 2 2147482762).bind fun t149 => (if t149 = true then ((impl_ypower.f k a0 1073741381).bind fun t150 => (if t150 = 1 then ((impl_yin.f a3_0 1 2147482762).bind fun t151 => (if t151 = true then ((impl_yin.f a3_1 0 1073741380).bind fun t152 => (impl_CheckQuote.j0 k a0 a1 l2 (!t152) a3_0 a3_1)) else (impl_CheckQuote.j0 k a0 a1 l2 true a3_0 a3_1))) else (impl_CheckQuote.j0 k a0 a1 l2 true a3_0 a3_1))) else (impl_CheckQuote.j0 k a0 a1 l2 true a3_0 a3_1))) else (impl_CheckQuote.j0 k a0 a1 l2 true a3_0 a3_1)) = some r := H
      have A13 := Aside0.mk A130
      clear A130
      by_cases c14 : t148 = true
      · subst c14
        have H1 : ((impl_yin.f a0 2 2147482762).bind fun t149 => (if t149 = true then ((impl_ypower.f k a0 1073741381).bind fun t150 => (if t150 = 1 then ((impl_yin.f a3_0 1 2147482762).bind fun t151 => (if t151 = true then ((impl_yin.f a3_1 0 1073741380).bind fun t152 => (impl_CheckQuote.j0 k a0 a1 l2 (!t152) a3_0 a3_1)) else (impl_CheckQuote.j0 k a0 a1 l2 true a3_0 a3_1))) else (impl_CheckQuote.j0 k a0 a1 l2 true a3_0 a3_1))) else (impl_CheckQuote.j0 k a0 a1 l2 true a3_0 a3_1))) = some r := by rw [if_pos rfl] at H; exact H
        clear H
        have H := H1
        clear H1
        replace H := Option.bind_eq_some_iff.mp H
        obtain ⟨t149, A150, H⟩ := H
        replace H : (if t149 = true then ((impl_ypower.f k a0 1073741381).bind fun t150 => (if t150 = 1 then ((impl_yin.f a3_0 1 2147482762).bind fun t151 => (if t151 = true then ((impl_yin.f a3_1 0 1073741380).bind fun t152 => (impl_CheckQuote.j0 k a0 a1 l2 (!t152) a3_0 a3_1)) else (impl_CheckQuote.j0 k a0 a1 l2 true a3_0 a3_1))) else (impl_CheckQuote.j0 k a0 a1 l2 true a3_0 a3_1))) else (impl_CheckQuote.j0 k a0 a1 l2 true a3_0 a3_1)) = some r := H
        have A15 := Aside0.mk A150
        clear A150
        by_cases c16 : t149 = true
        · subst c16
          have H1 : ((impl_ypower.f k a0 1073741381).bind fun t150 => (if t150 = 1 then ((impl_yin.f a3_0 1 2147482762).bind fun t151 => (if t151 = true then ((impl_yin.f a3_1 0 1073741380).bind fun t152 => (impl_CheckQuote.j0 k a0 a1 l2 (!t152) a3_0 a3_1)) else (impl_CheckQuote.j0 k a0 a1 l2 true a3_0 a3_1))) else (impl_CheckQuote.j0 k a0 a1 l2 true a3_0 a3_1))) = some r := by rw [if_pos rfl] at H; exact H
          clear H
          have H := H1
          clear H1
          replace H := Option.bind_eq_some_iff.mp H
          obtain ⟨t150, A170, H⟩ := H
          replace H : (if t150 = 1 then ((impl_yin.f a3_0 1 2147482762).bind fun t151 => (if t151 = true then ((impl_yin.f a3_1 0 1073741380).bind fun t152 => (impl_CheckQuote.j0 k a0 a1 l2 (!t152) a3_0 a3_1)) else (impl_CheckQuote.j0 k a0 a1 l2 true a3_0 a3_1))) else (impl_CheckQuote.j0 k a0 a1 l2 true a3_0 a3_1)) = some r := H
          have A17 := Aside0.mk A170
          clear A170
          by_cases c18 : t150 = 1
          · rw [if_pos c18] at H
            have c18b0 : (t150 == 1) = true := beq_iff_eq.mpr c18
            have c18b1 : (t150 != 1) = false := bne_eq_false_iff_eq.mpr c18
            clear c18
            (first | rw [c18b0] | (simp only [i64_w, i32_w]; rw [c18b0]) | skip)
            replace H := Option.bind_eq_some_iff.mp H
            obtain ⟨t151, A190, H⟩ := H
            replace H : (if t151 = true then ((impl_yin.f a3_1 0 1073741380).bind fun t152 => (impl_CheckQuote.j0 k a0 a1 l2 (!t152) a3_0 a3_1)) else (impl_CheckQuote.j0 k a0 a1 l2 true a3_0 a3_1)) = some r := H
            have A19 := Aside0.mk A190
            clear A190
            by_cases c20 : t151 = true
            · subst c20
              have H1 : ((impl_yin.f a3_1 0 1073741380).bind fun t152 => (impl_CheckQuote.j0 k a0 a1 l2 (!t152) a3_0 a3_1)) = some r := by rw [if_pos rfl] at H; exact H
              clear H
              have H := H1
              clear H1
              replace H := Option.bind_eq_some_iff.mp H
              obtain ⟨t152, A210, H⟩ := H
              replace H : (impl_CheckQuote.j0 k a0 a1 l2 (!t152) a3_0 a3_1) = some r := H
              have A21 := Aside0.mk A210
              clear A210
              have H' := Aside0.mk H
              clear H
              go_wp2_with (first | ((with_reducible refine gate_dst (N := 10) rfl ?_); refine Kd.R_lit Kd.string _ 9 ?hg (N := 10) ?hd (xs := ([a1] : List ByteArray)) (inner := [.string a1]) (ok := fun _ => True) (okp := fun _ => True) ?hr ?hp (fun _ hk => hk) trivial (Below.refl _ _) (Nat.le_refl _) (by simp) ?_; (case hd => rfl); (case hg => rfl); (case hr => first | (go_simp; done) | (go_simp; rfl)); (case hp => exact (Reps.one (show Kd.M Kd.string _ _ _ a1 [.string a1] from rfl) (Reps.none _ _))); intro v145 w22 ho23 hb hg_ hnew_; clear hg_ hnew_; (first | rw [← Ny144.out] at ho23 | (simp only [Int.reduceToNat] at ho23; rw [← Ny144.out] at ho23)); have n0_ := Aside0.mk (Kd.R_lower ho23 (below_size (by repeat (first | (with_reducible first | exact HB.out | apply below_alloc | apply pw_below_drewN | apply below_drew1 | refine below_set ?_ GE143.out) | exact HB.out)))); have n1_ := Aside0.mk (blk_below (g := gb143) (o := .cells #[.int .i64 a3_0, .int .i64 a3_1] 41 (0, 0)) (by (with_reducible repeat (first | refine blk_drewN ?_ _ | refine blk_drew ?_ | refine blk_alloc ?_ _)); exact BK143.out) hb); have n2_ := Aside0.mk (below_step (by repeat (first | (with_reducible first | exact HB.out | apply below_alloc | apply pw_below_drewN | apply below_drew1 | refine below_set ?_ GE143.out) | exact HB.out)) hb); clear BK143; clear HB; have HO146 := n0_; have BK143 := n1_; have HB := n2_; clear n0_ n1_ n2_; clear hb ho23; obtain ⟨Ao24, co24, eo24⟩ := Kd.R_slice HO146.out; subst eo24) | ((with_reducible refine gate_callee (f := 26) rfl ?_); refine goesL_ (some 11) rfl rfl Try.func26 (by kernel_rfl) rfl #[.slice Ao24 y144.length co24] rfl (by (try simp only [List.map_toArray, List.map_cons, List.map_nil]); first | done | rfl | (simp only [List.length_drop, List.length_take]; rfl)) ?_; (with_reducible refine (impl_ylongKey.calls _ _ y144 false _ ?side1 ?side2 A7.out).mono ?_); (case side1 => repeat (first | exact (Kd.R_reads' HO146.out).2.2 | (with_reducible refine Kd.C_alloc ?_ _) | (with_reducible refine Kd.C_drewN ?_ _) | (with_reducible refine Kd.C_drew ?_))); (case side2 => exact (Kd.R_reads' HO146.out).2.1); rintro e w25 ⟨rfl, hb⟩; refine ⟨_, rfl, ?_⟩; have n0_ := Aside0.mk (Kd.R_below (by (with_reducible repeat (first | apply Kd.R_alloc | apply Kd.R_drewN | apply Kd.R_drew)); exact HO146.out) hb); have n1_ := Aside0.mk (blk_below (g := gb143) (o := .cells #[.int .i64 a3_0, .int .i64 a3_1] 41 (0, 0)) (by (with_reducible repeat (first | refine blk_drewN ?_ _ | refine blk_drew ?_ | refine blk_alloc ?_ _)); exact BK143.out) hb); have n2_ := Aside0.mk (below_step (by repeat (first | (with_reducible first | exact HB.out | apply below_alloc | apply pw_below_drewN | apply below_drew1 | refine below_set ?_ GE143.out) | exact HB.out)) hb); clear HO146; clear BK143; clear HB; have HO146 := n0_; have BK143 := n1_; have HB := n2_; clear n0_ n1_ n2_; (try clear hb); (try clear hb2); (try clear hk); (try clear hi)) | (go_at_call 37; (with_reducible refine (impl_yregsOk.calls _ _ l2 true _ ?side1 ?side2 A13.out).mono ?_); (case side1 => repeat (first | exact (Kd.C_below HR2.out HB.out) | (with_reducible refine Kd.C_alloc ?_ _) | (with_reducible refine Kd.C_drewN ?_ _) | (with_reducible refine Kd.C_drew ?_))); (case side2 => exact HC2.out); rintro e w26 ⟨rfl, hb⟩; have n0_ := Aside0.mk (Kd.R_below (by (with_reducible repeat (first | apply Kd.R_alloc | apply Kd.R_drewN | apply Kd.R_drew)); exact HO146.out) hb); have n1_ := Aside0.mk (blk_below (g := gb143) (o := .cells #[.int .i64 a3_0, .int .i64 a3_1] 41 (0, 0)) (by (with_reducible repeat (first | refine blk_drewN ?_ _ | refine blk_drew ?_ | refine blk_alloc ?_ _)); exact BK143.out) hb); have n2_ := Aside0.mk (below_step (by repeat (first | (with_reducible first | exact HB.out | apply below_alloc | apply pw_below_drewN | apply below_drew1 | refine below_set ?_ GE143.out) | exact HB.out)) hb); clear HO146; clear BK143; clear HB; have HO146 := n0_; have BK143 := n1_; have HB := n2_; clear n0_ n1_ n2_; (try clear hb); (try clear hb2); (try clear hk); (try clear hi)) | (go_at_call 40; (with_reducible refine (impl_yin.calls a0 2 2147482762 true _ A15.out).mono ?_); rintro e w' ⟨rfl, ⟨nd, rfl⟩⟩) | (go_at_call 46; (with_reducible refine (impl_ypower.calls k a0 1073741381 t150 _ A17.out).mono ?_); rintro e w' ⟨rfl, ⟨nd, rfl⟩⟩; have hcz27_0 : w26.cell? ⟨gb143, 0, none⟩ = some (.int .i64 a3_0) := (blk_cell BK143.out 0).trans rfl; have hcz27_1 : w26.cell? ⟨gb143, 1, none⟩ = some (.int .i64 a3_1) := (blk_cell BK143.out 1).trans rfl; have hfz27_0 := blk_frozen BK143.out 0; have hfz27_1 := blk_frozen BK143.out 1) | (go_at_call 40; (with_reducible refine (impl_yin.calls a3_0 1 2147482762 true _ A19.out).mono ?_); rintro e w' ⟨rfl, ⟨nd, rfl⟩⟩) | (go_at_call 40; (with_reducible refine (impl_yin.calls a3_1 0 1073741380 t152 _ A21.out).mono ?_); rintro e w' ⟨rfl, ⟨nd, rfl⟩⟩))
              go_meet
              case rel => exact ⟨_, (!t152), (by first | rfl | (simp; done) | (simp [*]; done)), H', ⟨by first | omega | exact Nat.le_refl _⟩, ⟨by (with_reducible repeat (first | refine blk_drewN ?_ _ | refine blk_drew ?_ | refine blk_alloc ?_ _)); exact BK143.out⟩, ⟨by repeat (first | (with_reducible first | exact HB.out | apply below_alloc | apply pw_below_drewN | apply below_drew1 | refine below_set ?_ GE143.out) | exact HB.out)⟩⟩
            · replace c20 := Bool.eq_false_iff.mpr c20
              subst c20
              have H1 : (impl_CheckQuote.j0 k a0 a1 l2 true a3_0 a3_1) = some r := by rw [if_neg (show ¬ (false = true) by decide)] at H; exact H
              clear H
              have H := H1
              clear H1
              have H' := Aside0.mk H
              clear H
              go_wp2_with (first | ((with_reducible refine gate_dst (N := 10) rfl ?_); refine Kd.R_lit Kd.string _ 9 ?hg (N := 10) ?hd (xs := ([a1] : List ByteArray)) (inner := [.string a1]) (ok := fun _ => True) (okp := fun _ => True) ?hr ?hp (fun _ hk => hk) trivial (Below.refl _ _) (Nat.le_refl _) (by simp) ?_; (case hd => rfl); (case hg => rfl); (case hr => first | (go_simp; done) | (go_simp; rfl)); (case hp => exact (Reps.one (show Kd.M Kd.string _ _ _ a1 [.string a1] from rfl) (Reps.none _ _))); intro v145 w28 ho29 hb hg_ hnew_; clear hg_ hnew_; (first | rw [← Ny144.out] at ho29 | (simp only [Int.reduceToNat] at ho29; rw [← Ny144.out] at ho29)); have n0_ := Aside0.mk (Kd.R_lower ho29 (below_size (by repeat (first | (with_reducible first | exact HB.out | apply below_alloc | apply pw_below_drewN | apply below_drew1 | refine below_set ?_ GE143.out) | exact HB.out)))); have n1_ := Aside0.mk (blk_below (g := gb143) (o := .cells #[.int .i64 a3_0, .int .i64 a3_1] 41 (0, 0)) (by (with_reducible repeat (first | refine blk_drewN ?_ _ | refine blk_drew ?_ | refine blk_alloc ?_ _)); exact BK143.out) hb); have n2_ := Aside0.mk (below_step (by repeat (first | (with_reducible first | exact HB.out | apply below_alloc | apply pw_below_drewN | apply below_drew1 | refine below_set ?_ GE143.out) | exact HB.out)) hb); clear BK143; clear HB; have HO146 := n0_; have BK143 := n1_; have HB := n2_; clear n0_ n1_ n2_; clear hb ho29; obtain ⟨Ao30, co30, eo30⟩ := Kd.R_slice HO146.out; subst eo30) | ((with_reducible refine gate_callee (f := 26) rfl ?_); refine goesL_ (some 11) rfl rfl Try.func26 (by kernel_rfl) rfl #[.slice Ao30 y144.length co30] rfl (by (try simp only [List.map_toArray, List.map_cons, List.map_nil]); first | done | rfl | (simp only [List.length_drop, List.length_take]; rfl)) ?_; (with_reducible refine (impl_ylongKey.calls _ _ y144 false _ ?side1 ?side2 A7.out).mono ?_); (case side1 => repeat (first | exact (Kd.R_reads' HO146.out).2.2 | (with_reducible refine Kd.C_alloc ?_ _) | (with_reducible refine Kd.C_drewN ?_ _) | (with_reducible refine Kd.C_drew ?_))); (case side2 => exact (Kd.R_reads' HO146.out).2.1); rintro e w31 ⟨rfl, hb⟩; refine ⟨_, rfl, ?_⟩; have n0_ := Aside0.mk (Kd.R_below (by (with_reducible repeat (first | apply Kd.R_alloc | apply Kd.R_drewN | apply Kd.R_drew)); exact HO146.out) hb); have n1_ := Aside0.mk (blk_below (g := gb143) (o := .cells #[.int .i64 a3_0, .int .i64 a3_1] 41 (0, 0)) (by (with_reducible repeat (first | refine blk_drewN ?_ _ | refine blk_drew ?_ | refine blk_alloc ?_ _)); exact BK143.out) hb); have n2_ := Aside0.mk (below_step (by repeat (first | (with_reducible first | exact HB.out | apply below_alloc | apply pw_below_drewN | apply below_drew1 | refine below_set ?_ GE143.out) | exact HB.out)) hb); clear HO146; clear BK143; clear HB; have HO146 := n0_; have BK143 := n1_; have HB := n2_; clear n0_ n1_ n2_; (try clear hb); (try clear hb2); (try clear hk); (try clear hi)) | (go_at_call 37; (with_reducible refine (impl_yregsOk.calls _ _ l2 true _ ?side1 ?side2 A13.out).mono ?_); (case side1 => repeat (first | exact (Kd.C_below HR2.out HB.out) | (with_reducible refine Kd.C_alloc ?_ _) | (with_reducible refine Kd.C_drewN ?_ _) | (with_reducible refine Kd.C_drew ?_))); (case side2 => exact HC2.out); rintro e w32 ⟨rfl, hb⟩; have n0_ := Aside0.mk (Kd.R_below (by (with_reducible repeat (first | apply Kd.R_alloc | apply Kd.R_drewN | apply Kd.R_drew)); exact HO146.out) hb); have n1_ := Aside0.mk (blk_below (g := gb143) (o := .cells #[.int .i64 a3_0, .int .i64 a3_1] 41 (0, 0)) (by (with_reducible repeat (first | refine blk_drewN ?_ _ | refine blk_drew ?_ | refine blk_alloc ?_ _)); exact BK143.out) hb); have n2_ := Aside0.mk (below_step (by repeat (first | (with_reducible first | exact HB.out | apply below_alloc | apply pw_below_drewN | apply below_drew1 | refine below_set ?_ GE143.out) | exact HB.out)) hb); clear HO146; clear BK143; clear HB; have HO146 := n0_; have BK143 := n1_; have HB := n2_; clear n0_ n1_ n2_; (try clear hb); (try clear hb2); (try clear hk); (try clear hi)) | (go_at_call 40; (with_reducible refine (impl_yin.calls a0 2 2147482762 true _ A15.out).mono ?_); rintro e w' ⟨rfl, ⟨nd, rfl⟩⟩) | (go_at_call 46; (with_reducible refine (impl_ypower.calls k a0 1073741381 t150 _ A17.out).mono ?_); rintro e w' ⟨rfl, ⟨nd, rfl⟩⟩; have hcz33_0 : w32.cell? ⟨gb143, 0, none⟩ = some (.int .i64 a3_0) := (blk_cell BK143.out 0).trans rfl; have hcz33_1 : w32.cell? ⟨gb143, 1, none⟩ = some (.int .i64 a3_1) := (blk_cell BK143.out 1).trans rfl; have hfz33_0 := blk_frozen BK143.out 0; have hfz33_1 := blk_frozen BK143.out 1) | (go_at_call 40; (with_reducible refine (impl_yin.calls a3_0 1 2147482762 false _ A19.out).mono ?_); rintro e w' ⟨rfl, ⟨nd, rfl⟩⟩))
              go_meet
              case rel => exact ⟨_, (true), (by first | rfl | (simp; done) | (simp [*]; done)), H', ⟨by first | omega | exact Nat.le_refl _⟩, ⟨by (with_reducible repeat (first | refine blk_drewN ?_ _ | refine blk_drew ?_ | refine blk_alloc ?_ _)); exact BK143.out⟩, ⟨by repeat (first | (with_reducible first | exact HB.out | apply below_alloc | apply pw_below_drewN | apply below_drew1 | refine below_set ?_ GE143.out) | exact HB.out)⟩⟩
          · rw [if_neg c18] at H
            have c18b0 : (t150 == 1) = false := beq_eq_false_iff_ne.mpr c18
            have c18b1 : (t150 != 1) = true := bne_iff_ne.mpr c18
            (first | rw [c18b0] | (simp only [i64_w, i32_w]; rw [c18b0]) | skip)
            have H' := Aside0.mk H
            clear H
            go_wp2_with (first | ((with_reducible refine gate_dst (N := 10) rfl ?_); refine Kd.R_lit Kd.string _ 9 ?hg (N := 10) ?hd (xs := ([a1] : List ByteArray)) (inner := [.string a1]) (ok := fun _ => True) (okp := fun _ => True) ?hr ?hp (fun _ hk => hk) trivial (Below.refl _ _) (Nat.le_refl _) (by simp) ?_; (case hd => rfl); (case hg => rfl); (case hr => first | (go_simp; done) | (go_simp; rfl)); (case hp => exact (Reps.one (show Kd.M Kd.string _ _ _ a1 [.string a1] from rfl) (Reps.none _ _))); intro v145 w34 ho35 hb hg_ hnew_; clear hg_ hnew_; (first | rw [← Ny144.out] at ho35 | (simp only [Int.reduceToNat] at ho35; rw [← Ny144.out] at ho35)); have n0_ := Aside0.mk (Kd.R_lower ho35 (below_size (by repeat (first | (with_reducible first | exact HB.out | apply below_alloc | apply pw_below_drewN | apply below_drew1 | refine below_set ?_ GE143.out) | exact HB.out)))); have n1_ := Aside0.mk (blk_below (g := gb143) (o := .cells #[.int .i64 a3_0, .int .i64 a3_1] 41 (0, 0)) (by (with_reducible repeat (first | refine blk_drewN ?_ _ | refine blk_drew ?_ | refine blk_alloc ?_ _)); exact BK143.out) hb); have n2_ := Aside0.mk (below_step (by repeat (first | (with_reducible first | exact HB.out | apply below_alloc | apply pw_below_drewN | apply below_drew1 | refine below_set ?_ GE143.out) | exact HB.out)) hb); clear BK143; clear HB; have HO146 := n0_; have BK143 := n1_; have HB := n2_; clear n0_ n1_ n2_; clear hb ho35; obtain ⟨Ao36, co36, eo36⟩ := Kd.R_slice HO146.out; subst eo36) | ((with_reducible refine gate_callee (f := 26) rfl ?_); refine goesL_ (some 11) rfl rfl Try.func26 (by kernel_rfl) rfl #[.slice Ao36 y144.length co36] rfl (by (try simp only [List.map_toArray, List.map_cons, List.map_nil]); first | done | rfl | (simp only [List.length_drop, List.length_take]; rfl)) ?_; (with_reducible refine (impl_ylongKey.calls _ _ y144 false _ ?side1 ?side2 A7.out).mono ?_); (case side1 => repeat (first | exact (Kd.R_reads' HO146.out).2.2 | (with_reducible refine Kd.C_alloc ?_ _) | (with_reducible refine Kd.C_drewN ?_ _) | (with_reducible refine Kd.C_drew ?_))); (case side2 => exact (Kd.R_reads' HO146.out).2.1); rintro e w37 ⟨rfl, hb⟩; refine ⟨_, rfl, ?_⟩; have n0_ := Aside0.mk (Kd.R_below (by (with_reducible repeat (first | apply Kd.R_alloc | apply Kd.R_drewN | apply Kd.R_drew)); exact HO146.out) hb); have n1_ := Aside0.mk (blk_below (g := gb143) (o := .cells #[.int .i64 a3_0, .int .i64 a3_1] 41 (0, 0)) (by (with_reducible repeat (first | refine blk_drewN ?_ _ | refine blk_drew ?_ | refine blk_alloc ?_ _)); exact BK143.out) hb); have n2_ := Aside0.mk (below_step (by repeat (first | (with_reducible first | exact HB.out | apply below_alloc | apply pw_below_drewN | apply below_drew1 | refine below_set ?_ GE143.out) | exact HB.out)) hb); clear HO146; clear BK143; clear HB; have HO146 := n0_; have BK143 := n1_; have HB := n2_; clear n0_ n1_ n2_; (try clear hb); (try clear hb2); (try clear hk); (try clear hi)) | (go_at_call 37; (with_reducible refine (impl_yregsOk.calls _ _ l2 true _ ?side1 ?side2 A13.out).mono ?_); (case side1 => repeat (first | exact (Kd.C_below HR2.out HB.out) | (with_reducible refine Kd.C_alloc ?_ _) | (with_reducible refine Kd.C_drewN ?_ _) | (with_reducible refine Kd.C_drew ?_))); (case side2 => exact HC2.out); rintro e w38 ⟨rfl, hb⟩; have n0_ := Aside0.mk (Kd.R_below (by (with_reducible repeat (first | apply Kd.R_alloc | apply Kd.R_drewN | apply Kd.R_drew)); exact HO146.out) hb); have n1_ := Aside0.mk (blk_below (g := gb143) (o := .cells #[.int .i64 a3_0, .int .i64 a3_1] 41 (0, 0)) (by (with_reducible repeat (first | refine blk_drewN ?_ _ | refine blk_drew ?_ | refine blk_alloc ?_ _)); exact BK143.out) hb); have n2_ := Aside0.mk (below_step (by repeat (first | (with_reducible first | exact HB.out | apply below_alloc | apply pw_below_drewN | apply below_drew1 | refine below_set ?_ GE143.out) | exact HB.out)) hb); clear HO146; clear BK143; clear HB; have HO146 := n0_; have BK143 := n1_; have HB := n2_; clear n0_ n1_ n2_; (try clear hb); (try clear hb2); (try clear hk); (try clear hi)) | (go_at_call 40; (with_reducible refine (impl_yin.calls a0 2 2147482762 true _ A15.out).mono ?_); rintro e w' ⟨rfl, ⟨nd, rfl⟩⟩) | (go_at_call 46; (with_reducible refine (impl_ypower.calls k a0 1073741381 t150 _ A17.out).mono ?_); rintro e w' ⟨rfl, ⟨nd, rfl⟩⟩))
            go_meet
            case rel => exact ⟨_, (true), (by first | rfl | (simp; done) | (simp [*]; done)), H', ⟨by first | omega | exact Nat.le_refl _⟩, ⟨by (with_reducible repeat (first | refine blk_drewN ?_ _ | refine blk_drew ?_ | refine blk_alloc ?_ _)); exact BK143.out⟩, ⟨by repeat (first | (with_reducible first | exact HB.out | apply below_alloc | apply pw_below_drewN | apply below_drew1 | refine below_set ?_ GE143.out) | exact HB.out)⟩⟩
        · replace c16 := Bool.eq_false_iff.mpr c16
          subst c16
          have H1 : (impl_CheckQuote.j0 k a0 a1 l2 true a3_0 a3_1) = some r := by rw [if_neg (show ¬ (false = true) by decide)] at H; exact H
          clear H
          have H := H1
          clear H1
          have H' := Aside0.mk H
          clear H
          go_wp2_with (first | ((with_reducible refine gate_dst (N := 10) rfl ?_); refine Kd.R_lit Kd.string _ 9 ?hg (N := 10) ?hd (xs := ([a1] : List ByteArray)) (inner := [.string a1]) (ok := fun _ => True) (okp := fun _ => True) ?hr ?hp (fun _ hk => hk) trivial (Below.refl _ _) (Nat.le_refl _) (by simp) ?_; (case hd => rfl); (case hg => rfl); (case hr => first | (go_simp; done) | (go_simp; rfl)); (case hp => exact (Reps.one (show Kd.M Kd.string _ _ _ a1 [.string a1] from rfl) (Reps.none _ _))); intro v145 w39 ho40 hb hg_ hnew_; clear hg_ hnew_; (first | rw [← Ny144.out] at ho40 | (simp only [Int.reduceToNat] at ho40; rw [← Ny144.out] at ho40)); have n0_ := Aside0.mk (Kd.R_lower ho40 (below_size (by repeat (first | (with_reducible first | exact HB.out | apply below_alloc | apply pw_below_drewN | apply below_drew1 | refine below_set ?_ GE143.out) | exact HB.out)))); have n1_ := Aside0.mk (blk_below (g := gb143) (o := .cells #[.int .i64 a3_0, .int .i64 a3_1] 41 (0, 0)) (by (with_reducible repeat (first | refine blk_drewN ?_ _ | refine blk_drew ?_ | refine blk_alloc ?_ _)); exact BK143.out) hb); have n2_ := Aside0.mk (below_step (by repeat (first | (with_reducible first | exact HB.out | apply below_alloc | apply pw_below_drewN | apply below_drew1 | refine below_set ?_ GE143.out) | exact HB.out)) hb); clear BK143; clear HB; have HO146 := n0_; have BK143 := n1_; have HB := n2_; clear n0_ n1_ n2_; clear hb ho40; obtain ⟨Ao41, co41, eo41⟩ := Kd.R_slice HO146.out; subst eo41) | ((with_reducible refine gate_callee (f := 26) rfl ?_); refine goesL_ (some 11) rfl rfl Try.func26 (by kernel_rfl) rfl #[.slice Ao41 y144.length co41] rfl (by (try simp only [List.map_toArray, List.map_cons, List.map_nil]); first | done | rfl | (simp only [List.length_drop, List.length_take]; rfl)) ?_; (with_reducible refine (impl_ylongKey.calls _ _ y144 false _ ?side1 ?side2 A7.out).mono ?_); (case side1 => repeat (first | exact (Kd.R_reads' HO146.out).2.2 | (with_reducible refine Kd.C_alloc ?_ _) | (with_reducible refine Kd.C_drewN ?_ _) | (with_reducible refine Kd.C_drew ?_))); (case side2 => exact (Kd.R_reads' HO146.out).2.1); rintro e w42 ⟨rfl, hb⟩; refine ⟨_, rfl, ?_⟩; have n0_ := Aside0.mk (Kd.R_below (by (with_reducible repeat (first | apply Kd.R_alloc | apply Kd.R_drewN | apply Kd.R_drew)); exact HO146.out) hb); have n1_ := Aside0.mk (blk_below (g := gb143) (o := .cells #[.int .i64 a3_0, .int .i64 a3_1] 41 (0, 0)) (by (with_reducible repeat (first | refine blk_drewN ?_ _ | refine blk_drew ?_ | refine blk_alloc ?_ _)); exact BK143.out) hb); have n2_ := Aside0.mk (below_step (by repeat (first | (with_reducible first | exact HB.out | apply below_alloc | apply pw_below_drewN | apply below_drew1 | refine below_set ?_ GE143.out) | exact HB.out)) hb); clear HO146; clear BK143; clear HB; have HO146 := n0_; have BK143 := n1_; have HB := n2_; clear n0_ n1_ n2_; (try clear hb); (try clear hb2); (try clear hk); (try clear hi)) | (go_at_call 37; (with_reducible refine (impl_yregsOk.calls _ _ l2 true _ ?side1 ?side2 A13.out).mono ?_); (case side1 => repeat (first | exact (Kd.C_below HR2.out HB.out) | (with_reducible refine Kd.C_alloc ?_ _) | (with_reducible refine Kd.C_drewN ?_ _) | (with_reducible refine Kd.C_drew ?_))); (case side2 => exact HC2.out); rintro e w43 ⟨rfl, hb⟩; have n0_ := Aside0.mk (Kd.R_below (by (with_reducible repeat (first | apply Kd.R_alloc | apply Kd.R_drewN | apply Kd.R_drew)); exact HO146.out) hb); have n1_ := Aside0.mk (blk_below (g := gb143) (o := .cells #[.int .i64 a3_0, .int .i64 a3_1] 41 (0, 0)) (by (with_reducible repeat (first | refine blk_drewN ?_ _ | refine blk_drew ?_ | refine blk_alloc ?_ _)); exact BK143.out) hb); have n2_ := Aside0.mk (below_step (by repeat (first | (with_reducible first | exact HB.out | apply below_alloc | apply pw_below_drewN | apply below_drew1 | refine below_set ?_ GE143.out) | exact HB.out)) hb); clear HO146; clear BK143; clear HB; have HO146 := n0_; have BK143 := n1_; have HB := n2_; clear n0_ n1_ n2_; (try clear hb); (try clear hb2); (try clear hk); (try clear hi)) | (go_at_call 40; (with_reducible refine (impl_yin.calls a0 2 2147482762 false _ A15.out).mono ?_); rintro e w' ⟨rfl, ⟨nd, rfl⟩⟩))
          go_meet
          case rel => exact ⟨_, (true), (by first | rfl | (simp; done) | (simp [*]; done)), H', ⟨by first | omega | exact Nat.le_refl _⟩, ⟨by (with_reducible repeat (first | refine blk_drewN ?_ _ | refine blk_drew ?_ | refine blk_alloc ?_ _)); exact BK143.out⟩, ⟨by repeat (first | (with_reducible first | exact HB.out | apply below_alloc | apply pw_below_drewN | apply below_drew1 | refine below_set ?_ GE143.out) | exact HB.out)⟩⟩
      · replace c14 := Bool.eq_false_iff.mpr c14
        subst c14
        have H1 : (impl_CheckQuote.j0 k a0 a1 l2 true a3_0 a3_1) = some r := by rw [if_neg (show ¬ (false = true) by decide)] at H; exact H
        clear H
        have H := H1
        clear H1
        have H' := Aside0.mk H
        clear H
        go_wp2_with (first | ((with_reducible refine gate_dst (N := 10) rfl ?_); refine Kd.R_lit Kd.string _ 9 ?hg (N := 10) ?hd (xs := ([a1] : List ByteArray)) (inner := [.string a1]) (ok := fun _ => True) (okp := fun _ => True) ?hr ?hp (fun _ hk => hk) trivial (Below.refl _ _) (Nat.le_refl _) (by simp) ?_; (case hd => rfl); (case hg => rfl); (case hr => first | (go_simp; done) | (go_simp; rfl)); (case hp => exact (Reps.one (show Kd.M Kd.string _ _ _ a1 [.string a1] from rfl) (Reps.none _ _))); intro v145 w44 ho45 hb hg_ hnew_; clear hg_ hnew_; (first | rw [← Ny144.out] at ho45 | (simp only [Int.reduceToNat] at ho45; rw [← Ny144.out] at ho45)); have n0_ := Aside0.mk (Kd.R_lower ho45 (below_size (by repeat (first | (with_reducible first | exact HB.out | apply below_alloc | apply pw_below_drewN | apply below_drew1 | refine below_set ?_ GE143.out) | exact HB.out)))); have n1_ := Aside0.mk (blk_below (g := gb143) (o := .cells #[.int .i64 a3_0, .int .i64 a3_1] 41 (0, 0)) (by (with_reducible repeat (first | refine blk_drewN ?_ _ | refine blk_drew ?_ | refine blk_alloc ?_ _)); exact BK143.out) hb); have n2_ := Aside0.mk (below_step (by repeat (first | (with_reducible first | exact HB.out | apply below_alloc | apply pw_below_drewN | apply below_drew1 | refine below_set ?_ GE143.out) | exact HB.out)) hb); clear BK143; clear HB; have HO146 := n0_; have BK143 := n1_; have HB := n2_; clear n0_ n1_ n2_; clear hb ho45; obtain ⟨Ao46, co46, eo46⟩ := Kd.R_slice HO146.out; subst eo46) | ((with_reducible refine gate_callee (f := 26) rfl ?_); refine goesL_ (some 11) rfl rfl Try.func26 (by kernel_rfl) rfl #[.slice Ao46 y144.length co46] rfl (by (try simp only [List.map_toArray, List.map_cons, List.map_nil]); first | done | rfl | (simp only [List.length_drop, List.length_take]; rfl)) ?_; (with_reducible refine (impl_ylongKey.calls _ _ y144 false _ ?side1 ?side2 A7.out).mono ?_); (case side1 => repeat (first | exact (Kd.R_reads' HO146.out).2.2 | (with_reducible refine Kd.C_alloc ?_ _) | (with_reducible refine Kd.C_drewN ?_ _) | (with_reducible refine Kd.C_drew ?_))); (case side2 => exact (Kd.R_reads' HO146.out).2.1); rintro e w47 ⟨rfl, hb⟩; refine ⟨_, rfl, ?_⟩; have n0_ := Aside0.mk (Kd.R_below (by (with_reducible repeat (first | apply Kd.R_alloc | apply Kd.R_drewN | apply Kd.R_drew)); exact HO146.out) hb); have n1_ := Aside0.mk (blk_below (g := gb143) (o := .cells #[.int .i64 a3_0, .int .i64 a3_1] 41 (0, 0)) (by (with_reducible repeat (first | refine blk_drewN ?_ _ | refine blk_drew ?_ | refine blk_alloc ?_ _)); exact BK143.out) hb); have n2_ := Aside0.mk (below_step (by repeat (first | (with_reducible first | exact HB.out | apply below_alloc | apply pw_below_drewN | apply below_drew1 | refine below_set ?_ GE143.out) | exact HB.out)) hb); clear HO146; clear BK143; clear HB; have HO146 := n0_; have BK143 := n1_; have HB := n2_; clear n0_ n1_ n2_; (try clear hb); (try clear hb2); (try clear hk); (try clear hi)) | (go_at_call 37; (with_reducible refine (impl_yregsOk.calls _ _ l2 false _ ?side1 ?side2 A13.out).mono ?_); (case side1 => repeat (first | exact (Kd.C_below HR2.out HB.out) | (with_reducible refine Kd.C_alloc ?_ _) | (with_reducible refine Kd.C_drewN ?_ _) | (with_reducible refine Kd.C_drew ?_))); (case side2 => exact HC2.out); rintro e w48 ⟨rfl, hb⟩; have n0_ := Aside0.mk (Kd.R_below (by (with_reducible repeat (first | apply Kd.R_alloc | apply Kd.R_drewN | apply Kd.R_drew)); exact HO146.out) hb); have n1_ := Aside0.mk (blk_below (g := gb143) (o := .cells #[.int .i64 a3_0, .int .i64 a3_1] 41 (0, 0)) (by (with_reducible repeat (first | refine blk_drewN ?_ _ | refine blk_drew ?_ | refine blk_alloc ?_ _)); exact BK143.out) hb); have n2_ := Aside0.mk (below_step (by repeat (first | (with_reducible first | exact HB.out | apply below_alloc | apply pw_below_drewN | apply below_drew1 | refine below_set ?_ GE143.out) | exact HB.out)) hb); clear HO146; clear BK143; clear HB; have HO146 := n0_; have BK143 := n1_; have HB := n2_; clear n0_ n1_ n2_; (try clear hb); (try clear hb2); (try clear hk); (try clear hi)))
        go_meet
        case rel => exact ⟨_, (true), (by first | rfl | (simp; done) | (simp [*]; done)), H', ⟨by first | omega | exact Nat.le_refl _⟩, ⟨by (with_reducible repeat (first | refine blk_drewN ?_ _ | refine blk_drew ?_ | refine blk_alloc ?_ _)); exact BK143.out⟩, ⟨by repeat (first | (with_reducible first | exact HB.out | apply below_alloc | apply pw_below_drewN | apply below_drew1 | refine below_set ?_ GE143.out) | exact HB.out)⟩⟩
  case rest =>
    clear HC5
    try clear c1
    try clear c2
    try clear p2
    try clear c8
    try clear c14
    try clear c16
    try clear c18
    try clear c18b0
    try clear c18b1
    try clear c20
    try clear c23
    try clear c26
    try clear hcz27_0
    try clear hcz27_1
    try clear hcz33_0
    try clear hcz33_1
    try clear hfz27_0
    try clear hfz27_1
    try clear hfz33_0
    try clear hfz33_1
    obtain ⟨kq, x38_4, rfl, HA, HJ4, BK143, HB⟩ := hcut
    cases kq with
    | zero => exact absurd HA.out (by simp [impl_CheckQuote.j0])
    | succ kj4 =>
      have H := HA.out
      clear HA
      simp only [impl_CheckQuote.j0] at H
      by_cases c49 : x38_4 = true
      · subst c49
        have H1 : (some false) = some r := by rw [if_pos rfl] at H; exact H
        clear H
        have H := H1
        clear H1
        obtain rfl := Option.some.inj H
        go_wp2
        go_ret
        exact ⟨by first | rfl | (simp [errW_none, errW_some] <;> rfl) | (simp [*, errW_none, errW_some] <;> rfl), by repeat (first | (with_reducible first | exact HB.out | apply below_alloc | apply pw_below_drewN | apply below_drew1 | refine below_set ?_ GE143.out) | exact HB.out)⟩
      · replace c49 := Bool.eq_false_iff.mpr c49
        subst c49
        have H1 : ((impl_ypower.f kj4 4 a3_1).bind fun t153 => ((impl_yquoteE.f kj4 a3_0 a1 l2).bind fun t154 => ((impl_ypower.f kj4 a0 t154).bind fun t155 => (some (t153 == (Int.tmod (wrap64 (a3_0 * t155)) 2147482763)))))) = some r := by rw [if_neg (show ¬ (false = true) by decide)] at H; exact H
        clear H
        have H := H1
        clear H1
        replace H := Option.bind_eq_some_iff.mp H
        obtain ⟨t153, A500, H⟩ := H
        replace H : ((impl_yquoteE.f kj4 a3_0 a1 l2).bind fun t154 => ((impl_ypower.f kj4 a0 t154).bind fun t155 => (some (t153 == (Int.tmod (wrap64 (a3_0 * t155)) 2147482763))))) = some r := H
        have A50 := Aside0.mk A500
        clear A500
        replace H := Option.bind_eq_some_iff.mp H
        obtain ⟨t154, A510, H⟩ := H
        replace H : ((impl_ypower.f kj4 a0 t154).bind fun t155 => (some (t153 == (Int.tmod (wrap64 (a3_0 * t155)) 2147482763)))) = some r := H
        have A51 := Aside0.mk A510
        clear A510
        replace H := Option.bind_eq_some_iff.mp H
        obtain ⟨t155, A520, H⟩ := H
        replace H : (some (t153 == (Int.tmod (wrap64 (a3_0 * t155)) 2147482763))) = some r := H
        have A52 := Aside0.mk A520
        clear A520
        obtain rfl := Option.some.inj H
        try go_wp2
        have n0_ := Aside0.mk (blk_drew BK143.out)
        have n1_ := Aside0.mk (below_drew1 HB.out)
        clear BK143
        clear HB
        have BK143 := n0_
        have HB := n1_
        clear n0_ n1_
        refine start_ (n := 16) (S := fun w' => w'.cell? ⟨gb143, 0, none⟩ = some (.int .i64 a3_0) ∧ w'.cell? ⟨gb143, 1, none⟩ = some (.int .i64 a3_1)) (ds := []) #[false, false, false, false, false, false, false, false, false, false, false, false, false, false, false, false] (by kernel_rfl) rfl rfl ⟨(blk_cell BK143.out 0).trans rfl, (blk_cell BK143.out 1).trans rfl⟩ (fun hHeld => ?_); refine with_tabW impl_CheckQuote.tab3 impl_CheckQuote.bits3 (fun HT_ HW_ => ?_)
        generalize wc.drew = w53 at BK143 HB hHeld ⊢
        refine pure_ (i := 0) (N := some 39) (v := ?_) (a' := ?_) #[true, false, false, false, false, false, false, false, false, false, false, false, false, false, false, false] rfl rfl (any_of HT_.out (by kernel_rfl)) (fun _ _ _ h => h) (Or.inl ⟨by rfl, ?_⟩) ?_ ?_
        rotate_left
        · intro w'
          go_simp
          with_reducible rfl
        rotate_left
        · simp only [Act.put, List.setIfInBounds_toArray, List.set_cons_zero, List.set_cons_succ, i64_w, i32_w]
          rfl
        refine pure_ (i := 3) (N := some 42) (v := ?_) (a' := ?_) #[true, false, false, true, false, false, false, false, false, false, false, false, false, false, false, false] rfl rfl (any_of HT_.out (by kernel_rfl)) (fun _ _ _ h => h) (Or.inl ⟨by rfl, ?_⟩) ?_ ?_
        rotate_left
        · intro w'
          go_simp
          with_reducible rfl
        rotate_left
        · simp only [Act.put, List.setIfInBounds_toArray, List.set_cons_zero, List.set_cons_succ, i64_w, i32_w]
          rfl
        refine pure_ (i := 5) (N := some 44) (v := ?_) (a' := ?_) #[true, false, false, true, false, true, false, false, false, false, false, false, false, false, false, false] rfl rfl (any_of HT_.out (by kernel_rfl)) (fun _ _ _ h => h) (Or.inl ⟨by rfl, ?_⟩) ?_ ?_
        rotate_left
        · intro w'
          go_simp
          with_reducible rfl
        rotate_left
        · simp only [Act.put, List.setIfInBounds_toArray, List.set_cons_zero, List.set_cons_succ, i64_w, i32_w]
          rfl
        refine pure_ (i := 6) (N := some 45) (v := ?_) (a' := ?_) #[true, false, false, true, false, true, true, false, false, false, false, false, false, false, false, false] rfl rfl (any_of HT_.out (by kernel_rfl)) (fun _ _ _ h => h) (Or.inl ⟨by rfl, ?_⟩) ?_ ?_
        rotate_left
        · intro w'
          go_simp
          with_reducible rfl
        rotate_left
        · simp only [Act.put, List.setIfInBounds_toArray, List.set_cons_zero, List.set_cons_succ, i64_w, i32_w]
          rfl
        refine pure_ (i := 8) (N := some 47) (v := ?_) (a' := ?_) #[true, false, false, true, false, true, true, false, true, false, false, false, false, false, false, false] rfl rfl (any_of HT_.out (by kernel_rfl)) (fun _ _ _ h => h) (Or.inl ⟨by rfl, ?_⟩) ?_ ?_
        rotate_left
        · intro w'
          go_simp
          with_reducible rfl
        rotate_left
        · simp only [Act.put, List.setIfInBounds_toArray, List.set_cons_zero, List.set_cons_succ, i64_w, i32_w]
          rfl
        refine pure_ (i := 9) (N := some 48) (v := ?_) (a' := ?_) #[true, false, false, true, false, true, true, false, true, true, false, false, false, false, false, false] rfl rfl (any_of HT_.out (by kernel_rfl)) (fun _ _ _ h => h) (Or.inl ⟨by rfl, ?_⟩) ?_ ?_
        rotate_left
        · intro w'
          go_simp
          with_reducible rfl
        rotate_left
        · simp only [Act.put, List.setIfInBounds_toArray, List.set_cons_zero, List.set_cons_succ, i64_w, i32_w]
          rfl
        refine take_ (i := 1) (N := some 40) (v := ?_) (a' := ?_) #[true, true, false, true, false, true, true, false, true, true, false, false, false, false, false, false] rfl rfl (take_ofW HT_.out HW_.out (by kernel_rfl)) (fun _ _ _ h => h) (Or.inl ⟨by rfl, ?_⟩) hHeld ?_ ?_
        rotate_left
        · rintro w' ⟨s0, s1⟩
          go_simp
          with_reducible rfl
        rotate_left
        · simp only [Act.put, List.setIfInBounds_toArray, List.set_cons_zero, List.set_cons_succ, i64_w, i32_w]
          rfl
        refine take_ (i := 4) (N := some 43) (v := ?_) (a' := ?_) #[true, true, false, true, true, true, true, false, true, true, false, false, false, false, false, false] rfl rfl (take_ofW HT_.out HW_.out (by kernel_rfl)) (fun _ _ _ h => h) (Or.inl ⟨by rfl, ?_⟩) hHeld ?_ ?_
        rotate_left
        · rintro w' ⟨s0, s1⟩
          go_simp
          with_reducible rfl
        rotate_left
        · simp only [Act.put, List.setIfInBounds_toArray, List.set_cons_zero, List.set_cons_succ, i64_w, i32_w]
          rfl
        refine take_ (i := 7) (N := some 46) (v := ?_) (a' := ?_) #[true, true, false, true, true, true, true, true, true, true, false, false, false, false, false, false] rfl rfl (take_ofW HT_.out HW_.out (by kernel_rfl)) (fun _ _ _ h => h) (Or.inl ⟨by rfl, ?_⟩) hHeld ?_ ?_
        rotate_left
        · rintro w' ⟨s0, s1⟩
          go_simp
          with_reducible rfl
        rotate_left
        · simp only [Act.put, List.setIfInBounds_toArray, List.set_cons_zero, List.set_cons_succ, i64_w, i32_w]
          rfl
        refine one_ (i := 2) (N := some 41) #[true, true, true, true, true, true, true, true, true, true, false, false, false, false, false, false] rfl rfl (one_of HT_.out (by kernel_rfl)) (by decide) (fun K hK => ?_)
        refine goes_ Try.func46 (by kernel_rfl) rfl #[.int .i64 4, .int .i64 a3_1] (by rfl) rfl rfl (by (try simp only [List.map_toArray, List.map_cons, List.map_nil]); first | done | rfl | (simp only [List.length_drop, List.length_take]; rfl)) ?_
        with_reducible refine (impl_ypower.calls kj4 4 a3_1 t153 _ A50.out).mono ?_
        rintro e w' ⟨rfl, ⟨nd, rfl⟩⟩
        refine ⟨_, rfl, ?_⟩
        refine hK.out _ _ ⟨(blk_cell BK143.out 0).trans rfl, (blk_cell BK143.out 1).trans rfl⟩ (fun hHeld => ?_)
        clear hK K
        refine norm_ (a' := ?_) ?_ ?_
        rotate_left
        · show Act.put _ (some 41) _ = _
          simp only [Act.put, List.setIfInBounds_toArray, List.set_cons_zero, List.set_cons_succ, i64_w, i32_w]
          rfl
        refine one_ (i := 10) (N := some 49) #[true, true, true, true, true, true, true, true, true, true, true, false, false, false, false, false] rfl rfl (one_of HT_.out (by kernel_rfl)) (by decide) (fun K hK => ?_)
        refine goes_ Try.func47 (by kernel_rfl) rfl #[.int .i64 a3_0, .string a1, .slice A2 l2.length c2] (by rfl) rfl rfl (by (try simp only [List.map_toArray, List.map_cons, List.map_nil]); first | done | rfl | (simp only [List.length_drop, List.length_take]; rfl)) ?_
        with_reducible refine (impl_yquoteE.calls kj4 a3_0 a1 _ _ l2 t154 _ ?side1 ?side2 A51.out).mono ?_
        (case side1 => repeat (first | exact (Kd.C_below HR2.out (by repeat (first | (with_reducible first | exact HB.out | apply below_alloc | apply pw_below_drewN | apply below_drew1 | refine below_set ?_ GE143.out) | exact HB.out))) | (with_reducible refine Kd.C_alloc ?_ _) | (with_reducible refine Kd.C_drewN ?_ _) | (with_reducible refine Kd.C_drew ?_)))
        (case side2 => exact HC2.out)
        rintro e w54 ⟨rfl, hb⟩
        refine ⟨_, rfl, ?_⟩
        have n0_ := Aside0.mk (blk_below (g := gb143) (o := .cells #[.int .i64 a3_0, .int .i64 a3_1] 41 (0, 0)) (by (with_reducible repeat (first | refine blk_drewN ?_ _ | refine blk_drew ?_ | refine blk_alloc ?_ _)); exact BK143.out) hb)
        have n1_ := Aside0.mk (below_step (by repeat (first | (with_reducible first | exact HB.out | apply below_alloc | apply pw_below_drewN | apply below_drew1 | refine below_set ?_ GE143.out) | exact HB.out)) hb)
        clear BK143
        clear HB
        have BK143 := n0_
        have HB := n1_
        clear n0_ n1_
        (try clear hb)
        (try clear hb2)
        (try clear hk)
        (try clear hi)
        refine hK.out _ _ ⟨(blk_cell BK143.out 0).trans rfl, (blk_cell BK143.out 1).trans rfl⟩ (fun hHeld => ?_)
        clear hK K
        refine norm_ (a' := ?_) ?_ ?_
        rotate_left
        · show Act.put _ (some 49) _ = _
          simp only [Act.put, List.setIfInBounds_toArray, List.set_cons_zero, List.set_cons_succ, i64_w, i32_w]
          rfl
        refine one_ (i := 11) (N := some 50) #[true, true, true, true, true, true, true, true, true, true, true, true, false, false, false, false] rfl rfl (one_of HT_.out (by kernel_rfl)) (by decide) (fun K hK => ?_)
        refine goes_ Try.func46 (by kernel_rfl) rfl #[.int .i64 a0, .int .i64 t154] (by rfl) rfl rfl (by (try simp only [List.map_toArray, List.map_cons, List.map_nil]); first | done | rfl | (simp only [List.length_drop, List.length_take]; rfl)) ?_
        with_reducible refine (impl_ypower.calls kj4 a0 t154 t155 _ A52.out).mono ?_
        rintro e w' ⟨rfl, ⟨nd, rfl⟩⟩
        refine ⟨_, rfl, ?_⟩
        refine hK.out _ _ ⟨(blk_cell BK143.out 0).trans rfl, (blk_cell BK143.out 1).trans rfl⟩ (fun hHeld => ?_)
        clear hK K
        refine norm_ (a' := ?_) ?_ ?_
        rotate_left
        · show Act.put _ (some 50) _ = _
          simp only [Act.put, List.setIfInBounds_toArray, List.set_cons_zero, List.set_cons_succ, i64_w, i32_w]
          rfl
        refine pure_ (i := 12) (N := some 51) (v := ?_) (a' := ?_) #[true, true, true, true, true, true, true, true, true, true, true, true, true, false, false, false] rfl rfl (any_of HT_.out (by kernel_rfl)) (fun _ _ _ h => h) (Or.inl ⟨by rfl, ?_⟩) ?_ ?_
        rotate_left
        · intro w'
          go_simp
          with_reducible rfl
        rotate_left
        · simp only [Act.put, List.setIfInBounds_toArray, List.set_cons_zero, List.set_cons_succ, i64_w, i32_w]
          rfl
        refine pure_ (i := 13) (N := some 52) (v := ?_) (a' := ?_) #[true, true, true, true, true, true, true, true, true, true, true, true, true, true, false, false] rfl rfl (any_of HT_.out (by kernel_rfl)) (fun _ _ _ h => h) (Or.inl ⟨by rfl, ?_⟩) ?_ ?_
        rotate_left
        · intro w'
          go_simp
          with_reducible rfl
        rotate_left
        · simp only [Act.put, List.setIfInBounds_toArray, List.set_cons_zero, List.set_cons_succ, i64_w, i32_w]
          rfl
        refine pure_ (i := 14) (N := some 53) (v := ?_) (a' := ?_) #[true, true, true, true, true, true, true, true, true, true, true, true, true, true, true, false] rfl rfl (any_of HT_.out (by kernel_rfl)) (fun _ _ _ h => h) (Or.inl ⟨by rfl, ?_⟩) ?_ ?_
        rotate_left
        · intro w'
          go_simp
          with_reducible rfl
        rotate_left
        · simp only [Act.put, List.setIfInBounds_toArray, List.set_cons_zero, List.set_cons_succ, i64_w, i32_w]
          rfl
        refine pure_ (i := 15) (N := some 8) (v := ?_) (a' := ?_) #[true, true, true, true, true, true, true, true, true, true, true, true, true, true, true, true] rfl rfl (any_of HT_.out (by kernel_rfl)) (fun _ _ _ h => h) (Or.inl ⟨by rfl, ?_⟩) ?_ ?_
        rotate_left
        · intro w'
          go_simp
          with_reducible rfl
        rotate_left
        · simp only [Act.put, List.setIfInBounds_toArray, List.set_cons_zero, List.set_cons_succ, i64_w, i32_w]
          rfl
        refine done_ (done_of HT_.out (by kernel_rfl)) ?_
        try go_wp2
        go_ret
        exact ⟨by first | rfl | (simp [errW_none, errW_some] <;> rfl) | (simp [*, errW_none, errW_some] <;> rfl), by repeat (first | (with_reducible first | exact HB.out | apply below_alloc | apply pw_below_drewN | apply below_drew1 | refine below_set ?_ GE143.out) | exact HB.out)⟩

end Go.Proofs.Ytpcpjkbjadgoiaa.QFnExactCheckQuote
