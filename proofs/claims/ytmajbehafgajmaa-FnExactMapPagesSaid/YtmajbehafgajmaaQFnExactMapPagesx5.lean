-- Written for this claim by this session's own driver (wip/xprint.py).
import Derived.Test.YtmajbehafgajmaaQFnExactMapPagesx0
import Derived.Test.YtmajbehafgajmaaQFnExactMapPagesx3
import Derived.Test.YtmajbehafgajmaaQFnExactMapPagesx4
namespace Go.Proofs.Ytmajbehafgajmaa.QFnExactMapPages
open Go.RowKit Go.Proofs.YtmajbehafgajmaaW.PrintWords Go.Proofs.YtmajbehafgajmaaW.PrintLast Go.Proofs.YtmajbehafgajmaaW.PrintMore
attribute [local go_sem] max2_int min2_int max_two min_two max_three min_three max_four min_four   -- for this text's walks alone
set_option linter.unusedVariables false
set_option linter.unusedSimpArgs false

/-! ### impl_ymap: function 77 -/
def intsB (bs : List UInt8) : List Int := bs.map fun b => ((b.toNat : Nat) : Int)
theorem intsB_length (bs : List UInt8) : (intsB bs).length = bs.length := by simp [intsB]
def byte8 (v : Int) : UInt8 := UInt8.ofNat (v % 256).toNat
theorem byte8_int (v : Int) : ((byte8 v).toNat : Int) = v % 256 := by
  unfold byte8
  rw [UInt8.toNat_ofNat']
  omega
def put4 (bs : List UInt8) (o : Nat) (v : Int) : List UInt8 := Go.Proofs.Ytmajbehafgajmaa.By.putAt (Go.Proofs.Ytmajbehafgajmaa.By.putAt (Go.Proofs.Ytmajbehafgajmaa.By.putAt (Go.Proofs.Ytmajbehafgajmaa.By.putAt bs o [byte8 v]) (o + 1) [byte8 (v / 256)]) (o + 2) [byte8 (v / 65536)]) (o + 3) [byte8 (v / 16777216)]
theorem put4_length (bs : List UInt8) (o : Nat) (v : Int) (h : o + 4 ≤ bs.length) : (put4 bs o v).length = bs.length := by
  unfold put4
  have h1 : (Go.Proofs.Ytmajbehafgajmaa.By.putAt bs o [byte8 v]).length = bs.length := Go.Proofs.Ytmajbehafgajmaa.By.putAt_length _ _ _ (by simp only [List.length_cons, List.length_nil]; omega)
  have h2 : (Go.Proofs.Ytmajbehafgajmaa.By.putAt (Go.Proofs.Ytmajbehafgajmaa.By.putAt bs o [byte8 v]) (o + 1) [byte8 (v / 256)]).length = bs.length := by rw [Go.Proofs.Ytmajbehafgajmaa.By.putAt_length _ _ _ (by simp only [List.length_cons, List.length_nil]; omega), h1]
  have h3 : (Go.Proofs.Ytmajbehafgajmaa.By.putAt (Go.Proofs.Ytmajbehafgajmaa.By.putAt (Go.Proofs.Ytmajbehafgajmaa.By.putAt bs o [byte8 v]) (o + 1) [byte8 (v / 256)]) (o + 2) [byte8 (v / 65536)]).length = bs.length := by rw [Go.Proofs.Ytmajbehafgajmaa.By.putAt_length _ _ _ (by simp only [List.length_cons, List.length_nil]; omega), h2]
  rw [Go.Proofs.Ytmajbehafgajmaa.By.putAt_length _ _ _ (by simp only [List.length_cons, List.length_nil]; omega), h3]
theorem brow_C {W : World} {g cap : Nat} {bs : List UInt8} (h : Go.Proofs.Ytmajbehafgajmaa.By.BRow W g cap bs) : Kd.C (Kd.int .u8) W (some ⟨g, 0, none⟩) (intsB bs).length (intsB bs) := by
  have hb := h.1
  have hc := h.2.1
  refine Kd.C_of_reads (enc := Value.int .u8) (d := (0 : Int)) ⟨rfl, by rw [intsB_length]; unfold maxLen at hc; omega, fun _ => ⟨_, rfl, fun j hj => ?_⟩⟩
  rw [intsB_length] at hj
  have h1 := h.cell j hj
  have h2 : (intsB bs).getD j 0 = ((bs[j].toNat : Nat) : Int) := by
    unfold intsB
    rw [List.getD_eq_getElem?_getD, List.getElem?_map, List.getElem?_eq_getElem hj]; rfl
  rw [h2]
  unfold Addr.add
  by_cases hj0 : j = 0
  · subst hj0; simpa using h1
  · simpa [hj0] using h1
def bB (bs : List UInt8) (j : Nat) : Int := (((bs.getD j 0).toNat : Nat) : Int)
theorem bB_range (bs : List UInt8) (j : Nat) : 0 ≤ bB bs j ∧ bB bs j ≤ 255 := by
  unfold bB
  have := (bs.getD j 0).toNat_lt
  omega
theorem rd_intsB (bs : List UInt8) (j : Nat) : rd (intsB bs) (j : Int) = bB bs j := by
  show (intsB bs).getD ((j : Int)).toNat 0 = _
  unfold intsB bB
  rw [Int.toNat_natCast, List.getD_eq_getElem?_getD, List.getElem?_map, List.getD_eq_getElem?_getD]
  cases bs[j]? <;> rfl
/-- The word at a place of the bytes. -/
def gwB (bs : List UInt8) (o : Nat) : Int := bB bs o + bB bs (o + 1) * 256 + bB bs (o + 2) * 65536 + bB bs (o + 3) * 16777216
theorem gwB_range (bs : List UInt8) (o : Nat) : 0 ≤ gwB bs o ∧ gwB bs o ≤ 4294967295 := by
  unfold gwB
  have h0 := bB_range bs o; have h1 := bB_range bs (o + 1); have h2 := bB_range bs (o + 2); have h3 := bB_range bs (o + 3)
  omega
theorem gwB_eq (bs : List UInt8) (o : Nat) (ho : o + 4 ≤ bs.length) (hn : bs.length ≤ 65536) : impl_ygetWord.f (intsB bs) (o : Int) = some (gwB bs o) := by
  unfold impl_ygetWord.f gwB
  rw [intsB_length, Go.Proofs.Ytmajbehafgajmaa.Pl.w64 (a := (o : Int) + 1) (by omega) (by omega), Go.Proofs.Ytmajbehafgajmaa.Pl.w64 (a := (o : Int) + 2) (by omega) (by omega), Go.Proofs.Ytmajbehafgajmaa.Pl.w64 (a := (o : Int) + 3) (by omega) (by omega)]
  rw [if_pos (by omega), if_pos (by omega), if_pos (by omega), if_pos (by omega), if_pos (by omega), if_pos (by omega), if_pos (by omega), if_pos (by omega)]
  have r0 : rd (intsB bs) (o : Int) = bB bs o := rd_intsB bs o
  have r1 : rd (intsB bs) ((o : Int) + 1) = bB bs (o + 1) := rd_intsB bs (o + 1)
  have r2 : rd (intsB bs) ((o : Int) + 2) = bB bs (o + 2) := rd_intsB bs (o + 2)
  have r3 : rd (intsB bs) ((o : Int) + 3) = bB bs (o + 3) := rd_intsB bs (o + 3)
  rw [r0, r1, r2, r3]
  have b0 := bB_range bs o; have b1 := bB_range bs (o + 1); have b2 := bB_range bs (o + 2); have b3 := bB_range bs (o + 3)
  rw [Go.Proofs.Ytmajbehafgajmaa.Pl.w64 (a := bB bs o) (by omega) (by omega), Go.Proofs.Ytmajbehafgajmaa.Pl.w64 (a := bB bs (o + 1)) (by omega) (by omega), Go.Proofs.Ytmajbehafgajmaa.Pl.w64 (a := bB bs (o + 2)) (by omega) (by omega), Go.Proofs.Ytmajbehafgajmaa.Pl.w64 (a := bB bs (o + 3)) (by omega) (by omega)]
  rw [Go.Proofs.Ytmajbehafgajmaa.Pl.w64 (a := bB bs (o + 1) * 256) (by omega) (by omega), Go.Proofs.Ytmajbehafgajmaa.Pl.w64 (a := bB bs (o + 2) * 65536) (by omega) (by omega), Go.Proofs.Ytmajbehafgajmaa.Pl.w64 (a := bB bs (o + 3) * 16777216) (by omega) (by omega)]
  rw [Go.Proofs.Ytmajbehafgajmaa.Pl.or_join' 8 (bB bs (o + 1) * 256) (bB bs o) (by omega) (by omega) (by omega) (by omega) (by omega) (by omega), Go.Proofs.Ytmajbehafgajmaa.Pl.or_join' 16 (bB bs (o + 2) * 65536) (bB bs o + bB bs (o + 1) * 256) (by omega) (by omega) (by omega) (by omega) (by omega) (by omega), Go.Proofs.Ytmajbehafgajmaa.Pl.or_join' 24 (bB bs (o + 3) * 16777216) _ (by omega) (by omega) (by omega) (by omega) (by omega) (by omega)]
theorem bGet_calls (W : World) (g cap : Nat) (bs : List UInt8) (o : Nat) (h : Go.Proofs.Ytmajbehafgajmaa.By.BRow W g cap bs) (ho : o + 4 ≤ bs.length) (hn : bs.length ≤ 65536) :
    Calls Try.prog 117 #[.slice (some ⟨g, 0, none⟩) bs.length cap, .int .i64 (o : Int)] W fun e w' => e = .returned (.int .i64 (gwB bs o)) ∧ Drawn0 W w' := by
  have := impl_ygetWord.calls (some ⟨g, 0, none⟩) cap (intsB bs) (o : Int) (gwB bs o) W (brow_C h) (by rw [intsB_length]; exact h.1) (gwB_eq bs o ho hn)
  rwa [intsB_length] at this
/-- Only block g has turned, and what has grown. -/
structure KB (w W : World) (g : Nat) : Prop where
  keep : KeepBut w W g none
  os : W.os = w.os
  tape : W.tape = w.tape
  output : W.output = w.output
theorem KB.refl (w : World) (g : Nat) : KB w w g := ⟨KeepBut.refl _ _ _, rfl, rfl, rfl⟩
theorem KB.set_ {w W : World} {g : Nat} (h : KB w W g) (j : Nat) (u : Value) : KB w (W.setCell ⟨g, j, none⟩ u) g := ⟨h.keep.set_ j u, h.os, h.tape, h.output⟩
theorem KB.trans {w W W2 : World} {g : Nat} (h : KB w W g) (k : KB W W2 g) : KB w W2 g := ⟨h.keep.trans k.keep (.inl rfl), k.os.trans h.os, k.tape.trans h.tape, k.output.trans h.output⟩
theorem KB.blk {w W : World} {g g' : Nat} {o : Obj} (h : KB w W g) (hb : w.heap[g']? = some o) (hg : g' ≠ g) : W.heap[g']? = some o := h.keep.blk hb hg (by simp)
theorem kb_drewN {w W : World} {g : Nat} (h : KB w W g) (m : Nat) : KB w (W.drewN m) g := ⟨keep_drewN h.keep m, h.os, h.tape, h.output⟩
theorem kb_alloc {w W : World} {g : Nat} (h : KB w W g) (o : Obj) : KB w (W.alloc o) g := ⟨keep_alloc h.keep o, h.os, h.tape, h.output⟩
theorem KB.below {w W : World} {g B : Nat} (h : KB w W g) (hB : B ≤ g) (hw : B ≤ w.heap.size) : Below B w W := ⟨h.os, h.tape, h.output, h.keep.1, fun k hk => h.keep.2 k (by omega) (by omega) (by simp)⟩
theorem KB.of_below {w W : World} {g : Nat} (h : Below w.heap.size w W) : KB w W g := ⟨KeepBut.of_below h _ _, h.os, h.tape, h.output⟩
def inMB (a lo hi : Int) : Bool := decide (lo ≤ a) && decide (a ≤ hi)
theorem yinM_eq (a lo hi : Int) : impl_yin.f a lo hi = some (inMB a lo hi) := by
  unfold impl_yin.f inMB
  by_cases h : a ≥ lo
  · rw [if_pos h, decide_eq_true h]; rfl
  · rw [if_neg h, decide_eq_false h]; rfl
def mapBad (va fr fl : Int) (lg : Bool) : Bool := !(inMB va 0 262143) || (!(Int.tmod va (if lg = true then 8192 else 256) == 0) || (!(inMB fr 0 1023) || (!(Int.tmod fr (if lg = true then 32 else 1) == 0) || (!(Go.bits .andNot .i64 fl 158 == 0) || (Go.bits .and .i64 fl 14 == 0)))))
set_option maxHeartbeats 4000000 in
theorem bPut_calls (W : World) (g cap : Nat) (bs : List UInt8) (o : Nat) (v : Int) (h : Go.Proofs.Ytmajbehafgajmaa.By.BRow W g cap bs) (ho : o + 4 ≤ bs.length) (hn : bs.length ≤ 65536) :
    Calls Try.prog 118 #[.slice (some ⟨g, 0, none⟩) bs.length cap, .int .i64 (o : Int), .int .i64 v] W fun e w' => e = .returned (.tuple #[]) ∧ Go.Proofs.Ytmajbehafgajmaa.By.BRow w' g cap (put4 bs o v) ∧ KB W w' g := by
  have HB := Aside0.mk h
  have HO := Aside0.mk ho
  have hcap := h.1
  obtain ⟨x0, c0⟩ : ∃ x, W.cell? ⟨g, o, none⟩ = some x := ⟨_, h.cell o (by omega)⟩
  obtain ⟨x1, c1⟩ : ∃ x, W.cell? ⟨g, o + 1, none⟩ = some x := ⟨_, h.cell (o + 1) (by omega)⟩
  obtain ⟨x2, c2⟩ : ∃ x, W.cell? ⟨g, o + 2, none⟩ = some x := ⟨_, h.cell (o + 2) (by omega)⟩
  obtain ⟨x3, c3⟩ : ∃ x, W.cell? ⟨g, o + 3, none⟩ = some x := ⟨_, h.cell (o + 3) (by omega)⟩
  have f0 := h.frozen o (by omega)
  have f1 := h.frozen (o + 1) (by omega)
  have f2 := h.frozen (o + 2) (by omega)
  have f3 := h.frozen (o + 3) (by omega)
  have l0 : (o : Int) < (bs.length : Int) := by omega
  have l1 : (o : Int) + 1 < (bs.length : Int) := by omega
  have l2 : (o : Int) + 2 < (bs.length : Int) := by omega
  have l3 : (o : Int) + 3 < (bs.length : Int) := by omega
  have w1 : wrap64 ((o : Int) + 1) = (o : Int) + 1 := by unfold wrap64; omega
  have w2 : wrap64 ((o : Int) + 2) = (o : Int) + 2 := by unfold wrap64; omega
  have w3 : wrap64 ((o : Int) + 3) = (o : Int) + 3 := by unfold wrap64; omega
  have n1 : ((o : Int) + 1).toNat = o + 1 := by omega
  have n2 : ((o : Int) + 2).toNat = o + 2 := by omega
  have n3 : ((o : Int) + 3).toNat = o + 3 := by omega
  clear h ho
  go_enter Try.func118, Try.ntmps118
  go_wp2
  ((try simp only [Exit.inBlock, Exit.then]); refine bodyPost_end (results_none rfl _ _ _) rfl ?_)
  have h1 := HB.out.set o (byte8 v) (by omega) (by omega)
  have z1 : (Go.Proofs.Ytmajbehafgajmaa.By.putAt bs o [byte8 v]).length = bs.length := Go.Proofs.Ytmajbehafgajmaa.By.putAt_length _ _ _ (by simp only [List.length_cons, List.length_nil]; omega)
  have h2 := h1.set (o + 1) (byte8 (v / 256)) (by omega) (by omega)
  have z2 : (Go.Proofs.Ytmajbehafgajmaa.By.putAt (Go.Proofs.Ytmajbehafgajmaa.By.putAt bs o [byte8 v]) (o + 1) [byte8 (v / 256)]).length = bs.length := by rw [Go.Proofs.Ytmajbehafgajmaa.By.putAt_length _ _ _ (by simp only [List.length_cons, List.length_nil]; omega), z1]
  have h3 := h2.set (o + 2) (byte8 (v / 65536)) (by omega) (by omega)
  have z3 : (Go.Proofs.Ytmajbehafgajmaa.By.putAt (Go.Proofs.Ytmajbehafgajmaa.By.putAt (Go.Proofs.Ytmajbehafgajmaa.By.putAt bs o [byte8 v]) (o + 1) [byte8 (v / 256)]) (o + 2) [byte8 (v / 65536)]).length = bs.length := by rw [Go.Proofs.Ytmajbehafgajmaa.By.putAt_length _ _ _ (by simp only [List.length_cons, List.length_nil]; omega), z2]
  have h4 := h3.set (o + 3) (byte8 (v / 16777216)) (by omega) (by omega)
  rw [byte8_int, byte8_int, byte8_int, byte8_int] at h4
  exact ⟨rfl, h4, KB.set_ (KB.set_ (KB.set_ (KB.set_ (KB.refl _ _) _ _) _ _) _ _) _ _⟩
/-- The second table's entry. -/
def ymapTail (bs : List UInt8) (t vn : Nat) (ent : Int) : Int × List UInt8 := if Go.bits .and .i64 (gwB bs (t * 256 + 4 * (vn / 256 % 32))) 1 = 0 then (0, put4 bs (t * 256 + 4 * (vn / 256 % 32)) ent) else (9, bs)
/-- What a small page's map answers: the code, the bytes and the free frames that are left. -/
def ymapS (bs : List UInt8) (F root vn : Nat) (fr fl : Int) (free : List Int) : Int × List UInt8 × List Int :=
  if Go.bits .and .i64 (gwB bs (root * 256 + 4 * (vn / 8192))) 1 = 0 then
    match free with
    | [] => (4, bs, [])
    | t :: rest => ((ymapTail (put4 (Go.Proofs.Ytmajbehafgajmaa.By.putAt bs (t.toNat * 256) (List.replicate 256 0)) (root * 256 + 4 * (vn / 8192)) (Go.bits .or .i64 (t * 256) 1)) t.toNat vn (Go.bits .or .i64 (Go.bits .or .i64 (fr * 256) fl) 1)).1, (ymapTail (put4 (Go.Proofs.Ytmajbehafgajmaa.By.putAt bs (t.toNat * 256) (List.replicate 256 0)) (root * 256 + 4 * (vn / 8192)) (Go.bits .or .i64 (t * 256) 1)) t.toNat vn (Go.bits .or .i64 (Go.bits .or .i64 (fr * 256) fl) 1)).2, rest)
  else if Go.bits .and .i64 (gwB bs (root * 256 + 4 * (vn / 8192))) 14 = 0 then
    if (F : Int) ≤ gwB bs (root * 256 + 4 * (vn / 8192)) / 256 then (9, bs, free)
    else ((ymapTail bs (gwB bs (root * 256 + 4 * (vn / 8192)) / 256).toNat vn (Go.bits .or .i64 (Go.bits .or .i64 (fr * 256) fl) 1)).1, (ymapTail bs (gwB bs (root * 256 + 4 * (vn / 8192)) / 256).toNat vn (Go.bits .or .i64 (Go.bits .or .i64 (fr * 256) fl) 1)).2, free)
  else (9, bs, free)
/-- What a large page's map answers. -/
def ymapL (bs : List UInt8) (root vn : Nat) (fr fl : Int) (free : List Int) : Int × List UInt8 × List Int :=
  if Go.bits .and .i64 (gwB bs (root * 256 + 4 * (vn / 8192))) 1 = 0 then (0, put4 bs (root * 256 + 4 * (vn / 8192)) (Go.bits .or .i64 (Go.bits .or .i64 (fr * 256) fl) 1), free) else (9, bs, free)
theorem ymap_facts (tn F cap L : Nat) (hN : F ≤ 256) (htF : tn < F) (hF : L = F * 256) (hcap : L ≤ cap) : wrap64 ((tn : Int) * 256) = (tn : Int) * 256 ∧ wrap64 ((tn : Int) + 1) = (tn : Int) + 1 ∧ wrap64 (((tn : Int) + 1) * 256) = ((tn : Int) + 1) * 256 ∧ (tn : Int) * 256 ≤ ((tn : Int) + 1) * 256 ∧ ((tn : Int) + 1) * 256 ≤ (cap : Int) ∧ ((tn : Int) * 256).toNat = tn * 256 ∧ (((tn : Int) + 1) * 256).toNat - tn * 256 = 256 ∧ tn * 256 + 256 ≤ L := by
  unfold wrap64
  refine ⟨?_, ?_, ?_, ?_, ?_, ?_, ?_, ?_⟩ <;> omega
theorem ymap_box (w : World) (o : Obj) (m : Nat) : ((w.alloc o).drewN m).heap[w.heap.size]? = some o := by
  have h0 : (w.alloc o).heap[w.heap.size]? = some o := by unfold World.alloc; exact Array.getElem?_push_size
  have hs : w.heap.size < (w.alloc o).heap.size := by unfold World.alloc; rw [Array.size_push]; omega
  exact ((pw_below_drewN (Below.refl ((w.alloc o).heap.size) _) m).block _ hs).trans h0
theorem ymap_rooms (tn F root vn L : Nat) (hN : F ≤ 256) (htF : tn < F) (hF : L = F * 256) (hR : root < F) (hva1 : (vn : Int) ≤ 262143) : root * 256 + 4 * (vn / 8192) + 4 ≤ L ∧ tn * 256 + 4 * (vn / 256 % 32) + 4 ≤ L ∧ L ≤ 65536 ∧ wrap64 ((tn : Int) * 256 + 4 * ((vn : Int) / 256 % 32)) = ((tn * 256 + 4 * (vn / 256 % 32) : Nat) : Int) := by
  unfold wrap64
  refine ⟨?_, ?_, ?_, ?_⟩ <;> omega
theorem ymap_keep (w : World) (g : Nat) : ∀ (vs : List Value) (o : Nat), KB w (w.setCells g o vs) g := by
  intro vs
  have key : ∀ (vs : List Value) (o : Nat) (W : World), KB w W g → KB w (W.setCells g o vs) g := by
    intro vs
    induction vs with
    | nil => intro o W h; exact h
    | cons v vs ih => intro o W h; exact ih (o + 1) _ (h.set_ o v)
  exact fun o => key vs o w (KB.refl _ _)
theorem cells_zero (n : Nat) : Go.Proofs.Ytmajbehafgajmaa.By.cellsOf (List.replicate n 0) = List.replicate n (Value.int .u8 0) := by unfold Go.Proofs.Ytmajbehafgajmaa.By.cellsOf; rw [List.map_replicate]; rfl
theorem put_zero_length (bs : List UInt8) (o n : Nat) (h : o + n ≤ bs.length) : (Go.Proofs.Ytmajbehafgajmaa.By.putAt bs o (List.replicate n 0)).length = bs.length := Go.Proofs.Ytmajbehafgajmaa.By.putAt_length _ _ _ (by rw [List.length_replicate]; exact h)
theorem ymap_zero {w : World} (g cap o n : Nat) {bs : List UInt8} (h : Go.Proofs.Ytmajbehafgajmaa.By.BRow w g cap bs) (hl : o + n ≤ bs.length) : Go.Proofs.Ytmajbehafgajmaa.By.BRow (w.setCells g o (List.replicate n (Value.int .u8 0))) g cap (Go.Proofs.Ytmajbehafgajmaa.By.putAt bs o (List.replicate n 0)) := by
  have hc := h.1
  have e := cells_zero n
  have hr : (List.replicate n (0 : UInt8)).length = n := List.length_replicate
  have := h.sets (List.replicate n 0) o (by omega) (by rw [hr]; omega)
  rwa [e] at this
theorem ymap_slice (tn F cap L g : Nat) (hN : F ≤ 256) (htF : tn < F) (hF : L = F * 256) (hcap : L ≤ cap) (W : World) : (Instr.slice 130 (.slice (some ⟨g, 0, none⟩) L cap) (some (.int .i64 ((tn : Int) * 256))) (some (.int .i64 (((tn : Int) + 1) * 256))) none).run Try.prog W = .ok (.slice (some ⟨g, tn * 256, none⟩) 256 (cap - tn * 256)) W := by
  obtain ⟨_, _, _, f4, _, f6, f7, hlz⟩ := ymap_facts tn F cap L hN htF hF hcap
  have hi8 : (Try.prog.info? 5).map (fun i => (i.zero, i.size, i.bytes)) = some (some (.int .u8 0), 1, 1) := by kernel_rfl
  obtain ⟨i8, hi8b, _, hsz8, _⟩ := info_parts hi8
  have h := cut_mid (P := Try.prog) 130 5 .i64 .i64 Try.underlying130 hi8b 1 hsz8 (some ⟨g, 0, none⟩) L cap ((tn : Int) * 256) (((tn : Int) + 1) * 256) (Int.mul_nonneg (Int.natCast_nonneg _) (by decide)) f4 (by omega) hcap W
  rw [h, f6, f7, if_neg (by omega)]
  have ha : Addr.add (⟨g, 0, none⟩ : Addr) (tn * 256 * 1) = ⟨g, tn * 256, none⟩ := by
    unfold Addr.add
    rw [Nat.mul_one]
    split
    · rename_i h0; rw [h0]
    · rw [Nat.zero_add]
  rw [Option.map_some, ha]
def YP (w : World) (g cap : Nat) (res : Int × List UInt8 × List Int) (e : Ending) (w' : World) : Prop :=
  ∃ A' c', e = .returned (.tuple #[.int .i64 res.1, .slice A' res.2.2.length c']) ∧ res.2.2.length ≤ c' ∧ (∀ W, KB w W g → Kd.C (Kd.int .i64) W A' res.2.2.length res.2.2) ∧ Go.Proofs.Ytmajbehafgajmaa.By.BRow w' g cap res.2.1 ∧ KB w w' g
theorem YP.mk {w : World} {g cap : Nat} {res : Int × List UInt8 × List Int} {e : Ending} {w' : World} {r : Int} {bs : List UInt8} {fr : List Int} (hr : res = (r, bs, fr)) (A : Option Addr) (c : Nat) (he : e = .returned (.tuple #[.int .i64 r, .slice A fr.length c])) (hc : fr.length ≤ c) (hf : ∀ W, KB w W g → Kd.C (Kd.int .i64) W A fr.length fr) (hb : Go.Proofs.Ytmajbehafgajmaa.By.BRow w' g cap bs) (hk : KB w w' g) : YP w g cap res e w' := by
  subst hr
  exact ⟨A, c, he, hc, hf, hb, hk⟩
def impl_ymap.f (l0 : List Int) (a1 : Int) : Option (Int) := none
set_option maxHeartbeats 16000000 in
set_option maxRecDepth 100000 in
theorem ymapS_calls (w : World) (g cap : Nat) (bs : List UInt8) (root : Nat) (va fr fl : Int) (A : Option Addr) (n c : Nat) (F : Nat) (hb : Go.Proofs.Ytmajbehafgajmaa.By.BRow w g cap bs) (hF : bs.length = F * 256) (hn : F ≤ 256) (hroot : root < F) (free : List Int) (hnf : n = free.length) (hfc : free.length ≤ c) (hft : ∀ t ∈ free, 0 ≤ t ∧ t < (F : Int)) (hfr0 : ∀ W, KB w W g → Kd.C (Kd.int .i64) W A free.length free) :
    Calls Try.prog 77 #[.slice (some ⟨g, 0, none⟩) bs.length cap, .int .i64 (root : Int), .agg #[.int .i64 va, .int .i64 fr, .int .i64 fl, .bool false], .slice A n c] w (YP w g cap (if mapBad va fr fl false = true then (1, bs, free) else ymapS bs F root va.toNat fr fl free)) := by
  subst hnf
  obtain ⟨res, hres⟩ : ∃ x, x = (if mapBad va fr fl false = true then (1, bs, free) else ymapS bs F root va.toNat fr fl free) := ⟨_, rfl⟩
  rw [← hres]
  have HRES := Aside0.mk hres
  have HFR := Aside0.mk hfr0
  have HFC := Aside0.mk hfc
  have HFT := Aside0.mk hft
  clear hres hfr0 hfc hft
  have HB := Aside0.mk hb
  have HF := Aside0.mk hF
  have HN := Aside0.mk hn
  have HROOT := Aside0.mk hroot
  clear hb hF hn hroot
  go_enter Try.func77, Try.ntmps77
  go_upto_region 5 with (fail)
  go_cut [54] (fun s54 wc => ∃ b : Bool, s54 = .bool b ∧ Aside0 (b = mapBad va fr fl false) ∧ ∃ m : Nat, wc = (w.alloc (Obj.cells #[.int .i64 va, .int .i64 fr, .int .i64 fl, .bool false] 124)).drewN m)
  case first =>
    obtain ⟨q1, hq1⟩ : ∃ q, Int.tmod va 256 = q := ⟨_, rfl⟩
    obtain ⟨q2, hq2⟩ : ∃ q, Int.tmod fr 1 = q := ⟨_, rfl⟩
    obtain ⟨q3, hq3⟩ : ∃ q, Go.bits .andNot .i64 fl 158 = q := ⟨_, rfl⟩
    obtain ⟨q4, hq4⟩ : ∃ q, Go.bits .and .i64 fl 14 = q := ⟨_, rfl⟩
    have HQ : Aside0 (mapBad va fr fl false = (!(inMB va 0 262143) || (!(q1 == 0) || (!(inMB fr 0 1023) || (!(q2 == 0) || (!(q3 == 0) || (q4 == 0))))))) := ⟨by unfold mapBad; rw [← hq1, ← hq2, ← hq3, ← hq4]; rfl⟩
    go_wp2_with (fail)
    go_at_call 49
    refine (impl_yin.calls _ _ _ _ _ (yinM_eq _ _ _)).mono ?_
    rintro e w' ⟨rfl, ⟨m0, rfl⟩⟩
    cases hb0 : inMB va 0 262143
    case false =>
      go_wp2
      go_meet
      case rel => exact ⟨true, rfl, ⟨by rw [HQ.out, hb0]; rfl⟩, _, rfl⟩
    by_cases c1 : q1 = 0
    case neg =>
      have c1a : (q1 != 0) = true := bne_iff_ne.mpr c1
      have c1b : (q1 == 0) = false := beq_eq_false_iff_ne.mpr c1
      go_wp2
      go_meet
      case rel => exact ⟨true, rfl, ⟨by rw [HQ.out, hb0, c1b]; rfl⟩, _, rfl⟩
    subst c1
    go_wp2_with (fail)
    go_at_call 49
    refine (impl_yin.calls _ _ _ _ _ (yinM_eq _ _ _)).mono ?_
    rintro e w' ⟨rfl, ⟨m1, rfl⟩⟩
    cases hb1 : inMB fr 0 1023
    case false =>
      go_wp2
      go_meet
      case rel => exact ⟨true, rfl, ⟨by rw [HQ.out, hb0, hb1]; rfl⟩, _, rfl⟩
    by_cases c2 : q2 = 0
    case neg =>
      have c2a : (q2 != 0) = true := bne_iff_ne.mpr c2
      have c2b : (q2 == 0) = false := beq_eq_false_iff_ne.mpr c2
      go_wp2
      go_meet
      case rel => exact ⟨true, rfl, ⟨by rw [HQ.out, hb0, hb1, c2b]; rfl⟩, _, rfl⟩
    subst c2
    by_cases c3 : q3 = 0
    case neg =>
      have c3a : (q3 != 0) = true := bne_iff_ne.mpr c3
      have c3b : (q3 == 0) = false := beq_eq_false_iff_ne.mpr c3
      go_wp2
      go_meet
      case rel => exact ⟨true, rfl, ⟨by rw [HQ.out, hb0, hb1, c3b]; rfl⟩, _, rfl⟩
    subst c3
    by_cases c4 : q4 = 0
    · subst c4
      go_wp2
      go_meet
      case rel => exact ⟨true, rfl, ⟨by rw [HQ.out, hb0, hb1]; rfl⟩, _, rfl⟩
    · have c4b : (q4 == 0) = false := beq_eq_false_iff_ne.mpr c4
      go_wp2
      go_meet
      case rel => exact ⟨false, rfl, ⟨by rw [HQ.out, hb0, hb1, c4b]; rfl⟩, _, rfl⟩
  case rest =>
    obtain ⟨b, rfl, hbm, m0, rfl⟩ := hcut
    cases b with
    | true =>
      have hr : res = (1, bs, free) := by rw [HRES.out, ← hbm.out, if_pos rfl]
      have hB2 := ((HB.out.alloc (Obj.cells #[.int .i64 va, .int .i64 fr, .int .i64 fl, .bool false] 124)).drewN m0)
      go_wp2
      go_ret2
      exact YP.mk hr A c rfl HFC.out HFR.out hB2 (kb_drewN (kb_alloc (KB.refl _ _) _) _)
    | false =>
      have hgood := hbm.out
      have hva : 0 ≤ va ∧ va ≤ 262143 := by
        unfold mapBad inMB at hgood
        simp only [Bool.false_eq, Bool.or_eq_false_iff, Bool.not_eq_false', Bool.and_eq_true, decide_eq_true_eq] at hgood
        exact hgood.1
      have hfr : 0 ≤ fr ∧ fr ≤ 1023 := by
        unfold mapBad inMB at hgood
        simp only [Bool.false_eq, Bool.or_eq_false_iff, Bool.not_eq_false', Bool.and_eq_true, decide_eq_true_eq] at hgood
        exact hgood.2.2.1
      obtain ⟨hva0, hva1⟩ := hva
      obtain ⟨hfr0, hfr1⟩ := hfr
      clear hgood
      obtain ⟨vn, rfl⟩ : ∃ v : Nat, va = (v : Int) := ⟨va.toNat, by omega⟩
      have HS : Aside0 (res = ymapS bs F root vn fr fl free) := ⟨by rw [HRES.out, ← hbm.out, if_neg Bool.false_ne_true, Int.toNat_natCast]⟩
      have hR := HROOT.out
      have hN := HN.out
      have e1 : wrap64 ((root : Int) * 256) = (root : Int) * 256 := by unfold wrap64; omega
      have e2 : wrap64 ((root : Int) * 256 + 4 * ((vn : Int) / 8192)) = ((root * 256 + 4 * (vn / 8192) : Nat) : Int) := by unfold wrap64; omega
      clear hR hN
      go_upto_region 9 with (fail)
      go_wp2_with (fail)
      go_at_call 117
      have hlen : root * 256 + 4 * (vn / 8192) + 4 ≤ bs.length := by
        have hR := HROOT.out
        have hF := HF.out
        omega
      have hl2 : bs.length ≤ 65536 := by
        have hN := HN.out
        have hF := HF.out
        omega
      refine (bGet_calls _ g cap bs _ ((HB.out.alloc _).drewN _) hlen hl2).mono ?_
      rintro e w' ⟨rfl, ⟨m1, rfl⟩⟩
      obtain ⟨ev, hev⟩ : ∃ x, gwB bs (root * 256 + 4 * (vn / 8192)) = x := ⟨_, rfl⟩
      rw [hev]
      have HEV := Aside0.mk hev
      clear hlen hl2
      by_cases c1 : Go.bits .and .i64 ev 1 = 0
      · cases free with
        | nil =>
          have hr : res = (4, bs, []) := by rw [HS.out]; unfold ymapS; rw [HEV.out, if_pos c1]
          go_upto_region 20 with (fail)
          go_wp2
          go_ret2
          exact YP.mk hr A c rfl HFC.out HFR.out ((HB.out.alloc (Obj.cells #[.int .i64 (vn : Int), .int .i64 fr, .int .i64 fl, .bool false] 124)).drewN (m0 + m1)) (kb_drewN (kb_alloc (KB.refl _ _) _) _)
        | cons t rest =>
          have hC := HFR.out ((w.alloc (Obj.cells #[.int .i64 (vn : Int), .int .i64 fr, .int .i64 fl, .bool false] 124)).drewN (m0 + m1)) (kb_drewN (kb_alloc (KB.refl _ _) _) _)
          obtain ⟨ad, hA, hcells⟩ := (Kd.reads_of_C (d := (0 : Int)) hC).2.2 (by simp)
          subst hA
          have hc0 : ((w.alloc (Obj.cells #[.int .i64 (vn : Int), .int .i64 fr, .int .i64 fl, .bool false] 124)).drewN (m0 + m1)).cell? ad = some (.int .i64 t) := by simpa [Addr.add] using hcells 0 (by simp)
          have hfc1 : rest.length + 1 ≤ c := HFC.out
          have hlt0 : (0 : Int) < (rest.length : Int) + 1 := by omega
          have hne0 : ((rest.length : Int) + 1 == 0) = false := beq_eq_false_iff_ne.mpr (by omega)
          clear hC hcells
          go_upto_region 24 with (fail)
          obtain ⟨tn, rfl⟩ : ∃ x : Nat, t = (x : Int) := ⟨t.toNat, by have := HFT.out t (List.mem_cons_self ..); omega⟩
          have htF : tn < F := by have := HFT.out (tn : Int) (List.mem_cons_self ..); omega
          obtain ⟨A2, hA2⟩ : ∃ A2, (if c = 1 then some ad else some ({ block := ad.block, off := ad.off + 1 } : Addr)) = A2 := ⟨_, rfl⟩
          rw [hA2]
          have HFR2 : Aside0 (∀ W, KB w W g → Kd.C (Kd.int .i64) W A2 rest.length rest) := ⟨fun W hW => by
            have h := Kd.C_drop (m := 1) (HFR.out W hW) (by simp) HFC.out
            rw [← hA2]
            exact h⟩
          have HC2 : Aside0 (rest.length ≤ c - 1) := ⟨by omega⟩
          clear hA2 hc0 hfc1 hlt0 hne0
          have hN := HN.out
          have hF := HF.out
          have hcap := HB.out.1
          obtain ⟨f1, f2, f3, f4, f5, f6, f7, hlz⟩ := ymap_facts tn F cap bs.length hN htF hF hcap
          have HLZ := Aside0.mk hlz
          obtain ⟨w0, hw0⟩ : ∃ W, ((w.alloc (Obj.cells #[.int .i64 (vn : Int), .int .i64 fr, .int .i64 fl, .bool false] 124)).drewN (m0 + m1)) = W := ⟨_, rfl⟩
          have hB0 : Go.Proofs.Ytmajbehafgajmaa.By.BRow w0 g cap bs := by rw [← hw0]; exact (HB.out.alloc _).drewN _
          have hK0 : KB w w0 g := by rw [← hw0]; exact kb_drewN (kb_alloc (KB.refl _ _) _) _
          have hX0 : w0.heap[w.heap.size]? = some (Obj.cells #[.int .i64 (vn : Int), .int .i64 fr, .int .i64 fl, .bool false] 124) := by
            rw [← hw0]
            exact ymap_box w _ _
          have hgw : g ≠ w.heap.size := Nat.ne_of_lt HB.out.lt
          rw [hw0]
          clear hw0
          obtain ⟨w1, hw1⟩ : ∃ W, w0.setCells g (tn * 256) (List.replicate 256 (Value.int .u8 0)) = W := ⟨_, rfl⟩
          have HB1 : Aside0 (Go.Proofs.Ytmajbehafgajmaa.By.BRow w1 g cap (Go.Proofs.Ytmajbehafgajmaa.By.putAt bs (tn * 256) (List.replicate 256 0))) := ⟨by
            rw [← hw1]
            exact ymap_zero g cap (tn * 256) 256 hB0 HLZ.out⟩
          have HK1 : Aside0 (KB w w1 g) := ⟨hK0.trans (by rw [← hw1]; exact ymap_keep w0 g _ _)⟩
          have HX1 : Aside0 (w1.heap[w.heap.size]? = some (Obj.cells #[.int .i64 (vn : Int), .int .i64 fr, .int .i64 fl, .bool false] 124)) := ⟨by
            have hk : KB w0 w1 g := by rw [← hw1]; exact ymap_keep w0 g _ _
            exact hk.blk hX0 (fun e => hgw e.symm)⟩
          have hcl : ∀ ty, (Builtin.clear_ #[130] ty #[.slice (some ⟨g, tn * 256, none⟩) 256 (cap - tn * 256)]).run Try.prog w0 = .ok (.tuple #[]) w1 := fun ty => by
            rw [← hw1]
            exact Lib.run_clear_slice w0 _ 5 ty (.int .u8 0) Try.underlying130 (fun _ => by kernel_rfl) rfl rfl g (tn * 256) 256 _ (by decide) (fun j hj => hB0.room _ (Nat.lt_of_lt_of_le (Nat.add_lt_add_left hj _) (Nat.le_trans HLZ.out hcap))) (fun j hj => hB0.frozen _ (Nat.lt_of_lt_of_le (Nat.add_lt_add_left hj _) (Nat.le_trans HLZ.out hcap)))
          clear hlz hN hF
          have hsl := ymap_slice tn F cap bs.length g HN.out htF HF.out hcap
          have HGW := Aside0.mk hgw
          have hroom1 := ymap_rooms tn F root vn bs.length HN.out htF HF.out HROOT.out hva1
          have HRM := Aside0.mk hroom1
          obtain ⟨bs2, hbs2⟩ : ∃ b, put4 (Go.Proofs.Ytmajbehafgajmaa.By.putAt bs (tn * 256) (List.replicate 256 0)) (root * 256 + 4 * (vn / 8192)) (Go.bits .or .i64 ((tn : Int) * 256) 1) = b := ⟨_, rfl⟩
          have hr : res = ((ymapTail bs2 tn vn (Go.bits .or .i64 (Go.bits .or .i64 (fr * 256) fl) 1)).1, (ymapTail bs2 tn vn (Go.bits .or .i64 (Go.bits .or .i64 (fr * 256) fl) 1)).2, rest) := by rw [HS.out]; unfold ymapS; rw [HEV.out, if_pos c1]; simp only [Int.toNat_natCast]; rw [hbs2]
          unfold ymapTail at hr
          have HR := Aside0.mk hr
          have hln1 : (Go.Proofs.Ytmajbehafgajmaa.By.putAt bs (tn * 256) (List.replicate 256 0)).length = bs.length := Go.Proofs.Ytmajbehafgajmaa.By.putAt_length _ _ _ (by rw [List.length_replicate]; exact HLZ.out)
          have HLN1 := Aside0.mk hln1
          have hln2 : bs2.length = bs.length := by rw [← hbs2, put4_length _ _ _ (by rw [hln1]; exact hroom1.1), hln1]
          have HLN2 := Aside0.mk hln2
          have HBS2 := Aside0.mk hbs2
          clear hr hln1 hln2 hbs2 hroom1 hgw hX0 hK0 hB0 hw1
          go_wp2_with (simp only [hsl, hcl])
          clear hsl hcl
          go_at_call 118
          have hp := bPut_calls w1 g cap _ (root * 256 + 4 * (vn / 8192)) (Go.bits .or .i64 ((tn : Int) * 256) 1) HB1.out (by rw [HLN1.out]; exact HRM.out.1) (by rw [HLN1.out]; exact HRM.out.2.2.1)
          rw [HLN1.out] at hp
          refine hp.mono ?_
          clear hp
          rintro e w2 ⟨rfl, hB2, hk2⟩
          rw [HBS2.out] at hB2
          have HB2 := Aside0.mk hB2
          have HK2 := Aside0.mk (HK1.out.trans hk2)
          have hX2 := hk2.blk HX1.out (fun e => HGW.out e.symm)
          have HX2 := Aside0.mk hX2
          have hx2 : w2.cell? ⟨w.heap.size, 0, none⟩ = some (.int .i64 (vn : Int)) := blk_cell hX2 0
          have em : Go.bits .and .i64 ((vn : Int) / 256) 31 = (vn : Int) / 256 % 32 := Go.Proofs.Ytmajbehafgajmaa.Pl.and_mask _ 5 (by decide)
          have e4 : wrap64 ((tn : Int) * 256 + 4 * ((vn : Int) / 256 % 32)) = ((tn * 256 + 4 * (vn / 256 % 32) : Nat) : Int) := HRM.out.2.2.2
          clear hB2 hk2 hX2
          go_wp2_with (fail)
          go_at_call 117
          have hp := bGet_calls w2 g cap bs2 (tn * 256 + 4 * (vn / 256 % 32)) HB2.out (by rw [HLN2.out]; exact HRM.out.2.1) (by rw [HLN2.out]; exact HRM.out.2.2.1)
          rw [HLN2.out] at hp
          refine hp.mono ?_
          clear hp
          rintro e w' ⟨rfl, ⟨m3, rfl⟩⟩
          obtain ⟨ev2, hev2⟩ : ∃ x, gwB bs2 (tn * 256 + 4 * (vn / 256 % 32)) = x := ⟨_, rfl⟩
          rw [hev2]
          have HEV2 := Aside0.mk hev2
          clear hev2
          by_cases c3 : Go.bits .and .i64 ev2 1 = 0
          · have c3a : (Go.bits .and .i64 ev2 1 != 0) = false := by rw [c3]; rfl
            have hr := HR.out
            rw [HEV2.out, if_pos c3] at hr
            have HR2 := Aside0.mk hr
            clear hr
            go_wp2_with (fail)
            go_at_call 118
            have hp := bPut_calls _ g cap bs2 (tn * 256 + 4 * (vn / 256 % 32)) (Go.bits .or .i64 (Go.bits .or .i64 (fr * 256) fl) 1) (HB2.out.drewN m3) (by rw [HLN2.out]; exact HRM.out.2.1) (by rw [HLN2.out]; exact HRM.out.2.2.1)
            rw [HLN2.out] at hp
            refine hp.mono ?_
            clear hp
            rintro e w' ⟨rfl, hB3, hk⟩
            have HB3 := Aside0.mk hB3
            have HK := Aside0.mk hk
            clear hB3 hk
            go_wp2
            go_ret2
            exact YP.mk HR2.out A2 (c - 1) rfl HC2.out HFR2.out HB3.out ((kb_drewN HK2.out m3).trans HK.out)
          · have c3a : (Go.bits .and .i64 ev2 1 != 0) = true := bne_iff_ne.mpr c3
            have hr := HR.out
            rw [HEV2.out, if_neg c3] at hr
            have HR2 := Aside0.mk hr
            clear hr
            go_wp2
            go_ret2
            exact YP.mk HR2.out A2 (c - 1) rfl HC2.out HFR2.out (HB2.out.drewN m3) (kb_drewN HK2.out m3)
      · have c1a : (Go.bits .and .i64 ev 1 == 0) = false := beq_eq_false_iff_ne.mpr c1
        have c1b : (Go.bits .and .i64 ev 1 != 0) = true := bne_iff_ne.mpr c1
        by_cases c2 : Go.bits .and .i64 ev 14 = 0
        · have c2b : (Go.bits .and .i64 ev 14 != 0) = false := by rw [c2]; rfl
          obtain ⟨tn, htn⟩ : ∃ t : Nat, ev / 256 = (t : Int) := ⟨(ev / 256).toNat, by have := gwB_range bs (root * 256 + 4 * (vn / 8192)); omega⟩
          clear hev
          go_upto_region 26 with (fail)
          go_wp2_with (fail)
          go_at_call 119
          have hyf : impl_yframes.f (intsB bs) = some (F : Int) := by
            unfold impl_yframes.f
            have hF := HF.out
            have hN := HN.out
            rw [intsB_length, Go.Proofs.Ytmajbehafgajmaa.Pl.w64 (by omega) (by omega)]
            congr 1; omega
          have hB2 := ((HB.out.alloc (Obj.cells #[.int .i64 (vn : Int), .int .i64 fr, .int .i64 fl, .bool false] 124)).drewN (m0 + m1))
          have hcall := impl_yframes.calls (some ⟨g, 0, none⟩) cap (intsB bs) (F : Int) _ (brow_C hB2) (by rw [intsB_length]; exact hB2.1) hyf
          rw [intsB_length] at hcall
          clear hyf hB2
          refine hcall.mono ?_
          clear hcall
          rintro e w' ⟨rfl, ⟨m2, rfl⟩⟩
          by_cases hlt : (F : Int) ≤ (tn : Int)
          · have hr : res = (9, bs, free) := by rw [HS.out]; unfold ymapS; rw [HEV.out, if_neg c1, if_pos c2, htn, if_pos hlt]
            have hB2 := (HB.out.alloc (Obj.cells #[.int .i64 (vn : Int), .int .i64 fr, .int .i64 fl, .bool false] 124)).drewN (m0 + m1 + m2)
            go_wp2
            go_ret2
            exact YP.mk hr A c rfl HFC.out HFR.out hB2 (kb_drewN (kb_alloc (KB.refl _ _) _) _)
          · have em : Go.bits .and .i64 ((vn : Int) / 256) 31 = (vn : Int) / 256 % 32 := Go.Proofs.Ytmajbehafgajmaa.Pl.and_mask _ 5 (by decide)
            have hN := HN.out
            have e3 : wrap64 ((tn : Int) * 256) = (tn : Int) * 256 := by unfold wrap64; omega
            have e4 : wrap64 ((tn : Int) * 256 + 4 * ((vn : Int) / 256 % 32)) = ((tn * 256 + 4 * (vn / 256 % 32) : Nat) : Int) := by unfold wrap64; omega
            have hlen : tn * 256 + 4 * (vn / 256 % 32) + 4 ≤ bs.length := by
              have hF := HF.out
              omega
            have hl2 : bs.length ≤ 65536 := by
              have hF := HF.out
              omega
            have hr : res = ((ymapTail bs tn vn (Go.bits .or .i64 (Go.bits .or .i64 (fr * 256) fl) 1)).1, (ymapTail bs tn vn (Go.bits .or .i64 (Go.bits .or .i64 (fr * 256) fl) 1)).2, free) := by rw [HS.out]; unfold ymapS; rw [HEV.out, if_neg c1, if_pos c2, htn, if_neg hlt, Int.toNat_natCast]
            unfold ymapTail at hr
            have HR := Aside0.mk hr
            have hB2 := (HB.out.alloc (Obj.cells #[.int .i64 (vn : Int), .int .i64 fr, .int .i64 fl, .bool false] 124)).drewN (m0 + m1 + m2)
            have HB2 := Aside0.mk hB2
            have HL := Aside0.mk hlen
            have HL2 := Aside0.mk hl2
            clear hN hr hB2 hlen hl2
            go_wp2_with (fail)
            go_at_call 117
            refine (bGet_calls _ g cap bs _ HB2.out HL.out HL2.out).mono ?_
            rintro e w' ⟨rfl, ⟨m3, rfl⟩⟩
            obtain ⟨ev2, hev2⟩ : ∃ x, gwB bs (tn * 256 + 4 * (vn / 256 % 32)) = x := ⟨_, rfl⟩
            rw [hev2]
            have HEV2 := Aside0.mk hev2
            clear hev2
            by_cases c3 : Go.bits .and .i64 ev2 1 = 0
            · have c3a : (Go.bits .and .i64 ev2 1 != 0) = false := by rw [c3]; rfl
              have hr := HR.out
              rw [HEV2.out, if_pos c3] at hr
              have HR2 := Aside0.mk hr
              clear hr
              go_wp2_with (fail)
              go_at_call 118
              refine (bPut_calls _ g cap bs _ _ (HB.out.alloc (Obj.cells #[.int .i64 (vn : Int), .int .i64 fr, .int .i64 fl, .bool false] 124) |>.drewN (m0 + m1 + m2 + m3)) HL.out HL2.out).mono ?_
              rintro e w' ⟨rfl, hB3, hk⟩
              have HB3 := Aside0.mk hB3
              have HK := Aside0.mk hk
              clear hB3 hk
              go_wp2
              go_ret2
              have hk2 := (kb_drewN (kb_alloc (KB.refl w g) (Obj.cells #[.int .i64 (vn : Int), .int .i64 fr, .int .i64 fl, .bool false] 124)) (m0 + m1 + m2 + m3)).trans HK.out
              exact YP.mk HR2.out A c rfl HFC.out HFR.out HB3.out hk2
            · have c3a : (Go.bits .and .i64 ev2 1 != 0) = true := bne_iff_ne.mpr c3
              have hr := HR.out
              rw [HEV2.out, if_neg c3] at hr
              have HR2 := Aside0.mk hr
              clear hr
              go_wp2
              go_ret2
              exact YP.mk HR2.out A c rfl HFC.out HFR.out ((HB.out.alloc (Obj.cells #[.int .i64 (vn : Int), .int .i64 fr, .int .i64 fl, .bool false] 124)).drewN (m0 + m1 + m2 + m3)) (kb_drewN (kb_alloc (KB.refl _ _) _) _)
        · have c2b : (Go.bits .and .i64 ev 14 != 0) = true := bne_iff_ne.mpr c2
          have hr : res = (9, bs, free) := by rw [HS.out]; unfold ymapS; rw [HEV.out, if_neg c1, if_neg c2]
          have hB2 := (HB.out.alloc (Obj.cells #[.int .i64 (vn : Int), .int .i64 fr, .int .i64 fl, .bool false] 124)).drewN (m0 + m1)
          go_upto_region 26 with (fail)
          go_wp2
          go_ret2
          exact YP.mk hr A c rfl HFC.out HFR.out hB2 (kb_drewN (kb_alloc (KB.refl _ _) _) _)
set_option maxHeartbeats 16000000 in
set_option maxRecDepth 100000 in
theorem ymapL_calls (w : World) (g cap : Nat) (bs : List UInt8) (root : Nat) (va fr fl : Int) (A : Option Addr) (n c : Nat) (F : Nat) (hb : Go.Proofs.Ytmajbehafgajmaa.By.BRow w g cap bs) (hF : bs.length = F * 256) (hn : F ≤ 256) (hroot : root < F) (free : List Int) (hnf : n = free.length) (hfc : free.length ≤ c) (hft : ∀ t ∈ free, 0 ≤ t ∧ t < (F : Int)) (hfr0 : ∀ W, KB w W g → Kd.C (Kd.int .i64) W A free.length free) :
    Calls Try.prog 77 #[.slice (some ⟨g, 0, none⟩) bs.length cap, .int .i64 (root : Int), .agg #[.int .i64 va, .int .i64 fr, .int .i64 fl, .bool true], .slice A n c] w (YP w g cap (if mapBad va fr fl true = true then (1, bs, free) else ymapL bs root va.toNat fr fl free)) := by
  subst hnf
  obtain ⟨res, hres⟩ : ∃ x, x = (if mapBad va fr fl true = true then (1, bs, free) else ymapL bs root va.toNat fr fl free) := ⟨_, rfl⟩
  rw [← hres]
  have HRES := Aside0.mk hres
  have HFR := Aside0.mk hfr0
  have HFC := Aside0.mk hfc
  have HFT := Aside0.mk hft
  clear hres hfr0 hfc hft
  have HB := Aside0.mk hb
  have HF := Aside0.mk hF
  have HN := Aside0.mk hn
  have HROOT := Aside0.mk hroot
  clear hb hF hn hroot
  go_enter Try.func77, Try.ntmps77
  go_upto_region 5 with (fail)
  go_cut [54] (fun s54 wc => ∃ b : Bool, s54 = .bool b ∧ Aside0 (b = mapBad va fr fl true) ∧ ∃ m : Nat, wc = (w.alloc (Obj.cells #[.int .i64 va, .int .i64 fr, .int .i64 fl, .bool true] 124)).drewN m)
  case first =>
    obtain ⟨q1, hq1⟩ : ∃ q, Int.tmod va 8192 = q := ⟨_, rfl⟩
    obtain ⟨q2, hq2⟩ : ∃ q, Int.tmod fr 32 = q := ⟨_, rfl⟩
    obtain ⟨q3, hq3⟩ : ∃ q, Go.bits .andNot .i64 fl 158 = q := ⟨_, rfl⟩
    obtain ⟨q4, hq4⟩ : ∃ q, Go.bits .and .i64 fl 14 = q := ⟨_, rfl⟩
    have HQ : Aside0 (mapBad va fr fl true = (!(inMB va 0 262143) || (!(q1 == 0) || (!(inMB fr 0 1023) || (!(q2 == 0) || (!(q3 == 0) || (q4 == 0))))))) := ⟨by unfold mapBad; rw [← hq1, ← hq2, ← hq3, ← hq4]; rfl⟩
    go_wp2_with (fail)
    go_at_call 49
    refine (impl_yin.calls _ _ _ _ _ (yinM_eq _ _ _)).mono ?_
    rintro e w' ⟨rfl, ⟨m0, rfl⟩⟩
    cases hb0 : inMB va 0 262143
    case false =>
      go_wp2
      go_meet
      case rel => exact ⟨true, rfl, ⟨by rw [HQ.out, hb0]; rfl⟩, _, rfl⟩
    by_cases c1 : q1 = 0
    case neg =>
      have c1a : (q1 != 0) = true := bne_iff_ne.mpr c1
      have c1b : (q1 == 0) = false := beq_eq_false_iff_ne.mpr c1
      go_wp2
      go_meet
      case rel => exact ⟨true, rfl, ⟨by rw [HQ.out, hb0, c1b]; rfl⟩, _, rfl⟩
    subst c1
    go_wp2_with (fail)
    go_at_call 49
    refine (impl_yin.calls _ _ _ _ _ (yinM_eq _ _ _)).mono ?_
    rintro e w' ⟨rfl, ⟨m1, rfl⟩⟩
    cases hb1 : inMB fr 0 1023
    case false =>
      go_wp2
      go_meet
      case rel => exact ⟨true, rfl, ⟨by rw [HQ.out, hb0, hb1]; rfl⟩, _, rfl⟩
    by_cases c2 : q2 = 0
    case neg =>
      have c2a : (q2 != 0) = true := bne_iff_ne.mpr c2
      have c2b : (q2 == 0) = false := beq_eq_false_iff_ne.mpr c2
      go_wp2
      go_meet
      case rel => exact ⟨true, rfl, ⟨by rw [HQ.out, hb0, hb1, c2b]; rfl⟩, _, rfl⟩
    subst c2
    by_cases c3 : q3 = 0
    case neg =>
      have c3a : (q3 != 0) = true := bne_iff_ne.mpr c3
      have c3b : (q3 == 0) = false := beq_eq_false_iff_ne.mpr c3
      go_wp2
      go_meet
      case rel => exact ⟨true, rfl, ⟨by rw [HQ.out, hb0, hb1, c3b]; rfl⟩, _, rfl⟩
    subst c3
    by_cases c4 : q4 = 0
    · subst c4
      go_wp2
      go_meet
      case rel => exact ⟨true, rfl, ⟨by rw [HQ.out, hb0, hb1]; rfl⟩, _, rfl⟩
    · have c4b : (q4 == 0) = false := beq_eq_false_iff_ne.mpr c4
      go_wp2
      go_meet
      case rel => exact ⟨false, rfl, ⟨by rw [HQ.out, hb0, hb1, c4b]; rfl⟩, _, rfl⟩
  case rest =>
    obtain ⟨b, rfl, hbm, m0, rfl⟩ := hcut
    cases b with
    | true =>
      have hr : res = (1, bs, free) := by rw [HRES.out, ← hbm.out, if_pos rfl]
      have hB2 := ((HB.out.alloc (Obj.cells #[.int .i64 va, .int .i64 fr, .int .i64 fl, .bool true] 124)).drewN m0)
      go_wp2
      go_ret2
      exact YP.mk hr A c rfl HFC.out HFR.out hB2 (kb_drewN (kb_alloc (KB.refl _ _) _) _)
    | false =>
      have hgood := hbm.out
      have hva : 0 ≤ va ∧ va ≤ 262143 := by
        unfold mapBad inMB at hgood
        simp only [Bool.false_eq, Bool.or_eq_false_iff, Bool.not_eq_false', Bool.and_eq_true, decide_eq_true_eq] at hgood
        exact hgood.1
      have hfr : 0 ≤ fr ∧ fr ≤ 1023 := by
        unfold mapBad inMB at hgood
        simp only [Bool.false_eq, Bool.or_eq_false_iff, Bool.not_eq_false', Bool.and_eq_true, decide_eq_true_eq] at hgood
        exact hgood.2.2.1
      obtain ⟨hva0, hva1⟩ := hva
      obtain ⟨hfr0, hfr1⟩ := hfr
      clear hgood
      obtain ⟨vn, rfl⟩ : ∃ v : Nat, va = (v : Int) := ⟨va.toNat, by omega⟩
      have HS : Aside0 (res = ymapL bs root vn fr fl free) := ⟨by rw [HRES.out, ← hbm.out, if_neg Bool.false_ne_true, Int.toNat_natCast]⟩
      have hR := HROOT.out
      have hN := HN.out
      have e1 : wrap64 ((root : Int) * 256) = (root : Int) * 256 := by unfold wrap64; omega
      have e2 : wrap64 ((root : Int) * 256 + 4 * ((vn : Int) / 8192)) = ((root * 256 + 4 * (vn / 8192) : Nat) : Int) := by unfold wrap64; omega
      clear hR hN
      go_upto_region 9 with (fail)
      go_wp2_with (fail)
      go_at_call 117
      have hlen : root * 256 + 4 * (vn / 8192) + 4 ≤ bs.length := by
        have hR := HROOT.out
        have hF := HF.out
        omega
      have hl2 : bs.length ≤ 65536 := by
        have hN := HN.out
        have hF := HF.out
        omega
      refine (bGet_calls _ g cap bs _ ((HB.out.alloc _).drewN _) hlen hl2).mono ?_
      rintro e w' ⟨rfl, ⟨m1, rfl⟩⟩
      obtain ⟨ev, hev⟩ : ∃ x, gwB bs (root * 256 + 4 * (vn / 8192)) = x := ⟨_, rfl⟩
      rw [hev]
      have HEV := Aside0.mk hev
      clear hlen hl2
      have hr0 : res = (if Go.bits .and .i64 ev 1 = 0 then (0, put4 bs (root * 256 + 4 * (vn / 8192)) (Go.bits .or .i64 (Go.bits .or .i64 (fr * 256) fl) 1), free) else (9, bs, free)) := by rw [HS.out]; unfold ymapL; rw [HEV.out]
      have HR0 := Aside0.mk hr0
      have hroom1 := ymap_rooms root F root vn bs.length HN.out HROOT.out HF.out HROOT.out hva1
      have HRM := Aside0.mk hroom1
      clear hr0 hroom1
      by_cases c1 : Go.bits .and .i64 ev 1 = 0
      · have c1a : (Go.bits .and .i64 ev 1 != 0) = false := by rw [c1]; rfl
        have hr := HR0.out
        rw [if_pos c1] at hr
        have HR := Aside0.mk hr
        clear hr
        go_wp2_with (fail)
        go_at_call 118
        refine (bPut_calls _ g cap bs (root * 256 + 4 * (vn / 8192)) _ ((HB.out.alloc _).drewN _) HRM.out.1 HRM.out.2.2.1).mono ?_
        rintro e w' ⟨rfl, hB3, hk⟩
        have HB3 := Aside0.mk hB3
        have HK := Aside0.mk hk
        clear hB3 hk
        go_wp2
        go_ret2
        have hk2 := (kb_drewN (kb_alloc (KB.refl w g) (Obj.cells #[.int .i64 (vn : Int), .int .i64 fr, .int .i64 fl, .bool true] 124)) (m0 + m1)).trans HK.out
        exact YP.mk HR.out A c rfl HFC.out HFR.out HB3.out hk2
      · have c1b : (Go.bits .and .i64 ev 1 != 0) = true := bne_iff_ne.mpr c1
        have hr := HR0.out
        rw [if_neg c1] at hr
        have HR := Aside0.mk hr
        clear hr
        go_wp2
        go_ret2
        exact YP.mk HR.out A c rfl HFC.out HFR.out ((HB.out.alloc (Obj.cells #[.int .i64 (vn : Int), .int .i64 fr, .int .i64 fl, .bool true] 124)).drewN (m0 + m1)) (kb_drewN (kb_alloc (KB.refl _ _) _) _)
theorem impl_ymap.calls (r : Int) : True := trivial

/-! ### slices_Clone_int64_int64: function 78 -/
def slices_Clone_int64_int64.f (l0 : List Int) : Option (List Int) := if l0.length < 17592186044416 then some l0 else none
set_option maxHeartbeats 8000000 in
set_option maxRecDepth 100000 in
theorem slices_Clone_int64_int64.calls (A0 : Option Addr) (c0 : Nat) (l0 : List Int) (r : List Int) (w : World) (hr0 : Kd.C (Kd.int .i64) w A0 l0.length l0) (hc0 : l0.length ≤ c0) (h : slices_Clone_int64_int64.f l0 = some r) :
    Calls Try.prog 78 #[.slice A0 l0.length c0] w fun e w' => ∃ v0_ : Value, e = .returned (v0_) ∧ Kd.R (Kd.int .i64) 2 w' w.heap.size (fun _ => True) v0_ r ∧ Below w.heap.size w w' := by
  have HR0 := Aside0.mk hr0
  have HC0 := Aside0.mk hc0
  have hq := fun (w : World) (a : Option Addr) (n c : Nat) => run_eql_slice_nil (P := Try.prog) w 50 2 a n c Try.underlying50
  unfold slices_Clone_int64_int64.f at h
  by_cases c2 : l0.length < 17592186044416
  · rw [if_pos c2] at h
    obtain rfl := Option.some.inj h
    have LMc2 := Aside0.mk (show ([] : List Int).length + l0.length < 17592186044416 from by simpa using c2)
    clear h c2
    cases A0 with
    | none =>
      have hz : l0 = [] := by
        cases l0 with
        | nil => rfl
        | cons a t => exact absurd hr0 (by intro hh; obtain ⟨ad, e_, _⟩ := Kd.at_int hh 0 (by omega) (by simp); exact absurd e_ (by simp))
      subst hz
      clear hr0 hc0
      go_enter Try.func78, Try.ntmps78
      go_wp2
      go_ret
      exact ⟨_, rfl, Kd.R_nil _ _ _ _ _, Below.refl _ _⟩
    | some A =>
      clear hr0 hc0
      have HB := Aside0.mk (Below.refl w.heap.size w)
      obtain ⟨y113, hy113⟩ : ∃ y_ : List Int, y_ = (([] : List Int)) := ⟨_, rfl⟩
      obtain ⟨y116, hy116⟩ : ∃ y_ : List Int, y_ = (y113 ++ l0) := ⟨_, rfl⟩
      have hfin : y116 = l0 := by rw [hy116, hy113, List.nil_append]
      rw [← hy113] at LMc2
      have Ny113 := Aside0.mk hy113
      have Ny116 := Aside0.mk hy116
      have HFIN := Aside0.mk hfin
      clear hy113 hy116 hfin
      go_enter Try.func78, Try.ntmps78
      go_wp2_with (first | ((with_reducible refine gate_dst (N := 5) rfl ?_); refine Kd.R_lit (Kd.int .i64) _ 2 ?hg (N := 5) ?hd (xs := ([] : List Int)) (inner := []) (ok := fun _ => True) (okp := fun _ => True) ?hr ?hp (fun _ hk => hk) trivial (Below.refl _ _) (Nat.le_refl _) (by simp) ?_; (case hd => rfl); (case hg => rfl); (case hr => first | (go_simp; done) | (go_simp; rfl)); (case hp => exact (Reps.none _ _)); intro v114 w3 ho4 hb hg_ hnew_; clear hg_ hnew_; (first | rw [← Ny113.out] at ho4 | (simp only [Int.reduceToNat] at ho4; rw [← Ny113.out] at ho4)); have n0_ := Aside0.mk (Kd.R_lower ho4 (below_size (by repeat (first | (with_reducible first | exact HB.out | apply below_alloc | apply pw_below_drewN | apply below_drew1) | exact HB.out)))); have n1_ := Aside0.mk (below_step (by repeat (first | (with_reducible first | exact HB.out | apply below_alloc | apply pw_below_drewN | apply below_drew1) | exact HB.out)) hb); clear HB; have HO115 := n0_; have HB := n1_; clear n0_ n1_; clear hb ho4) | ((with_reducible refine gate_builtin (b := .append) (xs := #[.tmp 5, .tmp 6]) rfl ?_); at_builtin; refine Kd.R_append_rows (Kd.int .i64) (w0 := w) w.heap.size rfl (.tmp 5) (.tmp 6) 50 2 (.int .i64 0) 8 rfl Try.underlying50 info2 rfl (by decide) (by omega) v114 y113 l0 _ _ _ (fun _ => True) (fun _ => False) rfl rfl ?aO ?aR (fun _ _ h => h) (fun _ h => h.elim) ?aF ?aB ?aS ?aL ?_; (case aR => repeat (first | exact (Kd.C_below HR0.out HB.out) | (with_reducible refine Kd.C_alloc ?_ _) | (with_reducible refine Kd.C_drewN ?_ _) | (with_reducible refine Kd.C_drew ?_))); (case aB => exact (by repeat (first | (with_reducible first | exact HB.out | apply below_alloc | apply pw_below_drewN | apply below_drew1) | exact HB.out))); (case aF => exact (fun _ _ => trivial)); (case aO => exact (by (with_reducible repeat (first | apply Kd.R_alloc | apply Kd.R_drewN | apply Kd.R_drew)); exact HO115.out)); (case aS => exact (below_size (by repeat (first | (with_reducible first | exact HB.out | apply below_alloc | apply pw_below_drewN | apply below_drew1) | exact HB.out)))); (case aL => have := LMc2.out; omega); intro v117 w5 ho hb hg hat; rw [← Ny116.out] at ho; have n0_ := Aside0.mk (hb); have n1_ := Aside0.mk (ho); clear HB; clear HO115; have HB := n0_; have HO118 := n1_; clear n0_ n1_; clear ho hb hg hat))
      go_ret
      have HO := HO118.out
      rw [HFIN.out] at HO
      exact ⟨_, by first | rfl | (simp [errW_none, errW_some] <;> rfl) | (simp [*, errW_none, errW_some] <;> rfl), by (with_reducible repeat (first | apply Kd.R_alloc | apply Kd.R_drewN | apply Kd.R_drew)); exact HO, by repeat (first | (with_reducible first | exact HB.out | apply below_alloc | apply pw_below_drewN | apply below_drew1) | exact HB.out)⟩
  · rw [if_neg c2] at h; exact absurd h (by simp)

end Go.Proofs.Ytmajbehafgajmaa.QFnExactMapPages
