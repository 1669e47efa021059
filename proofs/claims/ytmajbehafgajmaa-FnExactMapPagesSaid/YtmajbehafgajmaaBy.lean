/- A row of bytes that a call owns (behind '[]byte(s)'), as a list of bytes. -/
import Derived.Test.YtmajbehafgajmaaPl
import Derived.Lib.LazyBuf
import Derived.Lib.ConvBytes
import Derived.Laws.BytesArg
import Derived.ArgAppend
import Derived.Below
import Derived.Test.YtmajbehafgajmaaWWords
namespace Go.Proofs.Ytmajbehafgajmaa.By
open Go Go.RowKit Go.Proofs.YtmajbehafgajmaaW.PrintWords

def cellsOf (bs : List UInt8) : List Value := bs.map fun b => Value.int .u8 (b.toNat : Int)
theorem cellsOf_length (bs : List UInt8) : (cellsOf bs).length = bs.length := by simp [cellsOf]
/-- What is laid at place o of a list. -/
def putAt (bs : List UInt8) (o : Nat) (vs : List UInt8) : List UInt8 := bs.take o ++ vs ++ bs.drop (o + vs.length)
theorem putAt_nil (bs : List UInt8) (o : Nat) : putAt bs o [] = bs := by simp [putAt]
theorem putAt_length (bs : List UInt8) (o : Nat) (vs : List UInt8) (h : o + vs.length ≤ bs.length) : (putAt bs o vs).length = bs.length := by
  simp [putAt, List.length_append, List.length_take, List.length_drop]; omega
theorem putAt_get (bs : List UInt8) (o : Nat) (vs : List UInt8) (h : o ≤ bs.length) (j : Nat) : (putAt bs o vs)[j]? = if j < o then bs[j]? else if j < o + vs.length then vs[j - o]? else bs[j]? := by
  unfold putAt
  rw [List.append_assoc, List.getElem?_append]
  have hl : (bs.take o).length = o := by rw [List.length_take]; omega
  rw [hl]
  by_cases h1 : j < o
  · rw [if_pos h1, if_pos h1, List.getElem?_take, if_pos h1]
  · rw [if_neg h1, if_neg h1, List.getElem?_append]
    by_cases h2 : j < o + vs.length
    · rw [if_pos h2, if_pos (by omega)]
    · rw [if_neg h2, if_neg (by omega), List.getElem?_drop]
      congr 1
      omega
theorem putAt_cons (bs : List UInt8) (o : Nat) (v : UInt8) (vs : List UInt8) (h : o ≤ bs.length) : putAt (putAt bs o [v]) (o + 1) vs = putAt bs o (v :: vs) := by
  apply List.ext_getElem?
  intro j
  have hl : o + 1 ≤ (putAt bs o [v]).length := by
    simp [putAt, List.length_append, List.length_take, List.length_drop]; omega
  rw [putAt_get _ _ _ hl, putAt_get _ _ _ h, putAt_get _ _ _ h]
  simp only [List.length_cons, List.length_nil]
  by_cases h1 : j < o
  · rw [if_pos (by omega), if_pos h1, if_pos h1]
  · by_cases h2 : j = o
    · subst h2
      rw [if_pos (by omega), if_neg (by omega), if_pos (by omega), if_neg (by omega), if_pos (by omega), Nat.sub_self]
      rfl
    · rw [if_neg (by omega), if_neg h1]
      by_cases h3 : j < o + 1 + vs.length
      · rw [if_pos h3, if_neg h1, if_pos (by omega), show j - o = (j - (o + 1)) + 1 from by omega, List.getElem?_cons_succ]
      · rw [if_neg h3, if_neg (by omega), if_neg (by omega), if_neg (by omega)]

/-- Block g holds the bytes bs, and room for cap. -/
def BRow (w : World) (g cap : Nat) (bs : List UInt8) : Prop :=
  bs.length ≤ cap ∧ cap ≤ maxLen ∧ ∃ (cs : Array Value) (e : TypeId) (m : Nat × Nat), w.heap[g]? = some (.cells cs e m) ∧ (m.2 ≤ m.1 ∨ cap ≤ m.1) ∧ cs.size = cap ∧ ∀ j (hj : j < bs.length), cs[j]? = some (.int .u8 ((bs[j]).toNat : Int))
theorem BRow.cell {w : World} {g cap : Nat} {bs : List UInt8} (h : BRow w g cap bs) (j : Nat) (hj : j < bs.length) : w.cell? ⟨g, j, none⟩ = some (.int .u8 ((bs[j]).toNat : Int)) := by
  obtain ⟨_, _, cs, e, m, hh, _, _, hc⟩ := h
  simp [World.cell?, hh, hc j hj]
theorem BRow.room {w : World} {g cap : Nat} {bs : List UInt8} (h : BRow w g cap bs) (j : Nat) (hj : j < cap) : (w.cell? ⟨g, j, none⟩).isSome = true := by
  obtain ⟨_, _, cs, e, m, hh, _, hs, hc⟩ := h
  have : j < cs.size := by omega
  simp [World.cell?, hh, this]
theorem BRow.frozen {w : World} {g cap : Nat} {bs : List UInt8} (h : BRow w g cap bs) (j : Nat) (hj : j < cap) : w.frozen? ⟨g, j, none⟩ = false := by
  obtain ⟨_, _, cs, e, m, hh, hm, hs, hc⟩ := h
  simp only [World.frozen?, hh, Bool.and_eq_false_iff, decide_eq_false_iff_not]
  omega
theorem BRow.lt {w : World} {g cap : Nat} {bs : List UInt8} (h : BRow w g cap bs) : g < w.heap.size := by
  obtain ⟨_, _, cs, e, m, hh, _⟩ := h
  rcases Nat.lt_or_ge g w.heap.size with h' | h'
  · exact h'
  · simp [Array.getElem?_eq_none h'] at hh
theorem BRow.of_block {w w' : World} {g cap : Nat} {bs : List UInt8} (h : BRow w g cap bs) (e : w'.heap[g]? = w.heap[g]?) : BRow w' g cap bs := by
  obtain ⟨a, b, cs, e', m, hh, r⟩ := h
  exact ⟨a, b, cs, e', m, by rw [e, hh], r⟩
theorem BRow.below {w w' : World} {g cap B : Nat} {bs : List UInt8} (h : BRow w g cap bs) (hb : Below B w w') (hg : g < B) : BRow w' g cap bs := h.of_block (hb.block g hg)
theorem BRow.drewN {w : World} {g cap : Nat} {bs : List UInt8} (h : BRow w g cap bs) (n : Nat) : BRow (w.drewN n) g cap bs := h.below (B := g + 1) (pw_below_drewN (Below.refl _ _) _) (by omega)
theorem BRow.alloc {w : World} {g cap : Nat} {bs : List UInt8} (h : BRow w g cap bs) (o : Obj) : BRow (w.alloc o) g cap bs := h.of_block (Below.heap_alloc _ _ _ h.lt)
theorem BRow.setCell_other {w : World} {g cap : Nat} {bs : List UInt8} (h : BRow w g cap bs) (a : Addr) (u : Value) (hne : g ≠ a.block) : BRow (w.setCell a u) g cap bs := h.of_block (Below.heap_setCell _ _ _ _ hne)
theorem BRow.set {w : World} {g cap : Nat} {bs : List UInt8} (h : BRow w g cap bs) (o : Nat) (v : UInt8) (ho : o ≤ bs.length) (hc : o < cap) : BRow (w.setCell ⟨g, o, none⟩ (.int .u8 (v.toNat : Int))) g cap (putAt bs o [v]) := by
  obtain ⟨a, b, cs, e, m, hh, hm, hs, hcs⟩ := h
  have hlt : g < w.heap.size := BRow.lt (bs := bs) ⟨a, b, cs, e, m, hh, hm, hs, hcs⟩
  have hh' : (w.setCell ⟨g, o, none⟩ (.int .u8 (v.toNat : Int))).heap[g]? = some (.cells (cs.setIfInBounds o (.int .u8 (v.toNat : Int))) e m) := by
    simp only [World.setCell, Array.getElem?_modify, if_true, hh]
    simp
  have hlen : (putAt bs o [v]).length ≤ cap := by
    simp [putAt, List.length_append, List.length_take, List.length_drop]; omega
  refine ⟨hlen, b, _, e, m, hh', hm, by simpa using hs, fun j hj => ?_⟩
  have hg : (putAt bs o [v])[j]? = some (putAt bs o [v])[j] := List.getElem?_eq_getElem hj
  rw [putAt_get _ _ _ ho] at hg
  simp only [List.length_cons, List.length_nil] at hg
  rw [Array.getElem?_setIfInBounds]
  by_cases h1 : o = j
  · subst h1
    rw [if_pos rfl, if_pos (by omega)]
    rw [if_neg (by omega), if_pos (by omega), Nat.sub_self] at hg
    simp only [List.getElem?_cons_zero, Option.some.injEq] at hg
    rw [← hg]
  · rw [if_neg h1]
    have hb : bs[j]? = some (putAt bs o [v])[j] := by
      by_cases h2 : j < o
      · rwa [if_pos h2] at hg
      · rwa [if_neg h2, if_neg (by omega)] at hg
    obtain ⟨hjl, hje⟩ := List.getElem?_eq_some_iff.mp hb
    rw [hcs j hjl, hje]
theorem BRow.sets {g cap : Nat} : ∀ (vs : List UInt8) (o : Nat) {w : World} {bs : List UInt8}, BRow w g cap bs → o ≤ bs.length → o + vs.length ≤ cap → BRow (w.setCells g o (cellsOf vs)) g cap (putAt bs o vs)
  | [], o, w, bs, h, _, _ => by rw [putAt_nil]; exact h
  | v :: vs, o, w, bs, h, ho, hc => by
    simp only [List.length_cons] at hc
    have h1 := h.set o v ho (by omega)
    have h2 := BRow.sets vs (o + 1) h1 (by simp [putAt, List.length_append, List.length_take, List.length_drop]; omega) (by omega)
    rw [putAt_cons _ _ _ _ ho] at h2
    exact h2
theorem BRow.conv (w : World) (e : TypeId) (s : ByteArray) (hs : s.size ≤ 9223372036854775807) : BRow (Lib.bytesWorld w e s) w.heap.size (grownCap w s.size 0 e) s.data.toList := by
  have hge := grownCap_ge w s.size 0 e
  have hle := grownCap_le_maxLen w s.size 0 e (by simpa [maxLen] using hs)
  have hsz : s.data.toList.length = s.size := by rw [Array.length_toList]; rfl
  have hcs : (Lib.bytesCells w e s).size = grownCap w s.size 0 e := by
    simp only [Lib.bytesCells, Array.size_append, Array.size_map, Array.size_replicate]
    have : s.data.size = s.size := rfl
    omega
  refine ⟨by omega, hle, _, e, _, Lib.bytesWorld_at_new w e s, Or.inr ?_, hcs, fun j hj => ?_⟩
  · show _ ≤ (Lib.bytesCells w e s).size
    omega
  · have hj' : j < s.data.size := by rw [← Array.length_toList]; exact hj
    simp only [Lib.bytesCells]
    rw [Array.getElem?_append_left (by simpa using hj')]
    rw [Array.getElem?_map, Array.getElem?_eq_getElem hj', Option.map_some, Array.getElem_toList]
/-- Turned back to a string. -/
theorem BRow.back {P : Program} {w : World} {g cap : Nat} {bs : List UInt8} (h : BRow w g cap bs) (src dst e : TypeId) (hs : P.underlying src = some (.slice e)) (he : P.underlying e = some (.int .u8)) (hd : P.underlying dst = some .string) (c : Nat) (n : Nat) (hn : bs.length = n) :
    (convert src dst (.slice (some ⟨g, 0, none⟩) n c)).run P w = .ok (.string ⟨bs.toArray⟩) w := by
  subst hn
  have := run_convert_bytes_arg (P := P) w src e hs he g 0 bs.length c (bs.map fun b => (b.toNat : Int)) (by simp) (fun i hi => by
    rw [Nat.zero_add, h.cell i hi]
    simp [List.getD_eq_getElem?_getD, List.getElem?_eq_getElem hi]) dst hd
  rw [this]
  congr 2
  simp only [strOfNums, List.map_map]
  congr 1
  congr 1
  have hmap : ∀ l : List UInt8, (l.map ((fun n : Int => UInt8.ofNat n.toNat) ∘ fun b : UInt8 => (b.toNat : Int))) = l := fun l => by
    induction l with
    | nil => rfl
    | cons b r ih => rw [List.map_cons, ih]; simp
  exact hmap bs
/-- 'copy' from a string: as many bytes as there's room for. -/
theorem run_copy_str {P : Program} (w : World) (dT sT ty elem : TypeId) (b o dLen dCap : Nat) (t : ByteArray)
    (hu : P.underlying dT = some (.slice elem)) (hz : ∀ w, (Go.sizeOf elem).run P w = .ok 1 w)
    (hc : ∀ j, j < dLen → (w.cell? ⟨b, o + j, none⟩).isSome = true) (hf : ∀ j, j < dLen → w.frozen? ⟨b, o + j, none⟩ = false) :
    (Builtin.copy_ #[dT, sT] ty #[.slice (some ⟨b, o, none⟩) dLen dCap, .string t]).run P w = .ok (goInt (Nat.min t.size dLen)) (w.setCells b o (cellsOf (t.data.toList.take dLen))) := by
  have hl : (cellsOf (t.data.toList.take dLen)).length = Nat.min dLen t.size := by
    rw [cellsOf_length, List.length_take, Lib.size_eq]
  have hle : Nat.min dLen t.size ≤ dLen := Nat.min_le_left _ _
  have hst := run_storeCells_cells (P := P) b o (cellsOf (t.data.toList.take dLen)) 0 w (by rw [hl]; exact fun j hj => by simpa using hc j (by omega)) (by rw [hl]; exact fun j hj => by simpa using hf j (by omega)) (by
    intro v hv
    obtain ⟨x, _, rfl⟩ := List.mem_map.1 hv
    rfl)
  have hcells : ((t.data.toList.map fun x => Value.int .u8 (x.toNat : Int)).take (Nat.min t.size dLen)) = cellsOf (t.data.toList.take dLen) := by
    rw [cellsOf, List.map_take]
    have hlen : (t.data.toList.map fun x => Value.int .u8 (x.toNat : Int)).length = t.size := by rw [List.length_map, Lib.size_eq]
    rcases Nat.le_total t.size dLen with h | h
    · rw [show Nat.min t.size dLen = t.size from Nat.min_eq_left h, List.take_of_length_le (by omega), List.take_of_length_le (by rw [hlen]; omega)]
    · rw [show Nat.min t.size dLen = dLen from Nat.min_eq_right h]
  simp [Builtin.copy_, run_underlying hu, Builtin.lenOf, Builtin.firstCells, hz]
  rw [hcells, hst]
  rfl
/-- .. as one step of a region that draws. -/
theorem step_copy_str {P : Program} {ops : Array Oper} {o : Oper} {a : Act} {w : World} {K : Act → World → Prop} {Q : Exit → Act → World → Prop} {E : Prop}
    (hg : o.guard = none) (d x : Operand) (dT sT : TypeId) (hop : o.op = Op.call { callee := Callee.builtin Builtin.copy, args := #[d, x], argTypes := #[dT, sT] })
    (elem : TypeId) (hu : P.underlying dT = some (.slice elem)) (hz : ∀ w, (Go.sizeOf elem).run P w = .ok 1 w)
    (b off dLen dCap : Nat) (hd : a.eval d = .slice (some ⟨b, off, none⟩) dLen dCap) (t : ByteArray) (hx : a.eval x = .string t)
    (hc : ∀ j, j < dLen → (w.cell? ⟨b, off + j, none⟩).isSome = true) (hf : ∀ j, j < dLen → w.frozen? ⟨b, off + j, none⟩ = false)
    (hK : K (a.put o.dst (goInt (Nat.min t.size dLen))) (w.setCells b off (cellsOf (t.data.toList.take dLen)))) :
    if Region.wanted o (yielded ops a.tmps) = true then Oper.wp P o a w K Q else E := by
  have hw : Region.wanted o (yielded ops a.tmps) = true := by simp [Region.wanted, hg]
  rw [if_pos hw]
  have hrun := run_copy_str (P := P) w dT sT o.type elem b off dLen dCap t hu hz hc hf
  unfold Oper.wp
  simp [execOp, hop, resolve, invoke, builtin, hd, hx, hrun, Result.andThen]
  exact hK
/-- .. as one step of a region in its order. -/
theorem wpList_copy_str {P : Program} (w : World) {ops : Array Oper} {rest : List Oper} {o : Oper} {a : Act} {Q : Exit → Act → World → Prop}
    (hg : o.guard = none) (d x : Operand) (dT sT : TypeId) (hop : o.op = Op.call { callee := Callee.builtin Builtin.copy, args := #[d, x], argTypes := #[dT, sT] })
    (elem : TypeId) (hu : P.underlying dT = some (.slice elem)) (hz : ∀ w, (Go.sizeOf elem).run P w = .ok 1 w)
    (b off dLen dCap : Nat) (hd : a.eval d = .slice (some ⟨b, off, none⟩) dLen dCap) (t : ByteArray) (hx : a.eval x = .string t)
    (hc : ∀ j, j < dLen → (w.cell? ⟨b, off + j, none⟩).isSome = true) (hf : ∀ j, j < dLen → w.frozen? ⟨b, off + j, none⟩ = false)
    (hK : wpList P ops Q rest (a.put o.dst (goInt (Nat.min t.size dLen))) (w.setCells b off (cellsOf (t.data.toList.take dLen)))) :
    wpList P ops Q (o :: rest) a w := by
  refine wpList_plain hg fun K hK' => ?_
  have hrun := run_copy_str (P := P) w dT sT o.type elem b off dLen dCap t hu hz hc hf
  unfold Oper.wp
  simp [execOp, hop, resolve, invoke, builtin, hd, hx, hrun, Result.andThen]
  exact hK' _ _ hK
theorem size_one {P : Program} {e : TypeId} {z : Value} {bytes : Nat} (h : (P.info? e).map (fun i => (i.zero, i.size, i.bytes)) = some (some z, 1, bytes)) (w : World) : (Go.sizeOf e).run P w = .ok 1 w := by
  obtain ⟨i, hi, _, hs, _⟩ := info_parts h
  simp [Go.sizeOf, Go.typeInfo, hi, hs]
theorem extract_toList (s : ByteArray) (m : Nat) : (s.extract m s.size).data.toList = s.data.toList.drop m := by
  rw [ByteArray.data_extract, Array.toList_extract]
  simp only [List.extract_eq_take_drop]
  rw [List.take_of_length_le]
  simp [List.length_drop]
end Go.Proofs.Ytmajbehafgajmaa.By
