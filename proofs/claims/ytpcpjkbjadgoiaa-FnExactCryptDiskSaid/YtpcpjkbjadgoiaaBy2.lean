/- Appending to a row of bytes that a call owns. -/
import Derived.Test.YtpcpjkbjadgoiaaBy
import Derived.Test.YtpcpjkbjadgoiaaWZeros
namespace Go.Proofs.Ytpcpjkbjadgoiaa.By
open Go Go.RowKit Go.Proofs.YtpcpjkbjadgoiaaW.PrintWords
theorem BRow.drew {w : World} {g cap : Nat} {bs : List UInt8} (h : BRow w g cap bs) : BRow w.drew g cap bs := h
theorem cellsOf_append (a b : List UInt8) : cellsOf (a ++ b) = cellsOf a ++ cellsOf b := by simp [cellsOf]
theorem cellsOf_get (bs : List UInt8) (j : Nat) : (cellsOf bs)[j]? = (bs[j]?).map fun b => Value.int .u8 (b.toNat : Int) := by simp [cellsOf]
theorem cellsOf_one (bs : List UInt8) : ∀ u ∈ cellsOf bs, u.oneCell' = true := by
  intro u hu
  obtain ⟨x, _, rfl⟩ := List.mem_map.1 hu
  rfl
theorem BRow.of_owns {w : World} {base : Nat} {e : TypeId} {v : Value} {n : Nat} {bs : List UInt8} (h : w.ownsRow base e 1 v n (cellsOf bs)) (hn : 0 < n) :
    ∃ g cap, v = .slice (some ⟨g, 0, none⟩) n cap ∧ base ≤ g ∧ BRow w g cap bs := by
  obtain ⟨hl, h⟩ := h
  rw [cellsOf_length] at hl
  rcases h with ⟨_, h0⟩ | ⟨g, cap, cur, rfl, hb, hh, hnc, hcm, hs, ht⟩
  · omega
  · refine ⟨g, cap, rfl, hb, by omega, hcm, cur, e, (0, 0), hh, Or.inl (Nat.le_refl _), by omega, fun j hj => ?_⟩
    have h1 : (cellsOf bs)[j]? = some (Value.int .u8 ((bs[j]).toNat : Int)) := by rw [cellsOf_get, List.getElem?_eq_getElem hj, Option.map_some]
    rw [← ht, List.getElem?_take] at h1
    split at h1
    · rw [← Array.getElem?_toList]; exact h1
    · exact absurd h1 (by simp)
/-- 'append(b, x...)' of bytes: some row of the call's own holds both. -/
theorem wpList_append_bytes {P : Program} (w : World) {ops : Array Oper} {rest : List Oper} {o : Oper} {a : Act} {Q : Exit → Act → World → Prop}
    (hg : o.guard = none) (s x : Operand) (t : TypeId) (hop : o.op = Op.call { callee := Callee.builtin Builtin.append, args := #[s, x], argTypes := #[t, t] })
    (e : TypeId) (h1 : P.underlying t = some (.slice e)) (hi : (P.info? e).map (fun i => (i.zero, i.size, i.bytes)) = some (some (.int .u8 0), 1, 1))
    (B g cap : Nat) (bs vs : List UInt8) (n : Nat) (hn : bs.length = n) (hs : a.eval s = .slice (some ⟨g, 0, none⟩) n cap) (hr : BRow w g cap bs) (hBg : B ≤ g) (hBw : B ≤ w.heap.size)
    (ad : Addr) (c : Nat) (hx : a.eval x = .slice (some ad) vs.length c) (hc : ∀ j, j < vs.length → w.cell? (ad.add j) = (cellsOf vs)[j]?) (h0 : 0 < vs.length)
    (hmax : n + vs.length ≤ 140737488355328)
    (hK : ∀ w' g' cap', B ≤ g' → BRow w' g' cap' (bs ++ vs) → Below B w w' → wpList P ops Q rest (a.put o.dst (.slice (some ⟨g', 0, none⟩) (n + vs.length) cap')) w') :
    wpList P ops Q (o :: rest) a w := by
  subst hn
  obtain ⟨i, hi1, hi2, hi3, hi4⟩ := info_parts hi
  refine wpList_append_arg w hg s x t hop e i (.int .u8 0) 1 1 h1 hi1 hi2 hi3 hi4 rfl (by omega) g 0 bs.length cap (cellsOf bs) hs (by rw [cellsOf_length]; omega) (fun j u hj => ?_) ad vs.length c (cellsOf vs) hx (by rw [cellsOf_length]; omega) (fun j u hj => ?_) (cellsOf_one vs) (fun hle j hj => ?_) (by simp only [maxLen]; omega) (by omega) (fun hle => ?_) (fun _ v' w' ho hgr => ?_)
  · rw [cellsOf_get] at hj
    by_cases hjl : j < bs.length
    · rw [List.getElem?_eq_getElem hjl, Option.map_some] at hj
      rw [Nat.zero_add, hr.cell j hjl, ← hj]
    · rw [List.getElem?_eq_none (by omega)] at hj; exact absurd hj (by simp)
  · have hjl : j < vs.length := by
      rcases Nat.lt_or_ge j vs.length with h | h
      · exact h
      · rw [List.getElem?_eq_none (by rw [cellsOf_length]; exact h)] at hj; exact absurd hj (by simp)
    rw [hc j hjl, hj]
  · rw [cellsOf_length] at hj
    rw [Nat.zero_add, Nat.mul_one]
    exact ⟨hr.room _ (by omega), hr.frozen _ (by omega)⟩
  · rw [Nat.zero_add, Nat.mul_one]
    have := hr.sets vs bs.length (Nat.le_refl _) (by omega)
    have hp : putAt bs bs.length vs = bs ++ vs := by
      unfold putAt
      rw [List.take_length, List.drop_eq_nil_of_le (by omega), List.append_nil]
    rw [hp] at this
    exact hK _ g cap hBg this (below_setCells hBg _ _ _ (Below.refl _ _))
  · rw [← cellsOf_append] at ho
    obtain ⟨g', cap', rfl, hb', hr'⟩ := BRow.of_owns ho (by omega)
    exact hK _ g' cap' (by omega) hr' ((Below.refl _ _).grown hgr hBw (fun k h => absurd h (by simp)))
theorem zero_cells (m : Nat) : Builtin.zeroCells (Value.int .u8 0).cells m = (cellsOf (List.replicate m 0)).toArray := by
  apply Array.ext'
  rw [List.toList_toArray]
  apply List.ext_getElem
  · rw [Array.length_toList, size_zeroCells, cellsOf_length, List.length_replicate]
    exact Nat.mul_one m
  · intro j h1 h2
    simp [Builtin.zeroCells, cellsOf, Value.cells, Nat.mod_one]
/-- 'append(b, make([]byte, m)...)'. -/
theorem run_append_zeros_bytes {P : Program} (w : World) (t ti ty e : TypeId) (ht : P.underlying t = some (.slice e)) {k : IntKind} (hti : P.underlying ti = some (.int k)) (hi : (P.info? e).map (fun i => (i.zero, i.size, i.bytes)) = some (some (.int .u8 0), 1, 1))
    (B g cap : Nat) (bs : List UInt8) (hr : BRow w g cap bs) (hBg : B ≤ g) (hBw : B ≤ w.heap.size) (kx : IntKind) (m : Nat) (h0 : 0 < m) (hbytes : bs.length + m ≤ 140737488355328) :
    ∃ g' cap' w', (Builtin.append_ #[t, ti] ty #[.slice (some ⟨g, 0, none⟩) bs.length cap, .int kx m]).run P w = .ok (.slice (some ⟨g', 0, none⟩) (bs.length + m) cap') w' ∧ B ≤ g' ∧ BRow w' g' cap' (bs ++ List.replicate m 0) ∧ Below B w w' := by
  obtain ⟨i, hi1, hi2, hi3, hi4⟩ := info_parts hi
  have h63 : bs.length + m ≤ maxLen := by simp only [maxLen]; omega
  have hw : IntKind.i64.wrap (m : Int) = m := by rw [IntKind.wrap_i64]; omega
  have hneg : ¬ ((m : Int) < 0) := by omega
  have hbig : ¬ (281474976710656 < (m : Int) * (i.bytes : Int)) := by rw [hi4]; omega
  have hna := zero_cells m
  have hmz : ¬ (m * i.size = 0) := by rw [hi3]; omega
  by_cases hroom : bs.length + m ≤ cap
  · have hst := run_storeCells_cells (P := P) g bs.length (cellsOf (List.replicate m 0)) 0 w (fun j hj => by
        rw [cellsOf_length, List.length_replicate] at hj
        exact hr.room _ (by omega)) (fun j hj => by
        rw [cellsOf_length, List.length_replicate] at hj
        exact hr.frozen _ (by omega)) (cellsOf_one _)
    simp only [Nat.add_zero] at hst
    have := hr.sets (List.replicate m 0) bs.length (Nat.le_refl _) (by rw [List.length_replicate]; exact hroom)
    have hp : putAt bs bs.length (List.replicate m 0) = bs ++ List.replicate m 0 := by
      unfold putAt
      rw [List.take_length, List.drop_eq_nil_of_le (by omega), List.append_nil]
    rw [hp] at this
    refine ⟨g, cap, w.setCells g bs.length (cellsOf (List.replicate m 0)), ?_, hBg, this, below_setCells hBg _ _ _ (Below.refl _ _)⟩
    simp [Builtin.append_, run_underlying ht, run_underlying hti, sizeOf, typeInfo, zeroValue, hi1, hi2, hi3, asInt, asIntOf, hw, hneg, hi4, hroom, hna, add_plain]
    rw [if_neg (by omega)]
    simp [hst, Result.andThen, show m ≠ 0 from by omega]
  · have hge := grownCap_ge w (bs.length + m) cap e
    have hcm : grownCap w (bs.length + m) cap e ≤ maxLen := grownCap_le_maxLen w (bs.length + m) cap e h63
    have hfo : (Builtin.firstCells i.size bs.length (.slice (some ⟨g, 0, none⟩) bs.length cap)).run P w.drew = .ok (cellsOf bs).toArray w.drew :=
      run_firstCells_some (P := P) w.drew i.size bs.length _ bs.length cap (cellsOf bs) (by rw [hi3, cellsOf_length, Nat.mul_one]) (fun j u hj => by
        have hjl : j < bs.length := by
          rcases Nat.lt_or_ge j bs.length with h | h
          · exact h
          · rw [List.getElem?_eq_none (by rw [cellsOf_length]; exact h)] at hj; exact absurd hj (by simp)
        rw [cellsOf_get, List.getElem?_eq_getElem hjl, Option.map_some] at hj
        rw [add_plain]
        have := hr.cell j hjl
        rw [← hj]
        exact this)
    have h63' : ¬ (9223372036854775807 < ((bs.length : Int) + (m : Int))) := by omega
    have hfit := growslice_fits (need := bs.length + m) (old := cap) (bytes := i.bytes) (by omega) (by rw [hi4]; omega)
    have h48' : ¬ (281474976710656 < Builtin.nextslicecap (bs.length + m) cap * i.bytes) := by omega
    refine ⟨w.heap.size, grownCap w (bs.length + m) cap e, w.drew.alloc (.cells ((cellsOf bs).toArray ++ (cellsOf (List.replicate m 0)).toArray ++ Builtin.zeroCells (Value.int .u8 0).cells (grownCap w (bs.length + m) cap e - (bs.length + m))) e), ?_, hBw, ?_, (Below.refl B w).drew.alloc hBw _⟩
    · simp [Builtin.append_, run_underlying ht, run_underlying hti, sizeOf, typeInfo, zeroValue, hi1, hi2, asInt, asIntOf, hw, hneg, hbig, hroom, h63', h48', Question.forced, hfo, newRow, grownCap, hmz, hna]
      congr 2
      apply Array.ext'
      simp [List.append_assoc]
    · have hl : (cellsOf bs ++ cellsOf (List.replicate m 0)).length = bs.length + m := by rw [List.length_append, cellsOf_length, cellsOf_length, List.length_replicate]
      refine ⟨by rw [List.length_append, List.length_replicate]; exact hge, hcm, _, e, (0, 0), heap_alloc_new w.drew _, Or.inl (Nat.le_refl _), ?_, fun j hj => ?_⟩
      · rw [Array.size_append, List.append_toArray, List.size_toArray, hl, size_zeroCells]
        show bs.length + m + (grownCap w (bs.length + m) cap e - (bs.length + m)) * 1 = _
        omega
      · have hcat : (cellsOf bs).toArray ++ (cellsOf (List.replicate m 0)).toArray = (cellsOf (bs ++ List.replicate m 0)).toArray := by rw [cellsOf_append]; simp
        rw [hcat, Array.getElem?_append_left (by rw [List.size_toArray, cellsOf_length]; exact hj), List.getElem?_toArray, cellsOf_get, List.getElem?_eq_getElem hj, Option.map_some]
/-- .. for the walk. -/
theorem wpList_append_zeros_bytes {P : Program} (w : World) {ops : Array Oper} {rest : List Oper} {o : Oper} {a : Act} {Q : Exit → Act → World → Prop}
    (hg : o.guard = none) (s x : Operand) (t ti : TypeId) (hop : o.op = Op.call { callee := Callee.builtin Builtin.append, args := #[s, x], argTypes := #[t, ti] })
    (e : TypeId) (ht : P.underlying t = some (.slice e)) {k : IntKind} (hti : P.underlying ti = some (.int k)) (hi : (P.info? e).map (fun i => (i.zero, i.size, i.bytes)) = some (some (.int .u8 0), 1, 1))
    (B g cap : Nat) (bs : List UInt8) (n : Nat) (hn : bs.length = n) (hs : a.eval s = .slice (some ⟨g, 0, none⟩) n cap) (hr : BRow w g cap bs) (hBg : B ≤ g) (hBw : B ≤ w.heap.size) (kx : IntKind) (m : Nat) (hx : a.eval x = .int kx m) (h0 : 0 < m) (hbytes : n + m ≤ 140737488355328)
    (hK : ∀ w' g' cap', B ≤ g' → BRow w' g' cap' (bs ++ List.replicate m 0) → Below B w w' → wpList P ops Q rest (a.put o.dst (.slice (some ⟨g', 0, none⟩) (n + m) cap')) w') :
    wpList P ops Q (o :: rest) a w := by
  subst hn
  refine wpList_plain hg fun K hK' => ?_
  obtain ⟨g', cap', w', hrun, h1, h2, h3⟩ := run_append_zeros_bytes (P := P) w t ti o.type e ht hti hi B g cap bs hr hBg hBw kx m h0 hbytes
  unfold Oper.wp
  simp [execOp, hop, resolve, invoke, builtin, hs, hx, hrun, Result.andThen]
  exact hK' _ _ (hK w' g' cap' h1 h2 h3)
end Go.Proofs.Ytpcpjkbjadgoiaa.By
