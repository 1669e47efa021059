/- Plain: how data that came in (numbers, texts, rows, structs of these) is told by the kinds of the print. -/
import Derived.Deep.Slices
import Derived.Deep.Fields
import Derived.ChangeSame
import Derived.OpenShut
import Derived.Test.YtmajbehafgajmaaWWords
namespace Go.Proofs.Ytmajbehafgajmaa.Op
open Go.RowKit Go.Proofs.YtmajbehafgajmaaW.PrintWords
/-- Kind k tells what is data of type t: whatever reads so is told by k, with Q. -/
def Opens {α : Type} (P : Program) (k : Kd α) (Q : α → Prop) (t : TypeId) : Prop :=
  P.cellsOf t = k.sz ∧ ∀ (H : Type) (enc : TypeId × Value → H) (w : World) (base : Nat) (spare : Nat → Bool) (held : Bool) (fuel : Nat) (cs : List Value) (x : DataW H × List MemPlace), DataW.trod enc P w base spare held fuel t cs = some x → ∃ a, k.K w a cs ∧ Q a
theorem opens_int {P : Program} {t : TypeId} {k : IntKind} (ht : P.underlying t = some (.int k)) (hc : P.cellsOf t = 1) : Opens P (Kd.int k) (fun n => (Lit.int k n).wf = true) t :=
  ⟨hc, fun H enc w base spare held fuel cs x h => by
    obtain ⟨n, rfl, _, hw⟩ := DataW.trod_int ht h
    exact ⟨n, rfl, hw⟩⟩
theorem opens_bool {P : Program} {t : TypeId} (ht : P.underlying t = some .bool) (hc : P.cellsOf t = 1) : Opens P Kd.bool (fun _ => True) t :=
  ⟨hc, fun H enc w base spare held fuel cs x h => by
    obtain ⟨b, rfl, _⟩ := DataW.trod_bool ht h
    exact ⟨b, rfl, trivial⟩⟩
theorem opens_string {P : Program} {t : TypeId} (ht : P.underlying t = some .string) (hc : P.cellsOf t = 1) : Opens P Kd.string (fun s => s.size ≤ 9223372036854775807) t :=
  ⟨hc, fun H enc w base spare held fuel cs x h => by
    obtain ⟨s, rfl, _, hs⟩ := DataW.trod_string ht h
    exact ⟨s, rfl, by unfold maxLen at hs; exact hs⟩⟩
theorem list_choose {α : Type} (R : Nat → α → Prop) (n : Nat) : (∀ i, i < n → ∃ x, R i x) → ∃ xs : List α, xs.length = n ∧ ∀ i x, xs[i]? = some x → R i x := by
  induction n with
  | zero => exact fun _ => ⟨[], rfl, fun i x h => by simp at h⟩
  | succ n ih =>
    intro h
    obtain ⟨xs, hl, hx⟩ := ih (fun i hi => h i (by omega))
    obtain ⟨y, hy⟩ := h n (by omega)
    refine ⟨xs ++ [y], by simp [hl], fun i x hi => ?_⟩
    by_cases e : i < n
    · rw [List.getElem?_append_left (by omega)] at hi
      exact hx i x hi
    · rw [List.getElem?_append_right (by omega)] at hi
      have : i - xs.length = 0 := by
        have := (List.getElem?_eq_some_iff.1 hi).1
        simp at this; omega
      rw [this] at hi
      obtain rfl : y = x := by simpa using hi
      obtain rfl : i = n := by omega
      exact hy
theorem opens_slice {α : Type} {P : Program} {t e : TypeId} {k : Kd α} {Q : α → Prop} (ht : P.underlying t = some (.slice e)) (hc : P.cellsOf t = 1) (he : Opens P k Q e) : Opens P (Kd.slice e k) (fun xs => xs.length ≤ 9223372036854775807 ∧ ∀ x, x ∈ xs → Q x) t :=
  ⟨hc, fun H enc w base spare held fuel cs x h => by
    rcases Go.Deep.open_slice ht h with ⟨rfl, _⟩ | ⟨a, len, cap, m, n, D, Pl, rfl, hb, hl, hm, hmm, hx, hi⟩
    · exact ⟨[], ⟨none, 0, rfl, Nat.le_refl _, Kd.C_nil _ _⟩, by simp, fun x hx => by simp at hx⟩
    · have hlm : len ≤ m := by rw [hmm]; split <;> omega
      obtain ⟨xs, hxl, hxs⟩ := list_choose (fun i x => (∃ cs', cs'.length = k.sz ∧ k.K w x cs' ∧ ∀ (j : Nat) (u : Value), cs'[j]? = some u → w.cell? (a.add (i * k.sz + j)) = some u) ∧ Q x) len (fun i hil => by
        obtain ⟨cs', hcs, htr⟩ := hi i (by omega)
        obtain ⟨y, hK, hQ⟩ := he.2 H enc w base spare held n cs' _ htr
        obtain ⟨_, hcl, hat⟩ := World.cells?_some hcs
        refine ⟨y, ⟨cs', k.K_len hK, hK, fun j u hj => ?_⟩, hQ⟩
        have hjl : j < P.cellsOf e := by rw [← hcl]; exact (List.getElem?_eq_some_iff.1 hj).1
        rw [← he.1, ← Go.Deep.add_add, hat j hjl, hj])
      refine ⟨xs, ⟨some a, cap, by rw [hxl], by omega, ⟨rfl, by unfold maxLen at hm; omega, fun _ => ⟨a, rfl, fun j p hj => ?_⟩⟩⟩, ?_, fun x hx => ?_⟩
      · obtain ⟨⟨c, h1, h2, h3⟩, _⟩ := hxs j p hj
        exact ⟨c, h1, h2, h3⟩
      · unfold maxLen at hm; omega
      · obtain ⟨i, hi2⟩ := List.getElem?_of_mem hx
        exact (hxs i x hi2).2⟩
/-- The same of a struct's fields, one behind the other. -/
def OpensF {α : Type} (P : Program) (k : Kd α) (Q : α → Prop) (ts : List TypeId) : Prop :=
  (ts.map P.cellsOf).sum = k.sz ∧ ∀ (H : Type) (enc : TypeId × Value → H) (w : World) (base : Nat) (spare : Nat → Bool) (held : Bool) (cs : List Value), cs.length = k.sz →
    (∀ (i : Nat) (t : TypeId), ts[i]? = some t → ∃ (n : Nat) (x : DataW H × List MemPlace), DataW.trod enc P w base spare held n t ((cs.drop ((ts.take i).map P.cellsOf).sum).take (P.cellsOf t)) = some x) → ∃ a, k.K w a cs ∧ Q a
theorem opensF_one {α : Type} {P : Program} {k : Kd α} {Q : α → Prop} {t : TypeId} (h : Opens P k Q t) : OpensF P k Q [t] :=
  ⟨by simpa using h.1, fun H enc w base spare held cs hl hf => by
    obtain ⟨n, x, hx⟩ := hf 0 t rfl
    simp only [List.take_zero, List.map_nil, List.sum_nil, List.drop_zero] at hx
    rw [h.1, ← hl, List.take_length] at hx
    exact h.2 H enc w base spare held n cs x hx⟩
theorem opensF_cons {α β : Type} {P : Program} {k1 : Kd α} {k2 : Kd β} {Q1 : α → Prop} {Q2 : β → Prop} {t : TypeId} {ts : List TypeId} (h1 : Opens P k1 Q1 t) (h2 : OpensF P k2 Q2 ts) : OpensF P (Kd.pair k1 k2) (fun p => Q1 p.1 ∧ Q2 p.2) (t :: ts) :=
  ⟨by
    show ((t :: ts).map P.cellsOf).sum = k1.sz + k2.sz
    rw [List.map_cons, List.sum_cons, h1.1, h2.1],
  fun H enc w base spare held cs hl hf => by
    have hl' : cs.length = k1.sz + k2.sz := hl
    obtain ⟨n, x, hx⟩ := hf 0 t rfl
    simp only [List.take_zero, List.map_nil, List.sum_nil, List.drop_zero] at hx
    obtain ⟨a, ha, qa⟩ := h1.2 H enc w base spare held n _ x hx
    obtain ⟨b, hb, qb⟩ := h2.2 H enc w base spare held (cs.drop k1.sz) (by rw [List.length_drop]; omega) (fun i u hi => by
      obtain ⟨m, y, hy⟩ := hf (i + 1) u (by simpa using hi)
      refine ⟨m, y, ?_⟩
      rw [List.take_succ_cons, List.map_cons, List.sum_cons, h1.1, ← List.drop_drop] at hy
      exact hy)
    rw [h1.1] at ha
    exact ⟨(a, b), ⟨cs.take k1.sz, cs.drop k1.sz, (List.take_append_drop _ _).symm, ha, hb⟩, qa, qb⟩⟩
theorem opens_struct {α β : Type} {P : Program} {k : Kd α} {Q : α → Prop} {t : TypeId} {fs : Array Field} {ts : List TypeId} (ht : P.underlying t = some (.struct fs)) (f : β → α) (g : α → β) (hfg : ∀ a, f (g a) = a)
    (hts : fs.toList.map (·.type) = ts) (hoffs : ((List.range fs.size).all fun i => (fs.toList.map (·.offset))[i]? == some ((ts.take i).map P.cellsOf).sum) = true) (hc : P.cellsOf t = k.sz) (h : OpensF P k Q ts) : Opens P (Kd.iso k f) (fun x => Q (f x)) t :=
  ⟨hc, fun H enc w base spare held fuel cs x hx => by
    have hoff : ∀ i : Nat, i < fs.size → (fs.toList.map (·.offset))[i]? = some ((ts.take i).map P.cellsOf).sum := fun i hi => beq_iff_eq.mp (List.all_eq_true.mp hoffs i (List.mem_range.mpr hi))
    obtain ⟨xs, n, _, _, hl, hxl, hf⟩ := DataW.trod_struct ht hx
    obtain ⟨a, ha, qa⟩ := h.2 H enc w base spare held cs (by rw [hl, hc]) (fun i u hi => by
      have hi' : i < fs.size := by
        have := (List.getElem?_eq_some_iff.1 hi).1
        rw [← hts, List.length_map, Array.length_toList] at this
        exact this
      have hfi : fs[i]? = some fs[i] := Array.getElem?_eq_getElem hi'
      have hty : fs[i].type = u := by
        rw [← hts, List.getElem?_map, List.getElem?_eq_getElem (by rw [Array.length_toList]; exact hi')] at hi
        simpa using hi
      have hofs : fs[i].offset = ((ts.take i).map P.cellsOf).sum := by
        have := hoff i hi'
        rw [List.getElem?_map, List.getElem?_eq_getElem (by rw [Array.length_toList]; exact hi')] at this
        simpa using this
      have := hf i fs[i] hfi
      rw [hofs, hty] at this
      rw [List.getElem?_eq_getElem (by rw [hxl]; exact hi')] at this
      exact ⟨n, _, this⟩)
    exact ⟨g a, by show k.K w (f (g a)) cs; rw [hfg]; exact ha, by show Q (f (g a)); rw [hfg]; exact qa⟩⟩
end Go.Proofs.Ytmajbehafgajmaa.Op
