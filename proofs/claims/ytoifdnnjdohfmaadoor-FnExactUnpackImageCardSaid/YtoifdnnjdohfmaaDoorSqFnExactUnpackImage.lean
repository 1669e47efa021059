/- What several stores into one block do to rows and to other blocks. -/
import Derived.Test.YtoifdnnjdohfmaaDoorWWords
import Derived.Test.YtoifdnnjdohfmaaDoorWApart
import Derived.Test.YtoifdnnjdohfmaaDoorWShare
import Derived.Test.YtoifdnnjdohfmaaDoorWN
import Derived.Test.YtoifdnnjdohfmaaDoorWMore
import Derived.Test.YtoifdnnjdohfmaaDoorWLast
import Derived.Test.YtoifdnnjdohfmaaDoorWKept
namespace Go.Proofs.YtoifdnnjdohfmaaDoorW.PrintWords
open Go.RowKit Go.Proofs.YtoifdnnjdohfmaaDoorW.PrintLast Go.Proofs.YtoifdnnjdohfmaaDoorW.PrintMore
set_option linter.unusedVariables false
theorem Sq.it {l : List UInt8} (h : l = []) : l.isEmpty = true := by rw [h]; rfl
theorem Sq.ie {l : List UInt8} (h : ¬ l = []) : l.isEmpty = false := by
  cases l with
  | nil => exact absurd rfl h
  | cons _ _ => rfl
abbrev Sq.l := @Aside0.mk
abbrev Sq.s := @Kd.C_alloc
abbrev Sq.a1 := @Kd.C_below
abbrev Sq.u := @Kd.C_drew
abbrev Sq.t := @Kd.C_drewN
abbrev Sq.a := @Kd.R_alloc
abbrev Sq.c := @Kd.R_drew
abbrev Sq.b := @Kd.R_drewN
abbrev Sq.i := @below_alloc
abbrev Sq.k := @below_drew1
abbrev Sq.h := @below_set
abbrev Sq.a5 := @below_size
abbrev Sq.a4 := @below_step
abbrev Sq.f := @blk_alloc
abbrev Sq.m := @blk_below
abbrev Sq.o := @blk_cell
abbrev Sq.e := @blk_drew
abbrev Sq.d := @blk_drewN
abbrev Sq.r := @blk_frozen
abbrev Sq.j := @pw_below_drewN
/-- What a world keeps that has grown, or has drawn. -/
def Sq.Up (w w' : World) : Prop := (∀ (α : Type) (d : Kd α) (e base : Nat) (ok : Nat → Prop) (v : Value) (xs : List α), Kd.R d e w base ok v xs → Kd.R d e w' base ok v xs) ∧ ∀ (g : Nat) (o : Obj), w.heap[g]? = some o → w'.heap[g]? = some o
theorem Sq.up0 (w : World) : Sq.Up w w := ⟨fun _ _ _ _ _ _ _ h => h, fun _ _ h => h⟩
theorem Sq.up1 {w w' : World} (h : Sq.Up w w') (o : Obj) : Sq.Up w (w'.alloc o) := ⟨fun _ _ _ _ _ _ _ x => Kd.R_alloc (h.1 _ _ _ _ _ _ _ x) o, fun _ _ x => blk_alloc (h.2 _ _ x) o⟩
theorem Sq.up2 {w w' : World} (h : Sq.Up w w') (n : Nat) : Sq.Up w (w'.drewN n) := ⟨fun _ _ _ _ _ _ _ x => Kd.R_drewN (h.1 _ _ _ _ _ _ _ x) n, fun _ _ x => blk_drewN (h.2 _ _ x) n⟩
theorem Sq.up3 {w w' : World} (h : Sq.Up w w') : Sq.Up w w'.drew := ⟨fun _ _ _ _ _ _ _ x => Kd.R_drew (h.1 _ _ _ _ _ _ _ x), fun _ _ x => blk_drew (h.2 _ _ x)⟩
theorem Sq.U {α : Type} {d : Kd α} {e base : Nat} {ok : Nat → Prop} {v : Value} {xs : List α} {w w' : World} (x : Kd.R d e w base ok v xs) (h : Sq.Up w w' := by (repeat (first | (with_reducible exact Sq.up0 _) | (with_reducible refine Sq.up1 ?_ _) | (with_reducible refine Sq.up2 ?_ _) | (with_reducible refine Sq.up3 ?_)))) : Kd.R d e w' base ok v xs := h.1 _ _ _ _ _ _ _ x
theorem Sq.W {g : Nat} {o : Obj} {w w' : World} (x : w.heap[g]? = some o) (h : Sq.Up w w' := by (repeat (first | (with_reducible exact Sq.up0 _) | (with_reducible refine Sq.up1 ?_ _) | (with_reducible refine Sq.up2 ?_ _) | (with_reducible refine Sq.up3 ?_)))) : w'.heap[g]? = some o := h.2 _ _ x
theorem Sq.K {g : Nat} {o : Obj} {w w' : World} (_ : Aside0 (w.heap[g]? = some o)) (x : w'.heap[g]? = some o) : w'.heap[g]? = some o := x
theorem Sq.C5 {w : World} {g : Nat} {t : TypeId} {a0 a1 a2 a3 a4 : Value} (h : w.heap[g]? = some (.cells #[a0, a1, a2, a3, a4] t (0, 0))) : w.cell? ⟨g, 0, none⟩ = some a0 ∧ w.cell? ⟨g, 1, none⟩ = some a1 ∧ w.cell? ⟨g, 2, none⟩ = some a2 ∧ w.cell? ⟨g, 3, none⟩ = some a3 ∧ w.cell? ⟨g, 4, none⟩ = some a4 := ⟨(blk_cell h 0).trans rfl, (blk_cell h 1).trans rfl, (blk_cell h 2).trans rfl, (blk_cell h 3).trans rfl, (blk_cell h 4).trans rfl⟩
theorem Sq.C7 {w : World} {g : Nat} {t : TypeId} {a0 a1 a2 a3 a4 a5 a6 : Value} (h : w.heap[g]? = some (.cells #[a0, a1, a2, a3, a4, a5, a6] t (0, 0))) : w.cell? ⟨g, 0, none⟩ = some a0 ∧ w.cell? ⟨g, 1, none⟩ = some a1 ∧ w.cell? ⟨g, 2, none⟩ = some a2 ∧ w.cell? ⟨g, 3, none⟩ = some a3 ∧ w.cell? ⟨g, 4, none⟩ = some a4 ∧ w.cell? ⟨g, 5, none⟩ = some a5 ∧ w.cell? ⟨g, 6, none⟩ = some a6 := ⟨(blk_cell h 0).trans rfl, (blk_cell h 1).trans rfl, (blk_cell h 2).trans rfl, (blk_cell h 3).trans rfl, (blk_cell h 4).trans rfl, (blk_cell h 5).trans rfl, (blk_cell h 6).trans rfl⟩
theorem Sq.F5 {w : World} {g : Nat} {t : TypeId} {cs : Array Value} (h : w.heap[g]? = some (.cells cs t (0, 0))) : w.frozen? ⟨g, 0, none⟩ = false ∧ w.frozen? ⟨g, 1, none⟩ = false ∧ w.frozen? ⟨g, 2, none⟩ = false ∧ w.frozen? ⟨g, 3, none⟩ = false ∧ w.frozen? ⟨g, 4, none⟩ = false := ⟨blk_frozen h 0, blk_frozen h 1, blk_frozen h 2, blk_frozen h 3, blk_frozen h 4⟩
theorem Sq.F7 {w : World} {g : Nat} {t : TypeId} {cs : Array Value} (h : w.heap[g]? = some (.cells cs t (0, 0))) : w.frozen? ⟨g, 0, none⟩ = false ∧ w.frozen? ⟨g, 1, none⟩ = false ∧ w.frozen? ⟨g, 2, none⟩ = false ∧ w.frozen? ⟨g, 3, none⟩ = false ∧ w.frozen? ⟨g, 4, none⟩ = false ∧ w.frozen? ⟨g, 5, none⟩ = false ∧ w.frozen? ⟨g, 6, none⟩ = false := ⟨blk_frozen h 0, blk_frozen h 1, blk_frozen h 2, blk_frozen h 3, blk_frozen h 4, blk_frozen h 5, blk_frozen h 6⟩
end Go.Proofs.YtoifdnnjdohfmaaDoorW.PrintWords
