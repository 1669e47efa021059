/- What several stores into one block do to rows and to other blocks. -/
import Derived.Test.YtmajbehafgajmaaWWords
import Derived.Test.YtmajbehafgajmaaWApart
import Derived.Test.YtmajbehafgajmaaWShare
import Derived.Test.YtmajbehafgajmaaWN
import Derived.Test.YtmajbehafgajmaaWMore
import Derived.Test.YtmajbehafgajmaaWLast
import Derived.Test.YtmajbehafgajmaaWKept
namespace Go.Proofs.YtmajbehafgajmaaW.PrintWords
open Go.RowKit Go.Proofs.YtmajbehafgajmaaW.PrintLast Go.Proofs.YtmajbehafgajmaaW.PrintMore
set_option linter.unusedVariables false
theorem Sq.it {l : List UInt8} (h : l = []) : l.isEmpty = true := by rw [h]; rfl
theorem Sq.ie {l : List UInt8} (h : ¬ l = []) : l.isEmpty = false := by
  cases l with
  | nil => exact absurd rfl h
  | cons _ _ => rfl
theorem Sq.B2 {w : World} {g b : Nat} {t : TypeId} {cs : Array Value} {q0 q1 : Nat} {u0 u1 : Value} (h : w.heap[g]? = some (.cells cs t (0, 0))) (hp : g ≠ b) : ((w.setCell ⟨b, q0, none⟩ u0).setCell ⟨b, q1, none⟩ u1).heap[g]? = some (.cells cs t (0, 0)) := blk_far (blk_far h hp u0) hp u1
theorem Sq.B5 {w : World} {g b : Nat} {t : TypeId} {cs : Array Value} {q0 q1 q2 q3 q4 : Nat} {u0 u1 u2 u3 u4 : Value} (h : w.heap[g]? = some (.cells cs t (0, 0))) (hp : g ≠ b) : (((((w.setCell ⟨b, q0, none⟩ u0).setCell ⟨b, q1, none⟩ u1).setCell ⟨b, q2, none⟩ u2).setCell ⟨b, q3, none⟩ u3).setCell ⟨b, q4, none⟩ u4).heap[g]? = some (.cells cs t (0, 0)) := blk_far (blk_far (blk_far (blk_far (blk_far h hp u0) hp u1) hp u2) hp u3) hp u4
theorem Sq.B12 {w : World} {g b : Nat} {t : TypeId} {cs : Array Value} {q0 q1 q2 q3 q4 q5 q6 q7 q8 q9 q10 q11 : Nat} {u0 u1 u2 u3 u4 u5 u6 u7 u8 u9 u10 u11 : Value} (h : w.heap[g]? = some (.cells cs t (0, 0))) (hp : g ≠ b) : ((((((((((((w.setCell ⟨b, q0, none⟩ u0).setCell ⟨b, q1, none⟩ u1).setCell ⟨b, q2, none⟩ u2).setCell ⟨b, q3, none⟩ u3).setCell ⟨b, q4, none⟩ u4).setCell ⟨b, q5, none⟩ u5).setCell ⟨b, q6, none⟩ u6).setCell ⟨b, q7, none⟩ u7).setCell ⟨b, q8, none⟩ u8).setCell ⟨b, q9, none⟩ u9).setCell ⟨b, q10, none⟩ u10).setCell ⟨b, q11, none⟩ u11).heap[g]? = some (.cells cs t (0, 0)) := blk_far (blk_far (blk_far (blk_far (blk_far (blk_far (blk_far (blk_far (blk_far (blk_far (blk_far (blk_far h hp u0) hp u1) hp u2) hp u3) hp u4) hp u5) hp u6) hp u7) hp u8) hp u9) hp u10) hp u11
theorem Sq.B13 {w : World} {g b : Nat} {t : TypeId} {cs : Array Value} {q0 q1 q2 q3 q4 q5 q6 q7 q8 q9 q10 q11 q12 : Nat} {u0 u1 u2 u3 u4 u5 u6 u7 u8 u9 u10 u11 u12 : Value} (h : w.heap[g]? = some (.cells cs t (0, 0))) (hp : g ≠ b) : (((((((((((((w.setCell ⟨b, q0, none⟩ u0).setCell ⟨b, q1, none⟩ u1).setCell ⟨b, q2, none⟩ u2).setCell ⟨b, q3, none⟩ u3).setCell ⟨b, q4, none⟩ u4).setCell ⟨b, q5, none⟩ u5).setCell ⟨b, q6, none⟩ u6).setCell ⟨b, q7, none⟩ u7).setCell ⟨b, q8, none⟩ u8).setCell ⟨b, q9, none⟩ u9).setCell ⟨b, q10, none⟩ u10).setCell ⟨b, q11, none⟩ u11).setCell ⟨b, q12, none⟩ u12).heap[g]? = some (.cells cs t (0, 0)) := blk_far (blk_far (blk_far (blk_far (blk_far (blk_far (blk_far (blk_far (blk_far (blk_far (blk_far (blk_far (blk_far h hp u0) hp u1) hp u2) hp u3) hp u4) hp u5) hp u6) hp u7) hp u8) hp u9) hp u10) hp u11) hp u12
theorem Sq.R12 {α : Type} {d : Kd α} {e base g : Nat} {ok : Nat → Prop} {w : World} {v : Value} {xs : List α} {u0 u1 u2 u3 u4 u5 u6 u7 u8 u9 u10 u11 : Value} (h : Kd.R d e w base ok v xs) (hok : ∀ k, ok k → k ≠ g) : Kd.R d e ((((((((((((w.setCell ⟨g, 0, none⟩ u0).setCell ⟨g, 1, none⟩ u1).setCell ⟨g, 2, none⟩ u2).setCell ⟨g, 3, none⟩ u3).setCell ⟨g, 4, none⟩ u4).setCell ⟨g, 5, none⟩ u5).setCell ⟨g, 6, none⟩ u6).setCell ⟨g, 7, none⟩ u7).setCell ⟨g, 8, none⟩ u8).setCell ⟨g, 9, none⟩ u9).setCell ⟨g, 10, none⟩ u10).setCell ⟨g, 11, none⟩ u11) base ok v xs := Kd.R_far (p := ⟨g, 11, none⟩) (Kd.R_far (p := ⟨g, 10, none⟩) (Kd.R_far (p := ⟨g, 9, none⟩) (Kd.R_far (p := ⟨g, 8, none⟩) (Kd.R_far (p := ⟨g, 7, none⟩) (Kd.R_far (p := ⟨g, 6, none⟩) (Kd.R_far (p := ⟨g, 5, none⟩) (Kd.R_far (p := ⟨g, 4, none⟩) (Kd.R_far (p := ⟨g, 3, none⟩) (Kd.R_far (p := ⟨g, 2, none⟩) (Kd.R_far (p := ⟨g, 1, none⟩) (Kd.R_far (p := ⟨g, 0, none⟩) h hok u0) hok u1) hok u2) hok u3) hok u4) hok u5) hok u6) hok u7) hok u8) hok u9) hok u10) hok u11
abbrev Sq.l := @Aside0.mk
abbrev Sq.s := @Kd.C_alloc
abbrev Sq.a1 := @Kd.C_below
abbrev Sq.u := @Kd.C_drew
abbrev Sq.t := @Kd.C_drewN
abbrev Sq.a := @Kd.R_alloc
abbrev Sq.b6 := @Kd.R_apart'
abbrev Sq.b7 := @Kd.R_base
abbrev Sq.n := @Kd.R_below
abbrev Sq.c := @Kd.R_drew
abbrev Sq.b := @Kd.R_drewN
abbrev Sq.p := @Kd.R_elder'
abbrev Sq.a2 := @Kd.R_lower
abbrev Sq.c2 := @Kd.R_lt
abbrev Sq.a3 := @Kd.R_mono
abbrev Sq.c1 := @Kd.R_new'
abbrev Sq.b9 := @Kd.R_old
abbrev Sq.b4 := @Kd.R_reads'
abbrev Sq.b8 := @Kd.R_told
abbrev Sq.c3 := @Kd.R_typed
abbrev Sq.b5 := @Kd.R_types
abbrev Sq.i := @below_alloc
abbrev Sq.k := @below_drew1
abbrev Sq.h := @below_set
abbrev Sq.a5 := @below_size
abbrev Sq.a4 := @below_step
abbrev Sq.f := @blk_alloc
abbrev Sq.m := @blk_below
abbrev Sq.o := @blk_cell
abbrev Sq.e := @blk_drew
abbrev Sq.d := @blk_drewN
abbrev Sq.q := @blk_far
abbrev Sq.r := @blk_frozen
abbrev Sq.v := @blk_put
abbrev Sq.j := @pw_below_drewN
/-- What a world keeps that has grown, or has drawn. -/
def Sq.Up (w w' : World) : Prop := (∀ (α : Type) (d : Kd α) (e base : Nat) (ok : Nat → Prop) (v : Value) (xs : List α), Kd.R d e w base ok v xs → Kd.R d e w' base ok v xs) ∧ ∀ (g : Nat) (o : Obj), w.heap[g]? = some o → w'.heap[g]? = some o
theorem Sq.up0 (w : World) : Sq.Up w w := ⟨fun _ _ _ _ _ _ _ h => h, fun _ _ h => h⟩
theorem Sq.up1 {w w' : World} (h : Sq.Up w w') (o : Obj) : Sq.Up w (w'.alloc o) := ⟨fun _ _ _ _ _ _ _ x => Kd.R_alloc (h.1 _ _ _ _ _ _ _ x) o, fun _ _ x => blk_alloc (h.2 _ _ x) o⟩
theorem Sq.up2 {w w' : World} (h : Sq.Up w w') (n : Nat) : Sq.Up w (w'.drewN n) := ⟨fun _ _ _ _ _ _ _ x => Kd.R_drewN (h.1 _ _ _ _ _ _ _ x) n, fun _ _ x => blk_drewN (h.2 _ _ x) n⟩
theorem Sq.up3 {w w' : World} (h : Sq.Up w w') : Sq.Up w w'.drew := ⟨fun _ _ _ _ _ _ _ x => Kd.R_drew (h.1 _ _ _ _ _ _ _ x), fun _ _ x => blk_drew (h.2 _ _ x)⟩
theorem Sq.U {α : Type} {d : Kd α} {e base : Nat} {ok : Nat → Prop} {v : Value} {xs : List α} {w w' : World} (x : Kd.R d e w base ok v xs) (h : Sq.Up w w' := by (repeat (first | (with_reducible exact Sq.up0 _) | (with_reducible refine Sq.up1 ?_ _) | (with_reducible refine Sq.up2 ?_ _) | (with_reducible refine Sq.up3 ?_)))) : Kd.R d e w' base ok v xs := h.1 _ _ _ _ _ _ _ x
theorem Sq.W {g : Nat} {o : Obj} {w w' : World} (x : w.heap[g]? = some o) (h : Sq.Up w w' := by (repeat (first | (with_reducible exact Sq.up0 _) | (with_reducible refine Sq.up1 ?_ _) | (with_reducible refine Sq.up2 ?_ _) | (with_reducible refine Sq.up3 ?_)))) : w'.heap[g]? = some o := h.2 _ _ x
theorem Sq.K {g : Nat} {o : Obj} {w w' : World} (_ : Aside0 (w.heap[g]? = some o)) (x : w'.heap[g]? = some o) : w'.heap[g]? = some o := x
theorem Sq.C12 {w : World} {g : Nat} {t : TypeId} {a0 a1 a2 a3 a4 a5 a6 a7 a8 a9 a10 a11 : Value} (h : w.heap[g]? = some (.cells #[a0, a1, a2, a3, a4, a5, a6, a7, a8, a9, a10, a11] t (0, 0))) : w.cell? ⟨g, 0, none⟩ = some a0 ∧ w.cell? ⟨g, 1, none⟩ = some a1 ∧ w.cell? ⟨g, 2, none⟩ = some a2 ∧ w.cell? ⟨g, 3, none⟩ = some a3 ∧ w.cell? ⟨g, 4, none⟩ = some a4 ∧ w.cell? ⟨g, 5, none⟩ = some a5 ∧ w.cell? ⟨g, 6, none⟩ = some a6 ∧ w.cell? ⟨g, 7, none⟩ = some a7 ∧ w.cell? ⟨g, 8, none⟩ = some a8 ∧ w.cell? ⟨g, 9, none⟩ = some a9 ∧ w.cell? ⟨g, 10, none⟩ = some a10 ∧ w.cell? ⟨g, 11, none⟩ = some a11 := ⟨(blk_cell h 0).trans rfl, (blk_cell h 1).trans rfl, (blk_cell h 2).trans rfl, (blk_cell h 3).trans rfl, (blk_cell h 4).trans rfl, (blk_cell h 5).trans rfl, (blk_cell h 6).trans rfl, (blk_cell h 7).trans rfl, (blk_cell h 8).trans rfl, (blk_cell h 9).trans rfl, (blk_cell h 10).trans rfl, (blk_cell h 11).trans rfl⟩
theorem Sq.F12 {w : World} {g : Nat} {t : TypeId} {cs : Array Value} (h : w.heap[g]? = some (.cells cs t (0, 0))) : w.frozen? ⟨g, 0, none⟩ = false ∧ w.frozen? ⟨g, 1, none⟩ = false ∧ w.frozen? ⟨g, 2, none⟩ = false ∧ w.frozen? ⟨g, 3, none⟩ = false ∧ w.frozen? ⟨g, 4, none⟩ = false ∧ w.frozen? ⟨g, 5, none⟩ = false ∧ w.frozen? ⟨g, 6, none⟩ = false ∧ w.frozen? ⟨g, 7, none⟩ = false ∧ w.frozen? ⟨g, 8, none⟩ = false ∧ w.frozen? ⟨g, 9, none⟩ = false ∧ w.frozen? ⟨g, 10, none⟩ = false ∧ w.frozen? ⟨g, 11, none⟩ = false := ⟨blk_frozen h 0, blk_frozen h 1, blk_frozen h 2, blk_frozen h 3, blk_frozen h 4, blk_frozen h 5, blk_frozen h 6, blk_frozen h 7, blk_frozen h 8, blk_frozen h 9, blk_frozen h 10, blk_frozen h 11⟩
end Go.Proofs.YtmajbehafgajmaaW.PrintWords
