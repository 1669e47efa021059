/- What several stores into one block do to rows and to other blocks. -/
import Derived.Test.YtmajbehafgajmaaWWords
import Derived.Test.YtmajbehafgajmaaWApart
import Derived.Test.YtmajbehafgajmaaWShare
import Derived.Test.YtmajbehafgajmaaWN
import Derived.Test.YtmajbehafgajmaaWMore
import Derived.Test.YtmajbehafgajmaaWLast
import Derived.Test.YtmajbehafgajmaaWKept
namespace Go.Proofs.YtmajbehafgajmaaW.PrintWords
open Go.RowKit Go.Proofs.YtmajbehafgajmaaW.PrintLast Go.Proofs.YtmajbehafgajmaaW.PrintMore
set_option linter.unusedVariables false
theorem Sq.it {l : List UInt8} (h : l = []) : l.isEmpty = true := by rw [h]; rfl
theorem Sq.ie {l : List UInt8} (h : ¬ l = []) : l.isEmpty = false := by
  cases l with
  | nil => exact absurd rfl h
  | cons _ _ => rfl
theorem Sq.B4 {w : World} {g b : Nat} {t : TypeId} {cs : Array Value} {q0 q1 q2 q3 : Nat} {u0 u1 u2 u3 : Value} (h : w.heap[g]? = some (.cells cs t (0, 0))) (hp : g ≠ b) : ((((w.setCell ⟨b, q0, none⟩ u0).setCell ⟨b, q1, none⟩ u1).setCell ⟨b, q2, none⟩ u2).setCell ⟨b, q3, none⟩ u3).heap[g]? = some (.cells cs t (0, 0)) := blk_far (blk_far (blk_far (blk_far h hp u0) hp u1) hp u2) hp u3
theorem Sq.R4 {α : Type} {d : Kd α} {e base g : Nat} {ok : Nat → Prop} {w : World} {v : Value} {xs : List α} {u0 u1 u2 u3 : Value} (h : Kd.R d e w base ok v xs) (hok : ∀ k, ok k → k ≠ g) : Kd.R d e ((((w.setCell ⟨g, 0, none⟩ u0).setCell ⟨g, 1, none⟩ u1).setCell ⟨g, 2, none⟩ u2).setCell ⟨g, 3, none⟩ u3) base ok v xs := Kd.R_far (p := ⟨g, 3, none⟩) (Kd.R_far (p := ⟨g, 2, none⟩) (Kd.R_far (p := ⟨g, 1, none⟩) (Kd.R_far (p := ⟨g, 0, none⟩) h hok u0) hok u1) hok u2) hok u3
theorem Sq.V4 {α : Type} {d : Kd α} {e base g : Nat} {ok : Nat → Prop} {w : World} {v : Value} {xs : List α} {u0 u1 u2 u3 : Value} (h : Kd.V d e w base ok v xs) (hok : ∀ k, ok k → k ≠ g) : Kd.V d e ((((w.setCell ⟨g, 0, none⟩ u0).setCell ⟨g, 1, none⟩ u1).setCell ⟨g, 2, none⟩ u2).setCell ⟨g, 3, none⟩ u3) base ok v xs := Kd.V_far (p := ⟨g, 3, none⟩) (Kd.V_far (p := ⟨g, 2, none⟩) (Kd.V_far (p := ⟨g, 1, none⟩) (Kd.V_far (p := ⟨g, 0, none⟩) h hok u0) hok u1) hok u2) hok u3
abbrev Sq.l := @Aside0.mk
abbrev Sq.s := @Kd.C_alloc
abbrev Sq.a1 := @Kd.C_below
abbrev Sq.u := @Kd.C_drew
abbrev Sq.t := @Kd.C_drewN
abbrev Sq.a := @Kd.R_alloc
abbrev Sq.b6 := @Kd.R_apart'
abbrev Sq.b7 := @Kd.R_base
abbrev Sq.n := @Kd.R_below
abbrev Sq.c := @Kd.R_drew
abbrev Sq.b := @Kd.R_drewN
abbrev Sq.p := @Kd.R_elder'
abbrev Sq.a2 := @Kd.R_lower
abbrev Sq.c2 := @Kd.R_lt
abbrev Sq.a3 := @Kd.R_mono
abbrev Sq.c1 := @Kd.R_new'
abbrev Sq.b4 := @Kd.R_reads'
abbrev Sq.c3 := @Kd.R_typed
abbrev Sq.b5 := @Kd.R_types
abbrev Sq.x := @Kd.V_alloc
abbrev Sq.z := @Kd.V_drew
abbrev Sq.y := @Kd.V_drewN
abbrev Sq.a6 := @Kd.V_mono
abbrev Sq.i := @below_alloc
abbrev Sq.k := @below_drew1
abbrev Sq.h := @below_set
abbrev Sq.a5 := @below_size
abbrev Sq.a4 := @below_step
abbrev Sq.f := @blk_alloc
abbrev Sq.m := @blk_below
abbrev Sq.o := @blk_cell
abbrev Sq.e := @blk_drew
abbrev Sq.d := @blk_drewN
abbrev Sq.r := @blk_frozen
abbrev Sq.v := @blk_put
abbrev Sq.j := @pw_below_drewN
end Go.Proofs.YtmajbehafgajmaaW.PrintWords
