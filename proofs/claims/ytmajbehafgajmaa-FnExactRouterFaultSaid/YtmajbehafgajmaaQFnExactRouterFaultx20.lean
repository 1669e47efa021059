-- Written for this claim by this session's own driver (wip/xprint.py).
import Derived.Test.YtmajbehafgajmaaQFnExactRouterFaultx0
import Derived.Test.YtmajbehafgajmaaQFnExactRouterFaultx19
namespace Go.Proofs.Ytmajbehafgajmaa.QFnExactRouterFault
open Go.RowKit Go.Proofs.YtmajbehafgajmaaW.PrintWords Go.Proofs.YtmajbehafgajmaaW.PrintLast Go.Proofs.YtmajbehafgajmaaW.PrintMore
attribute [local go_sem] max2_int min2_int max_two min_two max_three min_three max_four min_four   -- for this text's walks alone
set_option linter.unusedVariables false
set_option linter.unusedSimpArgs false

/-! ### impl_RouterFault_1: function 63 -/
def impl_RouterFault_1.f (a0 : Int) (l1_0 : List (S107)) (l1_1 : List (S111)) (l1_2 : List (S113)) : Option Bool := (fun (_ : List (S107)) (_ : List (S113)) => impl_yin.f a0 0 (wrap64 ((l1_1.length : Int) - 1))) l1_0 l1_2
set_option maxHeartbeats 4000000 in
theorem impl_RouterFault_1.calls (g : Nat) (a0 : Int) (A1_0 : Option Addr) (c1_0 : Nat) (l1_0 : List (S107)) (A1_1 : Option Addr) (c1_1 : Nat) (l1_1 : List (S111)) (A1_2 : Option Addr) (c1_2 : Nat) (l1_2 : List (S113)) (r : Bool) (w : World) (hb : w.heap[g]? = some (.cells #[.slice A1_0 l1_0.length c1_0, .slice A1_1 l1_1.length c1_1, .slice A1_2 l1_2.length c1_2] 45 (0, 0))) (h : impl_RouterFault_1.f a0 l1_0 l1_1 l1_2 = some r) :
    Calls Try.prog 63 #[.int .i64 a0, .pointer (some ⟨g, 0, none⟩)] w fun e w' => e = .returned (.bool r) ∧ Below w.heap.size w w' := by
  have hu45 := Try.underlying45
  have hc := fun W => impl_yin.calls a0 0 (wrap64 ((l1_1.length : Int) - 1)) r W h
  have hcz_0 : w.cell? ⟨g, 0, none⟩ = some (.slice A1_0 l1_0.length c1_0) := (blk_cell hb 0).trans rfl
  have hcz_1 : w.cell? ⟨g, 1, none⟩ = some (.slice A1_1 l1_1.length c1_1) := (blk_cell hb 1).trans rfl
  have hcz_2 : w.cell? ⟨g, 2, none⟩ = some (.slice A1_2 l1_2.length c1_2) := (blk_cell hb 2).trans rfl
  have HW : Aside0 (Below w.heap.size w w) := ⟨Below.refl _ w⟩
  clear h hb
  go_enter Try.func63, Try.ntmps63
  go_wp2_with (go_at_call 49; with_reducible refine (hc _).mono ?_; rintro e w' ⟨rfl, ⟨nd, rfl⟩⟩)
  go_ret
  exact ⟨rfl, by repeat (first | exact Below.refl _ _ | apply pw_below_drewN)⟩

end Go.Proofs.Ytmajbehafgajmaa.QFnExactRouterFault
