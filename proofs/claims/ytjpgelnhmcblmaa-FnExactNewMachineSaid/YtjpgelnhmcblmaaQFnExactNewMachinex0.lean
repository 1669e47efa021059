-- Written for this claim by this session's own driver (wip/xprint.py).
import Derived.Test.YtjpgelnhmcblmaaProg
import Derived.Below
import Derived.Deep.Draws
import Derived.Deep.AppendLies
import Derived.Maps.AppendAt
import Derived.OwnWalk
import Derived.Laws.BytesArg
import Derived.Laws.MakeOwn
import Derived.Laws.OwnMore
import Derived.Deep.OwnRows
import Derived.Tactics
import Derived.Lib.ConvBytes
import Derived.Laws.Slices
import Derived.WalkKit
import Derived.KernelRfl
import Derived.RowKit3
import Derived.Deep.LoopGhost
import Derived.Deep.QuietTactic
import Derived.BigQuiet
import Derived.WideLaws
import Derived.Deep.DeepCutAuto
import Derived.Deep.CutBlock
import Derived.Deep.RegionHeld3
import Derived.Laws.Rows
import Derived.Lib.AppendStr
import Derived.ArgAppend
import Derived.Laws.IdiomCopy
import Derived.OrdersHeld
import Derived.Laws.BitsLemmas
import Derived.RowKit
import Derived.Test.YtjpgelnhmcblmaaWWords
import Derived.Test.YtjpgelnhmcblmaaWLast
import Derived.Test.YtjpgelnhmcblmaaWTab
import Derived.Test.YtjpgelnhmcblmaaWFour
import Derived.Test.YtjpgelnhmcblmaaWQPut
import Derived.Test.YtjpgelnhmcblmaaWApart
import Derived.Test.YtjpgelnhmcblmaaWArr
import Derived.Test.YtjpgelnhmcblmaaWZeros
import Derived.Test.YtjpgelnhmcblmaaWFoot
import Derived.Test.YtjpgelnhmcblmaaWKept
import Derived.Test.YtjpgelnhmcblmaaWShare
import Derived.Test.YtjpgelnhmcblmaaWN
import Derived.Test.YtjpgelnhmcblmaaWFootNe
import Derived.Test.YtjpgelnhmcblmaaWAt
import Derived.Test.YtjpgelnhmcblmaaWEqStruct
import Derived.Test.YtjpgelnhmcblmaaWRepsOne
import Derived.Test.YtjpgelnhmcblmaaWInv
import Derived.Test.YtjpgelnhmcblmaaWInvWords
import Derived.Test.YtjpgelnhmcblmaaWGuard
import Derived.Test.YtjpgelnhmcblmaaWNEv
import Derived.Test.YtjpgelnhmcblmaaWMore
namespace Go.Proofs.Ytjpgelnhmcblmaa.QFnExactNewMachine
open Go.RowKit Go.Proofs.YtjpgelnhmcblmaaW.PrintWords Go.Proofs.YtjpgelnhmcblmaaW.PrintLast Go.Proofs.YtjpgelnhmcblmaaW.PrintMore
attribute [local go_sem] max2_int min2_int max_two min_two max_three min_three max_four min_four   -- for this text's walks alone
set_option linter.unusedVariables false
set_option linter.unusedSimpArgs false



def errW : Option Int → Value
  | none => .nilIface
  | some c => .iface 0 (.int .i64 c)
theorem errW_none : errW none = .nilIface := rfl
theorem errW_some (c : Int) : errW (some c) = .iface 0 (.int .i64 c) := rfl

theorem info2 : (Try.prog.info? 2).map (fun i => (i.zero, i.size, i.bytes)) = some (some (.int .i64 0), 1, 8) := by kernel_rfl
-- the values' own types
/-! #### struct type 184 -/
structure S184 where
  f0 : Int
  f1 : Int
def z184 : S184 := ⟨(0 : Int), (0 : Int)⟩
def k184 : Kd S184 := Kd.iso (Kd.pair (Kd.int .i64) (Kd.int .i64)) (fun x : S184 => (x.f0, x.f1))
theorem k184_open {w : World} {x : S184} {cs : List Value} (h : k184.K w x cs) : cs = [.int .i64 x.f0, .int .i64 x.f1] := by
  obtain ⟨_, _, rfl, rfl, rfl⟩ := h
  exact rfl
theorem k184_openM {w : World} {base : Nat} {ok : Nat → Prop} {x : S184} {cs : List Value} (h : k184.M w base ok x cs) : cs = [.int .i64 x.f0, .int .i64 x.f1] := by
  obtain ⟨_, _, rfl, rfl, rfl⟩ := h
  exact rfl
theorem k184_mk (w : World) (x : S184)  : k184.K w x [.int .i64 x.f0, .int .i64 x.f1] := ⟨[.int .i64 x.f0], [.int .i64 x.f1], rfl, rfl, rfl⟩
theorem k184_mkM (w : World) (base : Nat) (ok : Nat → Prop) (x : S184)  : k184.M w base ok x [.int .i64 x.f0, .int .i64 x.f1] := ⟨[.int .i64 x.f0], [.int .i64 x.f1], rfl, rfl, rfl⟩
def rd_T184 (xs : List S184) (i : Int) : S184 := xs.getD i.toNat z184
theorem at_T184 {w : World} {A : Option Addr} {n : Nat} {xs : List S184} (h : Kd.C k184 w A n xs) (i : Int) (h0 : 0 ≤ i) (h1 : i < n) : ∃ ad , A = some ad ∧ w.cell? (ad.add (i.toNat * 2)) = some (.int .i64 (rd_T184 xs i).f0) ∧ w.cell? ⟨(ad.add (i.toNat * 2)).block, (ad.add (i.toNat * 2)).off + 1, none⟩ = some (.int .i64 (rd_T184 xs i).f1) := by
  obtain ⟨ad, c, e, _, hK, hc0⟩ := Kd.C_get h z184 i h0 h1
  have hc : ∀ j u, c[j]? = some u → w.cell? (ad.add (i.toNat * 2 + j)) = some u := hc0
  obtain rfl := k184_open hK
  exact ⟨ad, e, hc 0 _ rfl, by rw [← add_field _ _ 1 (by omega)]; exact hc 1 _ rfl⟩

end Go.Proofs.Ytjpgelnhmcblmaa.QFnExactNewMachine
