-- Written for this claim by this session's own driver (wip/xprint.py).
import Derived.Test.YtjpgelnhmcblmaaProg
import Derived.Below
import Derived.Deep.Draws
import Derived.Deep.AppendLies
import Derived.Maps.AppendAt
import Derived.OwnWalk
import Derived.Laws.BytesArg
import Derived.Laws.MakeOwn
import Derived.Laws.OwnMore
import Derived.Deep.OwnRows
import Derived.Tactics
import Derived.Lib.ConvBytes
import Derived.Laws.Slices
import Derived.WalkKit
import Derived.KernelRfl
import Derived.RowKit3
import Derived.Deep.LoopGhost
import Derived.Deep.QuietTactic
import Derived.BigQuiet
import Derived.WideLaws
import Derived.Deep.DeepCutAuto
import Derived.Deep.CutBlock
import Derived.Deep.RegionHeld3
import Derived.Laws.Rows
import Derived.Lib.AppendStr
import Derived.ArgAppend
import Derived.Laws.IdiomCopy
import Derived.OrdersHeld
import Derived.Laws.BitsLemmas
import Derived.RowKit
import Derived.Deep.RegionLaw
import Derived.Shelf.Abstract
import Derived.Test.YtjpgelnhmcblmaaBy
import Derived.Test.YtjpgelnhmcblmaaPl
import Derived.Test.YtjpgelnhmcblmaaWWords
import Derived.Test.YtjpgelnhmcblmaaWLast
import Derived.Test.YtjpgelnhmcblmaaWTab
import Derived.Test.YtjpgelnhmcblmaaWFour
import Derived.Test.YtjpgelnhmcblmaaWQPut
import Derived.Test.YtjpgelnhmcblmaaWApart
import Derived.Test.YtjpgelnhmcblmaaWArr
import Derived.Test.YtjpgelnhmcblmaaWZeros
import Derived.Test.YtjpgelnhmcblmaaWFoot
import Derived.Test.YtjpgelnhmcblmaaWKept
import Derived.Test.YtjpgelnhmcblmaaWShare
import Derived.Test.YtjpgelnhmcblmaaWN
import Derived.Test.YtjpgelnhmcblmaaWFootNe
import Derived.Test.YtjpgelnhmcblmaaWAt
import Derived.Test.YtjpgelnhmcblmaaWEqStruct
import Derived.Test.YtjpgelnhmcblmaaWRepsOne
import Derived.Test.YtjpgelnhmcblmaaWInv
import Derived.Test.YtjpgelnhmcblmaaWInvWords
import Derived.Test.YtjpgelnhmcblmaaWGuard
import Derived.Test.YtjpgelnhmcblmaaWNEv
import Derived.Test.YtjpgelnhmcblmaaWMore
namespace Go.Proofs.Ytjpgelnhmcblmaa.QFnExactSpreadBufs
open Go.RowKit Go.Proofs.YtjpgelnhmcblmaaW.PrintWords Go.Proofs.YtjpgelnhmcblmaaW.PrintLast Go.Proofs.YtjpgelnhmcblmaaW.PrintMore
attribute [local go_sem] max2_int min2_int max_two min_two max_three min_three max_four min_four   -- for this text's walks alone
set_option linter.unusedVariables false
set_option linter.unusedSimpArgs false



def errW : Option Int → Value
  | none => .nilIface
  | some c => .iface 0 (.int .i64 c)
theorem errW_none : errW none = .nilIface := rfl
theorem errW_some (c : Int) : errW (some c) = .iface 0 (.int .i64 c) := rfl

theorem info9 : (Try.prog.info? 9).map (fun i => (i.zero, i.size, i.bytes)) = some (some (.string ⟨#[]⟩), 1, 16) := by kernel_rfl
theorem info80 : (Try.prog.info? 80).map (fun i => (i.zero, i.size, i.bytes)) = some (some (.agg #[(.int .i64 0), (.int .i64 0), (.bool false)]), 3, 24) := by kernel_rfl
-- the values' own types
/-! #### struct type 126 -/
structure S126 where
  f0 : Int
  f1 : Int
  f2 : Bool
def z126 : S126 := ⟨(0 : Int), (0 : Int), false⟩
def k126 : Kd S126 := Kd.iso (Kd.pair (Kd.int .i64) (Kd.pair (Kd.int .i64) Kd.bool)) (fun x : S126 => (x.f0, x.f1, x.f2))
theorem k126_open {w : World} {x : S126} {cs : List Value} (h : k126.K w x cs) : cs = [.int .i64 x.f0, .int .i64 x.f1, .bool x.f2] := by
  obtain ⟨_, _, rfl, rfl, ⟨_, _, rfl, rfl, rfl⟩⟩ := h
  exact rfl
theorem k126_openM {w : World} {base : Nat} {ok : Nat → Prop} {x : S126} {cs : List Value} (h : k126.M w base ok x cs) : cs = [.int .i64 x.f0, .int .i64 x.f1, .bool x.f2] := by
  obtain ⟨_, _, rfl, rfl, ⟨_, _, rfl, rfl, rfl⟩⟩ := h
  exact rfl
theorem k126_mk (w : World) (x : S126)  : k126.K w x [.int .i64 x.f0, .int .i64 x.f1, .bool x.f2] := ⟨[.int .i64 x.f0], [.int .i64 x.f1, .bool x.f2], rfl, rfl, ⟨[.int .i64 x.f1], [.bool x.f2], rfl, rfl, rfl⟩⟩
theorem k126_mkM (w : World) (base : Nat) (ok : Nat → Prop) (x : S126)  : k126.M w base ok x [.int .i64 x.f0, .int .i64 x.f1, .bool x.f2] := ⟨[.int .i64 x.f0], [.int .i64 x.f1, .bool x.f2], rfl, rfl, ⟨[.int .i64 x.f1], [.bool x.f2], rfl, rfl, rfl⟩⟩
def rd_T126 (xs : List S126) (i : Int) : S126 := xs.getD i.toNat z126
theorem at_T126 {w : World} {A : Option Addr} {n : Nat} {xs : List S126} (h : Kd.C k126 w A n xs) (i : Int) (h0 : 0 ≤ i) (h1 : i < n) : ∃ ad , A = some ad ∧ w.cell? (ad.add (i.toNat * 3)) = some (.int .i64 (rd_T126 xs i).f0) ∧ w.cell? ⟨(ad.add (i.toNat * 3)).block, (ad.add (i.toNat * 3)).off + 1, none⟩ = some (.int .i64 (rd_T126 xs i).f1) ∧ w.cell? ⟨(ad.add (i.toNat * 3)).block, (ad.add (i.toNat * 3)).off + 2, none⟩ = some (.bool (rd_T126 xs i).f2) := by
  obtain ⟨ad, c, e, _, hK, hc0⟩ := Kd.C_get h z126 i h0 h1
  have hc : ∀ j u, c[j]? = some u → w.cell? (ad.add (i.toNat * 3 + j)) = some u := hc0
  obtain rfl := k126_open hK
  exact ⟨ad, e, hc 0 _ rfl, by rw [← add_field _ _ 1 (by omega)]; exact hc 1 _ rfl, by rw [← add_field _ _ 2 (by omega)]; exact hc 2 _ rfl⟩

/-! #### struct type 80 -/
structure S80 where
  f0 : Int
  f1 : Int
  f2 : Bool
def z80 : S80 := ⟨(0 : Int), (0 : Int), false⟩
def k80 : Kd S80 := Kd.iso (Kd.pair (Kd.int .i64) (Kd.pair (Kd.int .i64) Kd.bool)) (fun x : S80 => (x.f0, x.f1, x.f2))
theorem k80_open {w : World} {x : S80} {cs : List Value} (h : k80.K w x cs) : cs = [.int .i64 x.f0, .int .i64 x.f1, .bool x.f2] := by
  obtain ⟨_, _, rfl, rfl, ⟨_, _, rfl, rfl, rfl⟩⟩ := h
  exact rfl
theorem k80_openM {w : World} {base : Nat} {ok : Nat → Prop} {x : S80} {cs : List Value} (h : k80.M w base ok x cs) : cs = [.int .i64 x.f0, .int .i64 x.f1, .bool x.f2] := by
  obtain ⟨_, _, rfl, rfl, ⟨_, _, rfl, rfl, rfl⟩⟩ := h
  exact rfl
theorem k80_mk (w : World) (x : S80)  : k80.K w x [.int .i64 x.f0, .int .i64 x.f1, .bool x.f2] := ⟨[.int .i64 x.f0], [.int .i64 x.f1, .bool x.f2], rfl, rfl, ⟨[.int .i64 x.f1], [.bool x.f2], rfl, rfl, rfl⟩⟩
theorem k80_mkM (w : World) (base : Nat) (ok : Nat → Prop) (x : S80)  : k80.M w base ok x [.int .i64 x.f0, .int .i64 x.f1, .bool x.f2] := ⟨[.int .i64 x.f0], [.int .i64 x.f1, .bool x.f2], rfl, rfl, ⟨[.int .i64 x.f1], [.bool x.f2], rfl, rfl, rfl⟩⟩
def rd_T80 (xs : List S80) (i : Int) : S80 := xs.getD i.toNat z80
theorem at_T80 {w : World} {A : Option Addr} {n : Nat} {xs : List S80} (h : Kd.C k80 w A n xs) (i : Int) (h0 : 0 ≤ i) (h1 : i < n) : ∃ ad , A = some ad ∧ w.cell? (ad.add (i.toNat * 3)) = some (.int .i64 (rd_T80 xs i).f0) ∧ w.cell? ⟨(ad.add (i.toNat * 3)).block, (ad.add (i.toNat * 3)).off + 1, none⟩ = some (.int .i64 (rd_T80 xs i).f1) ∧ w.cell? ⟨(ad.add (i.toNat * 3)).block, (ad.add (i.toNat * 3)).off + 2, none⟩ = some (.bool (rd_T80 xs i).f2) := by
  obtain ⟨ad, c, e, _, hK, hc0⟩ := Kd.C_get h z80 i h0 h1
  have hc : ∀ j u, c[j]? = some u → w.cell? (ad.add (i.toNat * 3 + j)) = some u := hc0
  obtain rfl := k80_open hK
  exact ⟨ad, e, hc 0 _ rfl, by rw [← add_field _ _ 1 (by omega)]; exact hc 1 _ rfl, by rw [← add_field _ _ 2 (by omega)]; exact hc 2 _ rfl⟩

def rd_L4 (xs : List (List S80)) (i : Int) : (List S80) := xs.getD i.toNat ([] : List S80)
theorem at_L4 {w : World} {A : Option Addr} {n : Nat} {xs : List (List S80)} (h : Kd.C (Kd.slice 80 k80) w A n xs) (i : Int) (h0 : 0 ≤ i) (h1 : i < n) : ∃ ad A0 c0, A = some ad ∧ w.cell? (ad.add i.toNat) = some (.slice A0 (rd_L4 xs i).length c0) ∧ (rd_L4 xs i).length ≤ c0 ∧ k80.C w A0 (rd_L4 xs i).length (rd_L4 xs i) := by
  obtain ⟨ad, c, e, _, hK, hc0⟩ := Kd.C_get h ([] : List S80) i h0 h1
  have hc : ∀ j u, c[j]? = some u → w.cell? (ad.add (i.toNat * 1 + j)) = some u := hc0
  obtain ⟨A0, c0, rfl, l0, g0⟩ := hK
  exact ⟨ad, A0, c0, e, by have hq := hc 0 _ rfl; rwa [Nat.mul_one, Nat.add_zero] at hq, l0, g0⟩

end Go.Proofs.Ytjpgelnhmcblmaa.QFnExactSpreadBufs
