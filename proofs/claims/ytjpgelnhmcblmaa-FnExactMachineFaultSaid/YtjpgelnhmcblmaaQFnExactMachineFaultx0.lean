-- Written for this claim by this session's own driver (wip/xprint.py).
import Derived.Test.YtjpgelnhmcblmaaProg
import Derived.Below
import Derived.Deep.Draws
import Derived.Deep.AppendLies
import Derived.Maps.AppendAt
import Derived.OwnWalk
import Derived.Laws.BytesArg
import Derived.Laws.MakeOwn
import Derived.Laws.OwnMore
import Derived.Deep.OwnRows
import Derived.Tactics
import Derived.Lib.ConvBytes
import Derived.Laws.Slices
import Derived.WalkKit
import Derived.KernelRfl
import Derived.RowKit3
import Derived.Deep.LoopGhost
import Derived.Deep.QuietTactic
import Derived.BigQuiet
import Derived.WideLaws
import Derived.Deep.DeepCutAuto
import Derived.Deep.CutBlock
import Derived.Deep.RegionHeld3
import Derived.Laws.Rows
import Derived.Lib.AppendStr
import Derived.ArgAppend
import Derived.Laws.IdiomCopy
import Derived.OrdersHeld
import Derived.Laws.BitsLemmas
import Derived.RowKit
import Derived.Shelf.Abstract
import Derived.Test.YtjpgelnhmcblmaaPl
import Derived.Test.YtjpgelnhmcblmaaWWords
import Derived.Test.YtjpgelnhmcblmaaWLast
import Derived.Test.YtjpgelnhmcblmaaWTab
import Derived.Test.YtjpgelnhmcblmaaWQPut
import Derived.Test.YtjpgelnhmcblmaaWApart
import Derived.Test.YtjpgelnhmcblmaaWArr
import Derived.Test.YtjpgelnhmcblmaaWZeros
import Derived.Test.YtjpgelnhmcblmaaWFoot
import Derived.Test.YtjpgelnhmcblmaaWKept
import Derived.Test.YtjpgelnhmcblmaaWShare
import Derived.Test.YtjpgelnhmcblmaaWN
import Derived.Test.YtjpgelnhmcblmaaWFootNe
import Derived.Test.YtjpgelnhmcblmaaWRepsOne
import Derived.Test.YtjpgelnhmcblmaaWNEv
import Derived.Test.YtjpgelnhmcblmaaWMore
namespace Go.Proofs.Ytjpgelnhmcblmaa.QFnExactMachineFault
open Go.RowKit Go.Proofs.YtjpgelnhmcblmaaW.PrintWords Go.Proofs.YtjpgelnhmcblmaaW.PrintLast Go.Proofs.YtjpgelnhmcblmaaW.PrintMore
attribute [local go_sem] max2_int min2_int max_two min_two max_three min_three max_four min_four   -- for this text's walks alone
set_option linter.unusedVariables false
set_option linter.unusedSimpArgs false



def errW : Option Int → Value
  | none => .nilIface
  | some c => .iface 0 (.int .i64 c)
theorem errW_none : errW none = .nilIface := rfl
theorem errW_some (c : Int) : errW (some c) = .iface 0 (.int .i64 c) := rfl

theorem info2 : (Try.prog.info? 2).map (fun i => (i.zero, i.size, i.bytes)) = some (some (.int .i64 0), 1, 8) := by kernel_rfl
theorem info184 : (Try.prog.info? 184).map (fun i => (i.zero, i.size, i.bytes)) = some (some (.agg #[(.int .i64 0), (.int .i64 0)]), 2, 16) := by kernel_rfl
-- the values' own types
/-! #### struct type 184 -/
structure S184 where
  f0 : Int
  f1 : Int
def z184 : S184 := ⟨(0 : Int), (0 : Int)⟩
def k184 : Kd S184 := Kd.iso (Kd.pair (Kd.int .i64) (Kd.int .i64)) (fun x : S184 => (x.f0, x.f1))
theorem k184_open {w : World} {x : S184} {cs : List Value} (h : k184.K w x cs) : cs = [.int .i64 x.f0, .int .i64 x.f1] := by
  obtain ⟨_, _, rfl, rfl, rfl⟩ := h
  exact rfl
theorem k184_openM {w : World} {base : Nat} {ok : Nat → Prop} {x : S184} {cs : List Value} (h : k184.M w base ok x cs) : cs = [.int .i64 x.f0, .int .i64 x.f1] := by
  obtain ⟨_, _, rfl, rfl, rfl⟩ := h
  exact rfl
theorem k184_mk (w : World) (x : S184)  : k184.K w x [.int .i64 x.f0, .int .i64 x.f1] := ⟨[.int .i64 x.f0], [.int .i64 x.f1], rfl, rfl, rfl⟩
theorem k184_mkM (w : World) (base : Nat) (ok : Nat → Prop) (x : S184)  : k184.M w base ok x [.int .i64 x.f0, .int .i64 x.f1] := ⟨[.int .i64 x.f0], [.int .i64 x.f1], rfl, rfl, rfl⟩
def rd_T184 (xs : List S184) (i : Int) : S184 := xs.getD i.toNat z184
theorem at_T184 {w : World} {A : Option Addr} {n : Nat} {xs : List S184} (h : Kd.C k184 w A n xs) (i : Int) (h0 : 0 ≤ i) (h1 : i < n) : ∃ ad , A = some ad ∧ w.cell? (ad.add (i.toNat * 2)) = some (.int .i64 (rd_T184 xs i).f0) ∧ w.cell? ⟨(ad.add (i.toNat * 2)).block, (ad.add (i.toNat * 2)).off + 1, none⟩ = some (.int .i64 (rd_T184 xs i).f1) := by
  obtain ⟨ad, c, e, _, hK, hc0⟩ := Kd.C_get h z184 i h0 h1
  have hc : ∀ j u, c[j]? = some u → w.cell? (ad.add (i.toNat * 2 + j)) = some u := hc0
  obtain rfl := k184_open hK
  exact ⟨ad, e, hc 0 _ rfl, by rw [← add_field _ _ 1 (by omega)]; exact hc 1 _ rfl⟩

/-! #### struct type 186 -/
structure S186 where
  f0 : Int
  f1 : Int
def z186 : S186 := ⟨(0 : Int), (0 : Int)⟩
def k186 : Kd S186 := Kd.iso (Kd.pair (Kd.int .i64) (Kd.int .i64)) (fun x : S186 => (x.f0, x.f1))
theorem k186_open {w : World} {x : S186} {cs : List Value} (h : k186.K w x cs) : cs = [.int .i64 x.f0, .int .i64 x.f1] := by
  obtain ⟨_, _, rfl, rfl, rfl⟩ := h
  exact rfl
theorem k186_openM {w : World} {base : Nat} {ok : Nat → Prop} {x : S186} {cs : List Value} (h : k186.M w base ok x cs) : cs = [.int .i64 x.f0, .int .i64 x.f1] := by
  obtain ⟨_, _, rfl, rfl, rfl⟩ := h
  exact rfl
theorem k186_mk (w : World) (x : S186)  : k186.K w x [.int .i64 x.f0, .int .i64 x.f1] := ⟨[.int .i64 x.f0], [.int .i64 x.f1], rfl, rfl, rfl⟩
theorem k186_mkM (w : World) (base : Nat) (ok : Nat → Prop) (x : S186)  : k186.M w base ok x [.int .i64 x.f0, .int .i64 x.f1] := ⟨[.int .i64 x.f0], [.int .i64 x.f1], rfl, rfl, rfl⟩
def rd_T186 (xs : List S186) (i : Int) : S186 := xs.getD i.toNat z186
theorem at_T186 {w : World} {A : Option Addr} {n : Nat} {xs : List S186} (h : Kd.C k186 w A n xs) (i : Int) (h0 : 0 ≤ i) (h1 : i < n) : ∃ ad , A = some ad ∧ w.cell? (ad.add (i.toNat * 2)) = some (.int .i64 (rd_T186 xs i).f0) ∧ w.cell? ⟨(ad.add (i.toNat * 2)).block, (ad.add (i.toNat * 2)).off + 1, none⟩ = some (.int .i64 (rd_T186 xs i).f1) := by
  obtain ⟨ad, c, e, _, hK, hc0⟩ := Kd.C_get h z186 i h0 h1
  have hc : ∀ j u, c[j]? = some u → w.cell? (ad.add (i.toNat * 2 + j)) = some u := hc0
  obtain rfl := k186_open hK
  exact ⟨ad, e, hc 0 _ rfl, by rw [← add_field _ _ 1 (by omega)]; exact hc 1 _ rfl⟩

def rd_L3 (xs : List (List Int)) (i : Int) : (List Int) := xs.getD i.toNat ([] : List Int)
theorem at_L3 {w : World} {A : Option Addr} {n : Nat} {xs : List (List Int)} (h : Kd.C (Kd.slice 2 (Kd.int .i64)) w A n xs) (i : Int) (h0 : 0 ≤ i) (h1 : i < n) : ∃ ad A0 c0, A = some ad ∧ w.cell? (ad.add i.toNat) = some (.slice A0 (rd_L3 xs i).length c0) ∧ (rd_L3 xs i).length ≤ c0 ∧ (Kd.int .i64).C w A0 (rd_L3 xs i).length (rd_L3 xs i) := by
  obtain ⟨ad, c, e, _, hK, hc0⟩ := Kd.C_get h ([] : List Int) i h0 h1
  have hc : ∀ j u, c[j]? = some u → w.cell? (ad.add (i.toNat * 1 + j)) = some u := hc0
  obtain ⟨A0, c0, rfl, l0, g0⟩ := hK
  exact ⟨ad, A0, c0, e, by have hq := hc 0 _ rfl; rwa [Nat.mul_one, Nat.add_zero] at hq, l0, g0⟩

def rd_L4 (xs : List (List S184)) (i : Int) : (List S184) := xs.getD i.toNat ([] : List S184)
theorem at_L4 {w : World} {A : Option Addr} {n : Nat} {xs : List (List S184)} (h : Kd.C (Kd.slice 184 k184) w A n xs) (i : Int) (h0 : 0 ≤ i) (h1 : i < n) : ∃ ad A0 c0, A = some ad ∧ w.cell? (ad.add i.toNat) = some (.slice A0 (rd_L4 xs i).length c0) ∧ (rd_L4 xs i).length ≤ c0 ∧ k184.C w A0 (rd_L4 xs i).length (rd_L4 xs i) := by
  obtain ⟨ad, c, e, _, hK, hc0⟩ := Kd.C_get h ([] : List S184) i h0 h1
  have hc : ∀ j u, c[j]? = some u → w.cell? (ad.add (i.toNat * 1 + j)) = some u := hc0
  obtain ⟨A0, c0, rfl, l0, g0⟩ := hK
  exact ⟨ad, A0, c0, e, by have hq := hc 0 _ rfl; rwa [Nat.mul_one, Nat.add_zero] at hq, l0, g0⟩

/-! #### struct type 84 -/
structure S84 where
  f0 : Int
  f1 : (List Int)
  f2 : Int
  f3 : (List Int)
  f4 : (List Int)
  f5 : ByteArray
  f6 : Int
  f7 : Int
  f8 : Int
  f9 : (List S184)
  f10 : (List S184)
  f11 : Int
def z84 : S84 := ⟨(0 : Int), ([] : List Int), (0 : Int), ([] : List Int), ([] : List Int), (⟨#[]⟩ : ByteArray), (0 : Int), (0 : Int), (0 : Int), ([] : List S184), ([] : List S184), (0 : Int)⟩
def k84 : Kd S84 := Kd.iso (Kd.pair (Kd.int .i64) (Kd.pair (Kd.slice 2 (Kd.int .i64)) (Kd.pair (Kd.int .i64) (Kd.pair (Kd.slice 2 (Kd.int .i64)) (Kd.pair (Kd.slice 2 (Kd.int .i64)) (Kd.pair Kd.string (Kd.pair (Kd.int .i64) (Kd.pair (Kd.int .i64) (Kd.pair (Kd.int .i64) (Kd.pair (Kd.slice 184 k184) (Kd.pair (Kd.slice 184 k184) (Kd.int .i64)))))))))))) (fun x : S84 => (x.f0, x.f1, x.f2, x.f3, x.f4, x.f5, x.f6, x.f7, x.f8, x.f9, x.f10, x.f11))
theorem k84_open {w : World} {x : S84} {cs : List Value} (h : k84.K w x cs) : ∃ A1 c1 A3 c3 A4 c4 A9 c9 A10 c10, cs = [.int .i64 x.f0, .slice A1 x.f1.length c1, .int .i64 x.f2, .slice A3 x.f3.length c3, .slice A4 x.f4.length c4, .string x.f5, .int .i64 x.f6, .int .i64 x.f7, .int .i64 x.f8, .slice A9 x.f9.length c9, .slice A10 x.f10.length c10, .int .i64 x.f11] ∧ x.f1.length ≤ c1 ∧ (Kd.int .i64).C w A1 x.f1.length x.f1 ∧ x.f3.length ≤ c3 ∧ (Kd.int .i64).C w A3 x.f3.length x.f3 ∧ x.f4.length ≤ c4 ∧ (Kd.int .i64).C w A4 x.f4.length x.f4 ∧ x.f9.length ≤ c9 ∧ k184.C w A9 x.f9.length x.f9 ∧ x.f10.length ≤ c10 ∧ k184.C w A10 x.f10.length x.f10 := by
  obtain ⟨_, _, rfl, rfl, ⟨_, _, rfl, ⟨A1, c1, rfl, l1, g1⟩, ⟨_, _, rfl, rfl, ⟨_, _, rfl, ⟨A3, c3, rfl, l3, g3⟩, ⟨_, _, rfl, ⟨A4, c4, rfl, l4, g4⟩, ⟨_, _, rfl, rfl, ⟨_, _, rfl, rfl, ⟨_, _, rfl, rfl, ⟨_, _, rfl, rfl, ⟨_, _, rfl, ⟨A9, c9, rfl, l9, g9⟩, ⟨_, _, rfl, ⟨A10, c10, rfl, l10, g10⟩, rfl⟩⟩⟩⟩⟩⟩⟩⟩⟩⟩⟩ := h
  exact ⟨A1, c1, A3, c3, A4, c4, A9, c9, A10, c10, rfl, l1, g1, l3, g3, l4, g4, l9, g9, l10, g10⟩
theorem k84_openM {w : World} {base : Nat} {ok : Nat → Prop} {x : S84} {cs : List Value} (h : k84.M w base ok x cs) : ∃ v1 v3 v4 v9 v10, cs = [.int .i64 x.f0, v1, .int .i64 x.f2, v3, v4, .string x.f5, .int .i64 x.f6, .int .i64 x.f7, .int .i64 x.f8, v9, v10, .int .i64 x.f11] ∧ (Kd.int .i64).R 2 w base ok v1 x.f1 ∧ (Kd.int .i64).R 2 w base ok v3 x.f3 ∧ (Kd.int .i64).R 2 w base ok v4 x.f4 ∧ k184.R 184 w base ok v9 x.f9 ∧ k184.R 184 w base ok v10 x.f10 := by
  obtain ⟨_, _, rfl, rfl, ⟨_, _, rfl, ⟨v1, rfl, g1⟩, ⟨_, _, rfl, rfl, ⟨_, _, rfl, ⟨v3, rfl, g3⟩, ⟨_, _, rfl, ⟨v4, rfl, g4⟩, ⟨_, _, rfl, rfl, ⟨_, _, rfl, rfl, ⟨_, _, rfl, rfl, ⟨_, _, rfl, rfl, ⟨_, _, rfl, ⟨v9, rfl, g9⟩, ⟨_, _, rfl, ⟨v10, rfl, g10⟩, rfl⟩⟩⟩⟩⟩⟩⟩⟩⟩⟩⟩ := h
  exact ⟨v1, v3, v4, v9, v10, rfl, g1, g3, g4, g9, g10⟩
theorem k84_mk (w : World) (x : S84) {A1 : Option Addr} {c1 : Nat} (l1 : x.f1.length ≤ c1) (g1 : (Kd.int .i64).C w A1 x.f1.length x.f1) {A3 : Option Addr} {c3 : Nat} (l3 : x.f3.length ≤ c3) (g3 : (Kd.int .i64).C w A3 x.f3.length x.f3) {A4 : Option Addr} {c4 : Nat} (l4 : x.f4.length ≤ c4) (g4 : (Kd.int .i64).C w A4 x.f4.length x.f4) {A9 : Option Addr} {c9 : Nat} (l9 : x.f9.length ≤ c9) (g9 : k184.C w A9 x.f9.length x.f9) {A10 : Option Addr} {c10 : Nat} (l10 : x.f10.length ≤ c10) (g10 : k184.C w A10 x.f10.length x.f10) : k84.K w x [.int .i64 x.f0, .slice A1 x.f1.length c1, .int .i64 x.f2, .slice A3 x.f3.length c3, .slice A4 x.f4.length c4, .string x.f5, .int .i64 x.f6, .int .i64 x.f7, .int .i64 x.f8, .slice A9 x.f9.length c9, .slice A10 x.f10.length c10, .int .i64 x.f11] := ⟨[.int .i64 x.f0], [.slice A1 x.f1.length c1, .int .i64 x.f2, .slice A3 x.f3.length c3, .slice A4 x.f4.length c4, .string x.f5, .int .i64 x.f6, .int .i64 x.f7, .int .i64 x.f8, .slice A9 x.f9.length c9, .slice A10 x.f10.length c10, .int .i64 x.f11], rfl, rfl, ⟨[.slice A1 x.f1.length c1], [.int .i64 x.f2, .slice A3 x.f3.length c3, .slice A4 x.f4.length c4, .string x.f5, .int .i64 x.f6, .int .i64 x.f7, .int .i64 x.f8, .slice A9 x.f9.length c9, .slice A10 x.f10.length c10, .int .i64 x.f11], rfl, ⟨A1, c1, rfl, l1, g1⟩, ⟨[.int .i64 x.f2], [.slice A3 x.f3.length c3, .slice A4 x.f4.length c4, .string x.f5, .int .i64 x.f6, .int .i64 x.f7, .int .i64 x.f8, .slice A9 x.f9.length c9, .slice A10 x.f10.length c10, .int .i64 x.f11], rfl, rfl, ⟨[.slice A3 x.f3.length c3], [.slice A4 x.f4.length c4, .string x.f5, .int .i64 x.f6, .int .i64 x.f7, .int .i64 x.f8, .slice A9 x.f9.length c9, .slice A10 x.f10.length c10, .int .i64 x.f11], rfl, ⟨A3, c3, rfl, l3, g3⟩, ⟨[.slice A4 x.f4.length c4], [.string x.f5, .int .i64 x.f6, .int .i64 x.f7, .int .i64 x.f8, .slice A9 x.f9.length c9, .slice A10 x.f10.length c10, .int .i64 x.f11], rfl, ⟨A4, c4, rfl, l4, g4⟩, ⟨[.string x.f5], [.int .i64 x.f6, .int .i64 x.f7, .int .i64 x.f8, .slice A9 x.f9.length c9, .slice A10 x.f10.length c10, .int .i64 x.f11], rfl, rfl, ⟨[.int .i64 x.f6], [.int .i64 x.f7, .int .i64 x.f8, .slice A9 x.f9.length c9, .slice A10 x.f10.length c10, .int .i64 x.f11], rfl, rfl, ⟨[.int .i64 x.f7], [.int .i64 x.f8, .slice A9 x.f9.length c9, .slice A10 x.f10.length c10, .int .i64 x.f11], rfl, rfl, ⟨[.int .i64 x.f8], [.slice A9 x.f9.length c9, .slice A10 x.f10.length c10, .int .i64 x.f11], rfl, rfl, ⟨[.slice A9 x.f9.length c9], [.slice A10 x.f10.length c10, .int .i64 x.f11], rfl, ⟨A9, c9, rfl, l9, g9⟩, ⟨[.slice A10 x.f10.length c10], [.int .i64 x.f11], rfl, ⟨A10, c10, rfl, l10, g10⟩, rfl⟩⟩⟩⟩⟩⟩⟩⟩⟩⟩⟩
theorem k84_mkM (w : World) (base : Nat) (ok : Nat → Prop) (x : S84) {v1 : Value} (g1 : (Kd.int .i64).R 2 w base ok v1 x.f1) {v3 : Value} (g3 : (Kd.int .i64).R 2 w base ok v3 x.f3) {v4 : Value} (g4 : (Kd.int .i64).R 2 w base ok v4 x.f4) {v9 : Value} (g9 : k184.R 184 w base ok v9 x.f9) {v10 : Value} (g10 : k184.R 184 w base ok v10 x.f10) : k84.M w base ok x [.int .i64 x.f0, v1, .int .i64 x.f2, v3, v4, .string x.f5, .int .i64 x.f6, .int .i64 x.f7, .int .i64 x.f8, v9, v10, .int .i64 x.f11] := ⟨[.int .i64 x.f0], [v1, .int .i64 x.f2, v3, v4, .string x.f5, .int .i64 x.f6, .int .i64 x.f7, .int .i64 x.f8, v9, v10, .int .i64 x.f11], rfl, rfl, ⟨[v1], [.int .i64 x.f2, v3, v4, .string x.f5, .int .i64 x.f6, .int .i64 x.f7, .int .i64 x.f8, v9, v10, .int .i64 x.f11], rfl, ⟨v1, rfl, g1⟩, ⟨[.int .i64 x.f2], [v3, v4, .string x.f5, .int .i64 x.f6, .int .i64 x.f7, .int .i64 x.f8, v9, v10, .int .i64 x.f11], rfl, rfl, ⟨[v3], [v4, .string x.f5, .int .i64 x.f6, .int .i64 x.f7, .int .i64 x.f8, v9, v10, .int .i64 x.f11], rfl, ⟨v3, rfl, g3⟩, ⟨[v4], [.string x.f5, .int .i64 x.f6, .int .i64 x.f7, .int .i64 x.f8, v9, v10, .int .i64 x.f11], rfl, ⟨v4, rfl, g4⟩, ⟨[.string x.f5], [.int .i64 x.f6, .int .i64 x.f7, .int .i64 x.f8, v9, v10, .int .i64 x.f11], rfl, rfl, ⟨[.int .i64 x.f6], [.int .i64 x.f7, .int .i64 x.f8, v9, v10, .int .i64 x.f11], rfl, rfl, ⟨[.int .i64 x.f7], [.int .i64 x.f8, v9, v10, .int .i64 x.f11], rfl, rfl, ⟨[.int .i64 x.f8], [v9, v10, .int .i64 x.f11], rfl, rfl, ⟨[v9], [v10, .int .i64 x.f11], rfl, ⟨v9, rfl, g9⟩, ⟨[v10], [.int .i64 x.f11], rfl, ⟨v10, rfl, g10⟩, rfl⟩⟩⟩⟩⟩⟩⟩⟩⟩⟩⟩
def rd_T84 (xs : List S84) (i : Int) : S84 := xs.getD i.toNat z84
theorem at_T84 {w : World} {A : Option Addr} {n : Nat} {xs : List S84} (h : Kd.C k84 w A n xs) (i : Int) (h0 : 0 ≤ i) (h1 : i < n) : ∃ ad A1 c1 A3 c3 A4 c4 A9 c9 A10 c10, A = some ad ∧ w.cell? (ad.add (i.toNat * 12)) = some (.int .i64 (rd_T84 xs i).f0) ∧ w.cell? ⟨(ad.add (i.toNat * 12)).block, (ad.add (i.toNat * 12)).off + 1, none⟩ = some (.slice A1 (rd_T84 xs i).f1.length c1) ∧ w.cell? ⟨(ad.add (i.toNat * 12)).block, (ad.add (i.toNat * 12)).off + 2, none⟩ = some (.int .i64 (rd_T84 xs i).f2) ∧ w.cell? ⟨(ad.add (i.toNat * 12)).block, (ad.add (i.toNat * 12)).off + 3, none⟩ = some (.slice A3 (rd_T84 xs i).f3.length c3) ∧ w.cell? ⟨(ad.add (i.toNat * 12)).block, (ad.add (i.toNat * 12)).off + 4, none⟩ = some (.slice A4 (rd_T84 xs i).f4.length c4) ∧ w.cell? ⟨(ad.add (i.toNat * 12)).block, (ad.add (i.toNat * 12)).off + 5, none⟩ = some (.string (rd_T84 xs i).f5) ∧ w.cell? ⟨(ad.add (i.toNat * 12)).block, (ad.add (i.toNat * 12)).off + 6, none⟩ = some (.int .i64 (rd_T84 xs i).f6) ∧ w.cell? ⟨(ad.add (i.toNat * 12)).block, (ad.add (i.toNat * 12)).off + 7, none⟩ = some (.int .i64 (rd_T84 xs i).f7) ∧ w.cell? ⟨(ad.add (i.toNat * 12)).block, (ad.add (i.toNat * 12)).off + 8, none⟩ = some (.int .i64 (rd_T84 xs i).f8) ∧ w.cell? ⟨(ad.add (i.toNat * 12)).block, (ad.add (i.toNat * 12)).off + 9, none⟩ = some (.slice A9 (rd_T84 xs i).f9.length c9) ∧ w.cell? ⟨(ad.add (i.toNat * 12)).block, (ad.add (i.toNat * 12)).off + 10, none⟩ = some (.slice A10 (rd_T84 xs i).f10.length c10) ∧ w.cell? ⟨(ad.add (i.toNat * 12)).block, (ad.add (i.toNat * 12)).off + 11, none⟩ = some (.int .i64 (rd_T84 xs i).f11) ∧ (rd_T84 xs i).f1.length ≤ c1 ∧ (Kd.int .i64).C w A1 (rd_T84 xs i).f1.length (rd_T84 xs i).f1 ∧ (rd_T84 xs i).f3.length ≤ c3 ∧ (Kd.int .i64).C w A3 (rd_T84 xs i).f3.length (rd_T84 xs i).f3 ∧ (rd_T84 xs i).f4.length ≤ c4 ∧ (Kd.int .i64).C w A4 (rd_T84 xs i).f4.length (rd_T84 xs i).f4 ∧ (rd_T84 xs i).f9.length ≤ c9 ∧ k184.C w A9 (rd_T84 xs i).f9.length (rd_T84 xs i).f9 ∧ (rd_T84 xs i).f10.length ≤ c10 ∧ k184.C w A10 (rd_T84 xs i).f10.length (rd_T84 xs i).f10 := by
  obtain ⟨ad, c, e, _, hK, hc0⟩ := Kd.C_get h z84 i h0 h1
  have hc : ∀ j u, c[j]? = some u → w.cell? (ad.add (i.toNat * 12 + j)) = some u := hc0
  obtain ⟨A1, c1, A3, c3, A4, c4, A9, c9, A10, c10, rfl, l1, g1, l3, g3, l4, g4, l9, g9, l10, g10⟩ := k84_open hK
  exact ⟨ad, A1, c1, A3, c3, A4, c4, A9, c9, A10, c10, e, hc 0 _ rfl, by rw [← add_field _ _ 1 (by omega)]; exact hc 1 _ rfl, by rw [← add_field _ _ 2 (by omega)]; exact hc 2 _ rfl, by rw [← add_field _ _ 3 (by omega)]; exact hc 3 _ rfl, by rw [← add_field _ _ 4 (by omega)]; exact hc 4 _ rfl, by rw [← add_field _ _ 5 (by omega)]; exact hc 5 _ rfl, by rw [← add_field _ _ 6 (by omega)]; exact hc 6 _ rfl, by rw [← add_field _ _ 7 (by omega)]; exact hc 7 _ rfl, by rw [← add_field _ _ 8 (by omega)]; exact hc 8 _ rfl, by rw [← add_field _ _ 9 (by omega)]; exact hc 9 _ rfl, by rw [← add_field _ _ 10 (by omega)]; exact hc 10 _ rfl, by rw [← add_field _ _ 11 (by omega)]; exact hc 11 _ rfl, l1, g1, l3, g3, l4, g4, l9, g9, l10, g10⟩

end Go.Proofs.Ytjpgelnhmcblmaa.QFnExactMachineFault
