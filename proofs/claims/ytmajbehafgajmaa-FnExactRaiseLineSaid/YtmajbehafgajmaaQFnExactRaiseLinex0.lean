-- Written for this claim by this session's own driver (wip/xprint.py).
import Derived.Test.YtmajbehafgajmaaProg
import Derived.Below
import Derived.Deep.Draws
import Derived.Deep.AppendLies
import Derived.Maps.AppendAt
import Derived.OwnWalk
import Derived.Laws.BytesArg
import Derived.Laws.MakeOwn
import Derived.Laws.OwnMore
import Derived.Deep.OwnRows
import Derived.Tactics
import Derived.Lib.ConvBytes
import Derived.Laws.Slices
import Derived.WalkKit
import Derived.KernelRfl
import Derived.RowKit3
import Derived.Deep.LoopGhost
import Derived.Deep.QuietTactic
import Derived.BigQuiet
import Derived.WideLaws
import Derived.Deep.DeepCutAuto
import Derived.Deep.CutBlock
import Derived.Deep.RegionHeld3
import Derived.Laws.Rows
import Derived.Lib.AppendStr
import Derived.ArgAppend
import Derived.Laws.IdiomCopy
import Derived.OrdersHeld
import Derived.Laws.BitsLemmas
import Derived.RowKit
import Derived.Lib.LazyBuf
import Derived.Lib.SliceRun
import Derived.Shelf.Abstract
import Derived.Test.YtmajbehafgajmaaPl
import Derived.Test.YtmajbehafgajmaaSqFnExactRaiseLine
import Derived.Test.YtmajbehafgajmaaWWords
import Derived.Test.YtmajbehafgajmaaWLast
import Derived.Test.YtmajbehafgajmaaWTab
import Derived.Test.YtmajbehafgajmaaWQPut
import Derived.Test.YtmajbehafgajmaaWApart
import Derived.Test.YtmajbehafgajmaaWArr
import Derived.Test.YtmajbehafgajmaaWZeros
import Derived.Test.YtmajbehafgajmaaWFoot
import Derived.Test.YtmajbehafgajmaaWKept
import Derived.Test.YtmajbehafgajmaaWShare
import Derived.Test.YtmajbehafgajmaaWN
import Derived.Test.YtmajbehafgajmaaWFootNe
import Derived.Test.YtmajbehafgajmaaWRepsOne
import Derived.Test.YtmajbehafgajmaaWNEv
import Derived.Test.YtmajbehafgajmaaWMore
namespace Go.Proofs.Ytmajbehafgajmaa.QFnExactRaiseLine
open Go.RowKit Go.Proofs.YtmajbehafgajmaaW.PrintWords Go.Proofs.YtmajbehafgajmaaW.PrintLast Go.Proofs.YtmajbehafgajmaaW.PrintMore
attribute [local go_sem] max2_int min2_int max_two min_two max_three min_three max_four min_four   -- for this text's walks alone
set_option linter.unusedVariables false
set_option linter.unusedSimpArgs false



def errW : Option Int → Value
  | none => .nilIface
  | some c => .iface 0 (.int .i64 c)
theorem errW_none : errW none = .nilIface := rfl
theorem errW_some (c : Int) : errW (some c) = .iface 0 (.int .i64 c) := rfl

theorem info2 : (Try.prog.info? 2).map (fun i => (i.zero, i.size, i.bytes)) = some (some (.int .i64 0), 1, 8) := by kernel_rfl
theorem info185 : (Try.prog.info? 185).map (fun i => (i.zero, i.size, i.bytes)) = some (some (.agg #[(.int .i64 0), (.int .i64 0)]), 2, 16) := by kernel_rfl
-- the values' own types
/-! #### struct type 187 -/
structure S187 where
  f0 : Int
  f1 : Int
def z187 : S187 := ⟨(0 : Int), (0 : Int)⟩
def k187 : Kd S187 := Kd.iso (Kd.pair (Kd.int .i64) (Kd.int .i64)) (fun x : S187 => (x.f0, x.f1))
theorem k187_open {w : World} {x : S187} {cs : List Value} (h : k187.K w x cs) : cs = [.int .i64 x.f0, .int .i64 x.f1] := by
  obtain ⟨_, _, rfl, rfl, rfl⟩ := h
  exact rfl
theorem k187_openM {w : World} {base : Nat} {ok : Nat → Prop} {x : S187} {cs : List Value} (h : k187.M w base ok x cs) : cs = [.int .i64 x.f0, .int .i64 x.f1] := by
  obtain ⟨_, _, rfl, rfl, rfl⟩ := h
  exact rfl
theorem k187_mk (w : World) (x : S187)  : k187.K w x [.int .i64 x.f0, .int .i64 x.f1] := ⟨[.int .i64 x.f0], [.int .i64 x.f1], rfl, rfl, rfl⟩
theorem k187_mkM (w : World) (base : Nat) (ok : Nat → Prop) (x : S187)  : k187.M w base ok x [.int .i64 x.f0, .int .i64 x.f1] := ⟨[.int .i64 x.f0], [.int .i64 x.f1], rfl, rfl, rfl⟩
def rd_T187 (xs : List S187) (i : Int) : S187 := xs.getD i.toNat z187
theorem at_T187 {w : World} {A : Option Addr} {n : Nat} {xs : List S187} (h : Kd.C k187 w A n xs) (i : Int) (h0 : 0 ≤ i) (h1 : i < n) : ∃ ad , A = some ad ∧ w.cell? (ad.add (i.toNat * 2)) = some (.int .i64 (rd_T187 xs i).f0) ∧ w.cell? ⟨(ad.add (i.toNat * 2)).block, (ad.add (i.toNat * 2)).off + 1, none⟩ = some (.int .i64 (rd_T187 xs i).f1) := by
  obtain ⟨ad, c, e, _, hK, hc0⟩ := Kd.C_get h z187 i h0 h1
  have hc : ∀ j u, c[j]? = some u → w.cell? (ad.add (i.toNat * 2 + j)) = some u := hc0
  obtain rfl := k187_open hK
  exact ⟨ad, e, hc 0 _ rfl, by rw [← add_field _ _ 1 (by omega)]; exact hc 1 _ rfl⟩

/-! #### struct type 185 -/
structure S185 where
  f0 : Int
  f1 : Int
def z185 : S185 := ⟨(0 : Int), (0 : Int)⟩
def k185 : Kd S185 := Kd.iso (Kd.pair (Kd.int .i64) (Kd.int .i64)) (fun x : S185 => (x.f0, x.f1))
theorem k185_open {w : World} {x : S185} {cs : List Value} (h : k185.K w x cs) : cs = [.int .i64 x.f0, .int .i64 x.f1] := by
  obtain ⟨_, _, rfl, rfl, rfl⟩ := h
  exact rfl
theorem k185_openM {w : World} {base : Nat} {ok : Nat → Prop} {x : S185} {cs : List Value} (h : k185.M w base ok x cs) : cs = [.int .i64 x.f0, .int .i64 x.f1] := by
  obtain ⟨_, _, rfl, rfl, rfl⟩ := h
  exact rfl
theorem k185_mk (w : World) (x : S185)  : k185.K w x [.int .i64 x.f0, .int .i64 x.f1] := ⟨[.int .i64 x.f0], [.int .i64 x.f1], rfl, rfl, rfl⟩
theorem k185_mkM (w : World) (base : Nat) (ok : Nat → Prop) (x : S185)  : k185.M w base ok x [.int .i64 x.f0, .int .i64 x.f1] := ⟨[.int .i64 x.f0], [.int .i64 x.f1], rfl, rfl, rfl⟩
def rd_T185 (xs : List S185) (i : Int) : S185 := xs.getD i.toNat z185
theorem at_T185 {w : World} {A : Option Addr} {n : Nat} {xs : List S185} (h : Kd.C k185 w A n xs) (i : Int) (h0 : 0 ≤ i) (h1 : i < n) : ∃ ad , A = some ad ∧ w.cell? (ad.add (i.toNat * 2)) = some (.int .i64 (rd_T185 xs i).f0) ∧ w.cell? ⟨(ad.add (i.toNat * 2)).block, (ad.add (i.toNat * 2)).off + 1, none⟩ = some (.int .i64 (rd_T185 xs i).f1) := by
  obtain ⟨ad, c, e, _, hK, hc0⟩ := Kd.C_get h z185 i h0 h1
  have hc : ∀ j u, c[j]? = some u → w.cell? (ad.add (i.toNat * 2 + j)) = some u := hc0
  obtain rfl := k185_open hK
  exact ⟨ad, e, hc 0 _ rfl, by rw [← add_field _ _ 1 (by omega)]; exact hc 1 _ rfl⟩

def rd_L3 (xs : List (List Int)) (i : Int) : (List Int) := xs.getD i.toNat ([] : List Int)
theorem at_L3 {w : World} {A : Option Addr} {n : Nat} {xs : List (List Int)} (h : Kd.C (Kd.slice 2 (Kd.int .i64)) w A n xs) (i : Int) (h0 : 0 ≤ i) (h1 : i < n) : ∃ ad A0 c0, A = some ad ∧ w.cell? (ad.add i.toNat) = some (.slice A0 (rd_L3 xs i).length c0) ∧ (rd_L3 xs i).length ≤ c0 ∧ (Kd.int .i64).C w A0 (rd_L3 xs i).length (rd_L3 xs i) := by
  obtain ⟨ad, c, e, _, hK, hc0⟩ := Kd.C_get h ([] : List Int) i h0 h1
  have hc : ∀ j u, c[j]? = some u → w.cell? (ad.add (i.toNat * 1 + j)) = some u := hc0
  obtain ⟨A0, c0, rfl, l0, g0⟩ := hK
  exact ⟨ad, A0, c0, e, by have hq := hc 0 _ rfl; rwa [Nat.mul_one, Nat.add_zero] at hq, l0, g0⟩

def rd_L4 (xs : List (List S185)) (i : Int) : (List S185) := xs.getD i.toNat ([] : List S185)
theorem at_L4 {w : World} {A : Option Addr} {n : Nat} {xs : List (List S185)} (h : Kd.C (Kd.slice 185 k185) w A n xs) (i : Int) (h0 : 0 ≤ i) (h1 : i < n) : ∃ ad A0 c0, A = some ad ∧ w.cell? (ad.add i.toNat) = some (.slice A0 (rd_L4 xs i).length c0) ∧ (rd_L4 xs i).length ≤ c0 ∧ k185.C w A0 (rd_L4 xs i).length (rd_L4 xs i) := by
  obtain ⟨ad, c, e, _, hK, hc0⟩ := Kd.C_get h ([] : List S185) i h0 h1
  have hc : ∀ j u, c[j]? = some u → w.cell? (ad.add (i.toNat * 1 + j)) = some u := hc0
  obtain ⟨A0, c0, rfl, l0, g0⟩ := hK
  exact ⟨ad, A0, c0, e, by have hq := hc 0 _ rfl; rwa [Nat.mul_one, Nat.add_zero] at hq, l0, g0⟩

/-! #### struct type 71 -/
structure S71 where
  f0 : Int
  f1 : (List Int)
  f2 : Int
  f3 : (List Int)
  f4 : (List Int)
  f5 : ByteArray
  f6 : Int
  f7 : Int
  f8 : Int
  f9 : (List S185)
  f10 : (List S185)
  f11 : Int
def z71 : S71 := ⟨(0 : Int), ([] : List Int), (0 : Int), ([] : List Int), ([] : List Int), (⟨#[]⟩ : ByteArray), (0 : Int), (0 : Int), (0 : Int), ([] : List S185), ([] : List S185), (0 : Int)⟩
def k71 : Kd S71 := Kd.iso (Kd.pair (Kd.int .i64) (Kd.pair (Kd.slice 2 (Kd.int .i64)) (Kd.pair (Kd.int .i64) (Kd.pair (Kd.slice 2 (Kd.int .i64)) (Kd.pair (Kd.slice 2 (Kd.int .i64)) (Kd.pair Kd.string (Kd.pair (Kd.int .i64) (Kd.pair (Kd.int .i64) (Kd.pair (Kd.int .i64) (Kd.pair (Kd.slice 185 k185) (Kd.pair (Kd.slice 185 k185) (Kd.int .i64)))))))))))) (fun x : S71 => (x.f0, x.f1, x.f2, x.f3, x.f4, x.f5, x.f6, x.f7, x.f8, x.f9, x.f10, x.f11))
theorem k71_open {w : World} {x : S71} {cs : List Value} (h : k71.K w x cs) : ∃ A1 c1 A3 c3 A4 c4 A9 c9 A10 c10, cs = [.int .i64 x.f0, .slice A1 x.f1.length c1, .int .i64 x.f2, .slice A3 x.f3.length c3, .slice A4 x.f4.length c4, .string x.f5, .int .i64 x.f6, .int .i64 x.f7, .int .i64 x.f8, .slice A9 x.f9.length c9, .slice A10 x.f10.length c10, .int .i64 x.f11] ∧ x.f1.length ≤ c1 ∧ (Kd.int .i64).C w A1 x.f1.length x.f1 ∧ x.f3.length ≤ c3 ∧ (Kd.int .i64).C w A3 x.f3.length x.f3 ∧ x.f4.length ≤ c4 ∧ (Kd.int .i64).C w A4 x.f4.length x.f4 ∧ x.f9.length ≤ c9 ∧ k185.C w A9 x.f9.length x.f9 ∧ x.f10.length ≤ c10 ∧ k185.C w A10 x.f10.length x.f10 := by
  obtain ⟨_, _, rfl, rfl, ⟨_, _, rfl, ⟨A1, c1, rfl, l1, g1⟩, ⟨_, _, rfl, rfl, ⟨_, _, rfl, ⟨A3, c3, rfl, l3, g3⟩, ⟨_, _, rfl, ⟨A4, c4, rfl, l4, g4⟩, ⟨_, _, rfl, rfl, ⟨_, _, rfl, rfl, ⟨_, _, rfl, rfl, ⟨_, _, rfl, rfl, ⟨_, _, rfl, ⟨A9, c9, rfl, l9, g9⟩, ⟨_, _, rfl, ⟨A10, c10, rfl, l10, g10⟩, rfl⟩⟩⟩⟩⟩⟩⟩⟩⟩⟩⟩ := h
  exact ⟨A1, c1, A3, c3, A4, c4, A9, c9, A10, c10, rfl, l1, g1, l3, g3, l4, g4, l9, g9, l10, g10⟩
theorem k71_openM {w : World} {base : Nat} {ok : Nat → Prop} {x : S71} {cs : List Value} (h : k71.M w base ok x cs) : ∃ v1 v3 v4 v9 v10, cs = [.int .i64 x.f0, v1, .int .i64 x.f2, v3, v4, .string x.f5, .int .i64 x.f6, .int .i64 x.f7, .int .i64 x.f8, v9, v10, .int .i64 x.f11] ∧ (Kd.int .i64).R 2 w base ok v1 x.f1 ∧ (Kd.int .i64).R 2 w base ok v3 x.f3 ∧ (Kd.int .i64).R 2 w base ok v4 x.f4 ∧ k185.R 185 w base ok v9 x.f9 ∧ k185.R 185 w base ok v10 x.f10 := by
  obtain ⟨_, _, rfl, rfl, ⟨_, _, rfl, ⟨v1, rfl, g1⟩, ⟨_, _, rfl, rfl, ⟨_, _, rfl, ⟨v3, rfl, g3⟩, ⟨_, _, rfl, ⟨v4, rfl, g4⟩, ⟨_, _, rfl, rfl, ⟨_, _, rfl, rfl, ⟨_, _, rfl, rfl, ⟨_, _, rfl, rfl, ⟨_, _, rfl, ⟨v9, rfl, g9⟩, ⟨_, _, rfl, ⟨v10, rfl, g10⟩, rfl⟩⟩⟩⟩⟩⟩⟩⟩⟩⟩⟩ := h
  exact ⟨v1, v3, v4, v9, v10, rfl, g1, g3, g4, g9, g10⟩
theorem k71_mk (w : World) (x : S71) {A1 : Option Addr} {c1 : Nat} (l1 : x.f1.length ≤ c1) (g1 : (Kd.int .i64).C w A1 x.f1.length x.f1) {A3 : Option Addr} {c3 : Nat} (l3 : x.f3.length ≤ c3) (g3 : (Kd.int .i64).C w A3 x.f3.length x.f3) {A4 : Option Addr} {c4 : Nat} (l4 : x.f4.length ≤ c4) (g4 : (Kd.int .i64).C w A4 x.f4.length x.f4) {A9 : Option Addr} {c9 : Nat} (l9 : x.f9.length ≤ c9) (g9 : k185.C w A9 x.f9.length x.f9) {A10 : Option Addr} {c10 : Nat} (l10 : x.f10.length ≤ c10) (g10 : k185.C w A10 x.f10.length x.f10) : k71.K w x [.int .i64 x.f0, .slice A1 x.f1.length c1, .int .i64 x.f2, .slice A3 x.f3.length c3, .slice A4 x.f4.length c4, .string x.f5, .int .i64 x.f6, .int .i64 x.f7, .int .i64 x.f8, .slice A9 x.f9.length c9, .slice A10 x.f10.length c10, .int .i64 x.f11] := ⟨[.int .i64 x.f0], [.slice A1 x.f1.length c1, .int .i64 x.f2, .slice A3 x.f3.length c3, .slice A4 x.f4.length c4, .string x.f5, .int .i64 x.f6, .int .i64 x.f7, .int .i64 x.f8, .slice A9 x.f9.length c9, .slice A10 x.f10.length c10, .int .i64 x.f11], rfl, rfl, ⟨[.slice A1 x.f1.length c1], [.int .i64 x.f2, .slice A3 x.f3.length c3, .slice A4 x.f4.length c4, .string x.f5, .int .i64 x.f6, .int .i64 x.f7, .int .i64 x.f8, .slice A9 x.f9.length c9, .slice A10 x.f10.length c10, .int .i64 x.f11], rfl, ⟨A1, c1, rfl, l1, g1⟩, ⟨[.int .i64 x.f2], [.slice A3 x.f3.length c3, .slice A4 x.f4.length c4, .string x.f5, .int .i64 x.f6, .int .i64 x.f7, .int .i64 x.f8, .slice A9 x.f9.length c9, .slice A10 x.f10.length c10, .int .i64 x.f11], rfl, rfl, ⟨[.slice A3 x.f3.length c3], [.slice A4 x.f4.length c4, .string x.f5, .int .i64 x.f6, .int .i64 x.f7, .int .i64 x.f8, .slice A9 x.f9.length c9, .slice A10 x.f10.length c10, .int .i64 x.f11], rfl, ⟨A3, c3, rfl, l3, g3⟩, ⟨[.slice A4 x.f4.length c4], [.string x.f5, .int .i64 x.f6, .int .i64 x.f7, .int .i64 x.f8, .slice A9 x.f9.length c9, .slice A10 x.f10.length c10, .int .i64 x.f11], rfl, ⟨A4, c4, rfl, l4, g4⟩, ⟨[.string x.f5], [.int .i64 x.f6, .int .i64 x.f7, .int .i64 x.f8, .slice A9 x.f9.length c9, .slice A10 x.f10.length c10, .int .i64 x.f11], rfl, rfl, ⟨[.int .i64 x.f6], [.int .i64 x.f7, .int .i64 x.f8, .slice A9 x.f9.length c9, .slice A10 x.f10.length c10, .int .i64 x.f11], rfl, rfl, ⟨[.int .i64 x.f7], [.int .i64 x.f8, .slice A9 x.f9.length c9, .slice A10 x.f10.length c10, .int .i64 x.f11], rfl, rfl, ⟨[.int .i64 x.f8], [.slice A9 x.f9.length c9, .slice A10 x.f10.length c10, .int .i64 x.f11], rfl, rfl, ⟨[.slice A9 x.f9.length c9], [.slice A10 x.f10.length c10, .int .i64 x.f11], rfl, ⟨A9, c9, rfl, l9, g9⟩, ⟨[.slice A10 x.f10.length c10], [.int .i64 x.f11], rfl, ⟨A10, c10, rfl, l10, g10⟩, rfl⟩⟩⟩⟩⟩⟩⟩⟩⟩⟩⟩
theorem k71_mkM (w : World) (base : Nat) (ok : Nat → Prop) (x : S71) {v1 : Value} (g1 : (Kd.int .i64).R 2 w base ok v1 x.f1) {v3 : Value} (g3 : (Kd.int .i64).R 2 w base ok v3 x.f3) {v4 : Value} (g4 : (Kd.int .i64).R 2 w base ok v4 x.f4) {v9 : Value} (g9 : k185.R 185 w base ok v9 x.f9) {v10 : Value} (g10 : k185.R 185 w base ok v10 x.f10) : k71.M w base ok x [.int .i64 x.f0, v1, .int .i64 x.f2, v3, v4, .string x.f5, .int .i64 x.f6, .int .i64 x.f7, .int .i64 x.f8, v9, v10, .int .i64 x.f11] := ⟨[.int .i64 x.f0], [v1, .int .i64 x.f2, v3, v4, .string x.f5, .int .i64 x.f6, .int .i64 x.f7, .int .i64 x.f8, v9, v10, .int .i64 x.f11], rfl, rfl, ⟨[v1], [.int .i64 x.f2, v3, v4, .string x.f5, .int .i64 x.f6, .int .i64 x.f7, .int .i64 x.f8, v9, v10, .int .i64 x.f11], rfl, ⟨v1, rfl, g1⟩, ⟨[.int .i64 x.f2], [v3, v4, .string x.f5, .int .i64 x.f6, .int .i64 x.f7, .int .i64 x.f8, v9, v10, .int .i64 x.f11], rfl, rfl, ⟨[v3], [v4, .string x.f5, .int .i64 x.f6, .int .i64 x.f7, .int .i64 x.f8, v9, v10, .int .i64 x.f11], rfl, ⟨v3, rfl, g3⟩, ⟨[v4], [.string x.f5, .int .i64 x.f6, .int .i64 x.f7, .int .i64 x.f8, v9, v10, .int .i64 x.f11], rfl, ⟨v4, rfl, g4⟩, ⟨[.string x.f5], [.int .i64 x.f6, .int .i64 x.f7, .int .i64 x.f8, v9, v10, .int .i64 x.f11], rfl, rfl, ⟨[.int .i64 x.f6], [.int .i64 x.f7, .int .i64 x.f8, v9, v10, .int .i64 x.f11], rfl, rfl, ⟨[.int .i64 x.f7], [.int .i64 x.f8, v9, v10, .int .i64 x.f11], rfl, rfl, ⟨[.int .i64 x.f8], [v9, v10, .int .i64 x.f11], rfl, rfl, ⟨[v9], [v10, .int .i64 x.f11], rfl, ⟨v9, rfl, g9⟩, ⟨[v10], [.int .i64 x.f11], rfl, ⟨v10, rfl, g10⟩, rfl⟩⟩⟩⟩⟩⟩⟩⟩⟩⟩⟩
def rd_T71 (xs : List S71) (i : Int) : S71 := xs.getD i.toNat z71
theorem at_T71 {w : World} {A : Option Addr} {n : Nat} {xs : List S71} (h : Kd.C k71 w A n xs) (i : Int) (h0 : 0 ≤ i) (h1 : i < n) : ∃ ad A1 c1 A3 c3 A4 c4 A9 c9 A10 c10, A = some ad ∧ w.cell? (ad.add (i.toNat * 12)) = some (.int .i64 (rd_T71 xs i).f0) ∧ w.cell? ⟨(ad.add (i.toNat * 12)).block, (ad.add (i.toNat * 12)).off + 1, none⟩ = some (.slice A1 (rd_T71 xs i).f1.length c1) ∧ w.cell? ⟨(ad.add (i.toNat * 12)).block, (ad.add (i.toNat * 12)).off + 2, none⟩ = some (.int .i64 (rd_T71 xs i).f2) ∧ w.cell? ⟨(ad.add (i.toNat * 12)).block, (ad.add (i.toNat * 12)).off + 3, none⟩ = some (.slice A3 (rd_T71 xs i).f3.length c3) ∧ w.cell? ⟨(ad.add (i.toNat * 12)).block, (ad.add (i.toNat * 12)).off + 4, none⟩ = some (.slice A4 (rd_T71 xs i).f4.length c4) ∧ w.cell? ⟨(ad.add (i.toNat * 12)).block, (ad.add (i.toNat * 12)).off + 5, none⟩ = some (.string (rd_T71 xs i).f5) ∧ w.cell? ⟨(ad.add (i.toNat * 12)).block, (ad.add (i.toNat * 12)).off + 6, none⟩ = some (.int .i64 (rd_T71 xs i).f6) ∧ w.cell? ⟨(ad.add (i.toNat * 12)).block, (ad.add (i.toNat * 12)).off + 7, none⟩ = some (.int .i64 (rd_T71 xs i).f7) ∧ w.cell? ⟨(ad.add (i.toNat * 12)).block, (ad.add (i.toNat * 12)).off + 8, none⟩ = some (.int .i64 (rd_T71 xs i).f8) ∧ w.cell? ⟨(ad.add (i.toNat * 12)).block, (ad.add (i.toNat * 12)).off + 9, none⟩ = some (.slice A9 (rd_T71 xs i).f9.length c9) ∧ w.cell? ⟨(ad.add (i.toNat * 12)).block, (ad.add (i.toNat * 12)).off + 10, none⟩ = some (.slice A10 (rd_T71 xs i).f10.length c10) ∧ w.cell? ⟨(ad.add (i.toNat * 12)).block, (ad.add (i.toNat * 12)).off + 11, none⟩ = some (.int .i64 (rd_T71 xs i).f11) ∧ (rd_T71 xs i).f1.length ≤ c1 ∧ (Kd.int .i64).C w A1 (rd_T71 xs i).f1.length (rd_T71 xs i).f1 ∧ (rd_T71 xs i).f3.length ≤ c3 ∧ (Kd.int .i64).C w A3 (rd_T71 xs i).f3.length (rd_T71 xs i).f3 ∧ (rd_T71 xs i).f4.length ≤ c4 ∧ (Kd.int .i64).C w A4 (rd_T71 xs i).f4.length (rd_T71 xs i).f4 ∧ (rd_T71 xs i).f9.length ≤ c9 ∧ k185.C w A9 (rd_T71 xs i).f9.length (rd_T71 xs i).f9 ∧ (rd_T71 xs i).f10.length ≤ c10 ∧ k185.C w A10 (rd_T71 xs i).f10.length (rd_T71 xs i).f10 := by
  obtain ⟨ad, c, e, _, hK, hc0⟩ := Kd.C_get h z71 i h0 h1
  have hc : ∀ j u, c[j]? = some u → w.cell? (ad.add (i.toNat * 12 + j)) = some u := hc0
  obtain ⟨A1, c1, A3, c3, A4, c4, A9, c9, A10, c10, rfl, l1, g1, l3, g3, l4, g4, l9, g9, l10, g10⟩ := k71_open hK
  exact ⟨ad, A1, c1, A3, c3, A4, c4, A9, c9, A10, c10, e, hc 0 _ rfl, by rw [← add_field _ _ 1 (by omega)]; exact hc 1 _ rfl, by rw [← add_field _ _ 2 (by omega)]; exact hc 2 _ rfl, by rw [← add_field _ _ 3 (by omega)]; exact hc 3 _ rfl, by rw [← add_field _ _ 4 (by omega)]; exact hc 4 _ rfl, by rw [← add_field _ _ 5 (by omega)]; exact hc 5 _ rfl, by rw [← add_field _ _ 6 (by omega)]; exact hc 6 _ rfl, by rw [← add_field _ _ 7 (by omega)]; exact hc 7 _ rfl, by rw [← add_field _ _ 8 (by omega)]; exact hc 8 _ rfl, by rw [← add_field _ _ 9 (by omega)]; exact hc 9 _ rfl, by rw [← add_field _ _ 10 (by omega)]; exact hc 10 _ rfl, by rw [← add_field _ _ 11 (by omega)]; exact hc 11 _ rfl, l1, g1, l3, g3, l4, g4, l9, g9, l10, g10⟩

end Go.Proofs.Ytmajbehafgajmaa.QFnExactRaiseLine
