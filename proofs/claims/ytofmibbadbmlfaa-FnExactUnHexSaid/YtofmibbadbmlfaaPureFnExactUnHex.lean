/- The program's UnHex returns what the reference's returns, for all arguments. Conditions: none. -/
import Derived.Test.YtofmibbadbmlfaaQFnExactUnHexx
import Derived.Test.YtofmibbadbmlfaaPl
set_option linter.unusedVariables false
set_option linter.unusedSimpArgs false
namespace Go.Proofs.Ytofmibbadbmlfaa.Pure
open Go.RowKit Go.Proofs.Ytofmibbadbmlfaa.QFnExactUnHex Go.Proofs.YtofmibbadbmlfaaW.PrintWords Go.Proofs.YtofmibbadbmlfaaW.PrintLast Go.Proofs.Ytofmibbadbmlfaa.Pl Go.Proofs.YtofmibbadbmlfaaW.PrintMore
theorem impl_ybig_end (k : Nat) (s : ByteArray) (hk : 2 ≤ k) : impl_ybig.f k [s] = some (decide ((s.size : Int) > 65536)) := by
  obtain ⟨k, rfl⟩ : ∃ m, k = m + 1 + 1 := ⟨k - 2, by omega⟩
  unfold impl_ybig.f
  simp only [impl_ybig.l0]
  have e0 : rdOf ByteArray.empty [s] 0 = s := rfl
  have e1 : (([s] : List ByteArray).length : Int) = 1 := rfl
  have e2 : wrap64 (0 + 1) = 1 := by unfold wrap64; omega
  rw [e0, e1, e2, if_pos (by decide), if_pos (by decide), if_pos (by decide)]
  by_cases h : (s.size : Int) > 65536
  · rw [if_pos h, decide_eq_true h]
  · rw [if_neg h, decide_eq_false h, if_neg (by decide)]
theorem impl_ybig_ev (s : ByteArray) : Ev (fun k => impl_ybig.f k [s]) (decide ((s.size : Int) > 65536)) := ⟨2, fun k hk => impl_ybig_end k s hk⟩

def digits16 : ByteArray := ⟨#[48, 49, 50, 51, 52, 53, 54, 55, 56, 57, 97, 98, 99, 100, 101, 102]⟩
/-- The value of a hexadecimal digit, or -1. -/
def digitOf (c : Int) : Int := Lib.indexByte digits16.data.toList c.toNat.toUInt8
theorem digit_all : ∀ n : Nat, n < 256 → spec_l01Digit.f 20 (n : Int) = some (digitOf (n : Int)) ∧ -1 ≤ digitOf (n : Int) ∧ digitOf (n : Int) ≤ 15 := by decide +kernel
theorem digit_ev (c : Int) (h0 : 0 ≤ c) (h1 : c ≤ 255) : Ev (fun k => spec_l01Digit.f k c) (digitOf c) := by
  obtain ⟨n, rfl⟩ := Int.eq_ofNat_of_zero_le h0
  exact Ev.of (spec_l01Digit.mono _) (digit_all n (by omega)).1
theorem digit_range (c : Int) (h0 : 0 ≤ c) (h1 : c ≤ 255) : -1 ≤ digitOf c ∧ digitOf c ≤ 15 := by
  obtain ⟨n, rfl⟩ := Int.eq_ofNat_of_zero_le h0
  exact (digit_all n (by omega)).2
theorem unhex_ends (s : ByteArray) (hs : (s.size : Int) ≤ 65536) (he : (s.size : Int) % 2 = 0) (d : Nat) : ∀ (i : Nat) (xs : List Int), i + 2 * d = s.size → 2 * xs.length ≤ i →
    ∃ r, Ev (fun k => spec_UnHex.l0 k s xs i) r ∧ Ev (fun k => impl_UnHex.l0 k s xs i) r := by
  induction d with
  | zero =>
    intro i xs hi hx
    exact ⟨strOfNums xs, Ev.step (f := fun _ => some (strOfNums xs)) (fun k => by simp only [spec_UnHex.l0]; rw [if_neg (by omega)]) (Ev.now _), Ev.step (f := fun _ => some (strOfNums xs)) (fun k => by simp only [impl_UnHex.l0]; rw [if_neg (by omega)]) (Ev.now _)⟩
  | succ d ih =>
    intro i xs hi hx
    obtain ⟨b0, b1⟩ := bt_range s i
    obtain ⟨c0, c1⟩ := bt_range s ((i : Int) + 1)
    have g1 := digit_range _ b0 b1
    have g2 := digit_range _ c0 c1
    have ev1 := digit_ev _ b0 b1
    have ev2 := digit_ev _ c0 c1
    have w1 : wrap64 ((i : Int) + 1) = (i : Int) + 1 := w64 (by omega) (by omega)
    have w2 : wrap64 ((i : Int) + 2) = ((i + 2 : Nat) : Int) := by rw [w64 (by omega) (by omega)]; omega
    have common : ∀ r, Ev (fun k => if digitOf (bt s i) < 0 then (some (⟨#[]⟩ : ByteArray)) else (if digitOf (bt s ((i : Int) + 1)) < 0 then (some (⟨#[]⟩ : ByteArray)) else (if xs.length < 140737488355328 then (spec_UnHex.l0 k s (xs ++ [(wrap64 ((wrap64 (16 * digitOf (bt s i))) + digitOf (bt s ((i : Int) + 1)))) % 256]) ((i + 2 : Nat) : Int)) else (none)))) r → Ev (fun k => spec_UnHex.l0 k s xs i) r := by
      intro r h
      refine Ev.step (fun k => by simp only [spec_UnHex.l0]; rw [if_pos (by omega), if_pos (by omega), w1, w2]) (Ev.bind ev1 ?_)
      refine Ev.congr (fun k => by rw [if_pos (by omega), if_pos (by omega)]) (Ev.bind ev2 h)
    have common2 : ∀ r, Ev (fun k => if digitOf (bt s i) < 0 then (some (⟨#[]⟩ : ByteArray)) else (if digitOf (bt s ((i : Int) + 1)) < 0 then (some (⟨#[]⟩ : ByteArray)) else (if xs.length < 140737488355328 then (impl_UnHex.l0 k s (xs ++ [(Go.bits .or .i64 (wrap64 (digitOf (bt s i) * 16)) (digitOf (bt s ((i : Int) + 1)))) % 256]) ((i + 2 : Nat) : Int)) else (none)))) r → Ev (fun k => impl_UnHex.l0 k s xs i) r := by
      intro r h
      refine Ev.step (fun k => ?_) h
      simp only [impl_UnHex.l0]
      rw [if_pos (by omega), if_pos (by omega), w1, w2]
      show ((strings_IndexByte.f digits16 (bt s i)).bind _) = _
      rw [show strings_IndexByte.f digits16 (bt s i) = some (digitOf (bt s i)) from rfl]
      simp only [Option.bind_some]
      rw [if_pos (by omega), if_pos (by omega)]
      show ((strings_IndexByte.f digits16 (bt s ((i : Int) + 1))).bind _) = _
      rw [show strings_IndexByte.f digits16 (bt s ((i : Int) + 1)) = some (digitOf (bt s ((i : Int) + 1))) from rfl]
      simp only [Option.bind_some]
    by_cases n1 : digitOf (bt s i) < 0
    · exact ⟨(⟨#[]⟩ : ByteArray), common _ (Ev.congr (fun k => by rw [if_pos n1]) (Ev.now _)), common2 _ (Ev.congr (fun k => by rw [if_pos n1]) (Ev.now _))⟩
    · by_cases n2 : digitOf (bt s ((i : Int) + 1)) < 0
      · exact ⟨(⟨#[]⟩ : ByteArray), common _ (Ev.congr (fun k => by rw [if_neg n1, if_pos n2]) (Ev.now _)), common2 _ (Ev.congr (fun k => by rw [if_neg n1, if_pos n2]) (Ev.now _))⟩
      · have e1 : wrap64 ((wrap64 (16 * digitOf (bt s i))) + digitOf (bt s ((i : Int) + 1))) = 16 * digitOf (bt s i) + digitOf (bt s ((i : Int) + 1)) := by rw [w64 (a := 16 * digitOf (bt s i)) (by omega) (by omega), w64 (by omega) (by omega)]
        have e2 : Go.bits .or .i64 (wrap64 (digitOf (bt s i) * 16)) (digitOf (bt s ((i : Int) + 1))) = 16 * digitOf (bt s i) + digitOf (bt s ((i : Int) + 1)) := by
          rw [w64 (by omega) (by omega), or_join 4 _ _ (by omega) (by omega) (by omega) (by omega) (by omega) (by omega)]; omega
        obtain ⟨r, r1, r2⟩ := ih (i + 2) (xs ++ [(16 * digitOf (bt s i) + digitOf (bt s ((i : Int) + 1))) % 256]) (by omega) (by simp; omega)
        exact ⟨r, common _ (Ev.congr (fun k => by rw [if_neg n1, if_neg n2, if_pos (by omega), e1]) r1), common2 _ (Ev.congr (fun k => by rw [if_neg n1, if_neg n2, if_pos (by omega), e2]) r2)⟩
theorem FnExactUnHex : laws_FnExactUnHex.Pure := by
  intro s hs0
  refine Ev.rounds (r := true) ?_
  by_cases h0 : (s.size : Int) > 1048576
  · exact Ev.congr (fun k => by unfold laws_FnExactUnHex.f; rw [if_pos h0]) (Ev.now _)
  · have key : ∀ v : ByteArray, Ev (fun k => spec_UnHex.f k s) v → Ev (fun k => impl_UnHex.f k s) v → Ev (fun k => laws_FnExactUnHex.f k s) true := by
      intro v g1 g2
      refine Ev.congr (fun k => by unfold laws_FnExactUnHex.f; rw [if_neg h0]) (Ev.bind g1 (Ev.bind g2 ?_))
      rw [if_pos rfl]; exact Ev.now _
    have j1 : Ev (fun k => spec_UnHex.j0 k s true) (⟨#[]⟩ : ByteArray) := Ev.step (f := fun _ => some (⟨#[]⟩ : ByteArray)) (fun k => by simp only [spec_UnHex.j0]; rw [if_pos trivial]) (Ev.now _)
    have j2 : Ev (fun k => impl_UnHex.j0 k s true) (⟨#[]⟩ : ByteArray) := Ev.step (f := fun _ => some (⟨#[]⟩ : ByteArray)) (fun k => by simp only [impl_UnHex.j0]; rw [if_pos trivial]) (Ev.now _)
    by_cases hs : (s.size : Int) > 65536
    · refine key _ (Ev.congr (fun k => by unfold spec_UnHex.f; rw [if_pos hs]) j1) ?_
      refine Ev.congr (fun k => rfl) (Ev.bind (impl_ybig_ev s) ?_)
      rw [decide_eq_true hs]
      exact j2
    · by_cases he : (s.size : Int) % 2 = 0
      · obtain ⟨r, r1, r2⟩ := unhex_ends s (by omega) he (s.size / 2) 0 [] (by omega) (by simp)
        refine key r (Ev.congr (fun k => by unfold spec_UnHex.f; rw [if_neg hs, he]) (Ev.step (fun k => ?_) r1)) ?_
        · simp only [spec_UnHex.j0]; rw [if_neg (by simp)]; rfl
        · refine Ev.congr (fun k => rfl) (Ev.bind (impl_ybig_ev s) ?_)
          rw [decide_eq_false hs]
          simp only [Bool.false_eq_true, if_false]
          rw [he]
          refine Ev.step (fun k => ?_) r2
          simp only [impl_UnHex.j0]; rw [if_neg (by simp)]; rfl
      · have ho : (s.size : Int) % 2 = 1 := by omega
        refine key _ (Ev.congr (fun k => by unfold spec_UnHex.f; rw [if_neg hs, ho]; rfl) j1) ?_
        refine Ev.congr (fun k => rfl) (Ev.bind (impl_ybig_ev s) ?_)
        rw [decide_eq_false hs]
        simp only [Bool.false_eq_true, if_false]
        rw [ho]
        exact j2

end Go.Proofs.Ytofmibbadbmlfaa.Pure
