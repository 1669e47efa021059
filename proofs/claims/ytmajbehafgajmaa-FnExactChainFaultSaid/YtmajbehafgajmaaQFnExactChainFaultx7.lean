-- Written for this claim by this session's own driver (wip/xprint.py).
import Derived.Test.YtmajbehafgajmaaQFnExactChainFaultx0
import Derived.Test.YtmajbehafgajmaaQFnExactChainFaultx6
namespace Go.Proofs.Ytmajbehafgajmaa.QFnExactChainFault
open Go.RowKit Go.Proofs.YtmajbehafgajmaaW.PrintWords Go.Proofs.YtmajbehafgajmaaW.PrintLast Go.Proofs.YtmajbehafgajmaaW.PrintMore
attribute [local go_sem] max2_int min2_int max_two min_two max_three min_three max_four min_four   -- for this text's walks alone
set_option linter.unusedVariables false
set_option linter.unusedSimpArgs false

/-! ### impl_ChainFault: function 40 -/
theorem idxFrom_lt {α : Type} (p : α → Bool) : ∀ (zs : List α) (i : Nat), Go.Proofs.Ytmajbehafgajmaa.Pl.idxFrom p zs i < ((i + zs.length : Nat) : Int) ∧ -1 ≤ Go.Proofs.Ytmajbehafgajmaa.Pl.idxFrom p zs i
  | [], i => by simp only [Go.Proofs.Ytmajbehafgajmaa.Pl.idxFrom, List.length_nil]; omega
  | x :: xs, i => by
    have := idxFrom_lt p xs (i + 1)
    simp only [Go.Proofs.Ytmajbehafgajmaa.Pl.idxFrom, List.length_cons]
    split <;> omega
def imgOf (x : S148) : Bool := imgB x.f0 x.f1 x.f2 x.f3 x.f4
def imgSz (x : S148) : Bool := imgSized x.f0 x.f1 x.f4
def atOf (l : List S148) (nm : ByteArray) : Int := Go.Proofs.Ytmajbehafgajmaa.Pl.idxFrom (nameIs nm) l 0
def chainGo (l : List S148) : Nat → Nat → ByteArray → Bool
  | 0, _, _ => false
  | n + 1, s, back => if back.toList = ([] : List UInt8) then true else if atOf l back < 0 then false else if (s : Int) > (l.length : Int) then false else chainGo l n (s + 1) (rd_T148 l (atOf l back)).f1
def chainOne (l : List S148) (j : Nat) : Bool := imgOf (rd_T148 l (j : Int)) && (atOf l (rd_T148 l (j : Int)).f0 == (j : Int))
def chainTwo (l : List S148) (j : Nat) : Bool := chainGo l (l.length + 2) 0 (rd_T148 l (j : Int)).f1
def chainB (l : List S148) : Bool := decide ((l.length : Int) ≤ 12) && ((List.range l.length).all (chainOne l) && (List.range l.length).all (chainTwo l))
theorem chainB_long {l : List S148} (h : ¬ (l.length : Int) ≤ 12) : chainB l = false := by unfold chainB; rw [decide_eq_false h]; rfl
theorem chainB_one {l : List S148} (j : Nat) (hj : j < l.length) (h : chainOne l j = false) : chainB l = false := by
  unfold chainB
  rw [show (List.range l.length).all (chainOne l) = false from List.all_eq_false.mpr ⟨j, List.mem_range.mpr hj, by rw [h]; simp⟩, Bool.false_and, Bool.and_false]
theorem chainB_two {l : List S148} (j : Nat) (hj : j < l.length) (h : chainTwo l j = false) : chainB l = false := by
  unfold chainB
  rw [show (List.range l.length).all (chainTwo l) = false from List.all_eq_false.mpr ⟨j, List.mem_range.mpr hj, by rw [h]; simp⟩, Bool.and_false, Bool.and_false]
theorem chainB_all {l : List S148} (h : (l.length : Int) ≤ 12) (h1 : ∀ j, j < l.length → chainOne l j = true) (h2 : ∀ j, j < l.length → chainTwo l j = true) : chainB l = true := by
  unfold chainB
  rw [decide_eq_true h, show (List.range l.length).all (chainOne l) = true from List.all_eq_true.mpr (fun j hj => h1 j (List.mem_range.mp hj)), show (List.range l.length).all (chainTwo l) = true from List.all_eq_true.mpr (fun j hj => h2 j (List.mem_range.mp hj))]
  rfl
theorem rdTIM_mem {l : List S148} {j : Nat} (hj : j < l.length) : rd_T148 l (j : Int) ∈ l := by
  unfold rd_T148
  rw [Int.toNat_natCast, List.getD_eq_getElem?_getD, List.getElem?_eq_getElem hj, Option.getD_some]
  exact List.getElem_mem hj
def impl_ChainFault.f (l0 : List (S148)) : Option (Int) := if l0.all imgSz = true then some (if chainB l0 = true then 0 else 1) else none
set_option maxHeartbeats 16000000 in
set_option maxRecDepth 100000 in
theorem impl_ChainFault.calls (A0 : Option Addr) (c0 : Nat) (l0 : List (S148)) (r : Int) (w : World) (hr0 : Kd.C k148 w A0 l0.length l0) (hc0 : l0.length ≤ c0) (h : impl_ChainFault.f l0 = some r) :
    Calls Try.prog 40 #[.slice A0 l0.length c0] w fun e w' => e = .returned (.int .i64 r) ∧ Below w.heap.size w w' := by
  unfold impl_ChainFault.f at h
  by_cases hsz : l0.all imgSz = true
  case neg => rw [if_neg hsz] at h; exact absurd h (by simp)
  rw [if_pos hsz] at h
  obtain rfl := Option.some.inj h
  rw [List.all_eq_true] at hsz
  have HSZ := Aside0.mk hsz
  have HR := Aside0.mk hr0
  have HC := Aside0.mk hc0
  have hl0 := hr0.2.1
  clear h hsz hr0 hc0
  obtain ⟨rr, hrr⟩ : ∃ rr : Int, (if chainB l0 = true then (0 : Int) else 1) = rr := ⟨_, rfl⟩
  rw [hrr]
  have hbad : Aside0 (chainB l0 = false → rr = 1) := ⟨fun h => by rw [← hrr, h]; rfl⟩
  have hgood : Aside0 (chainB l0 = true → rr = 0) := ⟨fun h => by rw [← hrr, h]; rfl⟩
  clear hrr
  by_cases h12 : (l0.length : Int) ≤ 12
  case neg =>
    obtain rfl := hbad.out (chainB_long h12)
    have h12a : decide (12 < (l0.length : Int)) = true := decide_eq_true (by omega)
    have h12b : 12 < l0.length := by omega
    go_enter Try.func40, Try.ntmps40
    go_wp2
    go_ret
    exact ⟨rfl, Below.refl _ _⟩
  have h12a : decide (12 < (l0.length : Int)) = false := decide_eq_false (by omega)
  have h12b : ¬ 12 < l0.length := by omega
  have H12 := Aside0.mk h12
  go_enter Try.func40, Try.ntmps40
  go_wp2_with (fail)
  go_loopg [14] l0.length (fun gq v14 wr => ∃ j : Nat, v14 = .int .i64 j ∧ Aside0 (j ≤ l0.length) ∧ Aside0 (l0.length - j ≤ gq) ∧ Aside0 (Below w.heap.size w wr) ∧ Aside0 (∀ i, i < j → chainOne l0 i = true))
  case atStart => exact ⟨0, rfl, ⟨Nat.zero_le _⟩, ⟨by omega⟩, ⟨Below.refl _ _⟩, ⟨fun i hi => absurd hi (Nat.not_lt_zero _)⟩⟩
  case round =>
    obtain ⟨j, rfl, hj, hg, HB, HG⟩ := hrel
    by_cases hlt : j < l0.length
    · have hltz : (j : Int) < (l0.length : Int) := by omega
      have hmem := rdTIM_mem hlt
      obtain ⟨ad, A2, c2, A3, c3, A4, c4, e_, hx0, hx1, hx2, hx3, hx4, n2, g2, n3, g3, n4, g4⟩ := at_T148 HR.out (j : Int) (by omega) hltz
      cases e_
      replace hx0 := pw_cell_below HB.out hx0
      replace hx1 := pw_cell_below HB.out hx1
      replace hx2 := pw_cell_below HB.out hx2
      replace hx3 := pw_cell_below HB.out hx3
      replace hx4 := pw_cell_below HB.out hx4
      rw [Int.toNat_natCast] at hx0 hx1 hx2 hx3 hx4
      obtain ⟨y, hyy⟩ : ∃ y, rd_T148 l0 (j : Int) = y := ⟨_, rfl⟩
      rw [hyy] at hx0 hx1 hx2 hx3 hx4 n2 g2 n3 g3 n4 g4 hmem
      have HY := Aside0.mk hyy
      have hys := HSZ.out y hmem
      obtain ⟨B, hB⟩ : ∃ B : World, wr.alloc (Obj.cells #[.string y.f0, .string y.f1, .slice A2 y.f2.length c2, .slice A3 y.f3.length c3, .slice A4 y.f4.length c4] 148) = B := ⟨_, rfl⟩
      have hbk : B.heap[wr.heap.size]? = some (.cells #[.string y.f0, .string y.f1, .slice A2 y.f2.length c2, .slice A3 y.f3.length c3, .slice A4 y.f4.length c4] 148 (0, 0)) := by rw [← hB]; exact blk_new _ _
      have hbb : Below w.heap.size w B := by rw [← hB]; exact below_alloc HB.out _
      have hcall := impl_ImageFault.calls y.f0 y.f1 A2 c2 y.f2 A3 c3 y.f3 A4 c4 y.f4 (if imgOf y = true then 0 else 1) B (Kd.C_below g2 hbb) n2 (Kd.C_below g3 hbb) n3 (Kd.C_below g4 hbb) n4 (by unfold impl_ImageFault.f imgOf; rw [if_pos (show imgSized y.f0 y.f1 y.f4 = true from hys)])
      have HCALL := Aside0.mk hcall
      have HBK := Aside0.mk hbk
      have HBB := Aside0.mk hbb
      have HBE := Aside0.mk hB
      clear hyy hmem n2 g2 n3 g3 n4 g4 hys hB hbk hbb hcall
      go_upto_region 6 with (fail)
      go_wp2_with (fail)
      go_at_call 95
      rw [HBE.out]
      refine HCALL.out.mono ?_
      rintro e w6 ⟨rfl, hb6⟩
      have HB6 := Aside0.mk hb6
      have HW6 := Aside0.mk (HBB.out.trans (hb6.mono HBB.out.size))
      have HBK6 := Aside0.mk (blk_below HBK.out hb6)
      clear hb6
      cases hi : imgOf y
      case false =>
        obtain rfl := hbad.out (chainB_one j hlt (by unfold chainOne; rw [HY.out, hi]; rfl))
        go_wp2
        go_ret
        exact ⟨rfl, HW6.out⟩
      have HI := Aside0.mk hi
      clear hi
      have hE0 : w6.cell? ⟨wr.heap.size, 0, none⟩ = some (.string y.f0) := (blk_cell HBK6.out 0).trans rfl
      obtain ⟨q, hq⟩ : ∃ q : Int, atOf l0 y.f0 = q := ⟨_, rfl⟩
      have HAT := Aside0.mk (impl_yimageAt.calls (some ad) c0 l0 y.f0 q w6 (Kd.C_below HR.out HW6.out) HC.out (by rw [← hq]; rfl))
      have HQ := Aside0.mk hq
      clear hq
      go_wp2_with (fail)
      go_at_call 96
      refine HAT.out.mono ?_
      rintro e w7 ⟨rfl, hb7⟩
      have HW7 := Aside0.mk (HW6.out.trans (hb7.mono HW6.out.size))
      clear hb7 hE0
      by_cases hqj : q = (j : Int)
      · subst hqj
        go_wp2
        go_roundg (l0.length - (j + 1))
        case measure => have := hg.out; omega
        case rel =>
          refine ⟨j + 1, by go_num, ⟨hlt⟩, ⟨by omega⟩, ⟨?_⟩, ⟨fun i hi => ?_⟩⟩
          · exact HW7.out
          · by_cases e : i = j
            · subst e
              unfold chainOne
              rw [HY.out, HI.out, HQ.out, beq_self_eq_true]; rfl
            · exact HG.out i (by omega)
      · have hqa : (q != (j : Int)) = true := bne_iff_ne.mpr hqj
        have hqb : (q == (j : Int)) = false := beq_eq_false_iff_ne.mpr hqj
        obtain rfl := hbad.out (chainB_one j hlt (by unfold chainOne; rw [HY.out, HI.out, HQ.out, hqb]; rfl))
        go_wp2
        go_ret
        exact ⟨rfl, HW7.out⟩
    · have hltz : ¬ (j : Int) < (l0.length : Int) := by omega
      have hjl : j = l0.length := by have := hj.out; omega
      subst hjl
      have HB1 := HB
      have HG1 := HG
      clear hltz HB HG hlt
      go_wp2_with (fail)
      go_loopg [33] l0.length (fun gq v33 wr => ∃ j : Nat, v33 = .int .i64 j ∧ Aside0 (j ≤ l0.length) ∧ Aside0 (l0.length - j ≤ gq) ∧ Aside0 (Below w.heap.size w wr) ∧ Aside0 (∀ i, i < j → chainTwo l0 i = true))
      case atStart => exact ⟨0, rfl, ⟨Nat.zero_le _⟩, ⟨by omega⟩, HB1, ⟨fun i hi => absurd hi (Nat.not_lt_zero _)⟩⟩
      case round =>
        obtain ⟨j, rfl, hj, hg, HB, HG⟩ := hrel
        rename World => W1
        by_cases hlt : j < l0.length
        · have hltz : (j : Int) < (l0.length : Int) := by omega
          obtain ⟨ad, A2, c2, A3, c3, A4, c4, e_, hx0, hx1, hx2, hx3, hx4, _, _, _, _, _, _⟩ := at_T148 HR.out (j : Int) (by omega) hltz
          cases e_
          replace hx0 := pw_cell_below HB.out hx0
          replace hx1 := pw_cell_below HB.out hx1
          replace hx2 := pw_cell_below HB.out hx2
          replace hx3 := pw_cell_below HB.out hx3
          replace hx4 := pw_cell_below HB.out hx4
          rw [Int.toNat_natCast] at hx0 hx1 hx2 hx3 hx4
          obtain ⟨y, hyy⟩ : ∃ y, rd_T148 l0 (j : Int) = y := ⟨_, rfl⟩
          rw [hyy] at hx0 hx1 hx2 hx3 hx4
          have HY := Aside0.mk hyy
          clear hyy
          have HGB : Aside0 (w.heap.size ≤ W1.heap.size) := ⟨HB.out.size⟩
          go_wp2_with (fail)
          go_loopg [7] (l0.length + 2) (fun gq v7 wr => ∃ (s : Nat) (u0 u2 u3 u4 : Value) (back : ByteArray), v7 = .int .i64 s ∧ Aside0 (s ≤ l0.length + 1) ∧ Aside0 (l0.length + 2 - s ≤ gq) ∧ Aside0 (wr.heap[W1.heap.size]? = some (.cells #[u0, .string back, u2, u3, u4] 148 (0, 0))) ∧ Aside0 (Below w.heap.size w wr) ∧ Aside0 (chainGo l0 (l0.length + 2 - s) s back = chainTwo l0 j))
          case atStart => exact ⟨0, _, _, _, _, y.f1, rfl, ⟨Nat.zero_le _⟩, ⟨by omega⟩, ⟨blk_new _ _⟩, ⟨below_alloc HB.out _⟩, ⟨by unfold chainTwo; rw [HY.out]; rfl⟩⟩
          case round =>
            clear hx0 hx1 hx2 hx3 hx4
            obtain ⟨s, u0, u2, u3, u4, back, rfl, hs, hgs, BK, HBS, HT⟩ := hrel
            have f1 : wr.cell? ⟨W1.heap.size, 1, none⟩ = some (.string back) := (blk_cell BK.out 1).trans rfl
            obtain ⟨n, hn⟩ : ∃ n, l0.length + 2 - s = n + 1 := ⟨l0.length + 1 - s, by have := hs.out; omega⟩
            have HN := Aside0.mk hn
            have hT := HT.out
            rw [hn] at hT
            clear HT hn
            by_cases he : back.toList = ([] : List UInt8)
            · have he1 : (back.toList == ([] : List UInt8)) = true := beq_iff_eq.mpr he
              have he2 : (back.toList != ([] : List UInt8)) = false := by rw [he]; rfl
              have HT2 : Aside0 (chainTwo l0 j = true) := ⟨by rw [← hT]; simp only [chainGo]; rw [if_pos he]⟩
              clear hT
              go_wp2
              go_roundg (l0.length - (j + 1))
              case measure => have := hg.out; omega
              case rel =>
                refine ⟨j + 1, by go_num, ⟨hlt⟩, ⟨by omega⟩, ⟨HBS.out⟩, ⟨fun i hi => ?_⟩⟩
                by_cases e : i = j
                · subst e; exact HT2.out
                · exact HG.out i (by omega)
            · have he1 : (back.toList == ([] : List UInt8)) = false := beq_eq_false_iff_ne.mpr he
              have he2 : (back.toList != ([] : List UInt8)) = true := by simpa using he
              have he3 : (back.toList.isEmpty) = false := by cases hq : back.toList with
                | nil => exact absurd hq he
                | cons _ _ => rfl
              simp only [chainGo] at hT
              rw [if_neg he] at hT
              obtain ⟨q, hq⟩ : ∃ q : Int, atOf l0 back = q := ⟨_, rfl⟩
              have hql := idxFrom_lt (nameIs back) l0 0
              rw [Nat.zero_add, show Go.Proofs.Ytmajbehafgajmaa.Pl.idxFrom (nameIs back) l0 0 = q from hq] at hql
              rw [hq] at hT
              have HAT := Aside0.mk (impl_yimageAt.calls (some ad) c0 l0 back q wr (Kd.C_below HR.out HBS.out) HC.out (by rw [← hq]; rfl))
              have hql1 := hql.1
              have HTT := Aside0.mk hT
              clear hq hql hT
              go_wp2_with (fail)
              go_at_call 96
              refine HAT.out.mono ?_
              rintro e w7 ⟨rfl, hb7⟩
              have HW7 := Aside0.mk (HBS.out.trans (hb7.mono HBS.out.size))
              have BK7 := Aside0.mk (blk_below BK.out hb7)
              clear hb7 f1
              by_cases hq0 : q < 0
              · have hT := HTT.out
                rw [if_pos hq0] at hT
                obtain rfl := hbad.out (chainB_two j hlt hT.symm)
                have hq0a : decide (q < 0) = true := decide_eq_true hq0
                clear hT
                go_wp2
                go_ret
                exact ⟨rfl, HW7.out⟩
              have hq0a : decide (q < 0) = false := decide_eq_false hq0
              by_cases hsl : (s : Int) > (l0.length : Int)
              · have hT := HTT.out
                rw [if_neg hq0, if_pos hsl] at hT
                obtain rfl := hbad.out (chainB_two j hlt hT.symm)
                have hsla : decide ((l0.length : Int) < (s : Int)) = true := decide_eq_true hsl
                have hslb : l0.length < s := by omega
                clear hT
                go_wp2
                go_ret
                exact ⟨rfl, HW7.out⟩
              have hsla : decide ((l0.length : Int) < (s : Int)) = false := decide_eq_false hsl
              have hslb : ¬ l0.length < s := by omega
              have hT := HTT.out
              rw [if_neg hq0, if_neg hsl] at hT
              obtain ⟨Q, rfl⟩ := Int.eq_ofNat_of_zero_le (show 0 ≤ q by omega)
              have HT7 := Aside0.mk hT
              clear hT HTT
              have hQl : Q < l0.length := by omega
              obtain ⟨ad2, B2, d2, B3, d3, B4, d4, e_, hx0, hx1, hx2, hx3, hx4, _, _, _, _, _, _⟩ := at_T148 HR.out (Q : Int) (by omega) hql1
              obtain rfl := Option.some.inj e_
              replace hx0 := pw_cell_below HW7.out hx0
              replace hx1 := pw_cell_below HW7.out hx1
              replace hx2 := pw_cell_below HW7.out hx2
              replace hx3 := pw_cell_below HW7.out hx3
              replace hx4 := pw_cell_below HW7.out hx4
              rw [Int.toNat_natCast] at hx0 hx1 hx2 hx3 hx4
              obtain ⟨z, hzz⟩ : ∃ z, rd_T148 l0 (Q : Int) = z := ⟨_, rfl⟩
              rw [hzz] at hx0 hx1 hx2 hx3 hx4
              have HZ := Aside0.mk hzz
              clear hzz
              have m0 : w7.cell? ⟨W1.heap.size, 0, none⟩ = some u0 := (blk_cell BK7.out 0).trans rfl
              have m1 : w7.cell? ⟨W1.heap.size, 1, none⟩ = some (.string back) := (blk_cell BK7.out 1).trans rfl
              have m2 : w7.cell? ⟨W1.heap.size, 2, none⟩ = some u2 := (blk_cell BK7.out 2).trans rfl
              have m3 : w7.cell? ⟨W1.heap.size, 3, none⟩ = some u3 := (blk_cell BK7.out 3).trans rfl
              have m4 : w7.cell? ⟨W1.heap.size, 4, none⟩ = some u4 := (blk_cell BK7.out 4).trans rfl
              have z0 := blk_frozen BK7.out 0
              have z1 := blk_frozen BK7.out 1
              have z2 := blk_frozen BK7.out 2
              have z3 := blk_frozen BK7.out 3
              have z4 := blk_frozen BK7.out 4
              go_wp2_with (fail)
              go_roundg (l0.length + 2 - (s + 1))
              case measure => have := hgs.out; omega
              case rel =>
                refine ⟨s + 1, .string z.f0, .slice B2 z.f2.length d2, .slice B3 z.f3.length d3, .slice B4 z.f4.length d4, z.f1, by go_num, ⟨by omega⟩, ⟨by omega⟩, ⟨?_⟩, ⟨?_⟩, ⟨?_⟩⟩
                · have hb := blk_set (blk_set (blk_set (blk_set (blk_set BK7.out 0 (.string z.f0)) 1 (.string z.f1)) 2 (.slice B2 z.f2.length d2)) 3 (.slice B3 z.f3.length d3)) 4 (.slice B4 z.f4.length d4)
                  simpa using hb
                · exact below_set (below_set (below_set (below_set (below_set HW7.out HGB.out) HGB.out) HGB.out) HGB.out) HGB.out
                · rw [show l0.length + 2 - (s + 1) = n from by have := HN.out; omega, ← HT7.out, HZ.out]
        · have hltz : ¬ (j : Int) < (l0.length : Int) := by omega
          have hjl : j = l0.length := by have := hj.out; omega
          subst hjl
          obtain rfl := hgood.out (chainB_all H12.out HG1.out HG.out)
          go_wp2
          go_ret
          exact ⟨rfl, HB.out⟩

/-! ### laws_eqInt64S: function 25 -/
def laws_eqInt64S.l0 : Nat → List Int → List Int → Int → Option (Bool)
  | 0, _, _, _ => none
  | k + 1, x0, x1, x5 => if x5 < (x0.length : Int) then (if 0 ≤ x5 then (if x5 < (x1.length : Int) then (if (rd x0 x5) = (rd x1 x5) then (laws_eqInt64S.l0 k x0 x1 (wrap64 (x5 + 1))) else (some false)) else (none)) else (none)) else (some true)
def laws_eqInt64S.f (k : Nat) (l0 : List Int) (l1 : List Int) : Option (Bool) := if (l0.length : Int) = (l1.length : Int) then (laws_eqInt64S.l0 k l0 l1 0) else (some false)
theorem laws_eqInt64S.mono_l : ∀ k, (∀ y0 y1 y2, LeO (laws_eqInt64S.l0 k y0 y1 y2) (laws_eqInt64S.l0 (k + 1) y0 y1 y2))
  | 0 => fun _ _ _ r h => by simp [laws_eqInt64S.l0] at h
  | k + 1 => by
    have ih0 := laws_eqInt64S.mono_l k
    · intro y0 y1 y2
      unfold laws_eqInt64S.l0
      repeat' first
      | (with_reducible exact ih0 _ _ _)
      | (with_reducible exact LeO.refl _)
      | (with_reducible exact LeO.none _)
      | (with_reducible refine LeO.ite ?_ ?_)
      | (with_reducible refine LeO.bind ?_ (fun _ => ?_))
      | exact ih0 _ _ _
      | exact LeO.none _
      | refine LeO.ite ?_ ?_
      | refine LeO.bind ?_ (fun _ => ?_)
theorem laws_eqInt64S.mono : ∀ a0 a1 k, LeO (laws_eqInt64S.f k a0 a1) (laws_eqInt64S.f (k + 1) a0 a1) := by
  intro a0 a1 k
  have ih0 := laws_eqInt64S.mono_l k
  unfold laws_eqInt64S.f
  repeat' first
      | (with_reducible exact ih0 _ _ _)
      | (with_reducible exact LeO.refl _)
      | (with_reducible exact LeO.none _)
      | (with_reducible refine LeO.ite ?_ ?_)
      | (with_reducible refine LeO.bind ?_ (fun _ => ?_))
      | exact ih0 _ _ _
      | exact LeO.none _
      | refine LeO.ite ?_ ?_
      | refine LeO.bind ?_ (fun _ => ?_)
set_option maxHeartbeats 8000000 in
set_option maxRecDepth 100000 in
theorem laws_eqInt64S.calls (k : Nat) (A0 : Option Addr) (c0 : Nat) (l0 : List Int) (A1 : Option Addr) (c1 : Nat) (l1 : List Int) (r : Bool) (w : World) (hr0 : Kd.C (Kd.int .i64) w A0 l0.length l0) (hc0 : l0.length ≤ c0) (hr1 : Kd.C (Kd.int .i64) w A1 l1.length l1) (hc1 : l1.length ≤ c1) (h : laws_eqInt64S.f k l0 l1 = some r) :
    Calls Try.prog 25 #[.slice A0 l0.length c0, .slice A1 l1.length c1] w fun e w' => e = .returned (.bool r) ∧ Drawn0 w w' := by
  have HR0 := Aside0.mk hr0
  have HC0 := Aside0.mk hc0
  clear hr0 hc0
  have HR1 := Aside0.mk hr1
  have HC1 := Aside0.mk hc1
  clear hr1 hc1
  have H : (if (l0.length : Int) = (l1.length : Int) then (laws_eqInt64S.l0 k l0 l1 0) else (some false)) = some r := h
  clear h
  by_cases c3 : (l0.length : Int) = (l1.length : Int)
  · rw [if_pos c3] at H
    have c3b0 : ((l0.length : Int) == (l1.length : Int)) = true := beq_iff_eq.mpr c3
    have c3b1 : ((l0.length : Int) != (l1.length : Int)) = false := bne_eq_false_iff_eq.mpr c3
    have c3b2 : (l0.length == l1.length) = true := by first | simpa using c3 | (simp at c3 ⊢; omega)
    clear c3
    have H' := Aside0.mk H
    clear H
    go_enter Try.func25, Try.ntmps25
    go_wp2
    repeat (go_quiet (fail); try go_wp2)
    go_loopg [5] k (fun kq v5 w' => ∃ (x5_1 : Int), v5 = .int .i64 x5_1 ∧ Aside0 (laws_eqInt64S.l0 kq l0 l1 x5_1 = some r) ∧ Aside0 (kq ≤ k) ∧ Drawn0 w w')
    case atStart => exact ⟨(0), (by first | rfl | (simp; done) | (simp [*]; done)), H', ⟨Nat.le_refl _⟩, by repeat (first | exact Drawn0.refl _ | apply Drawn0.step)⟩
    case round =>
      clear H'
      try clear c1
      try clear c2
      try clear p2
      try clear c3
      try clear c3b0
      try clear c3b1
      try clear c3b2
      obtain ⟨x5_1, rfl, HA, HK1, ⟨m1, rfl⟩⟩ := hrel
      cases gk with
      | zero => exact absurd HA.out (by simp [laws_eqInt64S.l0])
      | succ k1 =>
        have H := HA.out
        clear HA
        simp only [laws_eqInt64S.l0] at H
        by_cases c4 : x5_1 < (l0.length : Int)
        · rw [if_pos c4] at H
          have c4b0 : decide (x5_1 < (l0.length : Int)) = true := decide_eq_true c4
          clear c4
          by_cases c5 : 0 ≤ x5_1
          · rw [if_pos c5] at H
            have c5b0 : decide (0 ≤ x5_1) = true := decide_eq_true c5
            clear c5
            by_cases c6 : x5_1 < (l1.length : Int)
            · rw [if_pos c6] at H
              have c6b0 : decide (x5_1 < (l1.length : Int)) = true := decide_eq_true c6
              clear c6
              by_cases c7 : (rd l0 x5_1) = (rd l1 x5_1)
              · rw [if_pos c7] at H
                have c7b0 : ((rd l0 x5_1) == (rd l1 x5_1)) = true := beq_iff_eq.mpr c7
                have c7b1 : ((rd l0 x5_1) != (rd l1 x5_1)) = false := bne_eq_false_iff_eq.mpr c7
                clear c7
                have H' := Aside0.mk H
                clear H
                have p197 : 0 ≤ (x5_1 : Int) := of_decide_eq_true (by first | (with_reducible assumption) | assumption)
                have q197 : x5_1 < (l0.length : Int) := of_decide_eq_true (by first | (with_reducible assumption) | assumption)
                obtain ⟨ad197, e197, hx197_0⟩ := Kd.at_int HR0.out x5_1 p197 q197
                cases e197
                replace p197 := eq_true p197
                replace q197 := eq_true q197
                have p198 : 0 ≤ (x5_1 : Int) := of_decide_eq_true (by first | (with_reducible assumption) | assumption)
                have q198 : x5_1 < (l1.length : Int) := of_decide_eq_true (by first | (with_reducible assumption) | assumption)
                obtain ⟨ad198, e198, hx198_0⟩ := Kd.at_int HR1.out x5_1 p198 q198
                cases e198
                replace p198 := eq_true p198
                replace q198 := eq_true q198
                go_wp2
                repeat (go_quiet (fail); try go_wp2)
                go_roundg k1
                case measure => have := HK1.out; omega
                case rel => exact ⟨(wrap64 (x5_1 + 1)), (by first | rfl | (simp; done) | (simp [*]; done)), H', ⟨by have := HK1.out; omega⟩, by repeat (first | exact Drawn0.refl _ | apply Drawn0.step)⟩
              · rw [if_neg c7] at H
                have c7b0 : ((rd l0 x5_1) == (rd l1 x5_1)) = false := beq_eq_false_iff_ne.mpr c7
                have c7b1 : ((rd l0 x5_1) != (rd l1 x5_1)) = true := bne_iff_ne.mpr c7
                obtain rfl := Option.some.inj H
                have p197 : 0 ≤ (x5_1 : Int) := of_decide_eq_true (by first | (with_reducible assumption) | assumption)
                have q197 : x5_1 < (l0.length : Int) := of_decide_eq_true (by first | (with_reducible assumption) | assumption)
                obtain ⟨ad197, e197, hx197_0⟩ := Kd.at_int HR0.out x5_1 p197 q197
                cases e197
                replace p197 := eq_true p197
                replace q197 := eq_true q197
                have p198 : 0 ≤ (x5_1 : Int) := of_decide_eq_true (by first | (with_reducible assumption) | assumption)
                have q198 : x5_1 < (l1.length : Int) := of_decide_eq_true (by first | (with_reducible assumption) | assumption)
                obtain ⟨ad198, e198, hx198_0⟩ := Kd.at_int HR1.out x5_1 p198 q198
                cases e198
                replace p198 := eq_true p198
                replace q198 := eq_true q198
                go_wp2
                repeat (go_quiet (fail); try go_wp2)
                go_ret
                exact ⟨by first | rfl | (simp; done) | (simp [*]; done), by repeat (first | exact Drawn0.refl _ | apply Drawn0.step)⟩
            · rw [if_neg c6] at H
              exact absurd H (by simp)
          · rw [if_neg c5] at H
            exact absurd H (by simp)
        · rw [if_neg c4] at H
          have c4b0 : decide (x5_1 < (l0.length : Int)) = false := decide_eq_false c4
          clear c4
          obtain rfl := Option.some.inj H
          go_wp2
          repeat (go_quiet (fail); try go_wp2)
          go_ret
          exact ⟨by first | rfl | (simp; done) | (simp [*]; done), by repeat (first | exact Drawn0.refl _ | apply Drawn0.step)⟩
  · rw [if_neg c3] at H
    have c3b0 : ((l0.length : Int) == (l1.length : Int)) = false := beq_eq_false_iff_ne.mpr c3
    have c3b1 : ((l0.length : Int) != (l1.length : Int)) = true := bne_iff_ne.mpr c3
    have c3b2 : (l0.length == l1.length) = false := by first | simpa using c3 | (simp at c3 ⊢; omega)
    obtain rfl := Option.some.inj H
    go_enter Try.func25, Try.ntmps25
    go_wp2
    repeat (go_quiet (fail); try go_wp2)
    go_ret
    exact ⟨by first | rfl | (simp; done) | (simp [*]; done), by repeat (first | exact Drawn0.refl _ | apply Drawn0.step)⟩

/-! ### laws_eqStringS: function 53 -/
def laws_eqStringS.l0 : Nat → List ByteArray → List ByteArray → Int → Option (Bool)
  | 0, _, _, _ => none
  | k + 1, x0, x1, x5 => if x5 < (x0.length : Int) then (if 0 ≤ x5 then (if x5 < (x1.length : Int) then (if (rdOf ByteArray.empty x0 x5).toList = (rdOf ByteArray.empty x1 x5).toList then (laws_eqStringS.l0 k x0 x1 (wrap64 (x5 + 1))) else (some false)) else (none)) else (none)) else (some true)
def laws_eqStringS.f (k : Nat) (l0 : List ByteArray) (l1 : List ByteArray) : Option (Bool) := if (l0.length : Int) = (l1.length : Int) then (laws_eqStringS.l0 k l0 l1 0) else (some false)
theorem laws_eqStringS.mono_l : ∀ k, (∀ y0 y1 y2, LeO (laws_eqStringS.l0 k y0 y1 y2) (laws_eqStringS.l0 (k + 1) y0 y1 y2))
  | 0 => fun _ _ _ r h => by simp [laws_eqStringS.l0] at h
  | k + 1 => by
    have ih0 := laws_eqStringS.mono_l k
    · intro y0 y1 y2
      unfold laws_eqStringS.l0
      repeat' first
      | (with_reducible exact ih0 _ _ _)
      | (with_reducible exact LeO.refl _)
      | (with_reducible exact LeO.none _)
      | (with_reducible refine LeO.ite ?_ ?_)
      | (with_reducible refine LeO.bind ?_ (fun _ => ?_))
      | exact ih0 _ _ _
      | exact LeO.none _
      | refine LeO.ite ?_ ?_
      | refine LeO.bind ?_ (fun _ => ?_)
theorem laws_eqStringS.mono : ∀ a0 a1 k, LeO (laws_eqStringS.f k a0 a1) (laws_eqStringS.f (k + 1) a0 a1) := by
  intro a0 a1 k
  have ih0 := laws_eqStringS.mono_l k
  unfold laws_eqStringS.f
  repeat' first
      | (with_reducible exact ih0 _ _ _)
      | (with_reducible exact LeO.refl _)
      | (with_reducible exact LeO.none _)
      | (with_reducible refine LeO.ite ?_ ?_)
      | (with_reducible refine LeO.bind ?_ (fun _ => ?_))
      | exact ih0 _ _ _
      | exact LeO.none _
      | refine LeO.ite ?_ ?_
      | refine LeO.bind ?_ (fun _ => ?_)
set_option maxHeartbeats 8000000 in
set_option maxRecDepth 100000 in
theorem laws_eqStringS.calls (k : Nat) (A0 : Option Addr) (c0 : Nat) (l0 : List ByteArray) (A1 : Option Addr) (c1 : Nat) (l1 : List ByteArray) (r : Bool) (w : World) (hr0 : Kd.C Kd.string w A0 l0.length l0) (hc0 : l0.length ≤ c0) (hr1 : Kd.C Kd.string w A1 l1.length l1) (hc1 : l1.length ≤ c1) (h : laws_eqStringS.f k l0 l1 = some r) :
    Calls Try.prog 53 #[.slice A0 l0.length c0, .slice A1 l1.length c1] w fun e w' => e = .returned (.bool r) ∧ Drawn0 w w' := by
  have HR0 := Aside0.mk hr0
  have HC0 := Aside0.mk hc0
  clear hr0 hc0
  have HR1 := Aside0.mk hr1
  have HC1 := Aside0.mk hc1
  clear hr1 hc1
  have H : (if (l0.length : Int) = (l1.length : Int) then (laws_eqStringS.l0 k l0 l1 0) else (some false)) = some r := h
  clear h
  by_cases c3 : (l0.length : Int) = (l1.length : Int)
  · rw [if_pos c3] at H
    have c3b0 : ((l0.length : Int) == (l1.length : Int)) = true := beq_iff_eq.mpr c3
    have c3b1 : ((l0.length : Int) != (l1.length : Int)) = false := bne_eq_false_iff_eq.mpr c3
    have c3b2 : (l0.length == l1.length) = true := by first | simpa using c3 | (simp at c3 ⊢; omega)
    clear c3
    have H' := Aside0.mk H
    clear H
    go_enter Try.func53, Try.ntmps53
    go_wp2
    repeat (go_quiet (fail); try go_wp2)
    go_loopg [5] k (fun kq v5 w' => ∃ (x5_1 : Int), v5 = .int .i64 x5_1 ∧ Aside0 (laws_eqStringS.l0 kq l0 l1 x5_1 = some r) ∧ Aside0 (kq ≤ k) ∧ Drawn0 w w')
    case atStart => exact ⟨(0), (by first | rfl | (simp; done) | (simp [*]; done)), H', ⟨Nat.le_refl _⟩, by repeat (first | exact Drawn0.refl _ | apply Drawn0.step)⟩
    case round =>
      clear H'
      try clear c1
      try clear p2
      try clear c3
      try clear c3b0
      try clear c3b1
      try clear c3b2
      obtain ⟨x5_1, rfl, HA, HK1, ⟨m1, rfl⟩⟩ := hrel
      cases gk with
      | zero => exact absurd HA.out (by simp [laws_eqStringS.l0])
      | succ k1 =>
        have H := HA.out
        clear HA
        simp only [laws_eqStringS.l0] at H
        by_cases c4 : x5_1 < (l0.length : Int)
        · rw [if_pos c4] at H
          have c4b0 : decide (x5_1 < (l0.length : Int)) = true := decide_eq_true c4
          clear c4
          by_cases c5 : 0 ≤ x5_1
          · rw [if_pos c5] at H
            have c5b0 : decide (0 ≤ x5_1) = true := decide_eq_true c5
            clear c5
            by_cases c6 : x5_1 < (l1.length : Int)
            · rw [if_pos c6] at H
              have c6b0 : decide (x5_1 < (l1.length : Int)) = true := decide_eq_true c6
              clear c6
              by_cases c7 : (rdOf ByteArray.empty l0 x5_1).toList = (rdOf ByteArray.empty l1 x5_1).toList
              · rw [if_pos c7] at H
                have c7b0 : ((rdOf ByteArray.empty l0 x5_1).toList == (rdOf ByteArray.empty l1 x5_1).toList) = true := beq_iff_eq.mpr c7
                have c7b1 : ((rdOf ByteArray.empty l0 x5_1).toList != (rdOf ByteArray.empty l1 x5_1).toList) = false := bne_eq_false_iff_eq.mpr c7
                clear c7
                have H' := Aside0.mk H
                clear H
                have p199 : 0 ≤ (x5_1 : Int) := of_decide_eq_true (by first | (with_reducible assumption) | assumption)
                have q199 : x5_1 < (l0.length : Int) := of_decide_eq_true (by first | (with_reducible assumption) | assumption)
                obtain ⟨ad199, e199, hx199_0⟩ := Kd.at_string HR0.out x5_1 p199 q199
                cases e199
                replace p199 := eq_true p199
                replace q199 := eq_true q199
                have p200 : 0 ≤ (x5_1 : Int) := of_decide_eq_true (by first | (with_reducible assumption) | assumption)
                have q200 : x5_1 < (l1.length : Int) := of_decide_eq_true (by first | (with_reducible assumption) | assumption)
                obtain ⟨ad200, e200, hx200_0⟩ := Kd.at_string HR1.out x5_1 p200 q200
                cases e200
                replace p200 := eq_true p200
                replace q200 := eq_true q200
                go_wp2
                repeat (go_quiet (fail); try go_wp2)
                go_roundg k1
                case measure => have := HK1.out; omega
                case rel => exact ⟨(wrap64 (x5_1 + 1)), (by first | rfl | (simp; done) | (simp [*]; done)), H', ⟨by have := HK1.out; omega⟩, by repeat (first | exact Drawn0.refl _ | apply Drawn0.step)⟩
              · rw [if_neg c7] at H
                have c7b0 : ((rdOf ByteArray.empty l0 x5_1).toList == (rdOf ByteArray.empty l1 x5_1).toList) = false := beq_eq_false_iff_ne.mpr c7
                have c7b1 : ((rdOf ByteArray.empty l0 x5_1).toList != (rdOf ByteArray.empty l1 x5_1).toList) = true := bne_iff_ne.mpr c7
                obtain rfl := Option.some.inj H
                have p199 : 0 ≤ (x5_1 : Int) := of_decide_eq_true (by first | (with_reducible assumption) | assumption)
                have q199 : x5_1 < (l0.length : Int) := of_decide_eq_true (by first | (with_reducible assumption) | assumption)
                obtain ⟨ad199, e199, hx199_0⟩ := Kd.at_string HR0.out x5_1 p199 q199
                cases e199
                replace p199 := eq_true p199
                replace q199 := eq_true q199
                have p200 : 0 ≤ (x5_1 : Int) := of_decide_eq_true (by first | (with_reducible assumption) | assumption)
                have q200 : x5_1 < (l1.length : Int) := of_decide_eq_true (by first | (with_reducible assumption) | assumption)
                obtain ⟨ad200, e200, hx200_0⟩ := Kd.at_string HR1.out x5_1 p200 q200
                cases e200
                replace p200 := eq_true p200
                replace q200 := eq_true q200
                go_wp2
                repeat (go_quiet (fail); try go_wp2)
                go_ret
                exact ⟨by first | rfl | (simp; done) | (simp [*]; done), by repeat (first | exact Drawn0.refl _ | apply Drawn0.step)⟩
            · rw [if_neg c6] at H
              exact absurd H (by simp)
          · rw [if_neg c5] at H
            exact absurd H (by simp)
        · rw [if_neg c4] at H
          have c4b0 : decide (x5_1 < (l0.length : Int)) = false := decide_eq_false c4
          clear c4
          obtain rfl := Option.some.inj H
          go_wp2
          repeat (go_quiet (fail); try go_wp2)
          go_ret
          exact ⟨by first | rfl | (simp; done) | (simp [*]; done), by repeat (first | exact Drawn0.refl _ | apply Drawn0.step)⟩
  · rw [if_neg c3] at H
    have c3b0 : ((l0.length : Int) == (l1.length : Int)) = false := beq_eq_false_iff_ne.mpr c3
    have c3b1 : ((l0.length : Int) != (l1.length : Int)) = true := bne_iff_ne.mpr c3
    have c3b2 : (l0.length == l1.length) = false := by first | simpa using c3 | (simp at c3 ⊢; omega)
    obtain rfl := Option.some.inj H
    go_enter Try.func53, Try.ntmps53
    go_wp2
    repeat (go_quiet (fail); try go_wp2)
    go_ret
    exact ⟨by first | rfl | (simp; done) | (simp [*]; done), by repeat (first | exact Drawn0.refl _ | apply Drawn0.step)⟩

/-! ### laws_eqSnap: function 154 -/
def laws_eqSnap.f (k : Nat) (a0_0 : ByteArray) (l0_1 : List Int) (a1_0 : ByteArray) (l1_1 : List Int) : Option (Bool) := if a0_0.toList = a1_0.toList then ((laws_eqInt64S.f k l0_1 l1_1).bind fun t203 => (if t203 = true then (some true) else (some false))) else (some false)
theorem laws_eqSnap.mono : ∀ a0 a1 a2 a3 k, LeO (laws_eqSnap.f k a0 a1 a2 a3) (laws_eqSnap.f (k + 1) a0 a1 a2 a3) := by
  intro a0 a1 a2 a3 k
  unfold laws_eqSnap.f
  repeat' first
      | (with_reducible exact laws_eqInt64S.mono _ _ _)
      | (with_reducible exact LeO.refl _)
      | (with_reducible exact LeO.none _)
      | (with_reducible refine LeO.ite ?_ ?_)
      | (with_reducible refine LeO.bind ?_ (fun _ => ?_))
      | exact laws_eqInt64S.mono _ _ _
      | exact LeO.none _
      | refine LeO.ite ?_ ?_
      | refine LeO.bind ?_ (fun _ => ?_)
set_option maxHeartbeats 8000000 in
set_option maxRecDepth 100000 in
theorem laws_eqSnap.calls (k : Nat) (a0_0 : ByteArray) (A0_1 : Option Addr) (c0_1 : Nat) (l0_1 : List Int) (a1_0 : ByteArray) (A1_1 : Option Addr) (c1_1 : Nat) (l1_1 : List Int) (r : Bool) (w : World) (hr0_1 : Kd.C (Kd.int .i64) w A0_1 l0_1.length l0_1) (hc0_1 : l0_1.length ≤ c0_1) (hr1_1 : Kd.C (Kd.int .i64) w A1_1 l1_1.length l1_1) (hc1_1 : l1_1.length ≤ c1_1) (h : laws_eqSnap.f k a0_0 l0_1 a1_0 l1_1 = some r) :
    Calls Try.prog 154 #[.agg #[.string a0_0, .slice A0_1 l0_1.length c0_1], .agg #[.string a1_0, .slice A1_1 l1_1.length c1_1]] w fun e w' => e = .returned (.bool r) ∧ Below w.heap.size w w' := by
  have hu193 := Try.underlying193
  have HR0_1 := Aside0.mk hr0_1
  have HC0_1 := Aside0.mk hc0_1
  clear hr0_1 hc0_1
  have HR1_1 := Aside0.mk hr1_1
  have HC1_1 := Aside0.mk hc1_1
  clear hr1_1 hc1_1
  have HB := Aside0.mk (Below.refl w.heap.size w)
  have H : (if a0_0.toList = a1_0.toList then ((laws_eqInt64S.f k l0_1 l1_1).bind fun t203 => (if t203 = true then (some true) else (some false))) else (some false)) = some r := h
  clear h
  by_cases c3 : a0_0.toList = a1_0.toList
  · rw [if_pos c3] at H
    have c3b0 : (a0_0.toList == a1_0.toList) = true := beq_iff_eq.mpr c3
    have c3b1 : (a0_0.toList != a1_0.toList) = false := bne_eq_false_iff_eq.mpr c3
    clear c3
    replace H := Option.bind_eq_some_iff.mp H
    obtain ⟨t203, A40, H⟩ := H
    replace H : (if t203 = true then (some true) else (some false)) = some r := H
    have A4 := Aside0.mk A40
    clear A40
    by_cases c5 : t203 = true
    · subst c5
      have H1 : (some true) = some r := by rw [if_pos rfl] at H; exact H
      clear H
      have H := H1
      clear H1
      obtain rfl := Option.some.inj H
      go_enter Try.func154, Try.ntmps154
      go_wp2_with (first | ((with_reducible refine gate_dst (N := 2) rfl ?_); refine box_event ?hg (N := 2) ?hd (cs := #[.string a0_0, .slice A0_1 l0_1.length c0_1]) (t := 193) ?hr ?_; (case hd => rfl); (case hg => rfl); (case hr => first | (go_simp; done) | (go_simp; rfl)); intro gb201 hg w6 hbox hb; have n0_ := Aside0.mk (below_step (by repeat (first | (with_reducible first | exact HB.out | apply below_alloc | apply pw_below_drewN | apply below_drew1) | exact HB.out)) hb); have n1_ := Aside0.mk (hbox); have n2_ := Aside0.mk ((by rw [hg]; exact (below_size (by repeat (first | (with_reducible first | exact HB.out | apply below_alloc | apply pw_below_drewN | apply below_drew1) | exact HB.out))) : w.heap.size ≤ gb201)); have n3_ := Aside0.mk ((by rw [hg]; exact (below_size (by repeat (first | (with_reducible first | exact HB.out | apply below_alloc | apply pw_below_drewN | apply below_drew1) | exact HB.out))) : w.heap.size ≤ gb201)); clear HB; have HB := n0_; have BK201 := n1_; have GW201 := n2_; have GE201 := n3_; clear n0_ n1_ n2_ n3_; clear hb hbox hg) | ((with_reducible refine gate_dst (N := 3) rfl ?_); refine box_event ?hg (N := 3) ?hd (cs := #[.string a1_0, .slice A1_1 l1_1.length c1_1]) (t := 193) ?hr ?_; (case hd => rfl); (case hg => rfl); (case hr => first | (go_simp; done) | (go_simp; rfl)); intro gb202 hg w7 hbox hb; have n0_ := Aside0.mk (blk_below (g := gb201) (o := .cells #[.string a0_0, .slice A0_1 l0_1.length c0_1] 193 (0, 0)) (by (with_reducible repeat (first | refine blk_drewN ?_ _ | refine blk_drew ?_ | refine blk_alloc ?_ _)); exact BK201.out) hb); have n1_ := Aside0.mk (below_step (by repeat (first | (with_reducible first | exact HB.out | apply below_alloc | apply pw_below_drewN | apply below_drew1 | refine below_set ?_ GE201.out) | exact HB.out)) hb); have n2_ := Aside0.mk (hbox); have n3_ := Aside0.mk ((by rw [hg]; exact (below_size (by repeat (first | (with_reducible first | exact HB.out | apply below_alloc | apply pw_below_drewN | apply below_drew1 | refine below_set ?_ GE201.out) | exact HB.out))) : w.heap.size ≤ gb202)); have n4_ := Aside0.mk ((by rw [hg]; exact (below_size (by repeat (first | (with_reducible first | exact HB.out | apply below_alloc | apply pw_below_drewN | apply below_drew1 | refine below_set ?_ GE201.out) | exact HB.out))) : w.heap.size ≤ gb202)); have n5_ := Aside0.mk ((by rw [hg]; exact Nat.ne_of_lt (blk_lt (g := gb201) (o := .cells #[.string a0_0, .slice A0_1 l0_1.length c0_1] 193 (0, 0)) (by (with_reducible repeat (first | refine blk_drewN ?_ _ | refine blk_drew ?_ | refine blk_alloc ?_ _)); exact BK201.out)) : gb201 ≠ gb202)); have n6_ := Aside0.mk ((by rw [hg]; exact Nat.ne_of_gt (blk_lt (g := gb201) (o := .cells #[.string a0_0, .slice A0_1 l0_1.length c0_1] 193 (0, 0)) (by (with_reducible repeat (first | refine blk_drewN ?_ _ | refine blk_drew ?_ | refine blk_alloc ?_ _)); exact BK201.out)) : gb202 ≠ gb201)); clear BK201; clear HB; have BK201 := n0_; have HB := n1_; have BK202 := n2_; have GW202 := n3_; have GE202 := n4_; have NB201_202 := n5_; have NB202_201 := n6_; clear n0_ n1_ n2_ n3_ n4_ n5_ n6_; clear hb hbox hg; have hnb8 := NB201_202.out; have hnc8 := NB202_201.out; have hcz9_0 : w7.cell? ⟨gb201, 0, none⟩ = some (.string a0_0) := (blk_cell BK201.out 0).trans rfl; have hcz9_1 : w7.cell? ⟨gb201, 1, none⟩ = some (.slice A0_1 l0_1.length c0_1) := (blk_cell BK201.out 1).trans rfl; have hfz9_0 := blk_frozen BK201.out 0; have hfz9_1 := blk_frozen BK201.out 1; have hcz10_0 : w7.cell? ⟨gb202, 0, none⟩ = some (.string a1_0) := (blk_cell BK202.out 0).trans rfl; have hcz10_1 : w7.cell? ⟨gb202, 1, none⟩ = some (.slice A1_1 l1_1.length c1_1) := (blk_cell BK202.out 1).trans rfl; have hfz10_0 := blk_frozen BK202.out 0; have hfz10_1 := blk_frozen BK202.out 1) | ((with_reducible refine gate_callee (f := 25) rfl ?_); refine goesL_ (some 14) rfl rfl Try.func25 (by kernel_rfl) rfl #[.slice A0_1 l0_1.length c0_1, .slice A1_1 l1_1.length c1_1] rfl (by (try simp only [List.map_toArray, List.map_cons, List.map_nil]); first | done | rfl | (simp only [List.length_drop, List.length_take]; rfl)) ?_; (with_reducible refine (laws_eqInt64S.calls k _ _ l0_1 _ _ l1_1 true _ ?side1 ?side2 ?side3 ?side4 A4.out).mono ?_); (case side1 => repeat (first | exact (Kd.C_below HR0_1.out HB.out) | (with_reducible refine Kd.C_alloc ?_ _) | (with_reducible refine Kd.C_drewN ?_ _) | (with_reducible refine Kd.C_drew ?_))); (case side2 => exact HC0_1.out); (case side3 => repeat (first | exact (Kd.C_below HR1_1.out HB.out) | (with_reducible refine Kd.C_alloc ?_ _) | (with_reducible refine Kd.C_drewN ?_ _) | (with_reducible refine Kd.C_drew ?_))); (case side4 => exact HC1_1.out); rintro e w' ⟨rfl, ⟨nd, rfl⟩⟩; refine ⟨_, rfl, ?_⟩))
      go_ret
      exact ⟨by first | rfl | (simp [errW_none, errW_some] <;> rfl) | (simp [*, errW_none, errW_some] <;> rfl), by repeat (first | (with_reducible first | exact HB.out | apply below_alloc | apply pw_below_drewN | apply below_drew1 | refine below_set ?_ GE201.out | refine below_set ?_ GE202.out) | exact HB.out)⟩
    · replace c5 := Bool.eq_false_iff.mpr c5
      subst c5
      have H1 : (some false) = some r := by rw [if_neg (show ¬ (false = true) by decide)] at H; exact H
      clear H
      have H := H1
      clear H1
      obtain rfl := Option.some.inj H
      go_enter Try.func154, Try.ntmps154
      go_wp2_with (first | ((with_reducible refine gate_dst (N := 2) rfl ?_); refine box_event ?hg (N := 2) ?hd (cs := #[.string a0_0, .slice A0_1 l0_1.length c0_1]) (t := 193) ?hr ?_; (case hd => rfl); (case hg => rfl); (case hr => first | (go_simp; done) | (go_simp; rfl)); intro gb201 hg w11 hbox hb; have n0_ := Aside0.mk (below_step (by repeat (first | (with_reducible first | exact HB.out | apply below_alloc | apply pw_below_drewN | apply below_drew1) | exact HB.out)) hb); have n1_ := Aside0.mk (hbox); have n2_ := Aside0.mk ((by rw [hg]; exact (below_size (by repeat (first | (with_reducible first | exact HB.out | apply below_alloc | apply pw_below_drewN | apply below_drew1) | exact HB.out))) : w.heap.size ≤ gb201)); have n3_ := Aside0.mk ((by rw [hg]; exact (below_size (by repeat (first | (with_reducible first | exact HB.out | apply below_alloc | apply pw_below_drewN | apply below_drew1) | exact HB.out))) : w.heap.size ≤ gb201)); clear HB; have HB := n0_; have BK201 := n1_; have GW201 := n2_; have GE201 := n3_; clear n0_ n1_ n2_ n3_; clear hb hbox hg) | ((with_reducible refine gate_dst (N := 3) rfl ?_); refine box_event ?hg (N := 3) ?hd (cs := #[.string a1_0, .slice A1_1 l1_1.length c1_1]) (t := 193) ?hr ?_; (case hd => rfl); (case hg => rfl); (case hr => first | (go_simp; done) | (go_simp; rfl)); intro gb202 hg w12 hbox hb; have n0_ := Aside0.mk (blk_below (g := gb201) (o := .cells #[.string a0_0, .slice A0_1 l0_1.length c0_1] 193 (0, 0)) (by (with_reducible repeat (first | refine blk_drewN ?_ _ | refine blk_drew ?_ | refine blk_alloc ?_ _)); exact BK201.out) hb); have n1_ := Aside0.mk (below_step (by repeat (first | (with_reducible first | exact HB.out | apply below_alloc | apply pw_below_drewN | apply below_drew1 | refine below_set ?_ GE201.out) | exact HB.out)) hb); have n2_ := Aside0.mk (hbox); have n3_ := Aside0.mk ((by rw [hg]; exact (below_size (by repeat (first | (with_reducible first | exact HB.out | apply below_alloc | apply pw_below_drewN | apply below_drew1 | refine below_set ?_ GE201.out) | exact HB.out))) : w.heap.size ≤ gb202)); have n4_ := Aside0.mk ((by rw [hg]; exact (below_size (by repeat (first | (with_reducible first | exact HB.out | apply below_alloc | apply pw_below_drewN | apply below_drew1 | refine below_set ?_ GE201.out) | exact HB.out))) : w.heap.size ≤ gb202)); have n5_ := Aside0.mk ((by rw [hg]; exact Nat.ne_of_lt (blk_lt (g := gb201) (o := .cells #[.string a0_0, .slice A0_1 l0_1.length c0_1] 193 (0, 0)) (by (with_reducible repeat (first | refine blk_drewN ?_ _ | refine blk_drew ?_ | refine blk_alloc ?_ _)); exact BK201.out)) : gb201 ≠ gb202)); have n6_ := Aside0.mk ((by rw [hg]; exact Nat.ne_of_gt (blk_lt (g := gb201) (o := .cells #[.string a0_0, .slice A0_1 l0_1.length c0_1] 193 (0, 0)) (by (with_reducible repeat (first | refine blk_drewN ?_ _ | refine blk_drew ?_ | refine blk_alloc ?_ _)); exact BK201.out)) : gb202 ≠ gb201)); clear BK201; clear HB; have BK201 := n0_; have HB := n1_; have BK202 := n2_; have GW202 := n3_; have GE202 := n4_; have NB201_202 := n5_; have NB202_201 := n6_; clear n0_ n1_ n2_ n3_ n4_ n5_ n6_; clear hb hbox hg; have hnb13 := NB201_202.out; have hnc13 := NB202_201.out; have hcz14_0 : w12.cell? ⟨gb201, 0, none⟩ = some (.string a0_0) := (blk_cell BK201.out 0).trans rfl; have hcz14_1 : w12.cell? ⟨gb201, 1, none⟩ = some (.slice A0_1 l0_1.length c0_1) := (blk_cell BK201.out 1).trans rfl; have hfz14_0 := blk_frozen BK201.out 0; have hfz14_1 := blk_frozen BK201.out 1; have hcz15_0 : w12.cell? ⟨gb202, 0, none⟩ = some (.string a1_0) := (blk_cell BK202.out 0).trans rfl; have hcz15_1 : w12.cell? ⟨gb202, 1, none⟩ = some (.slice A1_1 l1_1.length c1_1) := (blk_cell BK202.out 1).trans rfl; have hfz15_0 := blk_frozen BK202.out 0; have hfz15_1 := blk_frozen BK202.out 1) | ((with_reducible refine gate_callee (f := 25) rfl ?_); refine goesL_ (some 14) rfl rfl Try.func25 (by kernel_rfl) rfl #[.slice A0_1 l0_1.length c0_1, .slice A1_1 l1_1.length c1_1] rfl (by (try simp only [List.map_toArray, List.map_cons, List.map_nil]); first | done | rfl | (simp only [List.length_drop, List.length_take]; rfl)) ?_; (with_reducible refine (laws_eqInt64S.calls k _ _ l0_1 _ _ l1_1 false _ ?side1 ?side2 ?side3 ?side4 A4.out).mono ?_); (case side1 => repeat (first | exact (Kd.C_below HR0_1.out HB.out) | (with_reducible refine Kd.C_alloc ?_ _) | (with_reducible refine Kd.C_drewN ?_ _) | (with_reducible refine Kd.C_drew ?_))); (case side2 => exact HC0_1.out); (case side3 => repeat (first | exact (Kd.C_below HR1_1.out HB.out) | (with_reducible refine Kd.C_alloc ?_ _) | (with_reducible refine Kd.C_drewN ?_ _) | (with_reducible refine Kd.C_drew ?_))); (case side4 => exact HC1_1.out); rintro e w' ⟨rfl, ⟨nd, rfl⟩⟩; refine ⟨_, rfl, ?_⟩))
      go_ret
      exact ⟨by first | rfl | (simp [errW_none, errW_some] <;> rfl) | (simp [*, errW_none, errW_some] <;> rfl), by repeat (first | (with_reducible first | exact HB.out | apply below_alloc | apply pw_below_drewN | apply below_drew1 | refine below_set ?_ GE201.out | refine below_set ?_ GE202.out) | exact HB.out)⟩
  · rw [if_neg c3] at H
    have c3b0 : (a0_0.toList == a1_0.toList) = false := beq_eq_false_iff_ne.mpr c3
    have c3b1 : (a0_0.toList != a1_0.toList) = true := bne_iff_ne.mpr c3
    obtain rfl := Option.some.inj H
    go_enter Try.func154, Try.ntmps154
    go_wp2_with (first | ((with_reducible refine gate_dst (N := 2) rfl ?_); refine box_event ?hg (N := 2) ?hd (cs := #[.string a0_0, .slice A0_1 l0_1.length c0_1]) (t := 193) ?hr ?_; (case hd => rfl); (case hg => rfl); (case hr => first | (go_simp; done) | (go_simp; rfl)); intro gb201 hg w16 hbox hb; have n0_ := Aside0.mk (below_step (by repeat (first | (with_reducible first | exact HB.out | apply below_alloc | apply pw_below_drewN | apply below_drew1) | exact HB.out)) hb); have n1_ := Aside0.mk (hbox); have n2_ := Aside0.mk ((by rw [hg]; exact (below_size (by repeat (first | (with_reducible first | exact HB.out | apply below_alloc | apply pw_below_drewN | apply below_drew1) | exact HB.out))) : w.heap.size ≤ gb201)); have n3_ := Aside0.mk ((by rw [hg]; exact (below_size (by repeat (first | (with_reducible first | exact HB.out | apply below_alloc | apply pw_below_drewN | apply below_drew1) | exact HB.out))) : w.heap.size ≤ gb201)); clear HB; have HB := n0_; have BK201 := n1_; have GW201 := n2_; have GE201 := n3_; clear n0_ n1_ n2_ n3_; clear hb hbox hg) | ((with_reducible refine gate_dst (N := 3) rfl ?_); refine box_event ?hg (N := 3) ?hd (cs := #[.string a1_0, .slice A1_1 l1_1.length c1_1]) (t := 193) ?hr ?_; (case hd => rfl); (case hg => rfl); (case hr => first | (go_simp; done) | (go_simp; rfl)); intro gb202 hg w17 hbox hb; have n0_ := Aside0.mk (blk_below (g := gb201) (o := .cells #[.string a0_0, .slice A0_1 l0_1.length c0_1] 193 (0, 0)) (by (with_reducible repeat (first | refine blk_drewN ?_ _ | refine blk_drew ?_ | refine blk_alloc ?_ _)); exact BK201.out) hb); have n1_ := Aside0.mk (below_step (by repeat (first | (with_reducible first | exact HB.out | apply below_alloc | apply pw_below_drewN | apply below_drew1 | refine below_set ?_ GE201.out) | exact HB.out)) hb); have n2_ := Aside0.mk (hbox); have n3_ := Aside0.mk ((by rw [hg]; exact (below_size (by repeat (first | (with_reducible first | exact HB.out | apply below_alloc | apply pw_below_drewN | apply below_drew1 | refine below_set ?_ GE201.out) | exact HB.out))) : w.heap.size ≤ gb202)); have n4_ := Aside0.mk ((by rw [hg]; exact (below_size (by repeat (first | (with_reducible first | exact HB.out | apply below_alloc | apply pw_below_drewN | apply below_drew1 | refine below_set ?_ GE201.out) | exact HB.out))) : w.heap.size ≤ gb202)); have n5_ := Aside0.mk ((by rw [hg]; exact Nat.ne_of_lt (blk_lt (g := gb201) (o := .cells #[.string a0_0, .slice A0_1 l0_1.length c0_1] 193 (0, 0)) (by (with_reducible repeat (first | refine blk_drewN ?_ _ | refine blk_drew ?_ | refine blk_alloc ?_ _)); exact BK201.out)) : gb201 ≠ gb202)); have n6_ := Aside0.mk ((by rw [hg]; exact Nat.ne_of_gt (blk_lt (g := gb201) (o := .cells #[.string a0_0, .slice A0_1 l0_1.length c0_1] 193 (0, 0)) (by (with_reducible repeat (first | refine blk_drewN ?_ _ | refine blk_drew ?_ | refine blk_alloc ?_ _)); exact BK201.out)) : gb202 ≠ gb201)); clear BK201; clear HB; have BK201 := n0_; have HB := n1_; have BK202 := n2_; have GW202 := n3_; have GE202 := n4_; have NB201_202 := n5_; have NB202_201 := n6_; clear n0_ n1_ n2_ n3_ n4_ n5_ n6_; clear hb hbox hg; have hnb18 := NB201_202.out; have hnc18 := NB202_201.out; have hcz19_0 : w17.cell? ⟨gb201, 0, none⟩ = some (.string a0_0) := (blk_cell BK201.out 0).trans rfl; have hcz19_1 : w17.cell? ⟨gb201, 1, none⟩ = some (.slice A0_1 l0_1.length c0_1) := (blk_cell BK201.out 1).trans rfl; have hfz19_0 := blk_frozen BK201.out 0; have hfz19_1 := blk_frozen BK201.out 1; have hcz20_0 : w17.cell? ⟨gb202, 0, none⟩ = some (.string a1_0) := (blk_cell BK202.out 0).trans rfl; have hcz20_1 : w17.cell? ⟨gb202, 1, none⟩ = some (.slice A1_1 l1_1.length c1_1) := (blk_cell BK202.out 1).trans rfl; have hfz20_0 := blk_frozen BK202.out 0; have hfz20_1 := blk_frozen BK202.out 1))
    go_ret
    exact ⟨by first | rfl | (simp [errW_none, errW_some] <;> rfl) | (simp [*, errW_none, errW_some] <;> rfl), by repeat (first | (with_reducible first | exact HB.out | apply below_alloc | apply pw_below_drewN | apply below_drew1 | refine below_set ?_ GE201.out | refine below_set ?_ GE202.out) | exact HB.out)⟩

end Go.Proofs.Ytmajbehafgajmaa.QFnExactChainFault
