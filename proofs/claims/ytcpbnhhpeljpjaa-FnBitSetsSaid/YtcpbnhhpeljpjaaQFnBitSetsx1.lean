-- Written for this claim by this session's own driver (wip/xprint.py).
import Derived.Test.YtcpbnhhpeljpjaaQFnBitSetsx0
namespace Go.Proofs.Ytcpbnhhpeljpjaa.QFnBitSets
open Go.RowKit Go.Proofs.YtcpbnhhpeljpjaaW.PrintWords Go.Proofs.YtcpbnhhpeljpjaaW.PrintLast Go.Proofs.YtcpbnhhpeljpjaaW.PrintMore
attribute [local go_sem] max2_int min2_int max_two min_two max_three min_three max_four min_four   -- for this text's walks alone
set_option linter.unusedVariables false
set_option linter.unusedSimpArgs false

/-! ### spec_HasBit: function 18 -/
def spec_HasBit.f (a0 : ByteArray) (a1 : Int) : Option (Bool) := if (a0.size : Int) ≤ 65536 then (if a1 ≥ 0 then (if (wrap64 (Int.tdiv a1 8)) < (a0.size : Int) then (if 0 ≤ (wrap64 (Int.tdiv a1 8)) then (if 0 ≤ (IntKind.u64.wrap (Int.tmod a1 8)) then (some ((Go.bits .and .u8 (shr .u8 (bt a0 (wrap64 (Int.tdiv a1 8))) (IntKind.u64.wrap (Int.tmod a1 8))) 1) == 1)) else (none)) else (none)) else (some false)) else (some false)) else (some false)
set_option maxHeartbeats 8000000 in
set_option maxRecDepth 100000 in
theorem spec_HasBit.calls (a0 : ByteArray) (a1 : Int) (r : Bool) (w : World) (h : spec_HasBit.f a0 a1 = some r) :
    Calls Try.prog 18 #[.string a0, .int .i64 a1] w fun e w' => e = .returned (.bool r) ∧ Drawn0 w w' := by
  have H : (if (a0.size : Int) ≤ 65536 then (if a1 ≥ 0 then (if (wrap64 (Int.tdiv a1 8)) < (a0.size : Int) then (if 0 ≤ (wrap64 (Int.tdiv a1 8)) then (if 0 ≤ (IntKind.u64.wrap (Int.tmod a1 8)) then (some ((Go.bits .and .u8 (shr .u8 (bt a0 (wrap64 (Int.tdiv a1 8))) (IntKind.u64.wrap (Int.tmod a1 8))) 1) == 1)) else (none)) else (none)) else (some false)) else (some false)) else (some false)) = some r := h
  clear h
  by_cases c3 : (a0.size : Int) ≤ 65536
  · rw [if_pos c3] at H
    have c3b0 : decide ((a0.size : Int) ≤ 65536) = true := decide_eq_true c3
    have c3b1 : decide (a0.size ≤ 65536) = true := decide_eq_true (by omega)
    clear c3
    by_cases c4 : a1 ≥ 0
    · rw [if_pos c4] at H
      have c4b0 : decide (0 ≤ a1) = true := decide_eq_true c4
      clear c4
      by_cases c5 : (wrap64 (Int.tdiv a1 8)) < (a0.size : Int)
      · rw [if_pos c5] at H
        have c5b0 : decide ((wrap64 (Int.tdiv a1 8)) < (a0.size : Int)) = true := decide_eq_true c5
        clear c5
        obtain ⟨ji6, hji6⟩ : ∃ j_ : Int, (wrap64 (Int.tdiv a1 8)) = j_ := ⟨_, rfl⟩
        replace H : (if 0 ≤ (ji6) then (if 0 ≤ (IntKind.u64.wrap (Int.tmod a1 8)) then (some ((Go.bits .and .u8 (shr .u8 (bt a0 (ji6)) (IntKind.u64.wrap (Int.tmod a1 8))) 1) == 1)) else (none)) else (none)) = some r := by first | (rw [hji6] at H; exact H) | (simp only [hji6] at H ⊢; exact H)
        (try rw [hji6] at c5b0)
        have hji6w : (IntKind.i64.wrap (Int.tdiv a1 8)) = ji6 := (i64_w _).trans hji6
        by_cases c7 : 0 ≤ (ji6)
        · rw [if_pos c7] at H
          have c7b0 : decide (0 ≤ (ji6)) = true := decide_eq_true c7
          clear c7
          obtain ⟨ji9, hji9⟩ : ∃ j_ : Int, (IntKind.u64.wrap (Int.tmod a1 8)) = j_ := ⟨_, rfl⟩
          replace H : (if 0 ≤ (ji9) then (some ((Go.bits .and .u8 (shr .u8 (bt a0 (ji6)) (ji9)) 1) == 1)) else (none)) = some r := by first | (rw [hji9] at H; exact H) | (simp only [hji9] at H ⊢; exact H)
          by_cases c10 : 0 ≤ (ji9)
          · rw [if_pos c10] at H
            have c10b0 := eq_true c10
            have c10b1 : decide (0 ≤ (ji9)) = true := decide_eq_true c10
            clear c10
            obtain ⟨ji11, hji11⟩ : ∃ j_ : Int, (shr .u8 (bt a0 (ji6)) (ji9)) = j_ := ⟨_, rfl⟩
            replace H : (some ((Go.bits .and .u8 (ji11) 1) == 1)) = some r := by first | (rw [hji11] at H; exact H) | (simp only [hji11] at H ⊢; exact H)
            have hji11_ : ((bt a0 (ji6)) / 2 ^ min (ji9).toNat 8) = ji11 := hji11
            have hji11z : (ji9) ≤ 8 → ((bt a0 (ji6)) / 2 ^ (ji9).toNat) = ji11 := shr_small hji11
            obtain rfl := Option.some.inj H
            have p8 : 0 ≤ ((ji6) : Int) := of_decide_eq_true (by first | (with_reducible assumption) | assumption)
            have q8 : (ji6) < (a0.size : Int) := of_decide_eq_true (by first | (with_reducible assumption) | assumption)
            have hx8 := bt_at a0 (ji6)
            replace p8 := eq_true p8
            replace q8 := eq_true q8
            go_enter Try.func18, Try.ntmps18
            go_wp2
            go_ret
            exact ⟨by first | rfl | (simp; done) | (simp only [← hji6, ← hji9, ← hji11] <;> (first | rfl | simp)) | (simp [*]; done), by repeat (first | exact Drawn0.refl _ | apply Drawn0.step)⟩
          · rw [if_neg c10] at H
            exact absurd H (by simp)
        · rw [if_neg c7] at H
          exact absurd H (by simp)
      · rw [if_neg c5] at H
        have c5b0 : decide ((wrap64 (Int.tdiv a1 8)) < (a0.size : Int)) = false := decide_eq_false c5
        clear c5
        obtain rfl := Option.some.inj H
        go_enter Try.func18, Try.ntmps18
        go_wp2
        go_ret
        exact ⟨by first | rfl | (simp; done) | (simp [*]; done), by repeat (first | exact Drawn0.refl _ | apply Drawn0.step)⟩
    · rw [if_neg c4] at H
      have c4b0 : decide (0 ≤ a1) = false := decide_eq_false c4
      clear c4
      obtain rfl := Option.some.inj H
      go_enter Try.func18, Try.ntmps18
      go_wp2
      go_ret
      exact ⟨by first | rfl | (simp; done) | (simp [*]; done), by repeat (first | exact Drawn0.refl _ | apply Drawn0.step)⟩
  · rw [if_neg c3] at H
    have c3b0 : decide ((a0.size : Int) ≤ 65536) = false := decide_eq_false c3
    have c3b1 : decide (a0.size ≤ 65536) = false := decide_eq_false (by omega)
    clear c3
    obtain rfl := Option.some.inj H
    go_enter Try.func18, Try.ntmps18
    go_wp2
    go_ret
    exact ⟨by first | rfl | (simp; done) | (simp [*]; done), by repeat (first | exact Drawn0.refl _ | apply Drawn0.step)⟩

/-! ### spec_PutBit: function 12 -/
def sbitM (n : Int) : Int := (2 : Int) ^ (n.toNat % 8) % 256
def sflip (bs : List UInt8) (q : Nat) (M : Int) : List UInt8 := Go.Proofs.Ytcpbnhhpeljpjaa.By.putAt bs q [UInt8.ofNat (Go.bits .xor .u8 ((bs.getD q 0).toNat : Int) M).toNat]
def spadL (bs : List UInt8) (q : Nat) : List UInt8 := bs ++ List.replicate (q + 1 - bs.length) 0
theorem sbits_range (op : BinOp) (a b : Int) : 0 ≤ Go.bits op .u8 a b ∧ Go.bits op .u8 a b ≤ 255 := by
  unfold Go.bits
  constructor
  · cases op <;> simp only [IntKind.wrap_u8] <;> omega
  · cases op <;> simp only [IntKind.wrap_u8] <;> omega
def spec_PutBit.f (a0 : ByteArray) (a1 : Int) (a2 : Bool) : Option (ByteArray) :=
  if (a0.size : Int) ≤ 65536 ∧ 0 ≤ a1 ∧ a1 < 524288 then
    ((spec_HasBit.f a0 a1).bind fun hb => some ⟨(if (hb != a2) = true then sflip (spadL a0.data.toList (a1 / 8).toNat) (a1 / 8).toNat (sbitM a1) else spadL a0.data.toList (a1 / 8).toNat).toArray⟩) else some (⟨#[]⟩ : ByteArray)
set_option maxHeartbeats 8000000 in
set_option maxRecDepth 100000 in
theorem spec_PutBit.calls (a0 : ByteArray) (a1 : Int) (a2 : Bool) (r : ByteArray) (w : World) (h : spec_PutBit.f a0 a1 a2 = some r) :
    Calls Try.prog 12 #[.string a0, .int .i64 a1, .bool a2] w fun e w' => e = .returned (.string r) ∧ Below w.heap.size w w' := by
  unfold spec_PutBit.f at h
  by_cases c0 : (a0.size : Int) ≤ 65536
  · by_cases c1 : 0 ≤ a1
    · by_cases c2 : a1 < 524288
      · rw [if_pos ⟨c0, c1, c2⟩] at h
        cases hhb : spec_HasBit.f a0 a1 with
        | none => rw [hhb] at h; exact absurd h (by simp)
        | some hb =>
          rw [hhb, Option.bind_some] at h
          obtain rfl := Option.some.inj h
          have hcall := fun W => spec_HasBit.calls a0 a1 hb W hhb
          have n0 : ¬ (a0.size : Int) > 65536 := by omega
          have n1 : ¬ a1 < 0 := by omega
          have n2 : ¬ a1 ≥ 524288 := by omega
          have n0' : decide (65536 < (a0.size : Int)) = false := decide_eq_false (by omega)
          have n0'' : decide (65536 < a0.size) = false := decide_eq_false (by omega)
          have n1' : decide (a1 < 0) = false := decide_eq_false (by omega)
          have n2' : decide (524288 ≤ a1) = false := decide_eq_false (by omega)
          clear hhb h
          obtain ⟨n, rfl⟩ : ∃ n : Nat, a1 = (n : Int) := ⟨a1.toNat, by omega⟩
          have H0 := Aside0.mk c0
          have H1 := Aside0.mk (show n < 524288 from by omega)
          have kb := fun W => print_bytes (P := Try.prog) 9 38 5 Try.underlying9 Try.underlying38 Try.underlying5 a0 W
          obtain ⟨q, hq⟩ : ∃ q : Nat, ((n : Int) / 8).toNat = q := ⟨_, rfl⟩
          have hd8 : Int.tdiv (n : Int) 8 = (q : Int) := by rw [Int.tdiv_eq_ediv_of_nonneg (by omega)]; omega
          have HQ := Aside0.mk hq
          rw [hq]
          have hsz : a0.size ≤ 9223372036854775807 := by omega
          have R0 := Go.Proofs.Ytcpbnhhpeljpjaa.By.BRow.conv w 5 a0 hsz
          have B0 : Below w.heap.size w (Lib.bytesWorld w 5 a0) := bytes_below (Below.refl _ _) (Nat.le_refl _) _ _
          have L0 : a0.data.toList.length = a0.size := by rw [Array.length_toList]; rfl
          have hinfo : (Try.prog.info? 5).map (fun i => (i.zero, i.size, i.bytes)) = some (some (.int .u8 0), 1, 1) := by kernel_rfl
          have HI := Aside0.mk hinfo
          have RA := Aside0.mk R0
          have BA := Aside0.mk B0
          have LA := Aside0.mk L0
          have w1 : wrap64 (q : Int) = (q : Int) := Go.Proofs.Ytcpbnhhpeljpjaa.Pl.w64 (by omega) (by omega)
          have e1 : IntKind.i64.wrap (q : Int) = (q : Int) := by rw [Go.Proofs.Ytcpbnhhpeljpjaa.Pl.i64w]; exact w1
          have hM : sbitM (n : Int) = (2 : Int) ^ (n % 8) % 256 := by simp [sbitM]
          have HM := Aside0.mk hM
          obtain ⟨R, hRR⟩ : ∃ R : ByteArray, R = ⟨(if (hb != a2) = true then sflip (spadL a0.data.toList q) q (sbitM (n : Int)) else spadL a0.data.toList q).toArray⟩ := ⟨_, rfl⟩
          rw [← hRR]
          have HRR := Aside0.mk hRR
          clear hRR
          clear hM hsz R0 B0 L0 hinfo c0 c1 c2 hq
          go_enter Try.func12, Try.ntmps12
          go_wp2
          generalize Lib.bytesWorld w 5 a0 = W1 at RA BA
          generalize grownCap w a0.size 0 5 = cap0 at RA
          go_loopg [7] (q + 1) (fun gg s7 wr => ∃ (j g cap : Nat), s7 = .slice (some ⟨g, 0, none⟩) (a0.size + j) cap ∧ Aside0 (w.heap.size ≤ g) ∧ Aside0 (Go.Proofs.Ytcpbnhhpeljpjaa.By.BRow wr g cap (a0.data.toList ++ List.replicate j 0)) ∧ Aside0 (Below w.heap.size w wr) ∧ Aside0 (j = 0 ∨ a0.size + j ≤ q + 1) ∧ Aside0 (q + 1 - (a0.size + j) ≤ gg))
          case atStart => exact ⟨0, w.heap.size, cap0, rfl, ⟨Nat.le_refl _⟩, ⟨by rw [List.replicate_zero, List.append_nil]; exact RA.out⟩, BA, ⟨Or.inl rfl⟩, ⟨by omega⟩⟩
          case round =>
            obtain ⟨j, g, cap, rfl, HG, HR, HB, HJ, hgm⟩ := hrel
            by_cases hle : a0.size + j ≤ q
            · have hlez : (a0.size : Int) + (j : Int) ≤ (q : Int) := by omega
              have hlez' : ((a0.size + j : Nat) : Int) ≤ (q : Int) := by omega
              go_wp2_with (at_builtin; refine Go.Proofs.Ytcpbnhhpeljpjaa.By.wpList_append_bytes _ rfl (.tmp 26) (.tmp 27) 38 rfl 5 Try.underlying38 HI.out w.heap.size g cap (a0.data.toList ++ List.replicate j 0) [0] (a0.size + j) (by rw [List.length_append, List.length_replicate, LA.out]) (by simp [Act.eval, Act.put]) (by exact HR.out.alloc _) HG.out (by have := HB.out.size; simp; omega) ⟨wr.heap.size, 0, none⟩ 1 (by simp [Act.eval, Act.put]) ?qc1 (by simp) (by have := H0.out; have := H1.out; have := HQ.out; simp only [List.length_cons, List.length_nil]; omega) ?_)
              case qc1 =>
                intro j' hj'
                have : j' = 0 := by simpa using hj'
                subst this
                simp [Go.Proofs.Ytcpbnhhpeljpjaa.By.cellsOf, Addr.add]
              intro w' g' cap' hg' hr' hb'
              have hr2 : Go.Proofs.Ytcpbnhhpeljpjaa.By.BRow w' g' cap' (a0.data.toList ++ List.replicate (j + 1) 0) := by
                have : (List.replicate (j + 1) (0 : UInt8)) = List.replicate j 0 ++ [0] := by rw [List.replicate_succ', ]
                rw [this, ← List.append_assoc]
                first | exact hr' | (rw [List.append_assoc]; exact hr')
              have hb2 : Below w.heap.size w w' := (below_alloc HB.out _).trans hb'
              have HR2 := Aside0.mk hr2
              have HB2 := Aside0.mk hb2
              have HG2 := Aside0.mk hg'
              clear hr' hb' hr2 hb2 hg'
              go_wp2
              go_roundg (q + 1 - (a0.size + (j + 1)))
              case measure => have := hgm.out; omega
              case rel => exact ⟨j + 1, g', cap', rfl, HG2, HR2, HB2, ⟨Or.inr (by omega)⟩, ⟨by omega⟩⟩
            · have hlez : ¬ (a0.size : Int) + (j : Int) ≤ (q : Int) := by omega
              have hlez' : ¬ ((a0.size + j : Nat) : Int) ≤ (q : Int) := by omega
              have hj := HJ.out
              have hjv : j = q + 1 - a0.size := by omega
              have hP : spadL a0.data.toList q = a0.data.toList ++ List.replicate j 0 := by unfold spadL; rw [LA.out, ← hjv]
              have hr := HR.out
              rw [← hP] at hr
              have hlen : (spadL a0.data.toList q).length = a0.size + j := by rw [hP, List.length_append, List.length_replicate, LA.out]
              have hx := hr.cell q (by omega)
              have hf := hr.frozen q (by have := hr.1; omega)
              have hgd : (spadL a0.data.toList q).getD q 0 = (spadL a0.data.toList q)[q] := by rw [List.getD_eq_getElem?_getD, List.getElem?_eq_getElem (by omega), Option.getD_some]
              rw [← hgd] at hx
              obtain ⟨x, hxx⟩ : ∃ x, (spadL a0.data.toList q).getD q 0 = x := ⟨_, rfl⟩
              rw [hxx] at hx
              rw [List.getD_eq_getElem?_getD] at hxx
              have HXX := Aside0.mk hxx
              have hlt : q < a0.size + j := by omega
              have hltz : (q : Int) < (a0.size : Int) + (j : Int) := by omega
              have HR2 := Aside0.mk hr
              have HL := Aside0.mk hlen
              have hqlt : q < (spadL a0.data.toList q).length := by omega
              have HP := Aside0.mk hP
              have HGD : Aside0 ((spadL a0.data.toList q)[q] = x) := ⟨by rw [← hgd, List.getD_eq_getElem?_getD]; exact hxx⟩
              clear hj hjv hP hr hgd hxx hx hf
              cases hb <;> cases a2
              case false.false =>
                go_wp2_with (go_at_call 18; refine (hcall _).mono ?_; rintro e w' ⟨rfl, hd⟩; have hR9 : Go.Proofs.Ytcpbnhhpeljpjaa.By.BRow w' g cap (spadL a0.data.toList q) := (by obtain ⟨m1, rfl⟩ := hd; exact HR2.out.drewN m1); have hB9 : Below w.heap.size w w' := (by obtain ⟨m1, rfl⟩ := hd; exact pw_below_drewN HB.out _); clear hd; have kc := fun (c : Nat) => hR9.back (P := Try.prog) 38 9 5 Try.underlying38 Try.underlying5 Try.underlying9 c (a0.size + j) HL.out; have HB9 := Aside0.mk hB9; clear hR9 hB9)
                go_ret
                exact ⟨by rw [HRR.out]; rfl, HB9.out⟩
              case true.true =>
                go_wp2_with (go_at_call 18; refine (hcall _).mono ?_; rintro e w' ⟨rfl, hd⟩; have hR9 : Go.Proofs.Ytcpbnhhpeljpjaa.By.BRow w' g cap (spadL a0.data.toList q) := (by obtain ⟨m1, rfl⟩ := hd; exact HR2.out.drewN m1); have hB9 : Below w.heap.size w w' := (by obtain ⟨m1, rfl⟩ := hd; exact pw_below_drewN HB.out _); clear hd; have kc := fun (c : Nat) => hR9.back (P := Try.prog) 38 9 5 Try.underlying38 Try.underlying5 Try.underlying9 c (a0.size + j) HL.out; have HB9 := Aside0.mk hB9; clear hR9 hB9)
                go_ret
                exact ⟨by rw [HRR.out]; rfl, HB9.out⟩
              case false.true =>
                have hv : ((UInt8.ofNat (Go.bits .xor .u8 (x.toNat : Int) ((2 : Int) ^ (n % 8) % 256)).toNat).toNat : Int) = (Go.bits .xor .u8 (x.toNat : Int) ((2 : Int) ^ (n % 8) % 256)) := by
                  have := sbits_range .xor (x.toNat : Int) ((2 : Int) ^ (n % 8) % 256)
                  rw [UInt8.toNat_ofNat']
                  omega
                have HV := Aside0.mk hv
                clear hv
                go_wp2_with (go_at_call 18; refine (hcall _).mono ?_; rintro e w' ⟨rfl, hd⟩; have hR9 : Go.Proofs.Ytcpbnhhpeljpjaa.By.BRow w' g cap (spadL a0.data.toList q) := (by obtain ⟨m1, rfl⟩ := hd; exact HR2.out.drewN m1); have hB9 : Below w.heap.size w w' := (by obtain ⟨m1, rfl⟩ := hd; exact pw_below_drewN HB.out _); clear hd; have hx9 := hR9.cell q (by have := HL.out; omega); have hf9 := hR9.frozen q (by have := HL.out; have := hR9.1; omega); rw [HGD.out] at hx9; have hR8 := hR9.set q (UInt8.ofNat (Go.bits .xor .u8 (x.toNat : Int) ((2 : Int) ^ (n % 8) % 256)).toNat) (by have := HL.out; omega) (by have := HL.out; have := hR9.1; omega); rw [HV.out] at hR8; have kc := fun (c : Nat) => hR8.back (P := Try.prog) 38 9 5 Try.underlying38 Try.underlying5 Try.underlying9 c (a0.size + j) (by rw [Go.Proofs.Ytcpbnhhpeljpjaa.By.putAt_length (spadL a0.data.toList q) q [UInt8.ofNat (Go.bits .xor .u8 (x.toNat : Int) ((2 : Int) ^ (n % 8) % 256)).toNat] (by have := HL.out; simp only [List.length_cons, List.length_nil]; omega)]; exact HL.out); have HB9 := Aside0.mk hB9; clear hR9 hB9 hR8)
                go_ret
                exact ⟨by have hxx := HXX.out; rw [← List.getD_eq_getElem?_getD] at hxx; have hfl : sflip (spadL a0.data.toList q) q (sbitM (n : Int)) = Go.Proofs.Ytcpbnhhpeljpjaa.By.putAt (spadL a0.data.toList q) q [UInt8.ofNat (Go.bits .xor .u8 (x.toNat : Int) ((2 : Int) ^ (n % 8) % 256)).toNat] := (by unfold sflip; rw [hxx, HM.out]); rw [HRR.out]; show Ending.returned (Value.string _) = Ending.returned (Value.string ⟨(sflip (spadL a0.data.toList q) q (sbitM (n : Int))).toArray⟩); rw [hfl], Below.setCell HB9.out (by exact HG.out) _⟩
              case true.false =>
                have hv : ((UInt8.ofNat (Go.bits .xor .u8 (x.toNat : Int) ((2 : Int) ^ (n % 8) % 256)).toNat).toNat : Int) = (Go.bits .xor .u8 (x.toNat : Int) ((2 : Int) ^ (n % 8) % 256)) := by
                  have := sbits_range .xor (x.toNat : Int) ((2 : Int) ^ (n % 8) % 256)
                  rw [UInt8.toNat_ofNat']
                  omega
                have HV := Aside0.mk hv
                clear hv
                go_wp2_with (go_at_call 18; refine (hcall _).mono ?_; rintro e w' ⟨rfl, hd⟩; have hR9 : Go.Proofs.Ytcpbnhhpeljpjaa.By.BRow w' g cap (spadL a0.data.toList q) := (by obtain ⟨m1, rfl⟩ := hd; exact HR2.out.drewN m1); have hB9 : Below w.heap.size w w' := (by obtain ⟨m1, rfl⟩ := hd; exact pw_below_drewN HB.out _); clear hd; have hx9 := hR9.cell q (by have := HL.out; omega); have hf9 := hR9.frozen q (by have := HL.out; have := hR9.1; omega); rw [HGD.out] at hx9; have hR8 := hR9.set q (UInt8.ofNat (Go.bits .xor .u8 (x.toNat : Int) ((2 : Int) ^ (n % 8) % 256)).toNat) (by have := HL.out; omega) (by have := HL.out; have := hR9.1; omega); rw [HV.out] at hR8; have kc := fun (c : Nat) => hR8.back (P := Try.prog) 38 9 5 Try.underlying38 Try.underlying5 Try.underlying9 c (a0.size + j) (by rw [Go.Proofs.Ytcpbnhhpeljpjaa.By.putAt_length (spadL a0.data.toList q) q [UInt8.ofNat (Go.bits .xor .u8 (x.toNat : Int) ((2 : Int) ^ (n % 8) % 256)).toNat] (by have := HL.out; simp only [List.length_cons, List.length_nil]; omega)]; exact HL.out); have HB9 := Aside0.mk hB9; clear hR9 hB9 hR8)
                go_ret
                exact ⟨by have hxx := HXX.out; rw [← List.getD_eq_getElem?_getD] at hxx; have hfl : sflip (spadL a0.data.toList q) q (sbitM (n : Int)) = Go.Proofs.Ytcpbnhhpeljpjaa.By.putAt (spadL a0.data.toList q) q [UInt8.ofNat (Go.bits .xor .u8 (x.toNat : Int) ((2 : Int) ^ (n % 8) % 256)).toNat] := (by unfold sflip; rw [hxx, HM.out]); rw [HRR.out]; show Ending.returned (Value.string _) = Ending.returned (Value.string ⟨(sflip (spadL a0.data.toList q) q (sbitM (n : Int))).toArray⟩); rw [hfl], Below.setCell HB9.out (by exact HG.out) _⟩
      · rw [if_neg (fun h => c2 h.2.2)] at h
        obtain rfl := Option.some.inj h
        have n0 : decide (65536 < (a0.size : Int)) = false := decide_eq_false (by omega)
        have n0' : decide (65536 < a0.size) = false := decide_eq_false (by omega)
        have n1 : decide (a1 < 0) = false := decide_eq_false (by omega)
        have n2 : decide (524288 ≤ a1) = true := decide_eq_true (by omega)
        have n2' : 524288 ≤ a1 := by omega
        have n1' : ¬ a1 < 0 := by omega
        clear h
        go_enter Try.func12, Try.ntmps12
        go_wp2
        go_ret
        exact ⟨rfl, Below.refl _ _⟩
    · rw [if_neg (fun h => c1 h.2.1)] at h
      obtain rfl := Option.some.inj h
      have n0 : decide (65536 < (a0.size : Int)) = false := decide_eq_false (by omega)
      have n0' : decide (65536 < a0.size) = false := decide_eq_false (by omega)
      have n1 : decide (a1 < 0) = true := decide_eq_true (by omega)
      have n1' : a1 < 0 := by omega
      clear h
      go_enter Try.func12, Try.ntmps12
      go_wp2
      go_ret
      exact ⟨rfl, Below.refl _ _⟩
  · rw [if_neg (fun h => c0 h.1)] at h
    obtain rfl := Option.some.inj h
    have n0 : decide (65536 < (a0.size : Int)) = true := decide_eq_true (by omega)
    have n0' : decide (65536 < a0.size) = true := decide_eq_true (by omega)
    clear h
    go_enter Try.func12, Try.ntmps12
    go_wp2
    go_ret
    exact ⟨rfl, Below.refl _ _⟩

/-! ### impl_ybig: function 34 -/
def impl_ybig.l0 : Nat → List ByteArray → Int → Int → Option (Bool)
  | 0, _, _, _ => none
  | k + 1, x5, x6, x7 => if x7 < x6 then (if 0 ≤ x7 then (if x7 < (x5.length : Int) then (if ((rdOf ByteArray.empty x5 x7).size : Int) > 65536 then (some true) else (impl_ybig.l0 k x5 x6 (wrap64 (x7 + 1)))) else (none)) else (none)) else (some false)
def impl_ybig.f (k : Nat) (l0 : List ByteArray) : Option (Bool) := impl_ybig.l0 k l0 (l0.length : Int) 0
theorem impl_ybig.mono_l : ∀ k, (∀ y0 y1 y2, LeO (impl_ybig.l0 k y0 y1 y2) (impl_ybig.l0 (k + 1) y0 y1 y2))
  | 0 => fun _ _ _ r h => by simp [impl_ybig.l0] at h
  | k + 1 => by
    have ih0 := impl_ybig.mono_l k
    · intro y0 y1 y2
      unfold impl_ybig.l0
      repeat' first
      | (with_reducible exact ih0 _ _ _)
      | (with_reducible exact LeO.refl _)
      | (with_reducible exact LeO.none _)
      | (with_reducible refine LeO.ite ?_ ?_)
      | (with_reducible refine LeO.bind ?_ (fun _ => ?_))
      | exact ih0 _ _ _
      | exact LeO.none _
      | refine LeO.ite ?_ ?_
      | refine LeO.bind ?_ (fun _ => ?_)
theorem impl_ybig.mono : ∀ a0 k, LeO (impl_ybig.f k a0) (impl_ybig.f (k + 1) a0) := by
  intro a0 k
  have ih0 := impl_ybig.mono_l k
  unfold impl_ybig.f
  repeat' first
      | (with_reducible exact ih0 _ _ _)
      | (with_reducible exact LeO.refl _)
      | (with_reducible exact LeO.none _)
      | (with_reducible refine LeO.ite ?_ ?_)
      | (with_reducible refine LeO.bind ?_ (fun _ => ?_))
      | exact ih0 _ _ _
      | exact LeO.none _
      | refine LeO.ite ?_ ?_
      | refine LeO.bind ?_ (fun _ => ?_)
set_option maxHeartbeats 8000000 in
set_option maxRecDepth 100000 in
theorem impl_ybig.calls (k : Nat) (A0 : Option Addr) (c0 : Nat) (l0 : List ByteArray) (r : Bool) (w : World) (hr0 : Kd.C Kd.string w A0 l0.length l0) (hc0 : l0.length ≤ c0) (h : impl_ybig.f k l0 = some r) :
    Calls Try.prog 34 #[.slice A0 l0.length c0] w fun e w' => e = .returned (.bool r) ∧ Drawn0 w w' := by
  have HR0 := Aside0.mk hr0
  have HC0 := Aside0.mk hc0
  clear hr0 hc0
  have H : (impl_ybig.l0 k l0 (l0.length : Int) 0) = some r := h
  clear h
  have H' := Aside0.mk H
  clear H
  go_enter Try.func34, Try.ntmps34
  go_wp2
  go_loopg [7] k (fun kq v7 w' => ∃ (x7_1 : Int), v7 = .int .i64 x7_1 ∧ Aside0 (impl_ybig.l0 kq l0 (l0.length : Int) x7_1 = some r) ∧ Aside0 (kq ≤ k) ∧ Drawn0 w w')
  case atStart => exact ⟨(0), (by first | rfl | (simp; done) | (simp [*]; done)), H', ⟨Nat.le_refl _⟩, by repeat (first | exact Drawn0.refl _ | apply Drawn0.step)⟩
  case round =>
    clear H'
    obtain ⟨x7_1, rfl, HA, HK1, ⟨m1, rfl⟩⟩ := hrel
    cases gk with
    | zero => exact absurd HA.out (by simp [impl_ybig.l0])
    | succ k1 =>
      have H := HA.out
      clear HA
      simp only [impl_ybig.l0] at H
      by_cases c2 : x7_1 < (l0.length : Int)
      · rw [if_pos c2] at H
        have c2b0 : decide (x7_1 < (l0.length : Int)) = true := decide_eq_true c2
        clear c2
        by_cases c3 : 0 ≤ x7_1
        · rw [if_pos c3] at H
          have c3b0 : decide (0 ≤ x7_1) = true := decide_eq_true c3
          clear c3
          by_cases c4 : x7_1 < (l0.length : Int)
          · rw [if_pos c4] at H
            have c4b0 : decide (x7_1 < (l0.length : Int)) = true := decide_eq_true c4
            clear c4
            by_cases c5 : ((rdOf ByteArray.empty l0 x7_1).size : Int) > 65536
            · rw [if_pos c5] at H
              have c5b0 : decide (65536 < ((rdOf ByteArray.empty l0 x7_1).size : Int)) = true := decide_eq_true c5
              have c5b1 : decide (65536 < (rdOf ByteArray.empty l0 x7_1).size) = true := decide_eq_true (by omega)
              clear c5
              obtain rfl := Option.some.inj H
              have p101 : 0 ≤ (x7_1 : Int) := of_decide_eq_true (by first | (with_reducible assumption) | assumption)
              have q101 : x7_1 < (l0.length : Int) := of_decide_eq_true (by first | (with_reducible assumption) | assumption)
              obtain ⟨ad101, e101, hx101_0⟩ := Kd.at_string HR0.out x7_1 p101 q101
              cases e101
              replace p101 := eq_true p101
              replace q101 := eq_true q101
              go_wp2
              go_ret
              exact ⟨by first | rfl | (simp; done) | (simp [*]; done), by repeat (first | exact Drawn0.refl _ | apply Drawn0.step)⟩
            · rw [if_neg c5] at H
              have c5b0 : decide (65536 < ((rdOf ByteArray.empty l0 x7_1).size : Int)) = false := decide_eq_false c5
              have c5b1 : decide (65536 < (rdOf ByteArray.empty l0 x7_1).size) = false := decide_eq_false (by omega)
              clear c5
              have H' := Aside0.mk H
              clear H
              have p101 : 0 ≤ (x7_1 : Int) := of_decide_eq_true (by first | (with_reducible assumption) | assumption)
              have q101 : x7_1 < (l0.length : Int) := of_decide_eq_true (by first | (with_reducible assumption) | assumption)
              obtain ⟨ad101, e101, hx101_0⟩ := Kd.at_string HR0.out x7_1 p101 q101
              cases e101
              replace p101 := eq_true p101
              replace q101 := eq_true q101
              go_wp2
              go_roundg k1
              case measure => have := HK1.out; omega
              case rel => exact ⟨(wrap64 (x7_1 + 1)), (by first | rfl | (simp; done) | (simp [*]; done)), H', ⟨by have := HK1.out; omega⟩, by repeat (first | exact Drawn0.refl _ | apply Drawn0.step)⟩
          · rw [if_neg c4] at H
            exact absurd H (by simp)
        · rw [if_neg c3] at H
          exact absurd H (by simp)
      · rw [if_neg c2] at H
        have c2b0 : decide (x7_1 < (l0.length : Int)) = false := decide_eq_false c2
        clear c2
        obtain rfl := Option.some.inj H
        go_wp2
        go_ret
        exact ⟨by first | rfl | (simp; done) | (simp [*]; done), by repeat (first | exact Drawn0.refl _ | apply Drawn0.step)⟩

/-! ### impl_yputBit: function 35 -/
def padL (bs : List UInt8) (q : Nat) : List UInt8 := bs ++ List.replicate (q + 1 - bs.length) 0
theorem padL_length (bs : List UInt8) (q : Nat) : (padL bs q).length = max bs.length (q + 1) := by simp [padL]; omega
def byteN (x : Int) : UInt8 := UInt8.ofNat x.toNat
theorem byteN_int (x : Int) (h0 : 0 ≤ x) (h1 : x ≤ 255) : ((byteN x).toNat : Int) = x := by
  unfold byteN
  rw [UInt8.toNat_ofNat']
  omega
theorem bits_u8_range (op : BinOp) (a b : Int) : 0 ≤ Go.bits op .u8 a b ∧ Go.bits op .u8 a b ≤ 255 := by
  unfold Go.bits
  constructor
  · cases op <;> simp only [IntKind.wrap_u8] <;> omega
  · cases op <;> simp only [IntKind.wrap_u8] <;> omega
def bitM (n : Int) : Int := shl .u8 1 (Int.tmod n 8)
def setL (bs : List UInt8) (q : Nat) (v : Int) : List UInt8 := Go.Proofs.Ytcpbnhhpeljpjaa.By.putAt bs q [byteN v]
def impl_yputBit.f (a0 : ByteArray) (a1 : Int) (a2 : Bool) : Option (ByteArray) :=
  if (a0.size : Int) ≤ 65536 ∧ 0 ≤ a1 ∧ a1 ≤ 1048576 then
    some ⟨(setL (padL a0.data.toList (a1 / 8).toNat) (a1 / 8).toNat (if a2 = true then Go.bits .or .u8 (((padL a0.data.toList (a1 / 8).toNat).getD (a1 / 8).toNat 0).toNat : Int) (bitM a1) else Go.bits .andNot .u8 (((padL a0.data.toList (a1 / 8).toNat).getD (a1 / 8).toNat 0).toNat : Int) (bitM a1))).toArray⟩ else none
set_option maxHeartbeats 8000000 in
set_option maxRecDepth 100000 in
theorem impl_yputBit.calls (a0 : ByteArray) (a1 : Int) (a2 : Bool) (r : ByteArray) (w : World) (h : impl_yputBit.f a0 a1 a2 = some r) :
    Calls Try.prog 35 #[.string a0, .int .i64 a1, .bool a2] w fun e w' => e = .returned (.string r) ∧ Below w.heap.size w w' := by
  unfold impl_yputBit.f at h
  by_cases hc : (a0.size : Int) ≤ 65536 ∧ 0 ≤ a1 ∧ a1 ≤ 1048576
  · rw [if_pos hc] at h
    obtain rfl := Option.some.inj h
    obtain ⟨q0, q1, q2⟩ := hc
    obtain ⟨n, rfl⟩ : ∃ n : Nat, a1 = (n : Int) := ⟨a1.toNat, by omega⟩
    have H0 := Aside0.mk q0
    have H1 := Aside0.mk (show n ≤ 1048576 from by omega)
    have kb := fun W => print_bytes (P := Try.prog) 9 38 5 Try.underlying9 Try.underlying38 Try.underlying5 a0 W
    obtain ⟨q, hq⟩ : ∃ q : Nat, ((n : Int) / 8).toNat = q := ⟨_, rfl⟩
    have hd8 : Int.tdiv (n : Int) 8 = (q : Int) := by rw [Int.tdiv_eq_ediv_of_nonneg (by omega)]; omega
    have HQ := Aside0.mk hq
    rw [hq]
    clear h q0 q1 q2 hq
    have hsz : a0.size ≤ 9223372036854775807 := by have := H0.out; omega
    have R0 := Go.Proofs.Ytcpbnhhpeljpjaa.By.BRow.conv w 5 a0 hsz
    have B0 : Below w.heap.size w (Lib.bytesWorld w 5 a0) := bytes_below (Below.refl _ _) (Nat.le_refl _) _ _
    have L0 : a0.data.toList.length = a0.size := by rw [Array.length_toList]; rfl
    have S0 : w.heap.size ≤ (Lib.bytesWorld w 5 a0).heap.size := by rw [Lib.bytesWorld_size]; omega
    have hinfo : (Try.prog.info? 5).map (fun i => (i.zero, i.size, i.bytes)) = some (some (.int .u8 0), 1, 1) := by kernel_rfl
    have HI := Aside0.mk hinfo
    have RA := Aside0.mk R0
    have BA := Aside0.mk B0
    have LA := Aside0.mk L0
    have SA := Aside0.mk S0
    clear hsz R0 B0 L0 S0 hinfo
    have w1 : wrap64 (q : Int) = (q : Int) := Go.Proofs.Ytcpbnhhpeljpjaa.Pl.w64 (by omega) (by have := H1.out; have := HQ.out; omega)
    have w2 : wrap64 ((q : Int) + 1) = (q : Int) + 1 := Go.Proofs.Ytcpbnhhpeljpjaa.Pl.w64 (by omega) (by have := H1.out; have := HQ.out; omega)
    have e1 : IntKind.i64.wrap (q : Int) = (q : Int) := by rw [Go.Proofs.Ytcpbnhhpeljpjaa.Pl.i64w]; exact w1
    have hsh : ∀ W, (Op.shift BinOp.shl IntKind.u8 1 IntKind.i64 ((n : Int).tmod 8)).run Try.prog W = .ok (.int .u8 (bitM (n : Int))) W := by
      intro W
      have hnn : ¬ ((n : Int).tmod 8 < 0) := by rw [Int.tmod_eq_emod_of_nonneg (by omega)]; omega
      simp [Op.shift, hnn, bitM, shl]
    generalize bitM (n : Int) = M at hsh
    by_cases hge : a0.size ≤ q
    · have hgez : (a0.size : Int) ≤ (q : Int) := by omega
      obtain ⟨m, hm⟩ : ∃ m : Nat, q + 1 - a0.size = m := ⟨_, rfl⟩
      have w3 : wrap64 ((q : Int) + 1 - (a0.size : Int)) = (m : Int) := by rw [Go.Proofs.Ytcpbnhhpeljpjaa.Pl.w64 (by omega) (by have := H1.out; have := HQ.out; omega)]; omega
      have HM := Aside0.mk (show 0 < m ∧ a0.size + m = q + 1 from by omega)
      have HP : Aside0 (padL a0.data.toList q = a0.data.toList ++ List.replicate m 0) := ⟨by unfold padL; rw [LA.out, hm]⟩
      clear hm
      go_enter Try.func35, Try.ntmps35
      go_wp2_with (at_builtin; refine Go.Proofs.Ytcpbnhhpeljpjaa.By.wpList_append_zeros_bytes _ rfl (.tmp 15) (.tmp 21) 38 2 rfl 5 Try.underlying38 Try.underlying2 HI.out w.heap.size w.heap.size _ a0.data.toList a0.size LA.out (by simp [Act.eval, Act.put]) RA.out (Nat.le_refl _) SA.out .i64 m (by simp [Act.eval, Act.put, w3]) HM.out.1 (by have := H0.out; have := HM.out; have := H1.out; have := HQ.out; omega) ?_)
      intro w' g' cap' hg' hr' hb'
      rw [← HP.out] at hr'
      have hlen : (padL a0.data.toList q).length = q + 1 := by rw [HP.out, List.length_append, List.length_replicate, LA.out]; exact HM.out.2
      have hx := hr'.cell q (by omega)
      have hf := hr'.frozen q (by have := hr'.1; omega)
      have hgd : (padL a0.data.toList q).getD q 0 = (padL a0.data.toList q)[q] := by rw [List.getD_eq_getElem?_getD, List.getElem?_eq_getElem (by omega), Option.getD_some]
      rw [← hgd] at hx
      obtain ⟨x, hxx⟩ : ∃ x, (padL a0.data.toList q).getD q 0 = x := ⟨_, rfl⟩
      rw [hxx] at hx
      rw [List.getD_eq_getElem?_getD] at hxx
      have HXX := Aside0.mk hxx
      clear hxx
      have hlt : q < a0.size + m := by have := HM.out; omega
      have hltz : (q : Int) < (a0.size : Int) + (m : Int) := by omega
      have HR := Aside0.mk hr'
      have HB := Aside0.mk (BA.out.trans hb')
      have HL := Aside0.mk hlen
      have HG := Aside0.mk hg'
      clear hr' hb' hlen hgd hg'
      cases a2 with
      | true =>
        go_wp2
        go_region_law (fail)
        all_goals
          have hv := byteN_int (Go.bits .or .u8 (x.toNat : Int) M) (bits_u8_range _ _ _).1 (bits_u8_range _ _ _).2
          have hd9 := HR.out
          have hR2 := hd9.set q (byteN (Go.bits .or .u8 (x.toNat : Int) M)) (by have := HL.out; omega) (by have := HL.out; have := HR.out.1; omega)
          rw [hv] at hR2
          have hB2 : Below w.heap.size w (w'.setCell ⟨g', q, none⟩ (.int .u8 (Go.bits .or .u8 (x.toNat : Int) M))) := (HB.out).setCell (by exact HG.out) _
          have hl2 := Go.Proofs.Ytcpbnhhpeljpjaa.By.putAt_length (padL a0.data.toList q) q [byteN (Go.bits .or .u8 (x.toNat : Int) M)] (by have := HL.out; simp only [List.length_cons, List.length_nil]; omega)
          rw [HL.out] at hl2
          generalize w'.setCell ⟨g', q, none⟩ (.int .u8 (Go.bits .or .u8 (x.toNat : Int) M)) = W3 at hR2 hB2 ⊢
          have hR3 := Go.Proofs.Ytcpbnhhpeljpjaa.By.BRow.drew hR2
          have kc := fun c => hR3.back (P := Try.prog) 38 9 5 Try.underlying38 Try.underlying5 Try.underlying9 c (a0.size + m) (by rw [hl2]; have := HM.out; omega)
          have HB3 := Aside0.mk hB2
          clear hv hd9 hR2 hR3 hB2 hl2
          go_wp2
          go_ret
          exact ⟨by have hxx := HXX.out; simp [setL, hxx], HB3.out.drew⟩
      | false =>
        go_wp2
        go_region_law (fail)
        all_goals
          have hv := byteN_int (Go.bits .andNot .u8 (x.toNat : Int) M) (bits_u8_range _ _ _).1 (bits_u8_range _ _ _).2
          have hd9 := HR.out
          have hR2 := hd9.set q (byteN (Go.bits .andNot .u8 (x.toNat : Int) M)) (by have := HL.out; omega) (by have := HL.out; have := HR.out.1; omega)
          rw [hv] at hR2
          have hB2 : Below w.heap.size w (w'.setCell ⟨g', q, none⟩ (.int .u8 (Go.bits .andNot .u8 (x.toNat : Int) M))) := (HB.out).setCell (by exact HG.out) _
          have hl2 := Go.Proofs.Ytcpbnhhpeljpjaa.By.putAt_length (padL a0.data.toList q) q [byteN (Go.bits .andNot .u8 (x.toNat : Int) M)] (by have := HL.out; simp only [List.length_cons, List.length_nil]; omega)
          rw [HL.out] at hl2
          generalize w'.setCell ⟨g', q, none⟩ (.int .u8 (Go.bits .andNot .u8 (x.toNat : Int) M)) = W3 at hR2 hB2 ⊢
          have hR3 := Go.Proofs.Ytcpbnhhpeljpjaa.By.BRow.drew hR2
          have kc := fun c => hR3.back (P := Try.prog) 38 9 5 Try.underlying38 Try.underlying5 Try.underlying9 c (a0.size + m) (by rw [hl2]; have := HM.out; omega)
          have HB3 := Aside0.mk hB2
          clear hv hd9 hR2 hR3 hB2 hl2
          go_wp2
          go_ret
          exact ⟨by have hxx := HXX.out; simp [setL, hxx], HB3.out.drew⟩
    · have hgez : ¬ (a0.size : Int) ≤ (q : Int) := by omega
      have HP : Aside0 (padL a0.data.toList q = a0.data.toList) := ⟨by unfold padL; rw [LA.out, show q + 1 - a0.size = 0 from by omega, List.replicate_zero, List.append_nil]⟩
      have hr' := RA.out
      rw [← HP.out] at hr'
      have hlen : (padL a0.data.toList q).length = a0.size := by rw [HP.out, LA.out]
      have hx := hr'.cell q (by omega)
      have hf := hr'.frozen q (by have := hr'.1; omega)
      have hgd : (padL a0.data.toList q).getD q 0 = (padL a0.data.toList q)[q] := by rw [List.getD_eq_getElem?_getD, List.getElem?_eq_getElem (by omega), Option.getD_some]
      rw [← hgd] at hx
      obtain ⟨x, hxx⟩ : ∃ x, (padL a0.data.toList q).getD q 0 = x := ⟨_, rfl⟩
      rw [hxx] at hx
      rw [List.getD_eq_getElem?_getD] at hxx
      have HXX := Aside0.mk hxx
      clear hxx
      have hlt : q < a0.size := by omega
      have hltz : (q : Int) < (a0.size : Int) := by omega
      have HG : Aside0 (w.heap.size ≤ w.heap.size) := ⟨Nat.le_refl _⟩
      have HR := Aside0.mk hr'
      have HB := BA
      have HL := Aside0.mk hlen
      clear hr' hlen hgd
      go_enter Try.func35, Try.ntmps35
      cases a2 with
      | true =>
        go_wp2
        go_region_law (fail)
        all_goals
          have hv := byteN_int (Go.bits .or .u8 (x.toNat : Int) M) (bits_u8_range _ _ _).1 (bits_u8_range _ _ _).2
          have hd9 := HR.out
          have hR2 := hd9.set q (byteN (Go.bits .or .u8 (x.toNat : Int) M)) (by have := HL.out; omega) (by have := HL.out; have := HR.out.1; omega)
          rw [hv] at hR2
          have hB2 : Below w.heap.size w ((Lib.bytesWorld w 5 a0).setCell ⟨w.heap.size, q, none⟩ (.int .u8 (Go.bits .or .u8 (x.toNat : Int) M))) := (HB.out).setCell (by exact HG.out) _
          have hl2 := Go.Proofs.Ytcpbnhhpeljpjaa.By.putAt_length (padL a0.data.toList q) q [byteN (Go.bits .or .u8 (x.toNat : Int) M)] (by have := HL.out; simp only [List.length_cons, List.length_nil]; omega)
          rw [HL.out] at hl2
          generalize (Lib.bytesWorld w 5 a0).setCell ⟨w.heap.size, q, none⟩ (.int .u8 (Go.bits .or .u8 (x.toNat : Int) M)) = W3 at hR2 hB2 ⊢
          have hR3 := Go.Proofs.Ytcpbnhhpeljpjaa.By.BRow.drew hR2
          have kc := fun c => hR3.back (P := Try.prog) 38 9 5 Try.underlying38 Try.underlying5 Try.underlying9 c (a0.size) (by exact hl2)
          have HB3 := Aside0.mk hB2
          clear hv hd9 hR2 hR3 hB2 hl2
          go_wp2
          go_ret
          exact ⟨by have hxx := HXX.out; simp [setL, hxx], HB3.out.drew⟩
      | false =>
        go_wp2
        go_region_law (fail)
        all_goals
          have hv := byteN_int (Go.bits .andNot .u8 (x.toNat : Int) M) (bits_u8_range _ _ _).1 (bits_u8_range _ _ _).2
          have hd9 := HR.out
          have hR2 := hd9.set q (byteN (Go.bits .andNot .u8 (x.toNat : Int) M)) (by have := HL.out; omega) (by have := HL.out; have := HR.out.1; omega)
          rw [hv] at hR2
          have hB2 : Below w.heap.size w ((Lib.bytesWorld w 5 a0).setCell ⟨w.heap.size, q, none⟩ (.int .u8 (Go.bits .andNot .u8 (x.toNat : Int) M))) := (HB.out).setCell (by exact HG.out) _
          have hl2 := Go.Proofs.Ytcpbnhhpeljpjaa.By.putAt_length (padL a0.data.toList q) q [byteN (Go.bits .andNot .u8 (x.toNat : Int) M)] (by have := HL.out; simp only [List.length_cons, List.length_nil]; omega)
          rw [HL.out] at hl2
          generalize (Lib.bytesWorld w 5 a0).setCell ⟨w.heap.size, q, none⟩ (.int .u8 (Go.bits .andNot .u8 (x.toNat : Int) M)) = W3 at hR2 hB2 ⊢
          have hR3 := Go.Proofs.Ytcpbnhhpeljpjaa.By.BRow.drew hR2
          have kc := fun c => hR3.back (P := Try.prog) 38 9 5 Try.underlying38 Try.underlying5 Try.underlying9 c (a0.size) (by exact hl2)
          have HB3 := Aside0.mk hB2
          clear hv hd9 hR2 hR3 hB2 hl2
          go_wp2
          go_ret
          exact ⟨by have hxx := HXX.out; simp [setL, hxx], HB3.out.drew⟩
  · rw [if_neg hc] at h; exact absurd h (by simp)

/-! ### impl_PutBit: function 13 -/
def impl_PutBit.f (k : Nat) (a0 : ByteArray) (a1 : Int) (a2 : Bool) : Option (ByteArray) := (impl_ybig.f k (([a0] : List ByteArray))).bind fun t105 => (if t105 = true then (some (⟨#[]⟩ : ByteArray)) else (if a1 < 0 then (some (⟨#[]⟩ : ByteArray)) else (if a1 ≥ 524288 then (some (⟨#[]⟩ : ByteArray)) else ((impl_yputBit.f a0 a1 a2).bind fun t106 => (some t106)))))
theorem impl_PutBit.mono : ∀ a0 a1 a2 k, LeO (impl_PutBit.f k a0 a1 a2) (impl_PutBit.f (k + 1) a0 a1 a2) := by
  intro a0 a1 a2 k
  unfold impl_PutBit.f
  repeat' first
      | (with_reducible exact impl_ybig.mono _ _)
      | (with_reducible exact LeO.refl _)
      | (with_reducible exact LeO.none _)
      | (with_reducible refine LeO.ite ?_ ?_)
      | (with_reducible refine LeO.bind ?_ (fun _ => ?_))
      | exact impl_ybig.mono _ _
      | exact LeO.none _
      | refine LeO.ite ?_ ?_
      | refine LeO.bind ?_ (fun _ => ?_)
set_option maxHeartbeats 8000000 in
set_option maxRecDepth 100000 in
theorem impl_PutBit.calls (k : Nat) (a0 : ByteArray) (a1 : Int) (a2 : Bool) (r : ByteArray) (w : World) (h : impl_PutBit.f k a0 a1 a2 = some r) :
    Calls Try.prog 13 #[.string a0, .int .i64 a1, .bool a2] w fun e w' => e = .returned (.string r) ∧ Below w.heap.size w w' := by
  have HB := Aside0.mk (Below.refl w.heap.size w)
  have H : ((impl_ybig.f k (([a0] : List ByteArray))).bind fun t105 => (if t105 = true then (some (⟨#[]⟩ : ByteArray)) else (if a1 < 0 then (some (⟨#[]⟩ : ByteArray)) else (if a1 ≥ 524288 then (some (⟨#[]⟩ : ByteArray)) else ((impl_yputBit.f a0 a1 a2).bind fun t106 => (some t106)))))) = some r := h
  clear h
  obtain ⟨y102, hy102⟩ : ∃ y_ : List ByteArray, y_ = (([a0] : List ByteArray)) := ⟨_, rfl⟩
  replace H : ((impl_ybig.f k y102).bind fun t105 => (if t105 = true then (some (⟨#[]⟩ : ByteArray)) else (if a1 < 0 then (some (⟨#[]⟩ : ByteArray)) else (if a1 ≥ 524288 then (some (⟨#[]⟩ : ByteArray)) else ((impl_yputBit.f a0 a1 a2).bind fun t106 => (some t106)))))) = some r := by first | (rw [hy102]; with_reducible exact H) | (have H2_ := (Option.bind_some _ _).symm.trans H; rw [hy102]; with_reducible exact H2_) | (have H2_ := (Option.bind_some _ _).symm.trans H; with_reducible exact H2_) | with_reducible exact H | (rw [hy102]; exact H) | exact H
  have Ny102 := Aside0.mk hy102
  clear hy102
  replace H := Option.bind_eq_some_iff.mp H
  obtain ⟨t105, A40, H⟩ := H
  replace H : (if t105 = true then (some (⟨#[]⟩ : ByteArray)) else (if a1 < 0 then (some (⟨#[]⟩ : ByteArray)) else (if a1 ≥ 524288 then (some (⟨#[]⟩ : ByteArray)) else ((impl_yputBit.f a0 a1 a2).bind fun t106 => (some t106))))) = some r := H
  have A4 := Aside0.mk A40
  clear A40
  by_cases c5 : t105 = true
  · subst c5
    have H1 : (some (⟨#[]⟩ : ByteArray)) = some r := by rw [if_pos rfl] at H; exact H
    clear H
    have H := H1
    clear H1
    obtain rfl := Option.some.inj H
    go_enter Try.func13, Try.ntmps13
    go_wp2_with (first | ((with_reducible refine gate_dst (N := 8) rfl ?_); refine Kd.R_lit Kd.string _ 9 ?hg (N := 8) ?hd (xs := ([a0] : List ByteArray)) (inner := [.string a0]) (ok := fun _ => True) (okp := fun _ => True) ?hr ?hp (fun _ hk => hk) trivial (Below.refl _ _) (Nat.le_refl _) (by simp) ?_; (case hd => rfl); (case hg => rfl); (case hr => first | (go_simp; done) | (go_simp; rfl)); (case hp => exact (Reps.one (show Kd.M Kd.string _ _ _ a0 [.string a0] from rfl) (Reps.none _ _))); intro v103 w6 ho7 hb hg_ hnew_; clear hg_ hnew_; (first | rw [← Ny102.out] at ho7 | (simp only [Int.reduceToNat] at ho7; rw [← Ny102.out] at ho7)); have n0_ := Aside0.mk (Kd.R_lower ho7 (below_size (by repeat (first | (with_reducible first | exact HB.out | apply below_alloc | apply pw_below_drewN | apply below_drew1) | exact HB.out)))); have n1_ := Aside0.mk (below_step (by repeat (first | (with_reducible first | exact HB.out | apply below_alloc | apply pw_below_drewN | apply below_drew1) | exact HB.out)) hb); clear HB; have HO104 := n0_; have HB := n1_; clear n0_ n1_; clear hb ho7; obtain ⟨Ao8, co8, eo8⟩ := Kd.R_slice HO104.out; subst eo8) | ((with_reducible refine gate_callee (f := 34) rfl ?_); refine goesL_ (some 9) rfl rfl Try.func34 (by kernel_rfl) rfl #[.slice Ao8 y102.length co8] rfl (by (try simp only [List.map_toArray, List.map_cons, List.map_nil]); first | done | rfl | (simp only [List.length_drop, List.length_take]; rfl)) ?_; (with_reducible refine (impl_ybig.calls k _ _ y102 true _ ?side1 ?side2 A4.out).mono ?_); (case side1 => repeat (first | exact (Kd.R_reads' HO104.out).2.2 | (with_reducible refine Kd.C_alloc ?_ _) | (with_reducible refine Kd.C_drewN ?_ _) | (with_reducible refine Kd.C_drew ?_))); (case side2 => exact (Kd.R_reads' HO104.out).2.1); rintro e w' ⟨rfl, ⟨nd, rfl⟩⟩; refine ⟨_, rfl, ?_⟩))
    go_ret
    exact ⟨by first | rfl | (simp [errW_none, errW_some] <;> rfl) | (simp [*, errW_none, errW_some] <;> rfl), by repeat (first | (with_reducible first | exact HB.out | apply below_alloc | apply pw_below_drewN | apply below_drew1) | exact HB.out)⟩
  · replace c5 := Bool.eq_false_iff.mpr c5
    subst c5
    have H1 : (if a1 < 0 then (some (⟨#[]⟩ : ByteArray)) else (if a1 ≥ 524288 then (some (⟨#[]⟩ : ByteArray)) else ((impl_yputBit.f a0 a1 a2).bind fun t106 => (some t106)))) = some r := by rw [if_neg (show ¬ (false = true) by decide)] at H; exact H
    clear H
    have H := H1
    clear H1
    by_cases c9 : a1 < 0
    · rw [if_pos c9] at H
      have c9b0 : decide (a1 < 0) = true := decide_eq_true c9
      clear c9
      obtain rfl := Option.some.inj H
      go_enter Try.func13, Try.ntmps13
      go_wp2_with (first | ((with_reducible refine gate_dst (N := 8) rfl ?_); refine Kd.R_lit Kd.string _ 9 ?hg (N := 8) ?hd (xs := ([a0] : List ByteArray)) (inner := [.string a0]) (ok := fun _ => True) (okp := fun _ => True) ?hr ?hp (fun _ hk => hk) trivial (Below.refl _ _) (Nat.le_refl _) (by simp) ?_; (case hd => rfl); (case hg => rfl); (case hr => first | (go_simp; done) | (go_simp; rfl)); (case hp => exact (Reps.one (show Kd.M Kd.string _ _ _ a0 [.string a0] from rfl) (Reps.none _ _))); intro v103 w10 ho11 hb hg_ hnew_; clear hg_ hnew_; (first | rw [← Ny102.out] at ho11 | (simp only [Int.reduceToNat] at ho11; rw [← Ny102.out] at ho11)); have n0_ := Aside0.mk (Kd.R_lower ho11 (below_size (by repeat (first | (with_reducible first | exact HB.out | apply below_alloc | apply pw_below_drewN | apply below_drew1) | exact HB.out)))); have n1_ := Aside0.mk (below_step (by repeat (first | (with_reducible first | exact HB.out | apply below_alloc | apply pw_below_drewN | apply below_drew1) | exact HB.out)) hb); clear HB; have HO104 := n0_; have HB := n1_; clear n0_ n1_; clear hb ho11; obtain ⟨Ao12, co12, eo12⟩ := Kd.R_slice HO104.out; subst eo12) | ((with_reducible refine gate_callee (f := 34) rfl ?_); refine goesL_ (some 9) rfl rfl Try.func34 (by kernel_rfl) rfl #[.slice Ao12 y102.length co12] rfl (by (try simp only [List.map_toArray, List.map_cons, List.map_nil]); first | done | rfl | (simp only [List.length_drop, List.length_take]; rfl)) ?_; (with_reducible refine (impl_ybig.calls k _ _ y102 false _ ?side1 ?side2 A4.out).mono ?_); (case side1 => repeat (first | exact (Kd.R_reads' HO104.out).2.2 | (with_reducible refine Kd.C_alloc ?_ _) | (with_reducible refine Kd.C_drewN ?_ _) | (with_reducible refine Kd.C_drew ?_))); (case side2 => exact (Kd.R_reads' HO104.out).2.1); rintro e w' ⟨rfl, ⟨nd, rfl⟩⟩; refine ⟨_, rfl, ?_⟩))
      go_ret
      exact ⟨by first | rfl | (simp [errW_none, errW_some] <;> rfl) | (simp [*, errW_none, errW_some] <;> rfl), by repeat (first | (with_reducible first | exact HB.out | apply below_alloc | apply pw_below_drewN | apply below_drew1) | exact HB.out)⟩
    · rw [if_neg c9] at H
      have c9b0 : decide (a1 < 0) = false := decide_eq_false c9
      clear c9
      by_cases c13 : a1 ≥ 524288
      · rw [if_pos c13] at H
        have c13b0 : decide (524288 ≤ a1) = true := decide_eq_true c13
        clear c13
        obtain rfl := Option.some.inj H
        go_enter Try.func13, Try.ntmps13
        go_wp2_with (first | ((with_reducible refine gate_dst (N := 8) rfl ?_); refine Kd.R_lit Kd.string _ 9 ?hg (N := 8) ?hd (xs := ([a0] : List ByteArray)) (inner := [.string a0]) (ok := fun _ => True) (okp := fun _ => True) ?hr ?hp (fun _ hk => hk) trivial (Below.refl _ _) (Nat.le_refl _) (by simp) ?_; (case hd => rfl); (case hg => rfl); (case hr => first | (go_simp; done) | (go_simp; rfl)); (case hp => exact (Reps.one (show Kd.M Kd.string _ _ _ a0 [.string a0] from rfl) (Reps.none _ _))); intro v103 w14 ho15 hb hg_ hnew_; clear hg_ hnew_; (first | rw [← Ny102.out] at ho15 | (simp only [Int.reduceToNat] at ho15; rw [← Ny102.out] at ho15)); have n0_ := Aside0.mk (Kd.R_lower ho15 (below_size (by repeat (first | (with_reducible first | exact HB.out | apply below_alloc | apply pw_below_drewN | apply below_drew1) | exact HB.out)))); have n1_ := Aside0.mk (below_step (by repeat (first | (with_reducible first | exact HB.out | apply below_alloc | apply pw_below_drewN | apply below_drew1) | exact HB.out)) hb); clear HB; have HO104 := n0_; have HB := n1_; clear n0_ n1_; clear hb ho15; obtain ⟨Ao16, co16, eo16⟩ := Kd.R_slice HO104.out; subst eo16) | ((with_reducible refine gate_callee (f := 34) rfl ?_); refine goesL_ (some 9) rfl rfl Try.func34 (by kernel_rfl) rfl #[.slice Ao16 y102.length co16] rfl (by (try simp only [List.map_toArray, List.map_cons, List.map_nil]); first | done | rfl | (simp only [List.length_drop, List.length_take]; rfl)) ?_; (with_reducible refine (impl_ybig.calls k _ _ y102 false _ ?side1 ?side2 A4.out).mono ?_); (case side1 => repeat (first | exact (Kd.R_reads' HO104.out).2.2 | (with_reducible refine Kd.C_alloc ?_ _) | (with_reducible refine Kd.C_drewN ?_ _) | (with_reducible refine Kd.C_drew ?_))); (case side2 => exact (Kd.R_reads' HO104.out).2.1); rintro e w' ⟨rfl, ⟨nd, rfl⟩⟩; refine ⟨_, rfl, ?_⟩))
        go_ret
        exact ⟨by first | rfl | (simp [errW_none, errW_some] <;> rfl) | (simp [*, errW_none, errW_some] <;> rfl), by repeat (first | (with_reducible first | exact HB.out | apply below_alloc | apply pw_below_drewN | apply below_drew1) | exact HB.out)⟩
      · rw [if_neg c13] at H
        have c13b0 : decide (524288 ≤ a1) = false := decide_eq_false c13
        clear c13
        replace H := Option.bind_eq_some_iff.mp H
        obtain ⟨t106, A170, H⟩ := H
        replace H : (some t106) = some r := H
        have A17 := Aside0.mk A170
        clear A170
        obtain rfl := Option.some.inj H
        go_enter Try.func13, Try.ntmps13
        go_wp2_with (first | ((with_reducible refine gate_dst (N := 8) rfl ?_); refine Kd.R_lit Kd.string _ 9 ?hg (N := 8) ?hd (xs := ([a0] : List ByteArray)) (inner := [.string a0]) (ok := fun _ => True) (okp := fun _ => True) ?hr ?hp (fun _ hk => hk) trivial (Below.refl _ _) (Nat.le_refl _) (by simp) ?_; (case hd => rfl); (case hg => rfl); (case hr => first | (go_simp; done) | (go_simp; rfl)); (case hp => exact (Reps.one (show Kd.M Kd.string _ _ _ a0 [.string a0] from rfl) (Reps.none _ _))); intro v103 w18 ho19 hb hg_ hnew_; clear hg_ hnew_; (first | rw [← Ny102.out] at ho19 | (simp only [Int.reduceToNat] at ho19; rw [← Ny102.out] at ho19)); have n0_ := Aside0.mk (Kd.R_lower ho19 (below_size (by repeat (first | (with_reducible first | exact HB.out | apply below_alloc | apply pw_below_drewN | apply below_drew1) | exact HB.out)))); have n1_ := Aside0.mk (below_step (by repeat (first | (with_reducible first | exact HB.out | apply below_alloc | apply pw_below_drewN | apply below_drew1) | exact HB.out)) hb); clear HB; have HO104 := n0_; have HB := n1_; clear n0_ n1_; clear hb ho19; obtain ⟨Ao20, co20, eo20⟩ := Kd.R_slice HO104.out; subst eo20) | ((with_reducible refine gate_callee (f := 34) rfl ?_); refine goesL_ (some 9) rfl rfl Try.func34 (by kernel_rfl) rfl #[.slice Ao20 y102.length co20] rfl (by (try simp only [List.map_toArray, List.map_cons, List.map_nil]); first | done | rfl | (simp only [List.length_drop, List.length_take]; rfl)) ?_; (with_reducible refine (impl_ybig.calls k _ _ y102 false _ ?side1 ?side2 A4.out).mono ?_); (case side1 => repeat (first | exact (Kd.R_reads' HO104.out).2.2 | (with_reducible refine Kd.C_alloc ?_ _) | (with_reducible refine Kd.C_drewN ?_ _) | (with_reducible refine Kd.C_drew ?_))); (case side2 => exact (Kd.R_reads' HO104.out).2.1); rintro e w' ⟨rfl, ⟨nd, rfl⟩⟩; refine ⟨_, rfl, ?_⟩) | ((with_reducible refine gate_callee (f := 35) rfl ?_); refine goesL_ (some 21) rfl rfl Try.func35 (by kernel_rfl) rfl #[.string a0, .int .i64 a1, .bool a2] rfl (by (try simp only [List.map_toArray, List.map_cons, List.map_nil]); first | done | rfl | (simp only [List.length_drop, List.length_take]; rfl)) ?_; (with_reducible refine (impl_yputBit.calls a0 a1 a2 t106 _ A17.out).mono ?_); rintro e w21 ⟨rfl, hb⟩; refine ⟨_, rfl, ?_⟩; have n0_ := Aside0.mk (Kd.R_below (by (with_reducible repeat (first | apply Kd.R_alloc | apply Kd.R_drewN | apply Kd.R_drew)); exact HO104.out) hb); have n1_ := Aside0.mk (below_step (by repeat (first | (with_reducible first | exact HB.out | apply below_alloc | apply pw_below_drewN | apply below_drew1) | exact HB.out)) hb); clear HO104; clear HB; have HO104 := n0_; have HB := n1_; clear n0_ n1_; (try clear hb); (try clear hb2); (try clear hk); (try clear hi)))
        go_ret
        exact ⟨by first | rfl | (simp [errW_none, errW_some] <;> rfl) | (simp [*, errW_none, errW_some] <;> rfl), by repeat (first | (with_reducible first | exact HB.out | apply below_alloc | apply pw_below_drewN | apply below_drew1) | exact HB.out)⟩

/-- A state of type 90 at block g of W; what its slices lead to came in by w0. -/
def IsS90 (w0 W : World) (g : Nat) (f0 : List Int) (f1 : Int) (f2 : Int) (f3 : Int) : Prop := ∃ A0 c0, W.heap[g]? = some (.cells #[.slice A0 f0.length c0, .int .i64 f1, .int .u64 f2, .int .i64 f3] 90 (0, 0)) ∧ w0.heap.size ≤ g ∧ Kd.C (Kd.int .u8) w0 A0 f0.length f0
theorem IsS90.grown {w0 W : World} {g : Nat} {f0 : List Int} {f1 : Int} {f2 : Int} {f3 : Int} {W1 : World} {row : Option Nat} (h : IsS90 w0 W g f0 f1 f2 f3) (hw : W.grownBy W1 row) (hne : some g ≠ row) : IsS90 w0 W1 g f0 f1 f2 f3 := by
  obtain ⟨A0, c0, hb, hg, hr0⟩ := h
  exact ⟨A0, c0, blk_grown hb hw hne, hg, hr0⟩
theorem IsS90.own_neN {w0 W : World} {g : Nat} {f0 : List Int} {f1 : Int} {f2 : Int} {f3 : Int} {α : Type} {d : Kd α} {e : Nat} {base : Nat} {ok : Nat → Prop} {v : Value} {xs : List α} (h : IsS90 w0 W g f0 f1 f2 f3) (ho : Kd.N d e W base ok v xs) (ht : e ≠ 90) : some g ≠ v.ownBlock := by
  obtain ⟨A0, c0, hb, hg, hr0⟩ := h
  exact Kd.N_ne ho hb ht
theorem IsS90.fresh {w0 W : World} {g : Nat} {f0 : List Int} {f1 : Int} {f2 : Int} {f3 : Int} (h : IsS90 w0 W g f0 f1 f2 f3) : ∀ k, W.heap.size ≤ k → k ≠ g := by
  obtain ⟨A0, c0, hb, hg, hr0⟩ := h
  exact Kd.freshB hb
theorem IsS90.kept {w0 W : World} {g : Nat} {f0 : List Int} {f1 : Int} {f2 : Int} {f3 : Int} {W1 : World} {S : Nat → Prop} (h : IsS90 w0 W g f0 f1 f2 f3) (hk : Kept W W1 S) (hne : ¬ S g) : IsS90 w0 W1 g f0 f1 f2 f3 := by
  obtain ⟨A0, c0, hb, hg, hr0⟩ := h
  exact ⟨A0, c0, blk_kept hb hk hne, hg, hr0⟩
theorem IsS90.below {w0 W : World} {g : Nat} {f0 : List Int} {f1 : Int} {f2 : Int} {f3 : Int} {W1 : World} (h : IsS90 w0 W g f0 f1 f2 f3) (hw : Below W.heap.size W W1) : IsS90 w0 W1 g f0 f1 f2 f3 := h.grown (grown_of_below hw none) (by simp)
theorem IsS90.alloc {w0 W : World} {g : Nat} {f0 : List Int} {f1 : Int} {f2 : Int} {f3 : Int} (h : IsS90 w0 W g f0 f1 f2 f3) (o : Obj) : IsS90 w0 (W.alloc o) g f0 f1 f2 f3 := h.below (below_alloc (Below.refl _ _) o)
theorem IsS90.drewN {w0 W : World} {g : Nat} {f0 : List Int} {f1 : Int} {f2 : Int} {f3 : Int} (h : IsS90 w0 W g f0 f1 f2 f3) (m : Nat) : IsS90 w0 (W.drewN m) g f0 f1 f2 f3 := h
theorem IsS90.drew {w0 W : World} {g : Nat} {f0 : List Int} {f1 : Int} {f2 : Int} {f3 : Int} (h : IsS90 w0 W g f0 f1 f2 f3) : IsS90 w0 W.drew g f0 f1 f2 f3 := h
theorem IsS90.at_ {w0 W : World} {g : Nat} {f0 : List Int} {f1 : Int} {f2 : Int} {f3 : Int} {w' : World} {m : Nat} (hq : W.drewN m = w') (h : IsS90 w0 W g f0 f1 f2 f3) : IsS90 w0 w' g f0 f1 f2 f3 := by subst hq; exact IsS90.drewN h m
theorem IsS90.apart {w0 W : World} {g : Nat} {f0 : List Int} {f1 : Int} {f2 : Int} {f3 : Int} {α : Type} {d : Kd α} {e : Nat} {base : Nat} {ok : Nat → Prop} {v : Value} {xs : List α} (h : IsS90 w0 W g f0 f1 f2 f3) (ho : d.R e W base ok v xs) (ht : ∀ q, q ∈ e :: d.E → q ≠ 90) : d.R e W base (fun k => ok k ∧ k ≠ g) v xs := by
  obtain ⟨A0, c0, hb, hg, hr0⟩ := h
  exact Kd.R_types ho hb ht
theorem IsS90.own_ne {w0 W : World} {g : Nat} {f0 : List Int} {f1 : Int} {f2 : Int} {f3 : Int} {α : Type} {d : Kd α} {e : Nat} {base : Nat} {ok : Nat → Prop} {v : Value} {xs : List α} (h : IsS90 w0 W g f0 f1 f2 f3) (ho : d.R e W base ok v xs) (ht : e ≠ 90) : some g ≠ v.ownBlock := by
  obtain ⟨A0, c0, hb, hg, hr0⟩ := h
  exact Kd.R_ne ho hb ht
theorem IsS90.apartQ {w0 W : World} {g : Nat} {f0 : List Int} {f1 : Int} {f2 : Int} {f3 : Int} {α : Type} {d : Kd α} {e : Nat} {base : Nat} {ok : Nat → Prop} {v : Value} {xs : List α} (h : IsS90 w0 W g f0 f1 f2 f3) (ho : d.Q e W base ok v xs) (ht : ∀ q, q ∈ e :: d.E → q ≠ 90) : d.Q e W base (fun k => ok k ∧ k ≠ g) v xs := by
  obtain ⟨A0, c0, hb, hg, hr0⟩ := h
  exact Kd.Q_types ho hb ht
theorem IsS90.own_neQ {w0 W : World} {g : Nat} {f0 : List Int} {f1 : Int} {f2 : Int} {f3 : Int} {α : Type} {d : Kd α} {e : Nat} {base : Nat} {ok : Nat → Prop} {v : Value} {xs : List α} (h : IsS90 w0 W g f0 f1 f2 f3) (ho : d.Q e W base ok v xs) (ht : e ≠ 90) : some g ≠ v.ownBlock := by
  obtain ⟨A0, c0, hb, hg, hr0⟩ := h
  exact Kd.Q_ne ho hb ht
theorem IsS90.apartS {w0 W : World} {g : Nat} {f0 : List Int} {f1 : Int} {f2 : Int} {f3 : Int} {α : Type} {d : Kd α} {e : Nat} {base : Nat} {ok : Nat → Prop} {v : Value} {xs : List α} (h : IsS90 w0 W g f0 f1 f2 f3) (ho : d.S e W base ok v xs) (ht : ∀ q, q ∈ e :: d.E → q ≠ 90) : d.S e W base (fun k => ok k ∧ k ≠ g) v xs := by
  obtain ⟨A0, c0, hb, hg, hr0⟩ := h
  exact Kd.S_types ho hb ht
theorem IsS90.own_neS {w0 W : World} {g : Nat} {f0 : List Int} {f1 : Int} {f2 : Int} {f3 : Int} {α : Type} {d : Kd α} {e : Nat} {base : Nat} {ok : Nat → Prop} {v : Value} {xs : List α} (h : IsS90 w0 W g f0 f1 f2 f3) (ho : d.S e W base ok v xs) (ht : e ≠ 90) : some g ≠ v.ownBlock := by
  obtain ⟨A0, c0, hb, hg, hr0⟩ := h
  exact Kd.S_ne ho hb ht
theorem IsS90.lt {w0 W : World} {g : Nat} {f0 : List Int} {f1 : Int} {f2 : Int} {f3 : Int} (h : IsS90 w0 W g f0 f1 f2 f3) : g < W.heap.size := by
  obtain ⟨A0, c0, hb, hg, hr0⟩ := h
  exact blk_lt hb
theorem IsS90.ge {w0 W : World} {g : Nat} {f0 : List Int} {f1 : Int} {f2 : Int} {f3 : Int} (h : IsS90 w0 W g f0 f1 f2 f3) : w0.heap.size ≤ g := by
  obtain ⟨A0, c0, hb, hg, hr0⟩ := h
  exact hg
theorem IsS90.ne_blk {w0 W : World} {g : Nat} {f0 : List Int} {f1 : Int} {f2 : Int} {f3 : Int} {a : Nat} {cs : Array Value} {t : TypeId} {fr : Nat × Nat} (h : IsS90 w0 W g f0 f1 f2 f3) (hb2 : W.heap[a]? = some (.cells cs t fr)) (ht : t ≠ 90) : g ≠ a := by
  obtain ⟨A0, c0, hb, hg, hr0⟩ := h
  rintro rfl
  rw [hb] at hb2
  injection hb2 with hb2
  injection hb2 with _ ht2
  exact ht ht2.symm
theorem IsS90.far {w0 W : World} {g : Nat} {f0 : List Int} {f1 : Int} {f2 : Int} {f3 : Int} {p : Addr} (h : IsS90 w0 W g f0 f1 f2 f3) (hne : g ≠ p.block) (u : Value) : IsS90 w0 (W.setCell p u) g f0 f1 f2 f3 := by
  obtain ⟨A0, c0, hb, hg, hr0⟩ := h
  exact ⟨A0, c0, blk_far hb hne u, hg, hr0⟩
theorem cellS90_0 {W : World} {g : Nat} {A0 : Option Addr} {c0 : Nat} {f0 : List Int} {f1 : Int} {f2 : Int} {f3 : Int} (h : W.heap[g]? = some (.cells #[.slice A0 f0.length c0, .int .i64 f1, .int .u64 f2, .int .i64 f3] 90 (0, 0))) : W.cell? ⟨g, 0, none⟩ = some (.slice A0 f0.length c0) := (blk_cell h 0).trans rfl
theorem cellS90_1 {W : World} {g : Nat} {A0 : Option Addr} {c0 : Nat} {f0 : List Int} {f1 : Int} {f2 : Int} {f3 : Int} (h : W.heap[g]? = some (.cells #[.slice A0 f0.length c0, .int .i64 f1, .int .u64 f2, .int .i64 f3] 90 (0, 0))) : W.cell? ⟨g, 1, none⟩ = some (.int .i64 f1) := (blk_cell h 1).trans rfl
theorem IsS90.set_1 {w0 W : World} {g : Nat} {f0 : List Int} {f1 : Int} {f2 : Int} {f3 : Int} (h : IsS90 w0 W g f0 f1 f2 f3) (x : Int) : IsS90 w0 (W.setCell ⟨g, 1, none⟩ (.int .i64 x)) g f0 x f2 f3 := by
  obtain ⟨A0, c0, hb, hg, hr0⟩ := h
  exact ⟨A0, c0, by simpa using blk_set hb 1 (.int .i64 x), hg, hr0⟩
theorem cellS90_2 {W : World} {g : Nat} {A0 : Option Addr} {c0 : Nat} {f0 : List Int} {f1 : Int} {f2 : Int} {f3 : Int} (h : W.heap[g]? = some (.cells #[.slice A0 f0.length c0, .int .i64 f1, .int .u64 f2, .int .i64 f3] 90 (0, 0))) : W.cell? ⟨g, 2, none⟩ = some (.int .u64 f2) := (blk_cell h 2).trans rfl
theorem IsS90.set_2 {w0 W : World} {g : Nat} {f0 : List Int} {f1 : Int} {f2 : Int} {f3 : Int} (h : IsS90 w0 W g f0 f1 f2 f3) (x : Int) : IsS90 w0 (W.setCell ⟨g, 2, none⟩ (.int .u64 x)) g f0 f1 x f3 := by
  obtain ⟨A0, c0, hb, hg, hr0⟩ := h
  exact ⟨A0, c0, by simpa using blk_set hb 2 (.int .u64 x), hg, hr0⟩
theorem cellS90_3 {W : World} {g : Nat} {A0 : Option Addr} {c0 : Nat} {f0 : List Int} {f1 : Int} {f2 : Int} {f3 : Int} (h : W.heap[g]? = some (.cells #[.slice A0 f0.length c0, .int .i64 f1, .int .u64 f2, .int .i64 f3] 90 (0, 0))) : W.cell? ⟨g, 3, none⟩ = some (.int .i64 f3) := (blk_cell h 3).trans rfl
theorem IsS90.set_3 {w0 W : World} {g : Nat} {f0 : List Int} {f1 : Int} {f2 : Int} {f3 : Int} (h : IsS90 w0 W g f0 f1 f2 f3) (x : Int) : IsS90 w0 (W.setCell ⟨g, 3, none⟩ (.int .i64 x)) g f0 f1 f2 x := by
  obtain ⟨A0, c0, hb, hg, hr0⟩ := h
  exact ⟨A0, c0, by simpa using blk_set hb 3 (.int .i64 x), hg, hr0⟩
theorem IsS90.new (w0 W : World) (A0 : Option Addr) (c0 : Nat) (f0 : List Int) (f1 : Int) (f2 : Int) (f3 : Int) (hB : Below w0.heap.size w0 W) (hr0 : Kd.C (Kd.int .u8) w0 A0 f0.length f0) : IsS90 w0 (W.alloc (.cells #[.slice A0 f0.length c0, .int .i64 f1, .int .u64 f2, .int .i64 f3] 90)) W.heap.size f0 f1 f2 f3 := ⟨A0, c0, by simpa using heap_alloc_new W _, hB.size, hr0⟩

/-! ### spec_l01Source: function 38 -/
def srcStep (m b : Int) : Int := IntKind.u64.wrap (Go.bits .xor .u64 m (IntKind.u64.wrap b) * 1099511628211)
def srcSeed (l : List Int) : Nat → Int
  | 0 => 88172645463325252
  | n + 1 => srcStep (srcSeed l n) (rd l n)
def spec_l01Source.f (l0 : List Int) : Option (List Int × Int × Int × Int) := some (l0, 0, srcSeed l0 (min l0.length 64), min (l0.length : Int) 12)
set_option maxHeartbeats 4000000 in
set_option maxRecDepth 100000 in
theorem spec_l01Source.calls (A0 : Option Addr) (c0 : Nat) (l0 : List Int) (r1 : List Int) (r2 : Int) (r3 : Int) (r4 : Int) (w0 w : World) (hB : Below w0.heap.size w0 w) (hr0 : Kd.C (Kd.int .u8) w0 A0 l0.length l0) (hc0 : l0.length ≤ c0) (h : spec_l01Source.f l0 = some (r1, r2, r3, r4)) :
    Calls Try.prog 38 #[.slice A0 l0.length c0] w fun e w' => ∃ g_ : Nat, e = .returned (.pointer (some ⟨g_, 0, none⟩)) ∧ IsS90 w0 w' g_ r1 r2 r3 r4 ∧ Below w0.heap.size w0 w' ∧ Below w.heap.size w w' := by
  unfold spec_l01Source.f at h
  simp only [Option.some.injEq, Prod.mk.injEq] at h
  obtain ⟨rfl, rfl, rfl, rfl⟩ := h
  have HR := Aside0.mk hr0
  have HB0 := Aside0.mk hB
  have hmx := hr0.2.1
  clear hr0 hB
  have hge : Aside0 (w0.heap.size ≤ w.heap.size) := ⟨HB0.out.size⟩
  go_enter Try.func38, Try.ntmps38
  go_wp2
  go_loopg [4] l0.length (fun gq v4 wr => ∃ j : Nat, v4 = .int .i64 j ∧ Aside0 (j ≤ l0.length) ∧ Aside0 (j ≤ 64) ∧ Aside0 (l0.length - j ≤ gq) ∧ Aside0 (wr.heap[w.heap.size]? = some (.cells #[.slice A0 l0.length c0, .int .i64 0, .int .u64 (srcSeed l0 j), .int .i64 0] 90 (0, 0))) ∧ Aside0 (Below w.heap.size w wr))
  case atStart => exact ⟨0, rfl, ⟨Nat.zero_le _⟩, ⟨Nat.zero_le _⟩, ⟨by omega⟩, ⟨blk_new _ _⟩, ⟨below_alloc (Below.refl _ _) _⟩⟩
  case round =>
    obtain ⟨j, rfl, hj, hj64, hg, BK, HB⟩ := hrel
    by_cases c1 : j < l0.length
    · by_cases c2 : j < 64
      · have c1b : decide (j < l0.length) = true := decide_eq_true c1
        have c1c : ((j : Int) < (l0.length : Int)) := by omega
        have c2b : decide (j < 64) = true := decide_eq_true c2
        have c2c : decide ((j : Int) < 64) = true := decide_eq_true (by omega)
        obtain ⟨ad, e_, hx⟩ := Kd.at_int HR.out (j : Int) (by omega) (by omega)
        cases e_
        replace hx := pw_cell_below HB.out (pw_cell_below HB0.out hx)
        rw [Int.toNat_natCast] at hx
        have hm : wr.cell? ⟨w.heap.size, 2, none⟩ = some (.int .u64 (srcSeed l0 j)) := (blk_cell BK.out 2).trans rfl
        have hf : wr.frozen? ⟨w.heap.size, 2, none⟩ = false := blk_frozen BK.out 2
        obtain ⟨m, hmm⟩ : ∃ m, srcSeed l0 j = m := ⟨_, rfl⟩
        obtain ⟨x, hxx⟩ : ∃ x, rd l0 j = x := ⟨_, rfl⟩
        have HM := Aside0.mk hmm
        have HX := Aside0.mk hxx
        rw [hmm] at hm
        rw [hxx] at hx
        have hj1 : ((j : Int) + 1) = ((j + 1 : Nat) : Int) := by omega
        clear hmm hxx
        have HJ1 := Aside0.mk hj1
        clear hj1
        go_wp2
        go_region
        go_wp2
        go_roundg (l0.length - (j + 1))
        case measure => have := hg.out; omega
        case rel =>
          refine ⟨j + 1, by first | rfl | (rw [← HJ1.out]), ⟨c1⟩, ⟨by omega⟩, ⟨by omega⟩, ⟨?_⟩, ⟨?_⟩⟩
          · rw [show srcSeed l0 (j + 1) = srcStep m x from by simp only [srcSeed]; rw [HM.out, HX.out]]
            have hs := blk_set BK.out 2 (.int .u64 (srcStep m x))
            exact blk_drew (by simpa [srcStep] using hs)
          · repeat (first | (with_reducible first | exact HB.out | apply below_drew1) | refine below_set ?_ (Nat.le_refl _))
      · have c1b : decide (j < l0.length) = true := decide_eq_true c1
        have c2b : decide (j < 64) = false := decide_eq_false c2
        have c2c : decide ((j : Int) < 64) = false := decide_eq_false (by omega)
        have hjj : j = min l0.length 64 := by have := hj64.out; omega
        have HJ := Aside0.mk hjj
        clear hjj
        have c12 : decide (12 < l0.length) = true := decide_eq_true (by have := hj64.out; omega)
        have c12b : decide (12 < (l0.length : Int)) = true := decide_eq_true (by have := hj64.out; omega)
        have c12c := Aside0.mk (show 12 ≤ l0.length by have := hj64.out; omega)
        have hm : wr.cell? ⟨w.heap.size, 3, none⟩ = some (.int .i64 0) := (blk_cell BK.out 3).trans rfl
        have hf : wr.frozen? ⟨w.heap.size, 3, none⟩ = false := blk_frozen BK.out 3
        have h1 : (wr.setCell ⟨w.heap.size, 3, none⟩ (.int .i64 l0.length)).cell? ⟨w.heap.size, 3, none⟩ = some (.int .i64 l0.length) := World.cell?_setCell_same _ _ _ hm
        go_wp2
        go_ret
        refine ⟨w.heap.size, rfl, ⟨A0, c0, ?_, hge.out, HR.out⟩, ?_, ?_⟩
        · rw [← HJ.out, show min (l0.length : Int) 12 = 12 from by have := c12c.out; omega]
          have hs := blk_set (blk_set BK.out 3 (.int .i64 l0.length)) 3 (.int .i64 12)
          simpa using hs
        · repeat (first | (with_reducible first | exact HB0.out.trans (HB.out.mono hge.out)) | refine below_set ?_ hge.out)
        · repeat (first | (with_reducible first | exact HB.out) | refine below_set ?_ (Nat.le_refl _))
    · have c1b : decide (j < l0.length) = false := decide_eq_false c1
      have c1c : ¬ ((j : Int) < (l0.length : Int)) := by omega
      have hjj : j = min l0.length 64 := by have := hj.out; have := hj64.out; omega
      have HJ := Aside0.mk hjj
      clear hjj
      have hm : wr.cell? ⟨w.heap.size, 3, none⟩ = some (.int .i64 0) := (blk_cell BK.out 3).trans rfl
      have hf : wr.frozen? ⟨w.heap.size, 3, none⟩ = false := blk_frozen BK.out 3
      have h1 : (wr.setCell ⟨w.heap.size, 3, none⟩ (.int .i64 l0.length)).cell? ⟨w.heap.size, 3, none⟩ = some (.int .i64 l0.length) := World.cell?_setCell_same _ _ _ hm
      by_cases c3 : 12 < l0.length
      · have c12 : decide (12 < l0.length) = true := decide_eq_true c3
        have c12b : decide (12 < (l0.length : Int)) = true := decide_eq_true (by omega)
        have c12c := Aside0.mk (show 12 ≤ l0.length by omega)
        go_wp2
        go_ret
        refine ⟨w.heap.size, rfl, ⟨A0, c0, ?_, hge.out, HR.out⟩, ?_, ?_⟩
        · rw [← HJ.out, show min (l0.length : Int) 12 = 12 from by have := c12c.out; omega]
          have hs := blk_set (blk_set BK.out 3 (.int .i64 l0.length)) 3 (.int .i64 12)
          simpa using hs
        · repeat (first | (with_reducible first | exact HB0.out.trans (HB.out.mono hge.out)) | refine below_set ?_ hge.out)
        · repeat (first | (with_reducible first | exact HB.out) | refine below_set ?_ (Nat.le_refl _))
      · have c12 : decide (12 < l0.length) = false := decide_eq_false c3
        have c12b : decide (12 < (l0.length : Int)) = false := decide_eq_false (by omega)
        have c12c := Aside0.mk (show l0.length ≤ 12 by omega)
        go_wp2
        go_ret
        refine ⟨w.heap.size, rfl, ⟨A0, c0, ?_, hge.out, HR.out⟩, ?_, ?_⟩
        · rw [← HJ.out, show min (l0.length : Int) 12 = (l0.length : Int) from by have := c12c.out; omega]
          have hs := blk_set BK.out 3 (.int .i64 l0.length)
          simpa using hs
        · repeat (first | (with_reducible first | exact HB0.out.trans (HB.out.mono hge.out)) | refine below_set ?_ hge.out)
        · repeat (first | (with_reducible first | exact HB.out) | refine below_set ?_ (Nat.le_refl _))

end Go.Proofs.Ytcpbnhhpeljpjaa.QFnBitSets
