/- The program's StampOf returns what the reference's returns, for all arguments. Conditions: none. -/
import Derived.Test.YtofmibbadbmlfaaQFnExactStampOfx
import Derived.Test.YtofmibbadbmlfaaPl
set_option linter.unusedVariables false
set_option linter.unusedSimpArgs false
namespace Go.Proofs.Ytofmibbadbmlfaa.Pure
open Go.RowKit Go.Proofs.Ytofmibbadbmlfaa.QFnExactStampOf Go.Proofs.YtofmibbadbmlfaaW.PrintWords Go.Proofs.YtofmibbadbmlfaaW.PrintLast Go.Proofs.Ytofmibbadbmlfaa.Pl Go.Proofs.YtofmibbadbmlfaaW.PrintMore
/-- The days of a month, of a year; of the years and the months before. -/
def md (y m : Int) : Int := if m = 2 then (if y % 4 = 0 then 29 else 28) else rd monthTable (m - 1)
def yd (y : Int) : Int := if y % 4 = 0 then 366 else 365
def cumY (y : Int) : Int := 365 * (y - 2000) + (y - 2000 + 3) / 4
def cumM (y m : Int) : Int := if m ≤ 2 then (if m ≤ 1 then 0 else 31) else rd [0, 31, 59, 90, 120, 151, 181, 212, 243, 273, 304, 334, 365] (m - 1) + (if y % 4 = 0 then 1 else 0)
theorem cumY_succ (y : Int) : cumY (y + 1) = cumY y + yd y := by
  unfold cumY yd
  split <;> omega
theorem month_cases {m : Int} (h0 : 1 ≤ m) (h1 : m ≤ 12) : m = 1 ∨ m = 2 ∨ m = 3 ∨ m = 4 ∨ m = 5 ∨ m = 6 ∨ m = 7 ∨ m = 8 ∨ m = 9 ∨ m = 10 ∨ m = 11 ∨ m = 12 := by omega
theorem md_range (y m : Int) (h0 : 1 ≤ m) (h1 : m ≤ 12) : 28 ≤ md y m ∧ md y m ≤ 31 := by
  rcases month_cases h0 h1 with rfl | rfl | rfl | rfl | rfl | rfl | rfl | rfl | rfl | rfl | rfl | rfl <;> simp [md, rd, monthTable] <;> (try split) <;> omega
theorem cumM_succ (y m : Int) (h0 : 1 ≤ m) (h1 : m ≤ 12) : cumM y (m + 1) = cumM y m + md y m := by
  rcases month_cases h0 h1 with rfl | rfl | rfl | rfl | rfl | rfl | rfl | rfl | rfl | rfl | rfl | rfl <;> simp [cumM, md, rd, monthTable] <;> (try split) <;> omega
theorem cumM_end (y : Int) : cumM y 13 = yd y := by
  simp [cumM, yd, rd]; split <;> omega
theorem cumM_one (y : Int) : cumM y 1 = 0 := by simp [cumM]
theorem tmod4 (y : Int) (h : 0 ≤ y) : (Int.tmod y 4 == 0) = decide (y % 4 = 0) := by rw [tmod_nn h]; rfl
theorem impl_ymonthDays_eq (y m : Int) (hy : 0 ≤ y) (h0 : 1 ≤ m) (h1 : m ≤ 12) : impl_ymonthDays.f y m = some (md y m) := by
  unfold impl_ymonthDays.f md
  rw [if_pos ⟨h0, h1⟩, tmod4 y hy]
  by_cases h2 : m = 2
  · rw [if_pos h2, if_pos h2]
    by_cases h4 : y % 4 = 0
    · rw [if_pos (by simp [h4]), if_pos h4]
    · rw [if_neg (by simp [h4]), if_neg h4]
  · rw [if_neg h2, if_neg h2]
theorem spec_l09Days_eq (y m : Int) (hy : 0 ≤ y) (h0 : 1 ≤ m) (h1 : m ≤ 12) : spec_l09Days.f y m = some (md y m) := by
  unfold spec_l09Days.f spec_l09Leap.f md
  rw [tmod4 y hy]
  simp only [Option.bind_some]
  have hw : wrap64 (m - 1) = m - 1 := w64 (by omega) (by omega)
  by_cases h2 : m = 2
  · rw [if_pos h2, if_pos h2]
    by_cases h4 : y % 4 = 0
    · rw [if_pos (by simp [h4]), if_pos h4]
    · rw [if_neg (by simp [h4]), if_neg h4, hw, if_pos (by omega), if_pos (by simp only [List.length_cons, List.length_nil]; omega), h2]; rfl
  · rw [if_neg h2, if_neg h2, hw, if_pos (by omega), if_pos (by simp only [List.length_cons, List.length_nil]; omega)]; rfl
theorem impl_yyearDays_eq (y : Int) (hy : 0 ≤ y) : impl_yyearDays.f y = some (yd y) := by
  unfold impl_yyearDays.f impl_yleap.f yd
  rw [tmod4 y hy]
  simp only [Option.bind_some]
  by_cases h4 : y % 4 = 0
  · rw [if_pos (by simp [h4]), if_pos h4]
  · rw [if_neg (by simp [h4]), if_neg h4]
/-- What a time's day is: the result of both, and that it counts back. -/
def StampIs (y0 day sec : Int) (r : Int × Int × Int × Int) : Prop :=
  y0 ≤ r.1 ∧ 1 ≤ r.2.1 ∧ r.2.1 ≤ 12 ∧ 1 ≤ r.2.2.1 ∧ r.2.2.1 ≤ md r.1 r.2.1 ∧ r.2.2.2 = sec ∧ (r.2.2.1 - 1) + cumY r.1 + cumM r.1 r.2.1 = day + cumY y0
theorem stamp_month (y sec : Int) (hy : 0 ≤ y) (hy1 : y ≤ 4611686018427387904) (d : Nat) : ∀ (m day : Int), 1 ≤ m → m ≤ 12 → 12 - m = d → 0 ≤ day → day + cumM y m < yd y →
    ∃ r, (∀ z, Ev (fun k => spec_StampOf.l0 k day y m z sec) r) ∧ (∀ z, Ev (fun k => impl_StampOf.l1 k day y m z sec) r) ∧ StampIs y (day + cumM y m) sec r := by
  have stop : ∀ (m day : Int), 1 ≤ m → m ≤ 12 → 0 ≤ day → day < md y m → ∃ r, (∀ z, Ev (fun k => spec_StampOf.l0 k day y m z sec) r) ∧ (∀ z, Ev (fun k => impl_StampOf.l1 k day y m z sec) r) ∧ StampIs y (day + cumM y m) sec r := by
    intro m day h0 h1 hd hlt
    have hr := md_range y m h0 h1
    refine ⟨(y, m, day + 1, sec), fun z => Ev.step (f := fun _ => some (y, m, day + 1, sec)) (fun k => ?_) (Ev.now _), fun z => Ev.step (f := fun _ => some (y, m, day + 1, sec)) (fun k => ?_) (Ev.now _), ?_⟩
    · simp only [spec_StampOf.l0]
      rw [spec_l09Days_eq y m hy h0 h1]
      simp only [Option.bind_some]
      rw [if_neg (by omega), w64 (by omega) (by omega)]
    · simp only [impl_StampOf.l1]
      rw [impl_ymonthDays_eq y m hy h0 h1]
      simp only [Option.bind_some]
      rw [if_neg (by omega), w64 (by omega) (by omega)]
    · exact ⟨Int.le_refl _, h0, h1, show 1 ≤ day + 1 by omega, show day + 1 ≤ md y m by omega, rfl, show (day + 1 - 1) + cumY y + cumM y m = day + cumM y m + cumY y by omega⟩
  induction d with
  | zero =>
    intro m day h0 h1 hd h2 h3
    refine stop m day h0 h1 h2 ?_
    obtain rfl : m = 12 := by omega
    have := cumM_succ y 12 (by omega) (by omega)
    have h13 := cumM_end y
    rw [show (12:Int) + 1 = 13 from rfl] at this
    omega
  | succ d ih =>
    intro m day h0 h1 hd h2 h3
    by_cases hlt : day < md y m
    · exact stop m day h0 h1 h2 hlt
    · have hr := md_range y m h0 h1
      have hs := cumM_succ y m h0 h1
      have hyd : yd y ≤ 366 := by unfold yd; split <;> omega
      have hcm : -1 ≤ cumM y m := by
        unfold cumM; split
        · split <;> omega
        · have : ∀ n : Nat, n < 13 → 0 ≤ rd [0, 31, 59, 90, 120, 151, 181, 212, 243, 273, 304, 334, 365] (n : Int) := by decide
          obtain ⟨n, hn⟩ := Int.eq_ofNat_of_zero_le (show 0 ≤ m - 1 by omega)
          have := this n (by omega)
          rw [hn]
          split <;> omega
      obtain ⟨r, r1, r2, r3⟩ := ih (m + 1) (day - md y m) (by omega) (by omega) (by omega) (by omega) (by omega)
      refine ⟨r, fun z => Ev.step (fun k => ?_) (r1 z), fun z => Ev.step (fun k => ?_) (r2 z), ?_⟩
      · simp only [spec_StampOf.l0]
        rw [spec_l09Days_eq y m hy h0 h1]
        simp only [Option.bind_some]
        rw [if_pos (by omega), w64 (a := m + 1) (by omega) (by omega), if_neg (by omega), w64 (a := day - md y m) (by omega) (by omega)]
      · simp only [impl_StampOf.l1]
        rw [impl_ymonthDays_eq y m hy h0 h1]
        simp only [Option.bind_some]
        rw [if_pos (by omega), w64 (a := m + 1) (by omega) (by omega), w64 (a := day - md y m) (by omega) (by omega)]
      · rw [show day - md y m + cumM y (m + 1) = day + cumM y m from by omega] at r3
        exact r3
theorem spec_year (y sec : Int) (hy : 0 ≤ y) (hy1 : y ≤ 4611686018427387904) (r : Int × Int × Int × Int) (d : Nat) : ∀ (m day : Int), 1 ≤ m → m ≤ 12 → 12 - m = d → yd y ≤ day + cumM y m → day ≤ 4611686018427387904 → 0 ≤ day →
    (∀ z, Ev (fun k => spec_StampOf.l0 k (day + cumM y m - yd y) (y + 1) 1 z sec) r) → ∀ z, Ev (fun k => spec_StampOf.l0 k day y m z sec) r := by
  induction d with
  | zero =>
    intro m day h0 h1 hd h2 h3 h4 hr z
    obtain rfl : m = 12 := by omega
    have hs := cumM_succ y 12 (by omega) (by omega)
    have h13 := cumM_end y
    rw [show (12:Int) + 1 = 13 from rfl] at hs
    have hrg := md_range y 12 (by omega) (by omega)
    refine Ev.step (fun k => ?_) (hr z)
    simp only [spec_StampOf.l0]
    rw [spec_l09Days_eq y 12 hy (by omega) (by omega)]
    simp only [Option.bind_some]
    rw [if_pos (by omega), w64 (a := 12 + 1) (by omega) (by omega), if_pos (by omega), w64 (a := y + 1) (by omega) (by omega), w64 (a := day - md y 12) (by omega) (by omega)]
    congr 1
    omega
  | succ d ih =>
    intro m day h0 h1 hd h2 h3 h4 hr z
    have hs := cumM_succ y m h0 h1
    have hrg := md_range y m h0 h1
    have hle : cumM y (m + 1) ≤ yd y := by
      have : ∀ e : Nat, ∀ m : Int, 1 ≤ m → m ≤ 13 → 13 - m = e → cumM y m ≤ yd y := by
        intro e
        induction e with
        | zero =>
          intro m _ _ he
          obtain rfl : m = 13 := by omega
          rw [cumM_end]; exact Int.le_refl _
        | succ e ihe =>
          intro m a b he
          have := ihe (m + 1) (by omega) (by omega) (by omega)
          have g := cumM_succ y m a (by omega)
          have g2 := md_range y m a (by omega)
          omega
      exact this (13 - (m + 1)).toNat (m + 1) (by omega) (by omega) (by omega)
    have := ih (m + 1) (day - md y m) (by omega) (by omega) (by omega) (by omega) (by omega) (by omega) (by rw [show day - md y m + cumM y (m + 1) = day + cumM y m from by omega]; exact hr) z
    refine Ev.step (fun k => ?_) this
    simp only [spec_StampOf.l0]
    rw [spec_l09Days_eq y m hy h0 h1]
    simp only [Option.bind_some]
    rw [if_pos (by omega), w64 (a := m + 1) (by omega) (by omega), if_neg (by omega), w64 (a := day - md y m) (by omega) (by omega)]
theorem stamp_year (sec : Int) (d : Nat) : ∀ (y day : Int), 0 ≤ y → 0 ≤ day → day.toNat ≤ d → y + day ≤ 4611686018427387904 →
    ∃ r, (∀ z, Ev (fun k => spec_StampOf.l0 k day y 1 z sec) r) ∧ (∀ z, Ev (fun k => impl_StampOf.l0 k day y 1 z sec) r) ∧ StampIs y day sec r := by
  induction d with
  | zero =>
    intro y day hy hd hdd hb
    have hyd : 365 ≤ yd y := by unfold yd; split <;> omega
    obtain ⟨r, r1, r2, r3⟩ := stamp_month y sec hy (by omega) 11 1 day (by omega) (by omega) (by omega) hd (by rw [cumM_one]; omega)
    rw [cumM_one, Int.add_zero] at r3
    refine ⟨r, r1, fun z => Ev.step (fun k => ?_) (r2 z), r3⟩
    simp only [impl_StampOf.l0]
    rw [impl_yyearDays_eq y hy]
    simp only [Option.bind_some]
    rw [if_neg (by omega)]
  | succ d ih =>
    intro y day hy hd hdd hb
    have hyd : 365 ≤ yd y ∧ yd y ≤ 366 := by unfold yd; split <;> omega
    by_cases hlt : day < yd y
    · obtain ⟨r, r1, r2, r3⟩ := stamp_month y sec hy (by omega) 11 1 day (by omega) (by omega) (by omega) hd (by rw [cumM_one]; omega)
      rw [cumM_one, Int.add_zero] at r3
      refine ⟨r, r1, fun z => Ev.step (fun k => ?_) (r2 z), r3⟩
      simp only [impl_StampOf.l0]
      rw [impl_yyearDays_eq y hy]
      simp only [Option.bind_some]
      rw [if_neg (by omega)]
    · obtain ⟨r, r1, r2, r3⟩ := ih (y + 1) (day - yd y) (by omega) (by omega) (by omega) (by omega)
      refine ⟨r, spec_year y sec hy (by omega) r 11 1 day (by omega) (by omega) (by omega) (by rw [cumM_one]; omega) (by omega) hd (by rw [cumM_one, Int.add_zero]; exact r1), fun z => Ev.step (fun k => ?_) (r2 z), ?_⟩
      · simp only [impl_StampOf.l0]
        rw [impl_yyearDays_eq y hy]
        simp only [Option.bind_some]
        rw [if_pos (by omega), w64 (a := day - yd y) (by omega) (by omega), w64 (a := y + 1) (by omega) (by omega)]
      · have hc := cumY_succ y
        unfold StampIs at r3 ⊢
        omega
theorem stamp_both (n : Int) (h0 : -9223372036854775808 ≤ n) (h1 : n ≤ 9223372036854775807) :
    ∃ r, Ev (fun k => spec_StampOf.f k n) r ∧ Ev (fun k => impl_StampOf.f k n) r ∧ (r = (0, 0, 0, 0) ∨ (0 ≤ n ∧ n < 3155760000 ∧ StampIs 2000 (n / 86400) (n % 86400) r)) := by
  by_cases hin : 0 ≤ n ∧ n < 3155760000
  · obtain ⟨r, r1, r2, r3⟩ := stamp_year (n % 86400) (n / 86400).toNat 2000 (n / 86400) (by omega) (by omega) (by omega) (by omega)
    refine ⟨r, ?_, ?_, .inr ⟨hin.1, hin.2, r3⟩⟩
    · refine Ev.congr (fun k => by unfold spec_StampOf.f; rw [if_neg (by omega), decide_eq_false (by omega)]) ?_
      refine Ev.step (fun k => ?_) (r1 0)
      simp only [spec_StampOf.j0]
      rw [if_neg (by simp), tdiv_nn hin.1, tmod_nn hin.1, w64 (a := n / 86400) (by omega) (by omega)]
    · refine Ev.congr (fun k => ?_) (r2 0)
      unfold impl_StampOf.f impl_yin.f
      rw [if_pos hin.1, decide_eq_true (by omega)]
      simp only [Option.bind_some, if_true]
      rw [tdiv_nn hin.1, tmod_nn hin.1, w64 (a := n / 86400) (by omega) (by omega)]
  · refine ⟨(0, 0, 0, 0), ?_, ?_, .inl rfl⟩
    · have j0 : Ev (fun k => spec_StampOf.j0 k n true) (0, 0, 0, 0) := Ev.step (f := fun _ => some (0, 0, 0, 0)) (fun k => by simp only [spec_StampOf.j0]; rw [if_pos trivial]) (Ev.now _)
      by_cases hn : n < 0
      · exact Ev.congr (fun k => by unfold spec_StampOf.f; rw [if_pos hn]) j0
      · exact Ev.congr (fun k => by unfold spec_StampOf.f; rw [if_neg hn, decide_eq_true (by omega)]) j0
    · refine Ev.congr (fun k => ?_) (Ev.now (0, 0, 0, 0))
      unfold impl_StampOf.f impl_yin.f
      by_cases hn : n ≥ 0
      · rw [if_pos hn, decide_eq_false (by omega)]; rfl
      · rw [if_neg hn]; rfl

theorem FnExactStampOf : laws_FnExactStampOf.Pure := by
  intro n hn
  obtain ⟨h0, h1⟩ := wf64 hn
  refine Ev.rounds (r := true) ?_
  obtain ⟨r, r1, r2, _⟩ := stamp_both n h0 h1
  refine Ev.congr (fun k => rfl) (Ev.bind r1 (Ev.bind r2 ?_))
  refine Ev.congr (fun k => ?_) (Ev.now true)
  unfold laws_eqStamp.f
  rw [if_pos rfl, if_pos rfl, if_pos rfl, if_pos rfl]; rfl

end Go.Proofs.Ytofmibbadbmlfaa.Pure
