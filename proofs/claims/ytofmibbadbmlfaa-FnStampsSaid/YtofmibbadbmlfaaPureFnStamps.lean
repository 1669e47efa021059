/- A drawn time is that of its day and second (P16). Conditions: none. -/
import Derived.Test.YtofmibbadbmlfaaQFnStampsx
import Derived.Test.YtofmibbadbmlfaaPl
set_option linter.unusedVariables false
set_option linter.unusedSimpArgs false
namespace Go.Proofs.Ytofmibbadbmlfaa.Pure
open Go.RowKit Go.Proofs.Ytofmibbadbmlfaa.QFnStamps Go.Proofs.YtofmibbadbmlfaaW.PrintWords Go.Proofs.YtofmibbadbmlfaaW.PrintLast Go.Proofs.Ytofmibbadbmlfaa.Pl Go.Proofs.YtofmibbadbmlfaaW.PrintMore
/-- The days of a month, of a year; of the years and the months before. -/
def md (y m : Int) : Int := if m = 2 then (if y % 4 = 0 then 29 else 28) else rd monthTable (m - 1)
def yd (y : Int) : Int := if y % 4 = 0 then 366 else 365
def cumY (y : Int) : Int := 365 * (y - 2000) + (y - 2000 + 3) / 4
def cumM (y m : Int) : Int := if m ≤ 2 then (if m ≤ 1 then 0 else 31) else rd [0, 31, 59, 90, 120, 151, 181, 212, 243, 273, 304, 334, 365] (m - 1) + (if y % 4 = 0 then 1 else 0)
theorem cumY_succ (y : Int) : cumY (y + 1) = cumY y + yd y := by
  unfold cumY yd
  split <;> omega
theorem month_cases {m : Int} (h0 : 1 ≤ m) (h1 : m ≤ 12) : m = 1 ∨ m = 2 ∨ m = 3 ∨ m = 4 ∨ m = 5 ∨ m = 6 ∨ m = 7 ∨ m = 8 ∨ m = 9 ∨ m = 10 ∨ m = 11 ∨ m = 12 := by omega
theorem md_range (y m : Int) (h0 : 1 ≤ m) (h1 : m ≤ 12) : 28 ≤ md y m ∧ md y m ≤ 31 := by
  rcases month_cases h0 h1 with rfl | rfl | rfl | rfl | rfl | rfl | rfl | rfl | rfl | rfl | rfl | rfl <;> simp [md, rd, monthTable] <;> (try split) <;> omega
theorem cumM_succ (y m : Int) (h0 : 1 ≤ m) (h1 : m ≤ 12) : cumM y (m + 1) = cumM y m + md y m := by
  rcases month_cases h0 h1 with rfl | rfl | rfl | rfl | rfl | rfl | rfl | rfl | rfl | rfl | rfl | rfl <;> simp [cumM, md, rd, monthTable] <;> (try split) <;> omega
theorem cumM_end (y : Int) : cumM y 13 = yd y := by
  simp [cumM, yd, rd]; split <;> omega
theorem cumM_one (y : Int) : cumM y 1 = 0 := by simp [cumM]
theorem tmod4 (y : Int) (h : 0 ≤ y) : (Int.tmod y 4 == 0) = decide (y % 4 = 0) := by rw [tmod_nn h]; rfl
theorem impl_ymonthDays_eq (y m : Int) (hy : 0 ≤ y) (h0 : 1 ≤ m) (h1 : m ≤ 12) : impl_ymonthDays.f y m = some (md y m) := by
  unfold impl_ymonthDays.f md
  rw [if_pos ⟨h0, h1⟩, tmod4 y hy]
  by_cases h2 : m = 2
  · rw [if_pos h2, if_pos h2]
    by_cases h4 : y % 4 = 0
    · rw [if_pos (by simp [h4]), if_pos h4]
    · rw [if_neg (by simp [h4]), if_neg h4]
  · rw [if_neg h2, if_neg h2]
theorem spec_l09Days_eq (y m : Int) (hy : 0 ≤ y) (h0 : 1 ≤ m) (h1 : m ≤ 12) : spec_l09Days.f y m = some (md y m) := by
  unfold spec_l09Days.f spec_l09Leap.f md
  rw [tmod4 y hy]
  simp only [Option.bind_some]
  have hw : wrap64 (m - 1) = m - 1 := w64 (by omega) (by omega)
  by_cases h2 : m = 2
  · rw [if_pos h2, if_pos h2]
    by_cases h4 : y % 4 = 0
    · rw [if_pos (by simp [h4]), if_pos h4]
    · rw [if_neg (by simp [h4]), if_neg h4, hw, if_pos (by omega), if_pos (by simp only [List.length_cons, List.length_nil]; omega), h2]; rfl
  · rw [if_neg h2, if_neg h2, hw, if_pos (by omega), if_pos (by simp only [List.length_cons, List.length_nil]; omega)]; rfl
theorem impl_yyearDays_eq (y : Int) (hy : 0 ≤ y) : impl_yyearDays.f y = some (yd y) := by
  unfold impl_yyearDays.f impl_yleap.f yd
  rw [tmod4 y hy]
  simp only [Option.bind_some]
  by_cases h4 : y % 4 = 0
  · rw [if_pos (by simp [h4]), if_pos h4]
  · rw [if_neg (by simp [h4]), if_neg h4]
/-- What a time's day is: the result of both, and that it counts back. -/
def StampIs (y0 day sec : Int) (r : Int × Int × Int × Int) : Prop :=
  y0 ≤ r.1 ∧ 1 ≤ r.2.1 ∧ r.2.1 ≤ 12 ∧ 1 ≤ r.2.2.1 ∧ r.2.2.1 ≤ md r.1 r.2.1 ∧ r.2.2.2 = sec ∧ (r.2.2.1 - 1) + cumY r.1 + cumM r.1 r.2.1 = day + cumY y0
theorem stamp_month (y sec : Int) (hy : 0 ≤ y) (hy1 : y ≤ 4611686018427387904) (d : Nat) : ∀ (m day : Int), 1 ≤ m → m ≤ 12 → 12 - m = d → 0 ≤ day → day + cumM y m < yd y →
    ∃ r, (∀ z, Ev (fun k => spec_StampOf.l0 k day y m z sec) r) ∧ (∀ z, Ev (fun k => impl_StampOf.l1 k day y m z sec) r) ∧ StampIs y (day + cumM y m) sec r := by
  have stop : ∀ (m day : Int), 1 ≤ m → m ≤ 12 → 0 ≤ day → day < md y m → ∃ r, (∀ z, Ev (fun k => spec_StampOf.l0 k day y m z sec) r) ∧ (∀ z, Ev (fun k => impl_StampOf.l1 k day y m z sec) r) ∧ StampIs y (day + cumM y m) sec r := by
    intro m day h0 h1 hd hlt
    have hr := md_range y m h0 h1
    refine ⟨(y, m, day + 1, sec), fun z => Ev.step (f := fun _ => some (y, m, day + 1, sec)) (fun k => ?_) (Ev.now _), fun z => Ev.step (f := fun _ => some (y, m, day + 1, sec)) (fun k => ?_) (Ev.now _), ?_⟩
    · simp only [spec_StampOf.l0]
      rw [spec_l09Days_eq y m hy h0 h1]
      simp only [Option.bind_some]
      rw [if_neg (by omega), w64 (by omega) (by omega)]
    · simp only [impl_StampOf.l1]
      rw [impl_ymonthDays_eq y m hy h0 h1]
      simp only [Option.bind_some]
      rw [if_neg (by omega), w64 (by omega) (by omega)]
    · exact ⟨Int.le_refl _, h0, h1, show 1 ≤ day + 1 by omega, show day + 1 ≤ md y m by omega, rfl, show (day + 1 - 1) + cumY y + cumM y m = day + cumM y m + cumY y by omega⟩
  induction d with
  | zero =>
    intro m day h0 h1 hd h2 h3
    refine stop m day h0 h1 h2 ?_
    obtain rfl : m = 12 := by omega
    have := cumM_succ y 12 (by omega) (by omega)
    have h13 := cumM_end y
    rw [show (12:Int) + 1 = 13 from rfl] at this
    omega
  | succ d ih =>
    intro m day h0 h1 hd h2 h3
    by_cases hlt : day < md y m
    · exact stop m day h0 h1 h2 hlt
    · have hr := md_range y m h0 h1
      have hs := cumM_succ y m h0 h1
      have hyd : yd y ≤ 366 := by unfold yd; split <;> omega
      have hcm : -1 ≤ cumM y m := by
        unfold cumM; split
        · split <;> omega
        · have : ∀ n : Nat, n < 13 → 0 ≤ rd [0, 31, 59, 90, 120, 151, 181, 212, 243, 273, 304, 334, 365] (n : Int) := by decide
          obtain ⟨n, hn⟩ := Int.eq_ofNat_of_zero_le (show 0 ≤ m - 1 by omega)
          have := this n (by omega)
          rw [hn]
          split <;> omega
      obtain ⟨r, r1, r2, r3⟩ := ih (m + 1) (day - md y m) (by omega) (by omega) (by omega) (by omega) (by omega)
      refine ⟨r, fun z => Ev.step (fun k => ?_) (r1 z), fun z => Ev.step (fun k => ?_) (r2 z), ?_⟩
      · simp only [spec_StampOf.l0]
        rw [spec_l09Days_eq y m hy h0 h1]
        simp only [Option.bind_some]
        rw [if_pos (by omega), w64 (a := m + 1) (by omega) (by omega), if_neg (by omega), w64 (a := day - md y m) (by omega) (by omega)]
      · simp only [impl_StampOf.l1]
        rw [impl_ymonthDays_eq y m hy h0 h1]
        simp only [Option.bind_some]
        rw [if_pos (by omega), w64 (a := m + 1) (by omega) (by omega), w64 (a := day - md y m) (by omega) (by omega)]
      · rw [show day - md y m + cumM y (m + 1) = day + cumM y m from by omega] at r3
        exact r3
theorem spec_year (y sec : Int) (hy : 0 ≤ y) (hy1 : y ≤ 4611686018427387904) (r : Int × Int × Int × Int) (d : Nat) : ∀ (m day : Int), 1 ≤ m → m ≤ 12 → 12 - m = d → yd y ≤ day + cumM y m → day ≤ 4611686018427387904 → 0 ≤ day →
    (∀ z, Ev (fun k => spec_StampOf.l0 k (day + cumM y m - yd y) (y + 1) 1 z sec) r) → ∀ z, Ev (fun k => spec_StampOf.l0 k day y m z sec) r := by
  induction d with
  | zero =>
    intro m day h0 h1 hd h2 h3 h4 hr z
    obtain rfl : m = 12 := by omega
    have hs := cumM_succ y 12 (by omega) (by omega)
    have h13 := cumM_end y
    rw [show (12:Int) + 1 = 13 from rfl] at hs
    have hrg := md_range y 12 (by omega) (by omega)
    refine Ev.step (fun k => ?_) (hr z)
    simp only [spec_StampOf.l0]
    rw [spec_l09Days_eq y 12 hy (by omega) (by omega)]
    simp only [Option.bind_some]
    rw [if_pos (by omega), w64 (a := 12 + 1) (by omega) (by omega), if_pos (by omega), w64 (a := y + 1) (by omega) (by omega), w64 (a := day - md y 12) (by omega) (by omega)]
    congr 1
    omega
  | succ d ih =>
    intro m day h0 h1 hd h2 h3 h4 hr z
    have hs := cumM_succ y m h0 h1
    have hrg := md_range y m h0 h1
    have hle : cumM y (m + 1) ≤ yd y := by
      have : ∀ e : Nat, ∀ m : Int, 1 ≤ m → m ≤ 13 → 13 - m = e → cumM y m ≤ yd y := by
        intro e
        induction e with
        | zero =>
          intro m _ _ he
          obtain rfl : m = 13 := by omega
          rw [cumM_end]; exact Int.le_refl _
        | succ e ihe =>
          intro m a b he
          have := ihe (m + 1) (by omega) (by omega) (by omega)
          have g := cumM_succ y m a (by omega)
          have g2 := md_range y m a (by omega)
          omega
      exact this (13 - (m + 1)).toNat (m + 1) (by omega) (by omega) (by omega)
    have := ih (m + 1) (day - md y m) (by omega) (by omega) (by omega) (by omega) (by omega) (by omega) (by rw [show day - md y m + cumM y (m + 1) = day + cumM y m from by omega]; exact hr) z
    refine Ev.step (fun k => ?_) this
    simp only [spec_StampOf.l0]
    rw [spec_l09Days_eq y m hy h0 h1]
    simp only [Option.bind_some]
    rw [if_pos (by omega), w64 (a := m + 1) (by omega) (by omega), if_neg (by omega), w64 (a := day - md y m) (by omega) (by omega)]
theorem stamp_year (sec : Int) (d : Nat) : ∀ (y day : Int), 0 ≤ y → 0 ≤ day → day.toNat ≤ d → y + day ≤ 4611686018427387904 →
    ∃ r, (∀ z, Ev (fun k => spec_StampOf.l0 k day y 1 z sec) r) ∧ (∀ z, Ev (fun k => impl_StampOf.l0 k day y 1 z sec) r) ∧ StampIs y day sec r := by
  induction d with
  | zero =>
    intro y day hy hd hdd hb
    have hyd : 365 ≤ yd y := by unfold yd; split <;> omega
    obtain ⟨r, r1, r2, r3⟩ := stamp_month y sec hy (by omega) 11 1 day (by omega) (by omega) (by omega) hd (by rw [cumM_one]; omega)
    rw [cumM_one, Int.add_zero] at r3
    refine ⟨r, r1, fun z => Ev.step (fun k => ?_) (r2 z), r3⟩
    simp only [impl_StampOf.l0]
    rw [impl_yyearDays_eq y hy]
    simp only [Option.bind_some]
    rw [if_neg (by omega)]
  | succ d ih =>
    intro y day hy hd hdd hb
    have hyd : 365 ≤ yd y ∧ yd y ≤ 366 := by unfold yd; split <;> omega
    by_cases hlt : day < yd y
    · obtain ⟨r, r1, r2, r3⟩ := stamp_month y sec hy (by omega) 11 1 day (by omega) (by omega) (by omega) hd (by rw [cumM_one]; omega)
      rw [cumM_one, Int.add_zero] at r3
      refine ⟨r, r1, fun z => Ev.step (fun k => ?_) (r2 z), r3⟩
      simp only [impl_StampOf.l0]
      rw [impl_yyearDays_eq y hy]
      simp only [Option.bind_some]
      rw [if_neg (by omega)]
    · obtain ⟨r, r1, r2, r3⟩ := ih (y + 1) (day - yd y) (by omega) (by omega) (by omega) (by omega)
      refine ⟨r, spec_year y sec hy (by omega) r 11 1 day (by omega) (by omega) (by omega) (by rw [cumM_one]; omega) (by omega) hd (by rw [cumM_one, Int.add_zero]; exact r1), fun z => Ev.step (fun k => ?_) (r2 z), ?_⟩
      · simp only [impl_StampOf.l0]
        rw [impl_yyearDays_eq y hy]
        simp only [Option.bind_some]
        rw [if_pos (by omega), w64 (a := day - yd y) (by omega) (by omega), w64 (a := y + 1) (by omega) (by omega)]
      · have hc := cumY_succ y
        unfold StampIs at r3 ⊢
        omega
theorem stamp_both (n : Int) (h0 : -9223372036854775808 ≤ n) (h1 : n ≤ 9223372036854775807) :
    ∃ r, Ev (fun k => spec_StampOf.f k n) r ∧ Ev (fun k => impl_StampOf.f k n) r ∧ (r = (0, 0, 0, 0) ∨ (0 ≤ n ∧ n < 3155760000 ∧ StampIs 2000 (n / 86400) (n % 86400) r)) := by
  by_cases hin : 0 ≤ n ∧ n < 3155760000
  · obtain ⟨r, r1, r2, r3⟩ := stamp_year (n % 86400) (n / 86400).toNat 2000 (n / 86400) (by omega) (by omega) (by omega) (by omega)
    refine ⟨r, ?_, ?_, .inr ⟨hin.1, hin.2, r3⟩⟩
    · refine Ev.congr (fun k => by unfold spec_StampOf.f; rw [if_neg (by omega), decide_eq_false (by omega)]) ?_
      refine Ev.step (fun k => ?_) (r1 0)
      simp only [spec_StampOf.j0]
      rw [if_neg (by simp), tdiv_nn hin.1, tmod_nn hin.1, w64 (a := n / 86400) (by omega) (by omega)]
    · refine Ev.congr (fun k => ?_) (r2 0)
      unfold impl_StampOf.f impl_yin.f
      rw [if_pos hin.1, decide_eq_true (by omega)]
      simp only [Option.bind_some, if_true]
      rw [tdiv_nn hin.1, tmod_nn hin.1, w64 (a := n / 86400) (by omega) (by omega)]
  · refine ⟨(0, 0, 0, 0), ?_, ?_, .inl rfl⟩
    · have j0 : Ev (fun k => spec_StampOf.j0 k n true) (0, 0, 0, 0) := Ev.step (f := fun _ => some (0, 0, 0, 0)) (fun k => by simp only [spec_StampOf.j0]; rw [if_pos trivial]) (Ev.now _)
      by_cases hn : n < 0
      · exact Ev.congr (fun k => by unfold spec_StampOf.f; rw [if_pos hn]) j0
      · exact Ev.congr (fun k => by unfold spec_StampOf.f; rw [if_neg hn, decide_eq_true (by omega)]) j0
    · refine Ev.congr (fun k => ?_) (Ev.now (0, 0, 0, 0))
      unfold impl_StampOf.f impl_yin.f
      by_cases hn : n ≥ 0
      · rw [if_pos hn, decide_eq_false (by omega)]; rfl
      · rw [if_neg hn]; rfl

theorem seconds_months (y sec : Int) (hy : 0 ≤ y) (m : Int) (hm : m ≤ 12) (d : Nat) : ∀ (j acc : Int), 1 ≤ j → j ≤ m → m - j = d → -4611686018427387904 ≤ acc → acc ≤ 4611686018427387904 - 31 * (m - j) → ∀ z, Ev (fun k => impl_SecondsOf.l1 k acc j y m z sec) (wrap64 (wrap64 ((acc + (cumM y m - cumM y j)) * 86400) + sec)) := by
  induction d with
  | zero =>
    intro j acc h0 h1 hd _ _ z
    obtain rfl : m = j := by omega
    refine Ev.step (f := fun _ => some (wrap64 (wrap64 ((acc + (cumM y m - cumM y m)) * 86400) + sec))) (fun k => ?_) (Ev.now _)
    simp only [impl_SecondsOf.l1]
    rw [if_neg (by omega), Int.sub_self, Int.add_zero]
  | succ d ih =>
    intro j acc h0 h1 hd ha hb z
    have hr := md_range y j h0 (by omega)
    have hs := cumM_succ y j h0 (by omega)
    have := ih (j + 1) (acc + md y j) (by omega) (by omega) (by omega) (by omega) (by omega) z
    rw [show acc + md y j + (cumM y m - cumM y (j + 1)) = acc + (cumM y m - cumM y j) from by omega] at this
    refine Ev.step (fun k => ?_) this
    simp only [impl_SecondsOf.l1]
    rw [if_pos (by omega), impl_ymonthDays_eq y j hy h0 (by omega)]
    simp only [Option.bind_some]
    rw [w64 (a := acc + md y j) (by omega) (by omega), w64 (a := j + 1) (by omega) (by omega)]
theorem seconds_years (y m sec : Int) (hy1 : y ≤ 4294967296) (h1m : 1 ≤ m) (hm : m ≤ 12) (d : Nat) : ∀ (j acc : Int), 0 ≤ j → j ≤ y → y - j = d → 0 ≤ acc → acc ≤ 4611686018427387904 - 31 * 12 - 366 * (y - j) → ∀ z, Ev (fun k => impl_SecondsOf.l0 k acc j y m z sec) (wrap64 (wrap64 ((acc + (cumY y - cumY j) + cumM y m) * 86400) + sec)) := by
  induction d with
  | zero =>
    intro j acc h0 h1 hd ha hb z
    obtain rfl : y = j := by omega
    have := seconds_months y sec h0 m hm (m - 1).toNat 1 acc (by omega) h1m (by omega) (by omega) (by omega) z
    rw [cumM_one] at this
    refine Ev.step (fun k => ?_) (by rw [show acc + (cumY y - cumY y) + cumM y m = acc + (cumM y m - 0) from by omega]; exact this)
    simp only [impl_SecondsOf.l0]
    rw [if_neg (by omega)]
  | succ d ih =>
    intro j acc h0 h1 hd ha hb z
    have hyd : 365 ≤ yd j ∧ yd j ≤ 366 := by unfold yd; split <;> omega
    have hs := cumY_succ j
    have := ih (j + 1) (acc + yd j) (by omega) (by omega) (by omega) (by omega) (by omega) z
    rw [show acc + yd j + (cumY y - cumY (j + 1)) + cumM y m = acc + (cumY y - cumY j) + cumM y m from by omega] at this
    refine Ev.step (fun k => ?_) this
    simp only [impl_SecondsOf.l0]
    rw [if_pos (by omega), impl_yyearDays_eq j h0]
    simp only [Option.bind_some]
    rw [w64 (a := acc + yd j) (by omega) (by omega), w64 (a := j + 1) (by omega) (by omega)]
/-- The seconds of a right stamp. -/
theorem impl_SecondsOf_ev (y m dd sec : Int) (h0 : 2000 ≤ y) (h1 : y ≤ 2099) (h2 : 1 ≤ m) (h3 : m ≤ 12) (h4 : 1 ≤ dd) (h5 : dd ≤ md y m) (h6 : 0 ≤ sec) (h7 : sec ≤ 86399) :
    Ev (fun k => impl_SecondsOf.f k y m dd sec) (((dd - 1) + cumY y + cumM y m) * 86400 + sec) := by
  have hr := md_range y m h2 h3
  have hcY : 0 ≤ cumY y ∧ cumY y ≤ 40000 := by unfold cumY; omega
  have hcM : -1 ≤ cumM y m ∧ cumM y m ≤ 400 := by
    rcases month_cases h2 h3 with rfl | rfl | rfl | rfl | rfl | rfl | rfl | rfl | rfl | rfl | rfl | rfl <;> simp [cumM, rd] <;> (try split) <;> omega
  have := seconds_years y m sec (by omega) h2 h3 (y - 2000).toNat 2000 (dd - 1) (by omega) h0 (by omega) (by omega) (by omega) dd
  have hc0 : cumY 2000 = 0 := by decide
  rw [hc0, show dd - 1 + (cumY y - 0) + cumM y m = dd - 1 + cumY y + cumM y m from by omega] at this
  rw [w64 (a := (dd - 1 + cumY y + cumM y m) * 86400) (by omega) (by omega), w64 (by omega) (by omega)] at this
  refine Ev.congr (f := fun k => impl_SecondsOf.j0 k false y m dd sec) (fun k => ?_) (Ev.step (fun k => ?_) this)
  · unfold impl_SecondsOf.f impl_yin.f
    rw [if_pos (by omega), decide_eq_true (by omega)]
    simp only [Option.bind_some, if_true]
    rw [if_pos (by omega), decide_eq_true (by omega)]
    simp only [Option.bind_some, if_true]
    rw [impl_ymonthDays_eq y m (by omega) h2 h3]
    simp only [Option.bind_some]
    rw [if_pos (by omega), decide_eq_true (by omega)]
    simp only [Option.bind_some, if_true]
    rw [if_pos (by omega), decide_eq_true (by omega)]
    rfl
  · simp only [impl_SecondsOf.j0]
    rw [if_neg (by simp), w64 (a := dd - 1) (by omega) (by omega)]

theorem u64_wrap_range (x : Int) : 0 ≤ IntKind.u64.wrap x ∧ IntKind.u64.wrap x ≤ 18446744073709551615 := by
  simp only [IntKind.wrap, IntKind.signed, IntKind.bits, Bool.false_and]
  rw [if_neg (by simp)]; omega
theorem srcOut_range (v m a : Int) (h0 : 1 < a) (h1 : a ≤ 4611686018427387904) : 0 ≤ srcOut v m a ∧ srcOut v m a < a := by
  unfold srcOut
  have hr := u64_wrap_range (v + m / 1048576)
  rw [u64w (a := a) (by omega) (by omega), tmod_nn hr.1]
  have e0 := Int.emod_nonneg (IntKind.u64.wrap (v + m / 1048576)) (show a ≠ 0 by omega)
  have e1 := Int.emod_lt_of_pos (IntKind.u64.wrap (v + m / 1048576)) (show 0 < a by omega)
  rw [w64 (by omega) (by omega)]
  exact ⟨e0, e1⟩
/-- A draw: its number is below the bound, its place stays in the code or behind it. -/
theorem draw_n (l : List Int) (hl : (l.length : Int) ≤ 140737488351232) (p m z a : Int) (h0 : 0 ≤ p) (hp : p ≤ (l.length : Int)) (ha : 1 < a) (ha1 : a ≤ 4611686018427387904) :
    ∃ r p' m', spec_l01Src_n.f l p m z a = some (r, p', m', z) ∧ 0 ≤ p' ∧ p' ≤ (l.length : Int) ∧ 0 ≤ r ∧ r < a := by
  unfold spec_l01Src_n.f
  rw [if_neg (by omega), u64w (a := a) (by omega) (by omega), if_neg (by omega)]
  by_cases c : p < (l.length : Int)
  · rw [if_pos c, if_pos h0, w64 (a := p + 1) (by omega) (by omega)]
    obtain ⟨r0, r1⟩ := srcOut_range (IntKind.u64.wrap (rd l p)) (srcMix m) a ha ha1
    exact ⟨_, _, _, rfl, by omega, by omega, r0, r1⟩
  · rw [if_neg c]
    obtain ⟨r0, r1⟩ := srcOut_range 0 (srcMix m) a ha ha1
    exact ⟨_, _, _, rfl, h0, hp, r0, r1⟩

theorem drawStamp (l : List Int) (hl : (l.length : Int) ≤ 1048576) : ∃ n, spec_DrawStampOf.f l = some n := by
  unfold spec_DrawStampOf.f spec_l01Source.f
  simp only [Option.bind_some]
  obtain ⟨r1, p1, m1, e1, a1, b1, c1, d1⟩ := draw_n l (by omega) 0 (srcSeed l (min l.length 64)) (min (l.length : Int) 12) 36525 (by omega) (by omega) (by omega) (by omega)
  rw [e1]
  simp only [Option.bind_some]
  obtain ⟨r2, p2, m2, e2, a2, b2, c2, d2⟩ := draw_n l (by omega) p1 m1 (min (l.length : Int) 12) 12 a1 b1 (by omega) (by omega)
  rw [e2]
  simp only [Option.bind_some]
  rw [if_pos c2, if_pos (by simp only [List.length_cons, List.length_nil]; omega)]
  obtain ⟨r3, p3, m3, e3, a3, b3, c3, d3⟩ := draw_n l (by omega) p2 m2 (min (l.length : Int) 12) 86400 a2 b2 (by omega) (by omega)
  rw [e3]
  simp only [Option.bind_some]
  obtain ⟨r4, p4, m4, e4, a4, b4, c4, d4⟩ := draw_n l (by omega) p3 m3 (min (l.length : Int) 12) 3 a3 b3 (by omega) (by omega)
  rw [e4]
  simp only [Option.bind_some]
  rw [if_pos c4, if_pos (by simp only [List.length_cons, List.length_nil]; omega)]
  exact ⟨_, rfl⟩
theorem FnStamps : laws_FnStamps.Pure := by
  intro l hl hl2 _
  refine Ev.rounds (r := true) ?_
  by_cases hb : (l.length : Int) > 1048576
  · exact Ev.congr (fun k => by unfold laws_FnStamps.f; rw [if_pos hb]) (Ev.now _)
  · obtain ⟨n, hn⟩ := drawStamp l (by omega)
    have hnw : -9223372036854775808 ≤ n ∧ n ≤ 9223372036854775807 := by
      unfold spec_DrawStampOf.f spec_l01Source.f at hn
      simp only [Option.bind_some, Option.bind_eq_some_iff] at hn
      obtain ⟨_, _, _, _, hn⟩ := hn
      split at hn
      · split at hn
        · simp only [Option.bind_eq_some_iff] at hn
          obtain ⟨_, _, _, _, hn⟩ := hn
          split at hn
          · split at hn
            · have e := Option.some.inj hn
              rw [← e]; unfold wrap64; omega
            · exact absurd hn (by simp)
          · exact absurd hn (by simp)
        · exact absurd hn (by simp)
      · exact absurd hn (by simp)
    obtain ⟨r, r1, r2, r3⟩ := stamp_both n hnw.1 hnw.2
    refine Ev.congr (f := fun k => (impl_StampOf.f k n).bind fun bt160 => ((spec_StampOf.f k n).bind fun bt165 => (if (!(bt160.1 == bt165.1) || (!(bt160.2.1 == bt165.2.1) || (!(bt160.2.2.1 == bt165.2.2.1) || (!(bt160.2.2.2 == bt165.2.2.2))))) = true then (some false) else (if bt165.1 = 0 then (some true) else ((impl_SecondsOf.f k bt160.1 bt160.2.1 bt160.2.2.1 bt160.2.2.2).bind fun t170 => (some (t170 == n))))))) (fun k => by unfold laws_FnStamps.f; rw [if_neg hb, hn]; rfl) ?_
    refine Ev.bind r2 (Ev.bind r1 ?_)
    refine Ev.congr (f := fun k => if r.1 = 0 then (some true) else ((impl_SecondsOf.f k r.1 r.2.1 r.2.2.1 r.2.2.2).bind fun t170 => (some (t170 == n)))) (fun k => by rw [if_neg (by simp)]) ?_
    rcases r3 with rfl | ⟨h0, h1, hs⟩
    · exact Ev.congr (fun k => by rw [if_pos rfl]) (Ev.now true)
    · obtain ⟨s1, s2, s3, s4, s5, s6, s7⟩ := hs
      have hc0 : cumY 2000 = 0 := by decide
      have hcM : 0 ≤ cumM r.1 r.2.1 := by
        rcases month_cases s2 s3 with e | e | e | e | e | e | e | e | e | e | e | e <;> rw [e] <;> simp [cumM, rd] <;> (try split) <;> omega
      have hy : r.1 ≤ 2099 := by
        rw [hc0] at s7
        unfold cumY at s7
        omega
      have hne : ¬ r.1 = 0 := by omega
      refine Ev.congr (f := fun k => (impl_SecondsOf.f k r.1 r.2.1 r.2.2.1 r.2.2.2).bind fun t170 => (some (t170 == n))) (fun k => by rw [if_neg hne]) ?_
      refine Ev.bind (impl_SecondsOf_ev r.1 r.2.1 r.2.2.1 r.2.2.2 s1 hy s2 s3 s4 s5 (by omega) (by omega)) ?_
      have e : ((r.2.2.1 - 1 + cumY r.1 + cumM r.1 r.2.1) * 86400 + r.2.2.2 == n) = true := by
        rw [beq_iff_eq, s7, s6, hc0]; omega
      rw [e]; exact Ev.now _

end Go.Proofs.Ytofmibbadbmlfaa.Pure
