/- The program's SecondsOf returns what the reference's returns, for all arguments. Conditions: none. -/
import Derived.Test.YtofmibbadbmlfaaQFnExactSecondsOfx
import Derived.Test.YtofmibbadbmlfaaPl
import Derived.Test.YtofmibbadbmlfaaTFnExactSecondsOf
set_option linter.unusedVariables false
set_option linter.unusedSimpArgs false
namespace Go.Proofs.Ytofmibbadbmlfaa.Pure
open Go.RowKit Go.Proofs.Ytofmibbadbmlfaa.QFnExactSecondsOf Go.Proofs.YtofmibbadbmlfaaW.PrintWords Go.Proofs.YtofmibbadbmlfaaW.PrintLast Go.Proofs.Ytofmibbadbmlfaa.Pl Go.Proofs.YtofmibbadbmlfaaW.PrintMore
/-- The days of a month, of a year; of the years and the months before. -/
def md (y m : Int) : Int := if m = 2 then (if y % 4 = 0 then 29 else 28) else rd monthTable (m - 1)
def yd (y : Int) : Int := if y % 4 = 0 then 366 else 365
def cumY (y : Int) : Int := 365 * (y - 2000) + (y - 2000 + 3) / 4
def cumM (y m : Int) : Int := if m ≤ 2 then (if m ≤ 1 then 0 else 31) else rd [0, 31, 59, 90, 120, 151, 181, 212, 243, 273, 304, 334, 365] (m - 1) + (if y % 4 = 0 then 1 else 0)
theorem cumY_succ (y : Int) : cumY (y + 1) = cumY y + yd y := by
  unfold cumY yd
  split <;> omega
theorem month_cases {m : Int} (h0 : 1 ≤ m) (h1 : m ≤ 12) : m = 1 ∨ m = 2 ∨ m = 3 ∨ m = 4 ∨ m = 5 ∨ m = 6 ∨ m = 7 ∨ m = 8 ∨ m = 9 ∨ m = 10 ∨ m = 11 ∨ m = 12 := by omega
theorem md_range (y m : Int) (h0 : 1 ≤ m) (h1 : m ≤ 12) : 28 ≤ md y m ∧ md y m ≤ 31 := by
  rcases month_cases h0 h1 with rfl | rfl | rfl | rfl | rfl | rfl | rfl | rfl | rfl | rfl | rfl | rfl <;> simp [md, rd, monthTable] <;> (try split) <;> omega
theorem cumM_succ (y m : Int) (h0 : 1 ≤ m) (h1 : m ≤ 12) : cumM y (m + 1) = cumM y m + md y m := by
  rcases month_cases h0 h1 with rfl | rfl | rfl | rfl | rfl | rfl | rfl | rfl | rfl | rfl | rfl | rfl <;> simp [cumM, md, rd, monthTable] <;> (try split) <;> omega
theorem cumM_end (y : Int) : cumM y 13 = yd y := by
  simp [cumM, yd, rd]; split <;> omega
theorem cumM_one (y : Int) : cumM y 1 = 0 := by simp [cumM]
theorem tmod4 (y : Int) (h : 0 ≤ y) : (Int.tmod y 4 == 0) = decide (y % 4 = 0) := by rw [tmod_nn h]; rfl
theorem impl_ymonthDays_eq (y m : Int) (hy : 0 ≤ y) (h0 : 1 ≤ m) (h1 : m ≤ 12) : impl_ymonthDays.f y m = some (md y m) := by
  unfold impl_ymonthDays.f md
  rw [if_pos ⟨h0, h1⟩, tmod4 y hy]
  by_cases h2 : m = 2
  · rw [if_pos h2, if_pos h2]
    by_cases h4 : y % 4 = 0
    · rw [if_pos (by simp [h4]), if_pos h4]
    · rw [if_neg (by simp [h4]), if_neg h4]
  · rw [if_neg h2, if_neg h2]
theorem spec_l09Days_eq (y m : Int) (hy : 0 ≤ y) (h0 : 1 ≤ m) (h1 : m ≤ 12) : spec_l09Days.f y m = some (md y m) := by
  unfold spec_l09Days.f spec_l09Leap.f md
  rw [tmod4 y hy]
  simp only [Option.bind_some]
  have hw : wrap64 (m - 1) = m - 1 := w64 (by omega) (by omega)
  by_cases h2 : m = 2
  · rw [if_pos h2, if_pos h2]
    by_cases h4 : y % 4 = 0
    · rw [if_pos (by simp [h4]), if_pos h4]
    · rw [if_neg (by simp [h4]), if_neg h4, hw, if_pos (by omega), if_pos (by simp only [List.length_cons, List.length_nil]; omega), h2]; rfl
  · rw [if_neg h2, if_neg h2, hw, if_pos (by omega), if_pos (by simp only [List.length_cons, List.length_nil]; omega)]; rfl
theorem impl_yyearDays_eq (y : Int) (hy : 0 ≤ y) : impl_yyearDays.f y = some (yd y) := by
  unfold impl_yyearDays.f impl_yleap.f yd
  rw [tmod4 y hy]
  simp only [Option.bind_some]
  by_cases h4 : y % 4 = 0
  · rw [if_pos (by simp [h4]), if_pos h4]
  · rw [if_neg (by simp [h4]), if_neg h4]

theorem seconds_months (y sec : Int) (hy : 0 ≤ y) (m : Int) (hm : m ≤ 12) (d : Nat) : ∀ (j acc : Int), 1 ≤ j → j ≤ m → m - j = d → -4611686018427387904 ≤ acc → acc ≤ 4611686018427387904 - 31 * (m - j) → ∀ z, Ev (fun k => impl_SecondsOf.l1 k acc j y m z sec) (wrap64 (wrap64 ((acc + (cumM y m - cumM y j)) * 86400) + sec)) := by
  induction d with
  | zero =>
    intro j acc h0 h1 hd _ _ z
    obtain rfl : m = j := by omega
    refine Ev.step (f := fun _ => some (wrap64 (wrap64 ((acc + (cumM y m - cumM y m)) * 86400) + sec))) (fun k => ?_) (Ev.now _)
    simp only [impl_SecondsOf.l1]
    rw [if_neg (by omega), Int.sub_self, Int.add_zero]
  | succ d ih =>
    intro j acc h0 h1 hd ha hb z
    have hr := md_range y j h0 (by omega)
    have hs := cumM_succ y j h0 (by omega)
    have := ih (j + 1) (acc + md y j) (by omega) (by omega) (by omega) (by omega) (by omega) z
    rw [show acc + md y j + (cumM y m - cumM y (j + 1)) = acc + (cumM y m - cumM y j) from by omega] at this
    refine Ev.step (fun k => ?_) this
    simp only [impl_SecondsOf.l1]
    rw [if_pos (by omega), impl_ymonthDays_eq y j hy h0 (by omega)]
    simp only [Option.bind_some]
    rw [w64 (a := acc + md y j) (by omega) (by omega), w64 (a := j + 1) (by omega) (by omega)]
theorem seconds_years (y m sec : Int) (hy1 : y ≤ 4294967296) (h1m : 1 ≤ m) (hm : m ≤ 12) (d : Nat) : ∀ (j acc : Int), 0 ≤ j → j ≤ y → y - j = d → 0 ≤ acc → acc ≤ 4611686018427387904 - 31 * 12 - 366 * (y - j) → ∀ z, Ev (fun k => impl_SecondsOf.l0 k acc j y m z sec) (wrap64 (wrap64 ((acc + (cumY y - cumY j) + cumM y m) * 86400) + sec)) := by
  induction d with
  | zero =>
    intro j acc h0 h1 hd ha hb z
    obtain rfl : y = j := by omega
    have := seconds_months y sec h0 m hm (m - 1).toNat 1 acc (by omega) h1m (by omega) (by omega) (by omega) z
    rw [cumM_one] at this
    refine Ev.step (fun k => ?_) (by rw [show acc + (cumY y - cumY y) + cumM y m = acc + (cumM y m - 0) from by omega]; exact this)
    simp only [impl_SecondsOf.l0]
    rw [if_neg (by omega)]
  | succ d ih =>
    intro j acc h0 h1 hd ha hb z
    have hyd : 365 ≤ yd j ∧ yd j ≤ 366 := by unfold yd; split <;> omega
    have hs := cumY_succ j
    have := ih (j + 1) (acc + yd j) (by omega) (by omega) (by omega) (by omega) (by omega) z
    rw [show acc + yd j + (cumY y - cumY (j + 1)) + cumM y m = acc + (cumY y - cumY j) + cumM y m from by omega] at this
    refine Ev.step (fun k => ?_) this
    simp only [impl_SecondsOf.l0]
    rw [if_pos (by omega), impl_yyearDays_eq j h0]
    simp only [Option.bind_some]
    rw [w64 (a := acc + yd j) (by omega) (by omega), w64 (a := j + 1) (by omega) (by omega)]
/-- The seconds of a right stamp. -/
theorem impl_SecondsOf_ev (y m dd sec : Int) (h0 : 2000 ≤ y) (h1 : y ≤ 2099) (h2 : 1 ≤ m) (h3 : m ≤ 12) (h4 : 1 ≤ dd) (h5 : dd ≤ md y m) (h6 : 0 ≤ sec) (h7 : sec ≤ 86399) :
    Ev (fun k => impl_SecondsOf.f k y m dd sec) (((dd - 1) + cumY y + cumM y m) * 86400 + sec) := by
  have hr := md_range y m h2 h3
  have hcY : 0 ≤ cumY y ∧ cumY y ≤ 40000 := by unfold cumY; omega
  have hcM : -1 ≤ cumM y m ∧ cumM y m ≤ 400 := by
    rcases month_cases h2 h3 with rfl | rfl | rfl | rfl | rfl | rfl | rfl | rfl | rfl | rfl | rfl | rfl <;> simp [cumM, rd] <;> (try split) <;> omega
  have := seconds_years y m sec (by omega) h2 h3 (y - 2000).toNat 2000 (dd - 1) (by omega) h0 (by omega) (by omega) (by omega) dd
  have hc0 : cumY 2000 = 0 := by decide
  rw [hc0, show dd - 1 + (cumY y - 0) + cumM y m = dd - 1 + cumY y + cumM y m from by omega] at this
  rw [w64 (a := (dd - 1 + cumY y + cumM y m) * 86400) (by omega) (by omega), w64 (by omega) (by omega)] at this
  refine Ev.congr (f := fun k => impl_SecondsOf.j0 k false y m dd sec) (fun k => ?_) (Ev.step (fun k => ?_) this)
  · unfold impl_SecondsOf.f impl_yin.f
    rw [if_pos (by omega), decide_eq_true (by omega)]
    simp only [Option.bind_some, if_true]
    rw [if_pos (by omega), decide_eq_true (by omega)]
    simp only [Option.bind_some, if_true]
    rw [impl_ymonthDays_eq y m (by omega) h2 h3]
    simp only [Option.bind_some]
    rw [if_pos (by omega), decide_eq_true (by omega)]
    simp only [Option.bind_some, if_true]
    rw [if_pos (by omega), decide_eq_true (by omega)]
    rfl
  · simp only [impl_SecondsOf.j0]
    rw [if_neg (by simp), w64 (a := dd - 1) (by omega) (by omega)]

theorem spec_months (y d z : Int) (hy : 0 ≤ y) (m : Int) (hm : m ≤ 12) (e : Nat) : ∀ (j acc : Int), 1 ≤ j → j ≤ m → m - j = e → -4611686018427387904 ≤ acc → acc ≤ 4611686018427387904 - 31 * (m - j) → Ev (fun k => spec_SecondsOf.l1 k acc j y m d z) (wrap64 (wrap64 ((acc + (cumM y m - cumM y j)) * 86400) + z)) := by
  induction e with
  | zero =>
    intro j acc h0 h1 hd _ _
    obtain rfl : m = j := by omega
    refine Ev.step (f := fun _ => some (wrap64 (wrap64 ((acc + (cumM y m - cumM y m)) * 86400) + z))) (fun k => ?_) (Ev.now _)
    simp only [spec_SecondsOf.l1]
    rw [if_neg (by omega), Int.sub_self, Int.add_zero]
  | succ e ih =>
    intro j acc h0 h1 hd ha hb
    have hr := md_range y j h0 (by omega)
    have hs := cumM_succ y j h0 (by omega)
    have := ih (j + 1) (acc + md y j) (by omega) (by omega) (by omega) (by omega) (by omega)
    rw [show acc + md y j + (cumM y m - cumM y (j + 1)) = acc + (cumM y m - cumM y j) from by omega] at this
    refine Ev.step (fun k => ?_) this
    simp only [spec_SecondsOf.l1]
    rw [if_pos (by omega), spec_l09Days_eq y j hy h0 (by omega), Option.bind_some, w64 (a := acc + md y j) (by omega) (by omega), w64 (a := j + 1) (by omega) (by omega)]
theorem spec_years (y m d z : Int) (hy1 : y ≤ 4294967296) (h1m : 1 ≤ m) (hm : m ≤ 12) (e : Nat) : ∀ (j acc : Int), 0 ≤ j → j ≤ y → y - j = e → 0 ≤ acc → acc ≤ 4611686018427387904 - 31 * 12 - 366 * (y - j) → Ev (fun k => spec_SecondsOf.l0 k acc j y m d z) (wrap64 (wrap64 ((acc + (cumY y - cumY j) + cumM y m) * 86400) + z)) := by
  induction e with
  | zero =>
    intro j acc h0 h1 hd ha hb
    obtain rfl : y = j := by omega
    have := spec_months y d z h0 m hm (m - 1).toNat 1 acc (by omega) h1m (by omega) (by omega) (by omega)
    rw [cumM_one] at this
    refine Ev.step (fun k => ?_) (by rw [show acc + (cumY y - cumY y) + cumM y m = acc + (cumM y m - 0) from by omega]; exact this)
    simp only [spec_SecondsOf.l0]
    rw [if_neg (by omega)]
  | succ e ih =>
    intro j acc h0 h1 hd ha hb
    have hyd : 365 ≤ yd j ∧ yd j ≤ 366 := by unfold yd; split <;> omega
    have hs := cumY_succ j
    have := ih (j + 1) (acc + yd j) (by omega) (by omega) (by omega) (by omega) (by omega)
    rw [show acc + yd j + (cumY y - cumY (j + 1)) + cumM y m = acc + (cumY y - cumY j) + cumM y m from by omega] at this
    refine Ev.step (fun k => ?_) this
    have hb : ((spec_l09Leap.f j).bind fun t112 => ((spec_l01Bool.f t112).bind fun t113 => (spec_SecondsOf.l0 k (wrap64 ((wrap64 (acc + 365)) + t113)) (wrap64 (j + 1)) y m d z))) = spec_SecondsOf.l0 k (acc + yd j) (j + 1) y m d z := by
      unfold spec_l09Leap.f spec_l01Bool.f yd
      rw [tmod4 j h0, Option.bind_some, w64 (a := acc + 365) (by omega) (by omega), w64 (a := j + 1) (by omega) (by omega)]
      by_cases h4 : j % 4 = 0
      · rw [if_pos (by simp [h4]), Option.bind_some, if_pos h4, w64 (by omega) (by omega)]
        rw [show acc + 365 + 1 = acc + 366 from by omega]
      · rw [if_neg (by simp [h4]), Option.bind_some, if_neg h4, w64 (by omega) (by omega)]
        rw [show acc + 365 + 0 = acc + 365 from by omega]
    simp only [spec_SecondsOf.l0]
    rw [if_pos (by omega), hb]
def stampOk (y m d z : Int) : Prop := (2000 ≤ y ∧ y ≤ 2099) ∧ (1 ≤ m ∧ m ≤ 12) ∧ 1 ≤ d ∧ d ≤ md y m ∧ (0 ≤ z ∧ z ≤ 86399)
theorem spec_SecondsOf_ev (y m d z : Int) (h : stampOk y m d z) : Ev (fun k => spec_SecondsOf.f k y m d z) (((d - 1) + cumY y + cumM y m) * 86400 + z) := by
  obtain ⟨⟨h0, h1⟩, ⟨h2, h3⟩, h4, h5, h6, h7⟩ := h
  have hr := md_range y m h2 h3
  have hcY : 0 ≤ cumY y ∧ cumY y ≤ 40000 := by unfold cumY; omega
  have hcM : -1 ≤ cumM y m ∧ cumM y m ≤ 400 := by
    rcases month_cases h2 h3 with rfl | rfl | rfl | rfl | rfl | rfl | rfl | rfl | rfl | rfl | rfl | rfl <;> simp [cumM, rd] <;> (try split) <;> omega
  have := spec_years y m d z (by omega) h2 h3 (y - 2000).toNat 2000 (d - 1) (by omega) h0 (by omega) (by omega) (by omega)
  have hc0 : cumY 2000 = 0 := by decide
  rw [hc0, show d - 1 + (cumY y - 0) + cumM y m = d - 1 + cumY y + cumM y m from by omega] at this
  rw [w64 (a := (d - 1 + cumY y + cumM y m) * 86400) (by omega) (by omega), w64 (by omega) (by omega)] at this
  refine Ev.congr (f := fun k => spec_SecondsOf.j0 k false y m d z) (fun k => ?_) (Ev.step (fun k => ?_) this)
  · unfold spec_SecondsOf.f
    rw [if_neg (by omega), if_neg (by omega), if_neg (by omega), if_neg (by omega), if_neg (by omega), spec_l09Days_eq y m (by omega) h2 h3, Option.bind_some, if_neg (by omega), if_neg (by omega), decide_eq_false (by omega)]
  · simp only [spec_SecondsOf.j0]
    rw [if_neg (by simp), w64 (a := d - 1) (by omega) (by omega)]
theorem spec_SecondsOf_no (y m d z : Int) (h : ¬ stampOk y m d z) : Ev (fun k => spec_SecondsOf.f k y m d z) (-1) := by
  have j0 : Ev (fun k => spec_SecondsOf.j0 k true y m d z) (-1) := Ev.step (f := fun _ => some (-1)) (fun k => by simp only [spec_SecondsOf.j0]; rw [if_pos trivial]) (Ev.now _)
  by_cases c0 : y < 2000
  · exact Ev.congr (fun k => by unfold spec_SecondsOf.f; rw [if_pos c0]) j0
  by_cases c1 : y > 2099
  · exact Ev.congr (fun k => by unfold spec_SecondsOf.f; rw [if_neg c0, if_pos c1]) j0
  by_cases c2 : m < 1
  · exact Ev.congr (fun k => by unfold spec_SecondsOf.f; rw [if_neg c0, if_neg c1, if_pos c2]) j0
  by_cases c3 : m > 12
  · exact Ev.congr (fun k => by unfold spec_SecondsOf.f; rw [if_neg c0, if_neg c1, if_neg c2, if_pos c3]) j0
  by_cases c4 : d < 1
  · exact Ev.congr (fun k => by unfold spec_SecondsOf.f; rw [if_neg c0, if_neg c1, if_neg c2, if_neg c3, if_pos c4]) j0
  have hd := spec_l09Days_eq y m (by omega) (by omega) (by omega)
  by_cases c5 : d > md y m
  · exact Ev.congr (fun k => by unfold spec_SecondsOf.f; rw [if_neg c0, if_neg c1, if_neg c2, if_neg c3, if_neg c4, hd, Option.bind_some, if_pos c5]) j0
  by_cases c6 : z < 0
  · exact Ev.congr (fun k => by unfold spec_SecondsOf.f; rw [if_neg c0, if_neg c1, if_neg c2, if_neg c3, if_neg c4, hd, Option.bind_some, if_neg c5, if_pos c6]) j0
  · have c7 : z > 86399 := by
      by_cases c7 : z > 86399
      · exact c7
      · exact absurd ⟨⟨by omega, by omega⟩, ⟨by omega, by omega⟩, by omega, by omega, by omega, by omega⟩ h
    exact Ev.congr (fun k => by unfold spec_SecondsOf.f; rw [if_neg c0, if_neg c1, if_neg c2, if_neg c3, if_neg c4, hd, Option.bind_some, if_neg c5, if_neg c6, decide_eq_true c7]) j0
theorem yin_eq (x a b : Int) : impl_yin.f x a b = some (decide (a ≤ x ∧ x ≤ b)) := by
  unfold impl_yin.f
  by_cases h : x ≥ a
  · rw [if_pos h]; congr 1; exact decide_eq_decide.mpr ⟨fun q => ⟨h, q⟩, fun q => q.2⟩
  · rw [if_neg h, decide_eq_false (fun q => h q.1)]
theorem impl_SecondsOf_no (y m d z : Int) (h : ¬ stampOk y m d z) : Ev (fun k => impl_SecondsOf.f k y m d z) (-1) := by
  have j0 : Ev (fun k => impl_SecondsOf.j0 k true y m d z) (-1) := Ev.step (f := fun _ => some (-1)) (fun k => by simp only [impl_SecondsOf.j0]; rw [if_pos trivial]) (Ev.now _)
  by_cases c0 : 2000 ≤ y ∧ y ≤ 2099
  · by_cases c1 : 1 ≤ m ∧ m ≤ 12
    · have hd := impl_ymonthDays_eq y m (by omega) c1.1 c1.2
      by_cases c2 : 1 ≤ d ∧ d ≤ md y m
      · have c3 : ¬ (0 ≤ z ∧ z ≤ 86399) := fun c3 => h ⟨c0, c1, c2.1, c2.2, c3⟩
        exact Ev.congr (fun k => by unfold impl_SecondsOf.f; rw [yin_eq, decide_eq_true c0, Option.bind_some, if_pos rfl, yin_eq, decide_eq_true c1, Option.bind_some, if_pos rfl, hd, Option.bind_some, yin_eq, decide_eq_true c2, Option.bind_some, if_pos rfl, yin_eq, decide_eq_false c3, Option.bind_some]; rfl) j0
      · exact Ev.congr (fun k => by unfold impl_SecondsOf.f; rw [yin_eq, decide_eq_true c0, Option.bind_some, if_pos rfl, yin_eq, decide_eq_true c1, Option.bind_some, if_pos rfl, hd, Option.bind_some, yin_eq, decide_eq_false c2, Option.bind_some, if_neg (by simp)]) j0
    · exact Ev.congr (fun k => by unfold impl_SecondsOf.f; rw [yin_eq, decide_eq_true c0, Option.bind_some, if_pos rfl, yin_eq, decide_eq_false c1, Option.bind_some, if_neg (by simp)]) j0
  · exact Ev.congr (fun k => by unfold impl_SecondsOf.f; rw [yin_eq, decide_eq_false c0, Option.bind_some, if_neg (by simp)]) j0
theorem FnExactSecondsOf : laws_FnExactSecondsOf.Pure := by
  intro y m d z _ _ _ _
  refine Ev.rounds (r := true) ?_
  have key : ∀ v : Int, Ev (fun k => spec_SecondsOf.f k y m d z) v → Ev (fun k => impl_SecondsOf.f k y m d z) v → Ev (fun k => laws_FnExactSecondsOf.f k y m d z) true := by
    intro v g1 g2
    refine Ev.congr (f := fun k => (spec_SecondsOf.f k y m d z).bind fun t132 => ((impl_SecondsOf.f k y m d z).bind fun t137 => (if t137 = t132 then (some true) else (some false)))) (fun k => ?_) (Ev.bind g1 (Ev.bind g2 ?_))
    · unfold laws_FnExactSecondsOf.f laws_toStamp.f
      rw [Option.bind_some]
      congr 1
    · rw [if_pos rfl]; exact Ev.now _
  by_cases h : stampOk y m d z
  · have h' := h
    obtain ⟨⟨h0, h1⟩, ⟨h2, h3⟩, h4, h5, h6, h7⟩ := h'
    exact key _ (spec_SecondsOf_ev y m d z h) (impl_SecondsOf_ev y m d z h0 h1 h2 h3 h4 h5 h6 h7)
  · exact key _ (spec_SecondsOf_no y m d z h) (impl_SecondsOf_no y m d z h)

end Go.Proofs.Ytofmibbadbmlfaa.Pure
