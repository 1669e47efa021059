/- What several stores into one block do to rows and to other blocks. -/
import Derived.Test.YtopeblicjgbfcaaWWords
import Derived.Test.YtopeblicjgbfcaaWApart
import Derived.Test.YtopeblicjgbfcaaWShare
import Derived.Test.YtopeblicjgbfcaaWN
import Derived.Test.YtopeblicjgbfcaaWMore
import Derived.Test.YtopeblicjgbfcaaWLast
import Derived.Test.YtopeblicjgbfcaaWKept
namespace Go.Proofs.YtopeblicjgbfcaaW.PrintWords
open Go.RowKit Go.Proofs.YtopeblicjgbfcaaW.PrintLast Go.Proofs.YtopeblicjgbfcaaW.PrintMore
set_option linter.unusedVariables false
theorem Sq.it {l : List UInt8} (h : l = []) : l.isEmpty = true := by rw [h]; rfl
theorem Sq.ie {l : List UInt8} (h : ¬ l = []) : l.isEmpty = false := by
  cases l with
  | nil => exact absurd rfl h
  | cons _ _ => rfl
abbrev Sq.l := @Aside0.mk
abbrev Sq.s := @Kd.C_alloc
abbrev Sq.a1 := @Kd.C_below
abbrev Sq.u := @Kd.C_drew
abbrev Sq.t := @Kd.C_drewN
abbrev Sq.a := @Kd.R_alloc
abbrev Sq.n := @Kd.R_below
abbrev Sq.c := @Kd.R_drew
abbrev Sq.b := @Kd.R_drewN
abbrev Sq.a2 := @Kd.R_lower
abbrev Sq.a3 := @Kd.R_mono
abbrev Sq.b4 := @Kd.R_reads'
abbrev Sq.i := @below_alloc
abbrev Sq.k := @below_drew1
abbrev Sq.h := @below_set
abbrev Sq.a5 := @below_size
abbrev Sq.a4 := @below_step
abbrev Sq.j := @pw_below_drewN
end Go.Proofs.YtopeblicjgbfcaaW.PrintWords
