/- The program's Signed returns what the reference's returns, for all arguments. Conditions: none. -/
import Derived.Test.YtknmfmdjphmelaaPFnExactSignedx1
import Derived.Test.YtknmfmdjphmelaaPl
set_option linter.unusedVariables false
set_option linter.unusedSimpArgs false
namespace Go.Proofs.Ytknmfmdjphmelaa.Pure
open Go.RowKit Go.Proofs.Ytknmfmdjphmelaa.PFnExactSigned Go.Proofs.YtknmfmdjphmelaaW.PrintWords Go.Proofs.YtknmfmdjphmelaaW.PrintLast Go.Proofs.Ytknmfmdjphmelaa.Pl
theorem spec_l01Mod_eq (a m : Int) (hm : 0 < m) (hm1 : m ≤ 4611686018427387904) : spec_l01Mod.f a m = some (a % m) := by
  unfold spec_l01Mod.f; rw [if_neg (by omega)]; exact go_mod a m hm hm1
theorem spec_Word_eq (a : Int) : spec_Word.f a = some (a % 4294967296) := by
  unfold spec_Word.f; rw [spec_l01Mod_eq _ _ (by omega) (by omega)]; rfl

theorem FnExactSigned : laws_FnExactSigned.Pure := by
  intro a _
  unfold laws_FnExactSigned.f impl_Signed.f spec_Signed.f
  rw [spec_Word_eq]
  simp only [Option.bind_some]
  by_cases h : a % 4294967296 ≥ 2147483648
  · rw [if_pos h]
    simp only [Option.bind_some]
    rw [if_pos (by unfold wrap64 wrap32; omega)]
  · rw [if_neg h]
    simp only [Option.bind_some]
    rw [if_pos (by unfold wrap64 wrap32; omega)]

end Go.Proofs.Ytknmfmdjphmelaa.Pure
