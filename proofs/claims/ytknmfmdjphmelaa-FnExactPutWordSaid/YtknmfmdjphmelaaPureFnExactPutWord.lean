/- The program's PutWord returns what the reference's returns, for all arguments. Conditions: none. -/
import Derived.Test.YtknmfmdjphmelaaPFnExactPutWordx1
import Derived.Test.YtknmfmdjphmelaaPl
set_option linter.unusedVariables false
set_option linter.unusedSimpArgs false
namespace Go.Proofs.Ytknmfmdjphmelaa.Pure
open Go.RowKit Go.Proofs.Ytknmfmdjphmelaa.PFnExactPutWord Go.Proofs.YtknmfmdjphmelaaW.PrintWords Go.Proofs.YtknmfmdjphmelaaW.PrintLast Go.Proofs.Ytknmfmdjphmelaa.Pl
theorem spec_l01Mod_eq (a m : Int) (hm : 0 < m) (hm1 : m ≤ 4611686018427387904) : spec_l01Mod.f a m = some (a % m) := by
  unfold spec_l01Mod.f; rw [if_neg (by omega)]; exact go_mod a m hm hm1
theorem spec_Word_eq (a : Int) : spec_Word.f a = some (a % 4294967296) := by
  unfold spec_Word.f; rw [spec_l01Mod_eq _ _ (by omega) (by omega)]; rfl

theorem FnExactPutWord : laws_FnExactPutWord.Pure := by
  intro a _
  unfold laws_FnExactPutWord.f impl_PutWord.f spec_PutWord.f
  rw [spec_Word_eq]
  simp only [Option.bind_some]
  rw [Int.emod_eq_of_lt (a := a % 4294967296 / 16777216) (b := 256) (by omega) (by omega), if_pos rfl]

end Go.Proofs.Ytknmfmdjphmelaa.Pure
