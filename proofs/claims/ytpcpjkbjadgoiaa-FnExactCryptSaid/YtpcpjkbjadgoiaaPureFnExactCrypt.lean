/- The program's Crypt returns what the reference's returns, for all arguments. Conditions: none. -/
import Derived.Test.YtpcpjkbjadgoiaaQFnExactCryptx
import Derived.Test.YtpcpjkbjadgoiaaPl
import Derived.Test.YtpcpjkbjadgoiaaCw
set_option linter.unusedVariables false
set_option linter.unusedSimpArgs false
namespace Go.Proofs.Ytpcpjkbjadgoiaa.Pure
open Go.RowKit Go.Proofs.Ytpcpjkbjadgoiaa.QFnExactCrypt Go.Proofs.YtpcpjkbjadgoiaaW.PrintWords Go.Proofs.YtpcpjkbjadgoiaaW.PrintLast Go.Proofs.Ytpcpjkbjadgoiaa.Pl Go.Proofs.YtpcpjkbjadgoiaaW.PrintMore
theorem same (a0 : ByteArray) (a1 : Int) (a2 : ByteArray) : impl_Crypt.f a0 a1 a2 = spec_Crypt.f a0 a1 a2 := rfl
theorem some_f (a0 : ByteArray) (a1 : Int) (a2 : ByteArray) : ∃ r, spec_Crypt.f a0 a1 a2 = some r := by
  unfold spec_Crypt.f
  by_cases c0 : (a0.size : Int) > 4096
  · exact ⟨_, if_pos c0⟩
  · rw [if_neg c0]
    by_cases c1 : (a2.size : Int) > 65536
    · exact ⟨_, if_pos c1⟩
    · exact ⟨_, if_neg c1⟩
theorem FnExactCrypt : laws_FnExactCrypt.Pure := by
  intro a0 a1 a2 h0 h1 h2
  obtain ⟨r, hr⟩ := some_f a0 a1 a2
  unfold laws_FnExactCrypt.f
  rw [same, hr]
  by_cases c0 : (a0.size : Int) > 1048576
  · rw [if_pos c0]
  · rw [if_neg c0]
    by_cases c1 : (a2.size : Int) > 1048576
    · rw [if_pos c1]
    · rw [if_neg c1, Option.bind_some, Option.bind_some, if_pos rfl]

end Go.Proofs.Ytpcpjkbjadgoiaa.Pure
