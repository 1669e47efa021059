/- The program's CryptDisk returns what the reference's returns, for all arguments. Conditions: none. -/
import Derived.Test.YtpcpjkbjadgoiaaQFnExactCryptDiskx
import Derived.Test.YtpcpjkbjadgoiaaPl
import Derived.Test.YtpcpjkbjadgoiaaCw
set_option linter.unusedVariables false
set_option linter.unusedSimpArgs false
namespace Go.Proofs.Ytpcpjkbjadgoiaa.Pure
open Go.RowKit Go.Proofs.Ytpcpjkbjadgoiaa.QFnExactCryptDisk Go.Proofs.YtpcpjkbjadgoiaaW.PrintWords Go.Proofs.YtpcpjkbjadgoiaaW.PrintLast Go.Proofs.Ytpcpjkbjadgoiaa.Pl Go.Proofs.YtpcpjkbjadgoiaaW.PrintMore
theorem ck_same (a0 : ByteArray) (a1 : Int) (a2 : ByteArray) : spec_Crypt.f a0 a1 a2 = impl_Crypt.f a0 a1 a2 := rfl
theorem ck_app (a0 a1 : ByteArray) (i : Nat) : (⟨(ckL a0 a1 i).toArray⟩ : ByteArray) ++ ckB a0 a1 i = ⟨(ckL a0 a1 (i + 1)).toArray⟩ := by
  apply ByteArray.ext
  apply Array.toList_inj.1
  rw [ByteArray.data_append, Array.toList_append]
  rfl
theorem ck_loop (a0 a1 : ByteArray) (hk : ¬ (a0.size : Int) > 4096) (hs : a1.size ≤ 65536) (d : Nat) : ∀ i : Nat, 16 * (i + d) = a1.size → Ev (fun k => spec_CryptDisk.l0 k a0 a1 ⟨(ckL a0 a1 i).toArray⟩ (i : Int)) (⟨(ckL a0 a1 (i + d)).toArray⟩ : ByteArray) := by
  induction d with
  | zero =>
    intro i hi
    refine Ev.step (f := fun _ => some (⟨(ckL a0 a1 i).toArray⟩ : ByteArray)) (fun k => ?_) (Ev.now _)
    simp only [spec_CryptDisk.l0]
    rw [w64 (a := (i : Int) * 16) (by omega) (by omega), if_neg (by omega)]
  | succ d ih =>
    intro i hi
    have hle : 16 * i + 16 ≤ a1.size := by omega
    have h2 := ih (i + 1) (by omega)
    rw [show i + 1 + d = i + (d + 1) from by omega] at h2
    refine Ev.step (fun k => ?_) h2
    simp only [spec_CryptDisk.l0]
    have e0 : wrap64 ((i : Int) * 16) = ((16 * i : Nat) : Int) := by rw [w64 (by omega) (by omega)]; omega
    have e1 : wrap64 ((i : Int) + 1) = ((i + 1 : Nat) : Int) := by rw [w64 (by omega) (by omega)]; omega
    have e2 : wrap64 (((i + 1 : Nat) : Int) * 16) = ((16 * i + 16 : Nat) : Int) := by rw [w64 (by omega) (by omega)]; omega
    rw [e0, e1, e2, if_pos (by omega), if_pos (by omega), if_pos (by omega), if_pos (by omega), Int.toNat_natCast, Int.toNat_natCast, ck_same, ck_crypt a0 a1 i hle hk, Option.bind_some, ck_app]
    have hz : (⟨(ckL a0 a1 i).toArray⟩ : ByteArray).size = 16 * i := by
      show (ckL a0 a1 i).toArray.size = _
      rw [List.size_toArray, ckL_len a0 a1 i (by omega)]
    rw [hz, ckB_size a0 a1 i hle, if_pos (by omega)]
theorem disk_both (a0 a1 : ByteArray) : ∃ r, Ev (fun k => spec_CryptDisk.f k a0 a1) r ∧ impl_CryptDisk.f a0 a1 = some r := by
  have he : Ev (fun k => spec_CryptDisk.j0 k a0 a1 true) (⟨#[]⟩ : ByteArray) := Ev.step (f := fun _ => some (⟨#[]⟩ : ByteArray)) (fun k => by simp only [spec_CryptDisk.j0]; rw [if_pos trivial]) (Ev.now _)
  unfold spec_CryptDisk.f impl_CryptDisk.f
  by_cases c0 : (a0.size : Int) > 4096
  · exact ⟨_, by simp only [if_pos c0]; exact he, if_pos c0⟩
  · by_cases c1 : (a1.size : Int) > 65536
    · exact ⟨_, by simp only [if_neg c0, if_pos c1]; exact he, by rw [if_neg c0, if_pos c1]⟩
    · by_cases c2 : a1.size % 16 ≠ 0
      · have hb : (((a1.size : Int) % 16) != 0) = true := by
          rw [bne_iff_ne]; omega
        exact ⟨_, by simp only [if_neg c0, if_neg c1, hb]; exact he, by rw [if_neg c0, if_neg c1, if_pos c2]⟩
      · have hb : (((a1.size : Int) % 16) != 0) = false := by
          rw [bne_eq_false_iff_eq]; omega
        have hl := ck_loop a0 a1 c0 (by omega) (a1.size / 16) 0 (by omega)
        rw [Nat.zero_add] at hl
        refine ⟨_, ?_, by rw [if_neg c0, if_neg c1, if_neg c2]⟩
        simp only [if_neg c0, if_neg c1, hb]
        refine Ev.step (fun k => ?_) hl
        simp only [spec_CryptDisk.j0]
        rw [if_neg (by decide)]
        rfl
theorem FnExactCryptDisk : laws_FnExactCryptDisk.Pure := by
  intro a0 a1 h0 h1
  refine Ev.rounds (r := true) ?_
  unfold laws_FnExactCryptDisk.f
  by_cases c0 : (a0.size : Int) > 1048576
  · simp only [if_pos c0]; exact Ev.now _
  · by_cases c1 : (a1.size : Int) > 1048576
    · simp only [if_neg c0, if_pos c1]; exact Ev.now _
    · simp only [if_neg c0, if_neg c1]
      obtain ⟨r, r1, r2⟩ := disk_both a0 a1
      refine Ev.bind r1 ?_
      simp only [r2, Option.bind_some, if_true]
      exact Ev.now _

end Go.Proofs.Ytpcpjkbjadgoiaa.Pure
