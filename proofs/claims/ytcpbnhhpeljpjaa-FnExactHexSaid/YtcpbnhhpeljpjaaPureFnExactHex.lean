/- The program's Hex returns what the reference's returns, for all arguments. Conditions: none. -/
import Derived.Test.YtcpbnhhpeljpjaaQFnExactHexx
import Derived.Test.YtcpbnhhpeljpjaaPl
set_option linter.unusedVariables false
set_option linter.unusedSimpArgs false
namespace Go.Proofs.Ytcpbnhhpeljpjaa.Pure
open Go.RowKit Go.Proofs.Ytcpbnhhpeljpjaa.QFnExactHex Go.Proofs.YtcpbnhhpeljpjaaW.PrintWords Go.Proofs.YtcpbnhhpeljpjaaW.PrintLast Go.Proofs.Ytcpbnhhpeljpjaa.Pl Go.Proofs.YtcpbnhhpeljpjaaW.PrintMore
theorem strOf_map (l : List UInt8) : strOfNums (l.map fun b => (b.toNat : Int)) = ⟨l.toArray⟩ := by
  simp only [strOfNums, List.map_map]
  have hmap : ∀ l : List UInt8, (l.map ((fun n : Int => UInt8.ofNat n.toNat) ∘ fun b : UInt8 => (b.toNat : Int))) = l := fun l => by
    induction l with
    | nil => rfl
    | cons b r ih => rw [List.map_cons, ih]; simp
  rw [hmap]
theorem size_list (s : ByteArray) : s.data.toList.length = s.size := by rw [Array.length_toList]; rfl
theorem hex_loop (s : ByteArray) (hs : (s.size : Int) ≤ 65536) (d : Nat) : ∀ i : Nat, i + d = s.size → Ev (fun k => spec_Hex.l0 k s ((hexL (s.data.toList.take i)).map fun b => (b.toNat : Int)) (i : Int)) ⟨(hexL s.data.toList).toArray⟩ := by
  induction d with
  | zero =>
    intro i hi
    rw [List.take_of_length_le (by rw [size_list]; omega)]
    refine Ev.step (f := fun _ => some (strOfNums ((hexL s.data.toList).map fun b => (b.toNat : Int)))) (fun k => ?_) ?_
    · simp only [spec_Hex.l0]
      rw [if_neg (by omega)]
    · rw [strOf_map]; exact Ev.now _
  | succ d ih =>
    intro i hi
    have hlt : i < s.data.toList.length := by rw [size_list]; omega
    have hnext := ih (i + 1) (by omega)
    rw [List.take_succ_eq_append_getElem hlt, hexL_snoc] at hnext
    have hbt : bt s (i : Int) = ((s.data.toList[i]).toNat : Int) := by
      rw [← bt_at s (i : Int) (by rw [Int.toNat_natCast, ← size_list]; exact hlt)]
      simp only [Int.toNat_natCast, Array.getElem_toList]
      rfl
    generalize s.data.toList[i] = b at hnext hbt
    have hb : b.toNat < 256 := UInt8.toNat_lt b
    have htab := List.all_eq_true.mp hex_table b.toNat (List.mem_range.mpr hb)
    rw [Bool.and_eq_true, Bool.and_eq_true] at htab
    have t1 := eq_of_beq htab.1.1
    have t2 := eq_of_beq htab.1.2
    have e1 : Int.tdiv (b.toNat : Int) 16 % 256 = ((b.toNat / 16 : Nat) : Int) := by rw [tdiv_nn (by omega)]; omega
    have e2 : Int.tmod (b.toNat : Int) 16 = ((b.toNat % 16 : Nat) : Int) := by rw [tmod_nn (by omega)]; omega
    have hl : (hexL (s.data.toList.take i)).length ≤ 131072 := by rw [hexL_length, List.length_take, size_list]; omega
    refine Ev.step (fun k => ?_) hnext
    simp only [spec_Hex.l0]
    rw [if_pos (by omega), if_pos (by omega), hbt, e1, e2, if_pos (by omega), if_pos (by omega), if_pos (by omega), if_pos (by omega), t1, t2, Option.bind_some, if_pos (by rw [List.length_map, List.length_cons, List.length_cons, List.length_nil]; omega), w64 (by omega) (by omega), show ((i : Int) + 1) = ((i + 1 : Nat) : Int) from by omega]
    rw [List.map_append, List.map_append, List.append_assoc]
    rfl
theorem FnExactHex : laws_FnExactHex.Pure := by
  intro s _
  refine Ev.rounds (r := true) ?_
  unfold laws_FnExactHex.f
  by_cases h0 : (s.size : Int) > 1048576
  · simp only [if_pos h0]; exact Ev.now _
  · simp only [if_neg h0]
    have hw : wrap64 (2 * (s.size : Int)) = 2 * (s.size : Int) := w64 (by omega) (by omega)
    by_cases h1 : (s.size : Int) * 2 > 65536
    · have h2 : 2 * (s.size : Int) > 65536 := by omega
      have e1 : Ev (fun k => spec_Hex.f k s) (⟨#[]⟩ : ByteArray) := by unfold spec_Hex.f; simp only [hw, if_pos h2]; exact Ev.now _
      have e2 : impl_Hex.f s = some (⟨#[]⟩ : ByteArray) := by unfold impl_Hex.f; rw [if_pos h1]
      refine Ev.bind e1 ?_
      simp only [e2, Option.bind_some, if_true]
      exact Ev.now _
    · have h2 : ¬ 2 * (s.size : Int) > 65536 := by omega
      have e1 : Ev (fun k => spec_Hex.f k s) (⟨(hexL s.data.toList).toArray⟩ : ByteArray) := by
        unfold spec_Hex.f
        simp only [hw, if_neg h2]
        have := hex_loop s (by omega) s.size 0 (by omega)
        rw [List.take_zero] at this
        exact this
      have e2 : impl_Hex.f s = some (⟨(hexL s.data.toList).toArray⟩ : ByteArray) := by unfold impl_Hex.f; rw [if_neg h1]
      refine Ev.bind e1 ?_
      simp only [e2, Option.bind_some, if_true]
      exact Ev.now _

end Go.Proofs.Ytcpbnhhpeljpjaa.Pure
