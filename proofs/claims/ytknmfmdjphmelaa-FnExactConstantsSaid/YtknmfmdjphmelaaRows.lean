/-
  No cell of these rows narrows 'for every input' (looked for: loops, veiled, ifaces, maps, wideKeys, modest, calm, conditions, laid).
  DERIVED. THE GIVEN ROWS OF THIS SEAT. 12 by the template 'for every input the law returns true; each argument reads behind the call as it read before'; 0 by the template 'total and deterministic' (their statements: YtknmfmdjphmelaaTotals.lean).
  GIVEN WITH THE SEED: the statements are not yours to turn. If you find one false, say at which input.
  Laid BY PROGRAM, IN A SANDBOX (cutbox-rows.mjs): the forced cells as the released guide's own fill.sh prints them over the translation bf7c508fc5780e01… (all of the seat's roots in one cut). By AI agents, Wed Nov 11 2026. No macro, syntax, notation, axiom, sorry.
-/
import Derived.Test.YtknmfmdjphmelaaChecked
import GoSem.Claim
import GoSem.ClaimJoined
import GoSem.ClaimMapViews
import Derived.JoinedTies
import Derived.KernelRfl
namespace Go.Proofs.Ytknmfmdjphmelaa
/- THE CELL 'sum', in the pinned program and in every row, IS THE sha256 OF THE DUMP (.gsa) THAT YtknmfmdjphmelaaProg.lean LOADS. Nothing in Lean hashes anything: it is a label: what it is worth is what the hold of that sum in a sandbox is worth. -/
noncomputable def Try.pinned : Pinned := { name := "ytknmfmdjphmelaa", sum := "bf7c508fc5780e01ae8fa51697361086c6f64326c66c298bbb02fa08c83104d7", checked := Try.checked }
namespace Rows
def none {H : Type} : Left H := { results := [], args := [] }

/-- 'laws.FnExactConstants': WHATEVER THE INPUT: true; the input reads as it did. -/
def fnExactConstantsSpec : ChangeSpec := { name := "fnExactConstants", fn := fun _ => fun
  | [] => { results := [.lit (.bool true)], args := [] }
  | _ => none }
def fnExactConstantsRow : OpenClaim := { program := "ytknmfmdjphmelaa", sum := "bf7c508fc5780e01ae8fa51697361086c6f64326c66c298bbb02fa08c83104d7", func := "loop.example/g00038/laws.FnExactConstants", spec := "fnExactConstants", apart := false }
def FnExactConstantsSaid : Prop := fnExactConstantsRow.holds Try.pinned (OpenSpec.ofChange fnExactConstantsSpec)

/-- ITS FALSE NEIGHBOUR: 'it returns false'. Refute it at one input. -/
def fnExactConstantsWrong : ChangeSpec := { name := "fnExactConstants", fn := fun _ => fun
  | [] => { results := [.lit (.bool false)], args := [] }
  | _ => none }
def FnExactConstantsWrongFalsely : Prop := fnExactConstantsRow.holds Try.pinned (OpenSpec.ofChange fnExactConstantsWrong)

/-- 'laws.FnExactWord': WHATEVER THE INPUT: true; the input reads as it did. -/
def fnExactWordSpec : ChangeSpec := { name := "fnExactWord", fn := fun _ => fun
  | [d] => { results := [.lit (.bool true)], args := [d] }
  | _ => none }
def fnExactWordRow : OpenClaim := { program := "ytknmfmdjphmelaa", sum := "bf7c508fc5780e01ae8fa51697361086c6f64326c66c298bbb02fa08c83104d7", func := "loop.example/g00038/laws.FnExactWord", spec := "fnExactWord", apart := false }
def FnExactWordSaid : Prop := fnExactWordRow.holds Try.pinned (OpenSpec.ofChange fnExactWordSpec)

/-- ITS FALSE NEIGHBOUR: 'it returns false'. Refute it at one input. -/
def fnExactWordWrong : ChangeSpec := { name := "fnExactWord", fn := fun _ => fun
  | [d] => { results := [.lit (.bool false)], args := [d] }
  | _ => none }
def FnExactWordWrongFalsely : Prop := fnExactWordRow.holds Try.pinned (OpenSpec.ofChange fnExactWordWrong)

/-- 'laws.FnExactMemFault': WHATEVER THE INPUT: true; the input reads as it did. -/
def fnExactMemFaultSpec : ChangeSpec := { name := "fnExactMemFault", fn := fun _ => fun
  | [d] => { results := [.lit (.bool true)], args := [d] }
  | _ => none }
def fnExactMemFaultRow : OpenClaim := { program := "ytknmfmdjphmelaa", sum := "bf7c508fc5780e01ae8fa51697361086c6f64326c66c298bbb02fa08c83104d7", func := "loop.example/g00038/laws.FnExactMemFault", spec := "fnExactMemFault", apart := false }
def FnExactMemFaultSaid : Prop := fnExactMemFaultRow.holds Try.pinned (OpenSpec.ofChange fnExactMemFaultSpec)

/-- ITS FALSE NEIGHBOUR: 'it returns false'. Refute it at one input. -/
def fnExactMemFaultWrong : ChangeSpec := { name := "fnExactMemFault", fn := fun _ => fun
  | [d] => { results := [.lit (.bool false)], args := [d] }
  | _ => none }
def FnExactMemFaultWrongFalsely : Prop := fnExactMemFaultRow.holds Try.pinned (OpenSpec.ofChange fnExactMemFaultWrong)

/-- 'laws.FnExactHasBit': WHATEVER THE INPUT: true; the input reads as it did. -/
def fnExactHasBitSpec : ChangeSpec := { name := "fnExactHasBit", fn := fun _ => fun
  | [d1, d2] => { results := [.lit (.bool true)], args := [d1, d2] }
  | _ => none }
def fnExactHasBitRow : OpenClaim := { program := "ytknmfmdjphmelaa", sum := "bf7c508fc5780e01ae8fa51697361086c6f64326c66c298bbb02fa08c83104d7", func := "loop.example/g00038/laws.FnExactHasBit", spec := "fnExactHasBit", apart := false }
def FnExactHasBitSaid : Prop := fnExactHasBitRow.holds Try.pinned (OpenSpec.ofChange fnExactHasBitSpec)

/-- ITS FALSE NEIGHBOUR: 'it returns false'. Refute it at one input. -/
def fnExactHasBitWrong : ChangeSpec := { name := "fnExactHasBit", fn := fun _ => fun
  | [d1, d2] => { results := [.lit (.bool false)], args := [d1, d2] }
  | _ => none }
def FnExactHasBitWrongFalsely : Prop := fnExactHasBitRow.holds Try.pinned (OpenSpec.ofChange fnExactHasBitWrong)

/-- 'laws.FnExactPutWord': WHATEVER THE INPUT: true; the input reads as it did. -/
def fnExactPutWordSpec : ChangeSpec := { name := "fnExactPutWord", fn := fun _ => fun
  | [d] => { results := [.lit (.bool true)], args := [d] }
  | _ => none }
def fnExactPutWordRow : OpenClaim := { program := "ytknmfmdjphmelaa", sum := "bf7c508fc5780e01ae8fa51697361086c6f64326c66c298bbb02fa08c83104d7", func := "loop.example/g00038/laws.FnExactPutWord", spec := "fnExactPutWord", apart := false }
def FnExactPutWordSaid : Prop := fnExactPutWordRow.holds Try.pinned (OpenSpec.ofChange fnExactPutWordSpec)

/-- ITS FALSE NEIGHBOUR: 'it returns false'. Refute it at one input. -/
def fnExactPutWordWrong : ChangeSpec := { name := "fnExactPutWord", fn := fun _ => fun
  | [d] => { results := [.lit (.bool false)], args := [d] }
  | _ => none }
def FnExactPutWordWrongFalsely : Prop := fnExactPutWordRow.holds Try.pinned (OpenSpec.ofChange fnExactPutWordWrong)

/-- 'laws.FnExactSigned': WHATEVER THE INPUT: true; the input reads as it did. -/
def fnExactSignedSpec : ChangeSpec := { name := "fnExactSigned", fn := fun _ => fun
  | [d] => { results := [.lit (.bool true)], args := [d] }
  | _ => none }
def fnExactSignedRow : OpenClaim := { program := "ytknmfmdjphmelaa", sum := "bf7c508fc5780e01ae8fa51697361086c6f64326c66c298bbb02fa08c83104d7", func := "loop.example/g00038/laws.FnExactSigned", spec := "fnExactSigned", apart := false }
def FnExactSignedSaid : Prop := fnExactSignedRow.holds Try.pinned (OpenSpec.ofChange fnExactSignedSpec)

/-- ITS FALSE NEIGHBOUR: 'it returns false'. Refute it at one input. -/
def fnExactSignedWrong : ChangeSpec := { name := "fnExactSigned", fn := fun _ => fun
  | [d] => { results := [.lit (.bool false)], args := [d] }
  | _ => none }
def FnExactSignedWrongFalsely : Prop := fnExactSignedRow.holds Try.pinned (OpenSpec.ofChange fnExactSignedWrong)

/-- 'laws.FnExactField': WHATEVER THE INPUT: true; the input reads as it did. -/
def fnExactFieldSpec : ChangeSpec := { name := "fnExactField", fn := fun _ => fun
  | [d1, d2, d3] => { results := [.lit (.bool true)], args := [d1, d2, d3] }
  | _ => none }
def fnExactFieldRow : OpenClaim := { program := "ytknmfmdjphmelaa", sum := "bf7c508fc5780e01ae8fa51697361086c6f64326c66c298bbb02fa08c83104d7", func := "loop.example/g00038/laws.FnExactField", spec := "fnExactField", apart := false }
def FnExactFieldSaid : Prop := fnExactFieldRow.holds Try.pinned (OpenSpec.ofChange fnExactFieldSpec)

/-- ITS FALSE NEIGHBOUR: 'it returns false'. Refute it at one input. -/
def fnExactFieldWrong : ChangeSpec := { name := "fnExactField", fn := fun _ => fun
  | [d1, d2, d3] => { results := [.lit (.bool false)], args := [d1, d2, d3] }
  | _ => none }
def FnExactFieldWrongFalsely : Prop := fnExactFieldRow.holds Try.pinned (OpenSpec.ofChange fnExactFieldWrong)

/-- 'laws.FnExactPublicOf': WHATEVER THE INPUT: true; the input reads as it did. -/
def fnExactPublicOfSpec : ChangeSpec := { name := "fnExactPublicOf", fn := fun _ => fun
  | [d] => { results := [.lit (.bool true)], args := [d] }
  | _ => none }
def fnExactPublicOfRow : OpenClaim := { program := "ytknmfmdjphmelaa", sum := "bf7c508fc5780e01ae8fa51697361086c6f64326c66c298bbb02fa08c83104d7", func := "loop.example/g00038/laws.FnExactPublicOf", spec := "fnExactPublicOf", apart := false }
def FnExactPublicOfSaid : Prop := fnExactPublicOfRow.holds Try.pinned (OpenSpec.ofChange fnExactPublicOfSpec)

/-- ITS FALSE NEIGHBOUR: 'it returns false'. Refute it at one input. -/
def fnExactPublicOfWrong : ChangeSpec := { name := "fnExactPublicOf", fn := fun _ => fun
  | [d] => { results := [.lit (.bool false)], args := [d] }
  | _ => none }
def FnExactPublicOfWrongFalsely : Prop := fnExactPublicOfRow.holds Try.pinned (OpenSpec.ofChange fnExactPublicOfWrong)

/-- 'laws.FnExactWithField': WHATEVER THE INPUT: true; the input reads as it did. -/
def fnExactWithFieldSpec : ChangeSpec := { name := "fnExactWithField", fn := fun _ => fun
  | [d1, d2, d3, d4] => { results := [.lit (.bool true)], args := [d1, d2, d3, d4] }
  | _ => none }
def fnExactWithFieldRow : OpenClaim := { program := "ytknmfmdjphmelaa", sum := "bf7c508fc5780e01ae8fa51697361086c6f64326c66c298bbb02fa08c83104d7", func := "loop.example/g00038/laws.FnExactWithField", spec := "fnExactWithField", apart := false }
def FnExactWithFieldSaid : Prop := fnExactWithFieldRow.holds Try.pinned (OpenSpec.ofChange fnExactWithFieldSpec)

/-- ITS FALSE NEIGHBOUR: 'it returns false'. Refute it at one input. -/
def fnExactWithFieldWrong : ChangeSpec := { name := "fnExactWithField", fn := fun _ => fun
  | [d1, d2, d3, d4] => { results := [.lit (.bool false)], args := [d1, d2, d3, d4] }
  | _ => none }
def FnExactWithFieldWrongFalsely : Prop := fnExactWithFieldRow.holds Try.pinned (OpenSpec.ofChange fnExactWithFieldWrong)

/-- 'laws.FnExactGetWord': WHATEVER THE INPUT: true; the input reads as it did. -/
def fnExactGetWordSpec : ChangeSpec := { name := "fnExactGetWord", fn := fun _ => fun
  | [d1, d2] => { results := [.lit (.bool true)], args := [d1, d2] }
  | _ => none }
def fnExactGetWordRow : OpenClaim := { program := "ytknmfmdjphmelaa", sum := "bf7c508fc5780e01ae8fa51697361086c6f64326c66c298bbb02fa08c83104d7", func := "loop.example/g00038/laws.FnExactGetWord", spec := "fnExactGetWord", apart := false }
def FnExactGetWordSaid : Prop := fnExactGetWordRow.holds Try.pinned (OpenSpec.ofChange fnExactGetWordSpec)

/-- ITS FALSE NEIGHBOUR: 'it returns false'. Refute it at one input. -/
def fnExactGetWordWrong : ChangeSpec := { name := "fnExactGetWord", fn := fun _ => fun
  | [d1, d2] => { results := [.lit (.bool false)], args := [d1, d2] }
  | _ => none }
def FnExactGetWordWrongFalsely : Prop := fnExactGetWordRow.holds Try.pinned (OpenSpec.ofChange fnExactGetWordWrong)

/-- 'laws.FnExactCountBits': WHATEVER THE INPUT: true; the input reads as it did. -/
def fnExactCountBitsSpec : ChangeSpec := { name := "fnExactCountBits", fn := fun _ => fun
  | [d] => { results := [.lit (.bool true)], args := [d] }
  | _ => none }
def fnExactCountBitsRow : OpenClaim := { program := "ytknmfmdjphmelaa", sum := "bf7c508fc5780e01ae8fa51697361086c6f64326c66c298bbb02fa08c83104d7", func := "loop.example/g00038/laws.FnExactCountBits", spec := "fnExactCountBits", apart := false }
def FnExactCountBitsSaid : Prop := fnExactCountBitsRow.holds Try.pinned (OpenSpec.ofChange fnExactCountBitsSpec)

/-- ITS FALSE NEIGHBOUR: 'it returns false'. Refute it at one input. -/
def fnExactCountBitsWrong : ChangeSpec := { name := "fnExactCountBits", fn := fun _ => fun
  | [d] => { results := [.lit (.bool false)], args := [d] }
  | _ => none }
def FnExactCountBitsWrongFalsely : Prop := fnExactCountBitsRow.holds Try.pinned (OpenSpec.ofChange fnExactCountBitsWrong)

/-- 'laws.FnExactPutBit': WHATEVER THE INPUT: true; the input reads as it did. -/
def fnExactPutBitSpec : ChangeSpec := { name := "fnExactPutBit", fn := fun _ => fun
  | [d1, d2, d3] => { results := [.lit (.bool true)], args := [d1, d2, d3] }
  | _ => none }
def fnExactPutBitRow : OpenClaim := { program := "ytknmfmdjphmelaa", sum := "bf7c508fc5780e01ae8fa51697361086c6f64326c66c298bbb02fa08c83104d7", func := "loop.example/g00038/laws.FnExactPutBit", spec := "fnExactPutBit", apart := false }
def FnExactPutBitSaid : Prop := fnExactPutBitRow.holds Try.pinned (OpenSpec.ofChange fnExactPutBitSpec)

/-- ITS FALSE NEIGHBOUR: 'it returns false'. Refute it at one input. -/
def fnExactPutBitWrong : ChangeSpec := { name := "fnExactPutBit", fn := fun _ => fun
  | [d1, d2, d3] => { results := [.lit (.bool false)], args := [d1, d2, d3] }
  | _ => none }
def FnExactPutBitWrongFalsely : Prop := fnExactPutBitRow.holds Try.pinned (OpenSpec.ofChange fnExactPutBitWrong)

/- THE SECOND FORM. 'bulk': how many values and letters a reading holds, each counted each time it is reached (what is shared counts as often as it is met; a slice's spare places count too). A statement '..UptoSaid' is the law's where the arguments, and the package variables that the reading takes, are together of bulk at most 1048576: NARROWER than '..Said'. Prove '..Said' where nothing that the law and all that it calls make is longer than what came in: it says more and counts as full. Else prove '..UptoSaid'. A law counts once. -/
mutual
def uptoBulk {H : Type} : DataW H → Nat
  | .lit (.string bytes) => bytes.length + 1
  | .lit _ => 1
  | .nil => 1
  | .ptr d => uptoBulk d + 1
  | .slice elems spare => uptoBulkAll elems + uptoBulkAll spare + 1
  | .agg parts => uptoBulkAll parts + 1
  | .iface _ d => uptoBulk d + 1
  | .map entries => uptoBulkEntries entries + 1
  | .held _ => 1
def uptoBulkAll {H : Type} : List (DataW H) → Nat
  | [] => 0
  | d :: r => uptoBulk d + uptoBulkAll r
def uptoBulkEntries {H : Type} : List (Lit × DataW H) → Nat
  | [] => 0
  | x :: r => uptoBulkEntry x + uptoBulkEntries r
def uptoBulkEntry {H : Type} : Lit × DataW H → Nat
  | (.string bytes, d) => bytes.length + uptoBulk d + 1
  | (_, d) => uptoBulk d + 1
 end
def uptoSmall : (H : Type) → List (DataW H) → Bool := fun _ ds => decide (uptoBulkAll ds ≤ 1048576)
def OpenSpec.upto (s : _root_.Go.ChangeSpec) : _root_.Go.OpenSpec := { _root_.Go.OpenSpec.ofChange s with cond := some uptoSmall }

/-- 'laws.FnExactConstants', WHERE WHAT IT READS IS OF BULK AT MOST 1048576: true; the input reads as it did. -/
def fnExactConstantsUptoRow : OpenClaim := { program := "ytknmfmdjphmelaa", sum := "bf7c508fc5780e01ae8fa51697361086c6f64326c66c298bbb02fa08c83104d7", func := "loop.example/g00038/laws.FnExactConstants", spec := "fnExactConstants", apart := false, narrowed := true }
def FnExactConstantsUptoSaid : Prop := fnExactConstantsUptoRow.holds Try.pinned (OpenSpec.upto fnExactConstantsSpec)

/-- 'laws.FnExactWord', WHERE WHAT IT READS IS OF BULK AT MOST 1048576: true; the input reads as it did. -/
def fnExactWordUptoRow : OpenClaim := { program := "ytknmfmdjphmelaa", sum := "bf7c508fc5780e01ae8fa51697361086c6f64326c66c298bbb02fa08c83104d7", func := "loop.example/g00038/laws.FnExactWord", spec := "fnExactWord", apart := false, narrowed := true }
def FnExactWordUptoSaid : Prop := fnExactWordUptoRow.holds Try.pinned (OpenSpec.upto fnExactWordSpec)

/-- 'laws.FnExactMemFault', WHERE WHAT IT READS IS OF BULK AT MOST 1048576: true; the input reads as it did. -/
def fnExactMemFaultUptoRow : OpenClaim := { program := "ytknmfmdjphmelaa", sum := "bf7c508fc5780e01ae8fa51697361086c6f64326c66c298bbb02fa08c83104d7", func := "loop.example/g00038/laws.FnExactMemFault", spec := "fnExactMemFault", apart := false, narrowed := true }
def FnExactMemFaultUptoSaid : Prop := fnExactMemFaultUptoRow.holds Try.pinned (OpenSpec.upto fnExactMemFaultSpec)

/-- 'laws.FnExactHasBit', WHERE WHAT IT READS IS OF BULK AT MOST 1048576: true; the input reads as it did. -/
def fnExactHasBitUptoRow : OpenClaim := { program := "ytknmfmdjphmelaa", sum := "bf7c508fc5780e01ae8fa51697361086c6f64326c66c298bbb02fa08c83104d7", func := "loop.example/g00038/laws.FnExactHasBit", spec := "fnExactHasBit", apart := false, narrowed := true }
def FnExactHasBitUptoSaid : Prop := fnExactHasBitUptoRow.holds Try.pinned (OpenSpec.upto fnExactHasBitSpec)

/-- 'laws.FnExactPutWord', WHERE WHAT IT READS IS OF BULK AT MOST 1048576: true; the input reads as it did. -/
def fnExactPutWordUptoRow : OpenClaim := { program := "ytknmfmdjphmelaa", sum := "bf7c508fc5780e01ae8fa51697361086c6f64326c66c298bbb02fa08c83104d7", func := "loop.example/g00038/laws.FnExactPutWord", spec := "fnExactPutWord", apart := false, narrowed := true }
def FnExactPutWordUptoSaid : Prop := fnExactPutWordUptoRow.holds Try.pinned (OpenSpec.upto fnExactPutWordSpec)

/-- 'laws.FnExactSigned', WHERE WHAT IT READS IS OF BULK AT MOST 1048576: true; the input reads as it did. -/
def fnExactSignedUptoRow : OpenClaim := { program := "ytknmfmdjphmelaa", sum := "bf7c508fc5780e01ae8fa51697361086c6f64326c66c298bbb02fa08c83104d7", func := "loop.example/g00038/laws.FnExactSigned", spec := "fnExactSigned", apart := false, narrowed := true }
def FnExactSignedUptoSaid : Prop := fnExactSignedUptoRow.holds Try.pinned (OpenSpec.upto fnExactSignedSpec)

/-- 'laws.FnExactField', WHERE WHAT IT READS IS OF BULK AT MOST 1048576: true; the input reads as it did. -/
def fnExactFieldUptoRow : OpenClaim := { program := "ytknmfmdjphmelaa", sum := "bf7c508fc5780e01ae8fa51697361086c6f64326c66c298bbb02fa08c83104d7", func := "loop.example/g00038/laws.FnExactField", spec := "fnExactField", apart := false, narrowed := true }
def FnExactFieldUptoSaid : Prop := fnExactFieldUptoRow.holds Try.pinned (OpenSpec.upto fnExactFieldSpec)

/-- 'laws.FnExactPublicOf', WHERE WHAT IT READS IS OF BULK AT MOST 1048576: true; the input reads as it did. -/
def fnExactPublicOfUptoRow : OpenClaim := { program := "ytknmfmdjphmelaa", sum := "bf7c508fc5780e01ae8fa51697361086c6f64326c66c298bbb02fa08c83104d7", func := "loop.example/g00038/laws.FnExactPublicOf", spec := "fnExactPublicOf", apart := false, narrowed := true }
def FnExactPublicOfUptoSaid : Prop := fnExactPublicOfUptoRow.holds Try.pinned (OpenSpec.upto fnExactPublicOfSpec)

/-- 'laws.FnExactWithField', WHERE WHAT IT READS IS OF BULK AT MOST 1048576: true; the input reads as it did. -/
def fnExactWithFieldUptoRow : OpenClaim := { program := "ytknmfmdjphmelaa", sum := "bf7c508fc5780e01ae8fa51697361086c6f64326c66c298bbb02fa08c83104d7", func := "loop.example/g00038/laws.FnExactWithField", spec := "fnExactWithField", apart := false, narrowed := true }
def FnExactWithFieldUptoSaid : Prop := fnExactWithFieldUptoRow.holds Try.pinned (OpenSpec.upto fnExactWithFieldSpec)

/-- 'laws.FnExactGetWord', WHERE WHAT IT READS IS OF BULK AT MOST 1048576: true; the input reads as it did. -/
def fnExactGetWordUptoRow : OpenClaim := { program := "ytknmfmdjphmelaa", sum := "bf7c508fc5780e01ae8fa51697361086c6f64326c66c298bbb02fa08c83104d7", func := "loop.example/g00038/laws.FnExactGetWord", spec := "fnExactGetWord", apart := false, narrowed := true }
def FnExactGetWordUptoSaid : Prop := fnExactGetWordUptoRow.holds Try.pinned (OpenSpec.upto fnExactGetWordSpec)

/-- 'laws.FnExactCountBits', WHERE WHAT IT READS IS OF BULK AT MOST 1048576: true; the input reads as it did. -/
def fnExactCountBitsUptoRow : OpenClaim := { program := "ytknmfmdjphmelaa", sum := "bf7c508fc5780e01ae8fa51697361086c6f64326c66c298bbb02fa08c83104d7", func := "loop.example/g00038/laws.FnExactCountBits", spec := "fnExactCountBits", apart := false, narrowed := true }
def FnExactCountBitsUptoSaid : Prop := fnExactCountBitsUptoRow.holds Try.pinned (OpenSpec.upto fnExactCountBitsSpec)

/-- 'laws.FnExactPutBit', WHERE WHAT IT READS IS OF BULK AT MOST 1048576: true; the input reads as it did. -/
def fnExactPutBitUptoRow : OpenClaim := { program := "ytknmfmdjphmelaa", sum := "bf7c508fc5780e01ae8fa51697361086c6f64326c66c298bbb02fa08c83104d7", func := "loop.example/g00038/laws.FnExactPutBit", spec := "fnExactPutBit", apart := false, narrowed := true }
def FnExactPutBitUptoSaid : Prop := fnExactPutBitUptoRow.holds Try.pinned (OpenSpec.upto fnExactPutBitSpec)

end Rows
end Go.Proofs.Ytknmfmdjphmelaa
