/-
  No cell of these rows narrows 'for every input' (looked for: loops, veiled, ifaces, maps, wideKeys, modest, calm, conditions, laid).
  DERIVED. THE GIVEN ROWS OF THIS SEAT. 4 by the template 'for every input the law returns true; each argument reads behind the call as it read before'; 0 by the template 'total and deterministic' (their statements: YtcpbnhhpeljpjaaTotals.lean).
  GIVEN WITH THE SEED: the statements are not yours to turn. If you find one false, say at which input.
  Laid BY PROGRAM, IN A SANDBOX (cutbox-rows.mjs): the forced cells as the released guide's own fill.sh prints them over the translation 6e51ba08e78f1078… (all of the seat's roots in one cut). By AI agents, Wed Nov 11 2026. No macro, syntax, notation, axiom, sorry.
-/
import Derived.Test.YtcpbnhhpeljpjaaChecked
import GoSem.Claim
import GoSem.ClaimJoined
import GoSem.ClaimMapViews
import Derived.JoinedTies
import Derived.KernelRfl
namespace Go.Proofs.Ytcpbnhhpeljpjaa
/- THE CELL 'sum', in the pinned program and in every row, IS THE sha256 OF THE DUMP (.gsa) THAT YtcpbnhhpeljpjaaProg.lean LOADS. Nothing in Lean hashes anything: it is a label: what it is worth is what the hold of that sum in a sandbox is worth. -/
noncomputable def Try.pinned : Pinned := { name := "ytcpbnhhpeljpjaa", sum := "6e51ba08e78f10788065da2f041cdc409fb89ec7dc3ce59c9817c548dac28e7e", checked := Try.checked }
namespace Rows
def none {H : Type} : Left H := { results := [], args := [] }

/-- 'laws.FnExactMemHostFault': WHATEVER THE INPUT: true; the input reads as it did. -/
def fnExactMemHostFaultSpec : ChangeSpec := { name := "fnExactMemHostFault", fn := fun _ => fun
  | [d] => { results := [.lit (.bool true)], args := [d] }
  | _ => none }
def fnExactMemHostFaultRow : OpenClaim := { program := "ytcpbnhhpeljpjaa", sum := "6e51ba08e78f10788065da2f041cdc409fb89ec7dc3ce59c9817c548dac28e7e", func := "loop.example/g00038/laws.FnExactMemHostFault", spec := "fnExactMemHostFault", apart := false }
def FnExactMemHostFaultSaid : Prop := fnExactMemHostFaultRow.holds Try.pinned (OpenSpec.ofChange fnExactMemHostFaultSpec)

/-- ITS FALSE NEIGHBOUR: 'it returns false'. Refute it at one input. -/
def fnExactMemHostFaultWrong : ChangeSpec := { name := "fnExactMemHostFault", fn := fun _ => fun
  | [d] => { results := [.lit (.bool false)], args := [d] }
  | _ => none }
def FnExactMemHostFaultWrongFalsely : Prop := fnExactMemHostFaultRow.holds Try.pinned (OpenSpec.ofChange fnExactMemHostFaultWrong)

/-- 'laws.FnExactPutBit': WHATEVER THE INPUT: true; the input reads as it did. -/
def fnExactPutBitSpec : ChangeSpec := { name := "fnExactPutBit", fn := fun _ => fun
  | [d1, d2, d3] => { results := [.lit (.bool true)], args := [d1, d2, d3] }
  | _ => none }
def fnExactPutBitRow : OpenClaim := { program := "ytcpbnhhpeljpjaa", sum := "6e51ba08e78f10788065da2f041cdc409fb89ec7dc3ce59c9817c548dac28e7e", func := "loop.example/g00038/laws.FnExactPutBit", spec := "fnExactPutBit", apart := false }
def FnExactPutBitSaid : Prop := fnExactPutBitRow.holds Try.pinned (OpenSpec.ofChange fnExactPutBitSpec)

/-- ITS FALSE NEIGHBOUR: 'it returns false'. Refute it at one input. -/
def fnExactPutBitWrong : ChangeSpec := { name := "fnExactPutBit", fn := fun _ => fun
  | [d1, d2, d3] => { results := [.lit (.bool false)], args := [d1, d2, d3] }
  | _ => none }
def FnExactPutBitWrongFalsely : Prop := fnExactPutBitRow.holds Try.pinned (OpenSpec.ofChange fnExactPutBitWrong)

/-- 'laws.FnExactHex': WHATEVER THE INPUT: true; the input reads as it did. -/
def fnExactHexSpec : ChangeSpec := { name := "fnExactHex", fn := fun _ => fun
  | [d] => { results := [.lit (.bool true)], args := [d] }
  | _ => none }
def fnExactHexRow : OpenClaim := { program := "ytcpbnhhpeljpjaa", sum := "6e51ba08e78f10788065da2f041cdc409fb89ec7dc3ce59c9817c548dac28e7e", func := "loop.example/g00038/laws.FnExactHex", spec := "fnExactHex", inPlace := ["internal/abi.NoEscape"], apart := false }
def FnExactHexSaid : Prop := fnExactHexRow.holds Try.pinned (OpenSpec.ofChange fnExactHexSpec)

/-- ITS FALSE NEIGHBOUR: 'it returns false'. Refute it at one input. -/
def fnExactHexWrong : ChangeSpec := { name := "fnExactHex", fn := fun _ => fun
  | [d] => { results := [.lit (.bool false)], args := [d] }
  | _ => none }
def FnExactHexWrongFalsely : Prop := fnExactHexRow.holds Try.pinned (OpenSpec.ofChange fnExactHexWrong)

/-- 'laws.FnBitSets': WHATEVER THE INPUT: true; the input reads as it did. -/
def fnBitSetsSpec : ChangeSpec := { name := "fnBitSets", fn := fun _ => fun
  | [d] => { results := [.lit (.bool true)], args := [d] }
  | _ => none }
def fnBitSetsRow : OpenClaim := { program := "ytcpbnhhpeljpjaa", sum := "6e51ba08e78f10788065da2f041cdc409fb89ec7dc3ce59c9817c548dac28e7e", func := "loop.example/g00038/laws.FnBitSets", spec := "fnBitSets", apart := false }
def FnBitSetsSaid : Prop := fnBitSetsRow.holds Try.pinned (OpenSpec.ofChange fnBitSetsSpec)

/-- ITS FALSE NEIGHBOUR: 'it returns false'. Refute it at one input. -/
def fnBitSetsWrong : ChangeSpec := { name := "fnBitSets", fn := fun _ => fun
  | [d] => { results := [.lit (.bool false)], args := [d] }
  | _ => none }
def FnBitSetsWrongFalsely : Prop := fnBitSetsRow.holds Try.pinned (OpenSpec.ofChange fnBitSetsWrong)

/- THE SECOND FORM. 'bulk': how many values and letters a reading holds, each counted each time it is reached (what is shared counts as often as it is met; a slice's spare places count too). A statement '..UptoSaid' is the law's where the arguments, and the package variables that the reading takes, are together of bulk at most 1048576: NARROWER than '..Said'. Prove '..Said' where nothing that the law and all that it calls make is longer than what came in: it says more and counts as full. Else prove '..UptoSaid'. A law counts once. -/
mutual
def uptoBulk {H : Type} : DataW H → Nat
  | .lit (.string bytes) => bytes.length + 1
  | .lit _ => 1
  | .nil => 1
  | .ptr d => uptoBulk d + 1
  | .slice elems spare => uptoBulkAll elems + uptoBulkAll spare + 1
  | .agg parts => uptoBulkAll parts + 1
  | .iface _ d => uptoBulk d + 1
  | .map entries => uptoBulkEntries entries + 1
  | .held _ => 1
def uptoBulkAll {H : Type} : List (DataW H) → Nat
  | [] => 0
  | d :: r => uptoBulk d + uptoBulkAll r
def uptoBulkEntries {H : Type} : List (Lit × DataW H) → Nat
  | [] => 0
  | x :: r => uptoBulkEntry x + uptoBulkEntries r
def uptoBulkEntry {H : Type} : Lit × DataW H → Nat
  | (.string bytes, d) => bytes.length + uptoBulk d + 1
  | (_, d) => uptoBulk d + 1
 end
def uptoSmall : (H : Type) → List (DataW H) → Bool := fun _ ds => decide (uptoBulkAll ds ≤ 1048576)
def OpenSpec.upto (s : _root_.Go.ChangeSpec) : _root_.Go.OpenSpec := { _root_.Go.OpenSpec.ofChange s with cond := some uptoSmall }

/-- 'laws.FnExactMemHostFault', WHERE WHAT IT READS IS OF BULK AT MOST 1048576: true; the input reads as it did. -/
def fnExactMemHostFaultUptoRow : OpenClaim := { program := "ytcpbnhhpeljpjaa", sum := "6e51ba08e78f10788065da2f041cdc409fb89ec7dc3ce59c9817c548dac28e7e", func := "loop.example/g00038/laws.FnExactMemHostFault", spec := "fnExactMemHostFault", apart := false, narrowed := true }
def FnExactMemHostFaultUptoSaid : Prop := fnExactMemHostFaultUptoRow.holds Try.pinned (OpenSpec.upto fnExactMemHostFaultSpec)

/-- 'laws.FnExactPutBit', WHERE WHAT IT READS IS OF BULK AT MOST 1048576: true; the input reads as it did. -/
def fnExactPutBitUptoRow : OpenClaim := { program := "ytcpbnhhpeljpjaa", sum := "6e51ba08e78f10788065da2f041cdc409fb89ec7dc3ce59c9817c548dac28e7e", func := "loop.example/g00038/laws.FnExactPutBit", spec := "fnExactPutBit", apart := false, narrowed := true }
def FnExactPutBitUptoSaid : Prop := fnExactPutBitUptoRow.holds Try.pinned (OpenSpec.upto fnExactPutBitSpec)

/-- 'laws.FnExactHex', WHERE WHAT IT READS IS OF BULK AT MOST 1048576: true; the input reads as it did. -/
def fnExactHexUptoRow : OpenClaim := { program := "ytcpbnhhpeljpjaa", sum := "6e51ba08e78f10788065da2f041cdc409fb89ec7dc3ce59c9817c548dac28e7e", func := "loop.example/g00038/laws.FnExactHex", spec := "fnExactHex", inPlace := ["internal/abi.NoEscape"], apart := false, narrowed := true }
def FnExactHexUptoSaid : Prop := fnExactHexUptoRow.holds Try.pinned (OpenSpec.upto fnExactHexSpec)

/-- 'laws.FnBitSets', WHERE WHAT IT READS IS OF BULK AT MOST 1048576: true; the input reads as it did. -/
def fnBitSetsUptoRow : OpenClaim := { program := "ytcpbnhhpeljpjaa", sum := "6e51ba08e78f10788065da2f041cdc409fb89ec7dc3ce59c9817c548dac28e7e", func := "loop.example/g00038/laws.FnBitSets", spec := "fnBitSets", apart := false, narrowed := true }
def FnBitSetsUptoSaid : Prop := fnBitSetsUptoRow.holds Try.pinned (OpenSpec.upto fnBitSetsSpec)

end Rows
end Go.Proofs.Ytcpbnhhpeljpjaa
