/-
  No cell of these rows narrows 'for every input' (looked for: loops, veiled, ifaces, maps, wideKeys, modest, calm, conditions, laid).
  DERIVED. THE GIVEN ROWS OF THIS SEAT. 12 by the template 'for every input the law returns true; each argument reads behind the call as it read before'; 0 by the template 'total and deterministic' (their statements: YtjpgelnhmcblmaaTotals.lean).
  GIVEN WITH THE SEED: the statements are not yours to turn. If you find one false, say at which input.
  Laid BY PROGRAM, IN A SANDBOX (cutbox-rows.mjs): the forced cells as the released guide's own fill.sh prints them over the translation 07b6cb11d504b2af… (all of the seat's roots in one cut). By AI agents, Wed Nov 11 2026. No macro, syntax, notation, axiom, sorry.
-/
import Derived.Test.YtjpgelnhmcblmaaChecked
import GoSem.Claim
import GoSem.ClaimJoined
import GoSem.ClaimMapViews
import Derived.JoinedTies
import Derived.KernelRfl
namespace Go.Proofs.Ytjpgelnhmcblmaa
/- THE CELL 'sum', in the pinned program and in every row, IS THE sha256 OF THE DUMP (.gsa) THAT YtjpgelnhmcblmaaProg.lean LOADS. Nothing in Lean hashes anything: it is a label: what it is worth is what the hold of that sum in a sandbox is worth. -/
noncomputable def Try.pinned : Pinned := { name := "ytjpgelnhmcblmaa", sum := "07b6cb11d504b2afaafc7d7068258abf7a8cb970f771e2cfbb60be81d46f8b90", checked := Try.checked }
namespace Rows
def none {H : Type} : Left H := { results := [], args := [] }

/-- 'laws.FnExactTakeMemory': WHATEVER THE INPUT: true; the input reads as it did. -/
def fnExactTakeMemorySpec : ChangeSpec := { name := "fnExactTakeMemory", fn := fun _ => fun
  | [d1, d2] => { results := [.lit (.bool true)], args := [d1, d2] }
  | _ => none }
def fnExactTakeMemoryRow : OpenClaim := { program := "ytjpgelnhmcblmaa", sum := "07b6cb11d504b2afaafc7d7068258abf7a8cb970f771e2cfbb60be81d46f8b90", func := "loop.example/g00038/laws.FnExactTakeMemory", spec := "fnExactTakeMemory", apart := false }
def FnExactTakeMemorySaid : Prop := fnExactTakeMemoryRow.holds Try.pinned (OpenSpec.ofChange fnExactTakeMemorySpec)

/-- ITS FALSE NEIGHBOUR: 'it returns false'. Refute it at one input. -/
def fnExactTakeMemoryWrong : ChangeSpec := { name := "fnExactTakeMemory", fn := fun _ => fun
  | [d1, d2] => { results := [.lit (.bool false)], args := [d1, d2] }
  | _ => none }
def FnExactTakeMemoryWrongFalsely : Prop := fnExactTakeMemoryRow.holds Try.pinned (OpenSpec.ofChange fnExactTakeMemoryWrong)

/-- 'laws.FnExactLayMemory': WHATEVER THE INPUT: true; the input reads as it did. -/
def fnExactLayMemorySpec : ChangeSpec := { name := "fnExactLayMemory", fn := fun _ => fun
  | [d1, d2, d3] => { results := [.lit (.bool true)], args := [d1, d2, d3] }
  | _ => none }
def fnExactLayMemoryRow : OpenClaim := { program := "ytjpgelnhmcblmaa", sum := "07b6cb11d504b2afaafc7d7068258abf7a8cb970f771e2cfbb60be81d46f8b90", func := "loop.example/g00038/laws.FnExactLayMemory", spec := "fnExactLayMemory", apart := false }
def FnExactLayMemorySaid : Prop := fnExactLayMemoryRow.holds Try.pinned (OpenSpec.ofChange fnExactLayMemorySpec)

/-- ITS FALSE NEIGHBOUR: 'it returns false'. Refute it at one input. -/
def fnExactLayMemoryWrong : ChangeSpec := { name := "fnExactLayMemory", fn := fun _ => fun
  | [d1, d2, d3] => { results := [.lit (.bool false)], args := [d1, d2, d3] }
  | _ => none }
def FnExactLayMemoryWrongFalsely : Prop := fnExactLayMemoryRow.holds Try.pinned (OpenSpec.ofChange fnExactLayMemoryWrong)

/-- 'laws.FnExactVolumeFault': WHATEVER THE INPUT: true; the input reads as it did. -/
def fnExactVolumeFaultSpec : ChangeSpec := { name := "fnExactVolumeFault", fn := fun _ => fun
  | [d] => { results := [.lit (.bool true)], args := [d] }
  | _ => none }
def fnExactVolumeFaultRow : OpenClaim := { program := "ytjpgelnhmcblmaa", sum := "07b6cb11d504b2afaafc7d7068258abf7a8cb970f771e2cfbb60be81d46f8b90", func := "loop.example/g00038/laws.FnExactVolumeFault", spec := "fnExactVolumeFault", unfollowed := true, recurses := true, apart := false }
def FnExactVolumeFaultSaid : Prop := fnExactVolumeFaultRow.holds Try.pinned (OpenSpec.ofChange fnExactVolumeFaultSpec)

/-- ITS FALSE NEIGHBOUR: 'it returns false'. Refute it at one input. -/
def fnExactVolumeFaultWrong : ChangeSpec := { name := "fnExactVolumeFault", fn := fun _ => fun
  | [d] => { results := [.lit (.bool false)], args := [d] }
  | _ => none }
def FnExactVolumeFaultWrongFalsely : Prop := fnExactVolumeFaultRow.holds Try.pinned (OpenSpec.ofChange fnExactVolumeFaultWrong)

/-- 'laws.FnExactClockFault': WHATEVER THE INPUT: true; the input reads as it did. -/
def fnExactClockFaultSpec : ChangeSpec := { name := "fnExactClockFault", fn := fun _ => fun
  | [d] => { results := [.lit (.bool true)], args := [d] }
  | _ => none }
def fnExactClockFaultRow : OpenClaim := { program := "ytjpgelnhmcblmaa", sum := "07b6cb11d504b2afaafc7d7068258abf7a8cb970f771e2cfbb60be81d46f8b90", func := "loop.example/g00038/laws.FnExactClockFault", spec := "fnExactClockFault", unfollowed := true, recurses := true, apart := false }
def FnExactClockFaultSaid : Prop := fnExactClockFaultRow.holds Try.pinned (OpenSpec.ofChange fnExactClockFaultSpec)

/-- ITS FALSE NEIGHBOUR: 'it returns false'. Refute it at one input. -/
def fnExactClockFaultWrong : ChangeSpec := { name := "fnExactClockFault", fn := fun _ => fun
  | [d] => { results := [.lit (.bool false)], args := [d] }
  | _ => none }
def FnExactClockFaultWrongFalsely : Prop := fnExactClockFaultRow.holds Try.pinned (OpenSpec.ofChange fnExactClockFaultWrong)

/-- 'laws.FnExactGatherBufs': WHATEVER THE INPUT: true; the input reads as it did. -/
def fnExactGatherBufsSpec : ChangeSpec := { name := "fnExactGatherBufs", fn := fun _ => fun
  | [d1, d2] => { results := [.lit (.bool true)], args := [d1, d2] }
  | _ => none }
def fnExactGatherBufsRow : OpenClaim := { program := "ytjpgelnhmcblmaa", sum := "07b6cb11d504b2afaafc7d7068258abf7a8cb970f771e2cfbb60be81d46f8b90", func := "loop.example/g00038/laws.FnExactGatherBufs", spec := "fnExactGatherBufs", unfollowed := true, recurses := true, apart := false }
def FnExactGatherBufsSaid : Prop := fnExactGatherBufsRow.holds Try.pinned (OpenSpec.ofChange fnExactGatherBufsSpec)

/-- ITS FALSE NEIGHBOUR: 'it returns false'. Refute it at one input. -/
def fnExactGatherBufsWrong : ChangeSpec := { name := "fnExactGatherBufs", fn := fun _ => fun
  | [d1, d2] => { results := [.lit (.bool false)], args := [d1, d2] }
  | _ => none }
def FnExactGatherBufsWrongFalsely : Prop := fnExactGatherBufsRow.holds Try.pinned (OpenSpec.ofChange fnExactGatherBufsWrong)

/-- 'laws.FnExactTlbFault': WHATEVER THE INPUT: true; the input reads as it did. -/
def fnExactTlbFaultSpec : ChangeSpec := { name := "fnExactTlbFault", fn := fun _ => fun
  | [d] => { results := [.lit (.bool true)], args := [d] }
  | _ => none }
def fnExactTlbFaultRow : OpenClaim := { program := "ytjpgelnhmcblmaa", sum := "07b6cb11d504b2afaafc7d7068258abf7a8cb970f771e2cfbb60be81d46f8b90", func := "loop.example/g00038/laws.FnExactTlbFault", spec := "fnExactTlbFault", unfollowed := true, recurses := true, apart := false }
def FnExactTlbFaultSaid : Prop := fnExactTlbFaultRow.holds Try.pinned (OpenSpec.ofChange fnExactTlbFaultSpec)

/-- ITS FALSE NEIGHBOUR: 'it returns false'. Refute it at one input. -/
def fnExactTlbFaultWrong : ChangeSpec := { name := "fnExactTlbFault", fn := fun _ => fun
  | [d] => { results := [.lit (.bool false)], args := [d] }
  | _ => none }
def FnExactTlbFaultWrongFalsely : Prop := fnExactTlbFaultRow.holds Try.pinned (OpenSpec.ofChange fnExactTlbFaultWrong)

/-- 'laws.FnExactSpreadBufs': WHATEVER THE INPUT: true; the input reads as it did. -/
def fnExactSpreadBufsSpec : ChangeSpec := { name := "fnExactSpreadBufs", fn := fun _ => fun
  | [d1, d2, d3] => { results := [.lit (.bool true)], args := [d1, d2, d3] }
  | _ => none }
def fnExactSpreadBufsRow : OpenClaim := { program := "ytjpgelnhmcblmaa", sum := "07b6cb11d504b2afaafc7d7068258abf7a8cb970f771e2cfbb60be81d46f8b90", func := "loop.example/g00038/laws.FnExactSpreadBufs", spec := "fnExactSpreadBufs", unfollowed := true, recurses := true, apart := false }
def FnExactSpreadBufsSaid : Prop := fnExactSpreadBufsRow.holds Try.pinned (OpenSpec.ofChange fnExactSpreadBufsSpec)

/-- ITS FALSE NEIGHBOUR: 'it returns false'. Refute it at one input. -/
def fnExactSpreadBufsWrong : ChangeSpec := { name := "fnExactSpreadBufs", fn := fun _ => fun
  | [d1, d2, d3] => { results := [.lit (.bool false)], args := [d1, d2, d3] }
  | _ => none }
def FnExactSpreadBufsWrongFalsely : Prop := fnExactSpreadBufsRow.holds Try.pinned (OpenSpec.ofChange fnExactSpreadBufsWrong)

/-- 'laws.FnExactReadMaps': WHATEVER THE INPUT: true; the input reads as it did. -/
def fnExactReadMapsSpec : ChangeSpec := { name := "fnExactReadMaps", fn := fun _ => fun
  | [d1, d2] => { results := [.lit (.bool true)], args := [d1, d2] }
  | _ => none }
def fnExactReadMapsRow : OpenClaim := { program := "ytjpgelnhmcblmaa", sum := "07b6cb11d504b2afaafc7d7068258abf7a8cb970f771e2cfbb60be81d46f8b90", func := "loop.example/g00038/laws.FnExactReadMaps", spec := "fnExactReadMaps", apart := false }
def FnExactReadMapsSaid : Prop := fnExactReadMapsRow.holds Try.pinned (OpenSpec.ofChange fnExactReadMapsSpec)

/-- ITS FALSE NEIGHBOUR: 'it returns false'. Refute it at one input. -/
def fnExactReadMapsWrong : ChangeSpec := { name := "fnExactReadMaps", fn := fun _ => fun
  | [d1, d2] => { results := [.lit (.bool false)], args := [d1, d2] }
  | _ => none }
def FnExactReadMapsWrongFalsely : Prop := fnExactReadMapsRow.holds Try.pinned (OpenSpec.ofChange fnExactReadMapsWrong)

/-- 'laws.FnSpread': WHATEVER THE INPUT: true; the input reads as it did. -/
def fnSpreadSpec : ChangeSpec := { name := "fnSpread", fn := fun _ => fun
  | [d] => { results := [.lit (.bool true)], args := [d] }
  | _ => none }
def fnSpreadRow : OpenClaim := { program := "ytjpgelnhmcblmaa", sum := "07b6cb11d504b2afaafc7d7068258abf7a8cb970f771e2cfbb60be81d46f8b90", func := "loop.example/g00038/laws.FnSpread", spec := "fnSpread", unfollowed := true, recurses := true, apart := false }
def FnSpreadSaid : Prop := fnSpreadRow.holds Try.pinned (OpenSpec.ofChange fnSpreadSpec)

/-- ITS FALSE NEIGHBOUR: 'it returns false'. Refute it at one input. -/
def fnSpreadWrong : ChangeSpec := { name := "fnSpread", fn := fun _ => fun
  | [d] => { results := [.lit (.bool false)], args := [d] }
  | _ => none }
def FnSpreadWrongFalsely : Prop := fnSpreadRow.holds Try.pinned (OpenSpec.ofChange fnSpreadWrong)

/-- 'laws.FnExactNewMachine': WHATEVER THE INPUT: true; the input reads as it did. -/
def fnExactNewMachineSpec : ChangeSpec := { name := "fnExactNewMachine", fn := fun _ => fun
  | [d] => { results := [.lit (.bool true)], args := [d] }
  | _ => none }
def fnExactNewMachineRow : OpenClaim := { program := "ytjpgelnhmcblmaa", sum := "07b6cb11d504b2afaafc7d7068258abf7a8cb970f771e2cfbb60be81d46f8b90", func := "loop.example/g00038/laws.FnExactNewMachine", spec := "fnExactNewMachine", apart := false }
def FnExactNewMachineSaid : Prop := fnExactNewMachineRow.holds Try.pinned (OpenSpec.ofChange fnExactNewMachineSpec)

/-- ITS FALSE NEIGHBOUR: 'it returns false'. Refute it at one input. -/
def fnExactNewMachineWrong : ChangeSpec := { name := "fnExactNewMachine", fn := fun _ => fun
  | [d] => { results := [.lit (.bool false)], args := [d] }
  | _ => none }
def FnExactNewMachineWrongFalsely : Prop := fnExactNewMachineRow.holds Try.pinned (OpenSpec.ofChange fnExactNewMachineWrong)

/-- 'laws.FnExactMachineFault': WHATEVER THE INPUT: true; the input reads as it did. -/
def fnExactMachineFaultSpec : ChangeSpec := { name := "fnExactMachineFault", fn := fun _ => fun
  | [d] => { results := [.lit (.bool true)], args := [d] }
  | _ => none }
def fnExactMachineFaultRow : OpenClaim := { program := "ytjpgelnhmcblmaa", sum := "07b6cb11d504b2afaafc7d7068258abf7a8cb970f771e2cfbb60be81d46f8b90", func := "loop.example/g00038/laws.FnExactMachineFault", spec := "fnExactMachineFault", unfollowed := true, recurses := true, apart := false }
def FnExactMachineFaultSaid : Prop := fnExactMachineFaultRow.holds Try.pinned (OpenSpec.ofChange fnExactMachineFaultSpec)

/-- ITS FALSE NEIGHBOUR: 'it returns false'. Refute it at one input. -/
def fnExactMachineFaultWrong : ChangeSpec := { name := "fnExactMachineFault", fn := fun _ => fun
  | [d] => { results := [.lit (.bool false)], args := [d] }
  | _ => none }
def FnExactMachineFaultWrongFalsely : Prop := fnExactMachineFaultRow.holds Try.pinned (OpenSpec.ofChange fnExactMachineFaultWrong)

/-- 'laws.FnExactTlbPut': WHATEVER THE INPUT: true; the input reads as it did. -/
def fnExactTlbPutSpec : ChangeSpec := { name := "fnExactTlbPut", fn := fun _ => fun
  | [d1, d2] => { results := [.lit (.bool true)], args := [d1, d2] }
  | _ => none }
def fnExactTlbPutRow : OpenClaim := { program := "ytjpgelnhmcblmaa", sum := "07b6cb11d504b2afaafc7d7068258abf7a8cb970f771e2cfbb60be81d46f8b90", func := "loop.example/g00038/laws.FnExactTlbPut", spec := "fnExactTlbPut", unfollowed := true, recurses := true, apart := false }
def FnExactTlbPutSaid : Prop := fnExactTlbPutRow.holds Try.pinned (OpenSpec.ofChange fnExactTlbPutSpec)

/-- ITS FALSE NEIGHBOUR: 'it returns false'. Refute it at one input. -/
def fnExactTlbPutWrong : ChangeSpec := { name := "fnExactTlbPut", fn := fun _ => fun
  | [d1, d2] => { results := [.lit (.bool false)], args := [d1, d2] }
  | _ => none }
def FnExactTlbPutWrongFalsely : Prop := fnExactTlbPutRow.holds Try.pinned (OpenSpec.ofChange fnExactTlbPutWrong)

/- THE SECOND FORM. 'bulk': how many values and letters a reading holds, each counted each time it is reached (what is shared counts as often as it is met; a slice's spare places count too). A statement '..UptoSaid' is the law's where the arguments, and the package variables that the reading takes, are together of bulk at most 1048576: NARROWER than '..Said'. Prove '..Said' where nothing that the law and all that it calls make is longer than what came in: it says more and counts as full. Else prove '..UptoSaid'. A law counts once. -/
mutual
def uptoBulk {H : Type} : DataW H → Nat
  | .lit (.string bytes) => bytes.length + 1
  | .lit _ => 1
  | .nil => 1
  | .ptr d => uptoBulk d + 1
  | .slice elems spare => uptoBulkAll elems + uptoBulkAll spare + 1
  | .agg parts => uptoBulkAll parts + 1
  | .iface _ d => uptoBulk d + 1
  | .map entries => uptoBulkEntries entries + 1
  | .held _ => 1
def uptoBulkAll {H : Type} : List (DataW H) → Nat
  | [] => 0
  | d :: r => uptoBulk d + uptoBulkAll r
def uptoBulkEntries {H : Type} : List (Lit × DataW H) → Nat
  | [] => 0
  | x :: r => uptoBulkEntry x + uptoBulkEntries r
def uptoBulkEntry {H : Type} : Lit × DataW H → Nat
  | (.string bytes, d) => bytes.length + uptoBulk d + 1
  | (_, d) => uptoBulk d + 1
 end
def uptoSmall : (H : Type) → List (DataW H) → Bool := fun _ ds => decide (uptoBulkAll ds ≤ 1048576)
def OpenSpec.upto (s : _root_.Go.ChangeSpec) : _root_.Go.OpenSpec := { _root_.Go.OpenSpec.ofChange s with cond := some uptoSmall }

/-- 'laws.FnExactTakeMemory', WHERE WHAT IT READS IS OF BULK AT MOST 1048576: true; the input reads as it did. -/
def fnExactTakeMemoryUptoRow : OpenClaim := { program := "ytjpgelnhmcblmaa", sum := "07b6cb11d504b2afaafc7d7068258abf7a8cb970f771e2cfbb60be81d46f8b90", func := "loop.example/g00038/laws.FnExactTakeMemory", spec := "fnExactTakeMemory", apart := false, narrowed := true }
def FnExactTakeMemoryUptoSaid : Prop := fnExactTakeMemoryUptoRow.holds Try.pinned (OpenSpec.upto fnExactTakeMemorySpec)

/-- 'laws.FnExactLayMemory', WHERE WHAT IT READS IS OF BULK AT MOST 1048576: true; the input reads as it did. -/
def fnExactLayMemoryUptoRow : OpenClaim := { program := "ytjpgelnhmcblmaa", sum := "07b6cb11d504b2afaafc7d7068258abf7a8cb970f771e2cfbb60be81d46f8b90", func := "loop.example/g00038/laws.FnExactLayMemory", spec := "fnExactLayMemory", apart := false, narrowed := true }
def FnExactLayMemoryUptoSaid : Prop := fnExactLayMemoryUptoRow.holds Try.pinned (OpenSpec.upto fnExactLayMemorySpec)

/-- 'laws.FnExactVolumeFault', WHERE WHAT IT READS IS OF BULK AT MOST 1048576: true; the input reads as it did. -/
def fnExactVolumeFaultUptoRow : OpenClaim := { program := "ytjpgelnhmcblmaa", sum := "07b6cb11d504b2afaafc7d7068258abf7a8cb970f771e2cfbb60be81d46f8b90", func := "loop.example/g00038/laws.FnExactVolumeFault", spec := "fnExactVolumeFault", unfollowed := true, recurses := true, apart := false, narrowed := true }
def FnExactVolumeFaultUptoSaid : Prop := fnExactVolumeFaultUptoRow.holds Try.pinned (OpenSpec.upto fnExactVolumeFaultSpec)

/-- 'laws.FnExactClockFault', WHERE WHAT IT READS IS OF BULK AT MOST 1048576: true; the input reads as it did. -/
def fnExactClockFaultUptoRow : OpenClaim := { program := "ytjpgelnhmcblmaa", sum := "07b6cb11d504b2afaafc7d7068258abf7a8cb970f771e2cfbb60be81d46f8b90", func := "loop.example/g00038/laws.FnExactClockFault", spec := "fnExactClockFault", unfollowed := true, recurses := true, apart := false, narrowed := true }
def FnExactClockFaultUptoSaid : Prop := fnExactClockFaultUptoRow.holds Try.pinned (OpenSpec.upto fnExactClockFaultSpec)

/-- 'laws.FnExactGatherBufs', WHERE WHAT IT READS IS OF BULK AT MOST 1048576: true; the input reads as it did. -/
def fnExactGatherBufsUptoRow : OpenClaim := { program := "ytjpgelnhmcblmaa", sum := "07b6cb11d504b2afaafc7d7068258abf7a8cb970f771e2cfbb60be81d46f8b90", func := "loop.example/g00038/laws.FnExactGatherBufs", spec := "fnExactGatherBufs", unfollowed := true, recurses := true, apart := false, narrowed := true }
def FnExactGatherBufsUptoSaid : Prop := fnExactGatherBufsUptoRow.holds Try.pinned (OpenSpec.upto fnExactGatherBufsSpec)

/-- 'laws.FnExactTlbFault', WHERE WHAT IT READS IS OF BULK AT MOST 1048576: true; the input reads as it did. -/
def fnExactTlbFaultUptoRow : OpenClaim := { program := "ytjpgelnhmcblmaa", sum := "07b6cb11d504b2afaafc7d7068258abf7a8cb970f771e2cfbb60be81d46f8b90", func := "loop.example/g00038/laws.FnExactTlbFault", spec := "fnExactTlbFault", unfollowed := true, recurses := true, apart := false, narrowed := true }
def FnExactTlbFaultUptoSaid : Prop := fnExactTlbFaultUptoRow.holds Try.pinned (OpenSpec.upto fnExactTlbFaultSpec)

/-- 'laws.FnExactSpreadBufs', WHERE WHAT IT READS IS OF BULK AT MOST 1048576: true; the input reads as it did. -/
def fnExactSpreadBufsUptoRow : OpenClaim := { program := "ytjpgelnhmcblmaa", sum := "07b6cb11d504b2afaafc7d7068258abf7a8cb970f771e2cfbb60be81d46f8b90", func := "loop.example/g00038/laws.FnExactSpreadBufs", spec := "fnExactSpreadBufs", unfollowed := true, recurses := true, apart := false, narrowed := true }
def FnExactSpreadBufsUptoSaid : Prop := fnExactSpreadBufsUptoRow.holds Try.pinned (OpenSpec.upto fnExactSpreadBufsSpec)

/-- 'laws.FnExactReadMaps', WHERE WHAT IT READS IS OF BULK AT MOST 1048576: true; the input reads as it did. -/
def fnExactReadMapsUptoRow : OpenClaim := { program := "ytjpgelnhmcblmaa", sum := "07b6cb11d504b2afaafc7d7068258abf7a8cb970f771e2cfbb60be81d46f8b90", func := "loop.example/g00038/laws.FnExactReadMaps", spec := "fnExactReadMaps", apart := false, narrowed := true }
def FnExactReadMapsUptoSaid : Prop := fnExactReadMapsUptoRow.holds Try.pinned (OpenSpec.upto fnExactReadMapsSpec)

/-- 'laws.FnSpread', WHERE WHAT IT READS IS OF BULK AT MOST 1048576: true; the input reads as it did. -/
def fnSpreadUptoRow : OpenClaim := { program := "ytjpgelnhmcblmaa", sum := "07b6cb11d504b2afaafc7d7068258abf7a8cb970f771e2cfbb60be81d46f8b90", func := "loop.example/g00038/laws.FnSpread", spec := "fnSpread", unfollowed := true, recurses := true, apart := false, narrowed := true }
def FnSpreadUptoSaid : Prop := fnSpreadUptoRow.holds Try.pinned (OpenSpec.upto fnSpreadSpec)

/-- 'laws.FnExactNewMachine', WHERE WHAT IT READS IS OF BULK AT MOST 1048576: true; the input reads as it did. -/
def fnExactNewMachineUptoRow : OpenClaim := { program := "ytjpgelnhmcblmaa", sum := "07b6cb11d504b2afaafc7d7068258abf7a8cb970f771e2cfbb60be81d46f8b90", func := "loop.example/g00038/laws.FnExactNewMachine", spec := "fnExactNewMachine", apart := false, narrowed := true }
def FnExactNewMachineUptoSaid : Prop := fnExactNewMachineUptoRow.holds Try.pinned (OpenSpec.upto fnExactNewMachineSpec)

/-- 'laws.FnExactMachineFault', WHERE WHAT IT READS IS OF BULK AT MOST 1048576: true; the input reads as it did. -/
def fnExactMachineFaultUptoRow : OpenClaim := { program := "ytjpgelnhmcblmaa", sum := "07b6cb11d504b2afaafc7d7068258abf7a8cb970f771e2cfbb60be81d46f8b90", func := "loop.example/g00038/laws.FnExactMachineFault", spec := "fnExactMachineFault", unfollowed := true, recurses := true, apart := false, narrowed := true }
def FnExactMachineFaultUptoSaid : Prop := fnExactMachineFaultUptoRow.holds Try.pinned (OpenSpec.upto fnExactMachineFaultSpec)

/-- 'laws.FnExactTlbPut', WHERE WHAT IT READS IS OF BULK AT MOST 1048576: true; the input reads as it did. -/
def fnExactTlbPutUptoRow : OpenClaim := { program := "ytjpgelnhmcblmaa", sum := "07b6cb11d504b2afaafc7d7068258abf7a8cb970f771e2cfbb60be81d46f8b90", func := "loop.example/g00038/laws.FnExactTlbPut", spec := "fnExactTlbPut", unfollowed := true, recurses := true, apart := false, narrowed := true }
def FnExactTlbPutUptoSaid : Prop := fnExactTlbPutUptoRow.holds Try.pinned (OpenSpec.upto fnExactTlbPutSpec)

end Rows
end Go.Proofs.Ytjpgelnhmcblmaa
