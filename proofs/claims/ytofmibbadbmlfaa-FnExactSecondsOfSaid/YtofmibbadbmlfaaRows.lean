/-
  No cell of these rows narrows 'for every input' (looked for: loops, veiled, ifaces, maps, wideKeys, modest, calm, conditions, laid).
  DERIVED. THE GIVEN ROWS OF THIS SEAT. 12 by the template 'for every input the law returns true; each argument reads behind the call as it read before'; 0 by the template 'total and deterministic' (their statements: YtofmibbadbmlfaaTotals.lean).
  GIVEN WITH THE SEED: the statements are not yours to turn. If you find one false, say at which input.
  Laid BY PROGRAM, IN A SANDBOX (cutbox-rows.mjs): the forced cells as the released guide's own fill.sh prints them over the translation dc31b7dc474d4bbf… (all of the seat's roots in one cut). By AI agents, Wed Nov 11 2026. No macro, syntax, notation, axiom, sorry.
-/
import Derived.Test.YtofmibbadbmlfaaChecked
import GoSem.Claim
import GoSem.ClaimJoined
import GoSem.ClaimMapViews
import Derived.JoinedTies
import Derived.KernelRfl
namespace Go.Proofs.Ytofmibbadbmlfaa
/- THE CELL 'sum', in the pinned program and in every row, IS THE sha256 OF THE DUMP (.gsa) THAT YtofmibbadbmlfaaProg.lean LOADS. Nothing in Lean hashes anything: it is a label: what it is worth is what the hold of that sum in a sandbox is worth. -/
noncomputable def Try.pinned : Pinned := { name := "ytofmibbadbmlfaa", sum := "dc31b7dc474d4bbf543c2acc39d4572e0de1e24e2362c01679e6597ef65d6489", checked := Try.checked }
namespace Rows
def none {H : Type} : Left H := { results := [], args := [] }

/-- 'laws.FnExactMix': WHATEVER THE INPUT: true; the input reads as it did. -/
def fnExactMixSpec : ChangeSpec := { name := "fnExactMix", fn := fun _ => fun
  | [d1, d2] => { results := [.lit (.bool true)], args := [d1, d2] }
  | _ => none }
def fnExactMixRow : OpenClaim := { program := "ytofmibbadbmlfaa", sum := "dc31b7dc474d4bbf543c2acc39d4572e0de1e24e2362c01679e6597ef65d6489", func := "loop.example/g00038/laws.FnExactMix", spec := "fnExactMix", apart := false }
def FnExactMixSaid : Prop := fnExactMixRow.holds Try.pinned (OpenSpec.ofChange fnExactMixSpec)

/-- ITS FALSE NEIGHBOUR: 'it returns false'. Refute it at one input. -/
def fnExactMixWrong : ChangeSpec := { name := "fnExactMix", fn := fun _ => fun
  | [d1, d2] => { results := [.lit (.bool false)], args := [d1, d2] }
  | _ => none }
def FnExactMixWrongFalsely : Prop := fnExactMixRow.holds Try.pinned (OpenSpec.ofChange fnExactMixWrong)

/-- 'laws.FnExactNextBit': WHATEVER THE INPUT: true; the input reads as it did. -/
def fnExactNextBitSpec : ChangeSpec := { name := "fnExactNextBit", fn := fun _ => fun
  | [d1, d2, d3] => { results := [.lit (.bool true)], args := [d1, d2, d3] }
  | _ => none }
def fnExactNextBitRow : OpenClaim := { program := "ytofmibbadbmlfaa", sum := "dc31b7dc474d4bbf543c2acc39d4572e0de1e24e2362c01679e6597ef65d6489", func := "loop.example/g00038/laws.FnExactNextBit", spec := "fnExactNextBit", apart := false }
def FnExactNextBitSaid : Prop := fnExactNextBitRow.holds Try.pinned (OpenSpec.ofChange fnExactNextBitSpec)

/-- ITS FALSE NEIGHBOUR: 'it returns false'. Refute it at one input. -/
def fnExactNextBitWrong : ChangeSpec := { name := "fnExactNextBit", fn := fun _ => fun
  | [d1, d2, d3] => { results := [.lit (.bool false)], args := [d1, d2, d3] }
  | _ => none }
def FnExactNextBitWrongFalsely : Prop := fnExactNextBitRow.holds Try.pinned (OpenSpec.ofChange fnExactNextBitWrong)

/-- 'laws.FnExactUnHex': WHATEVER THE INPUT: true; the input reads as it did. -/
def fnExactUnHexSpec : ChangeSpec := { name := "fnExactUnHex", fn := fun _ => fun
  | [d] => { results := [.lit (.bool true)], args := [d] }
  | _ => none }
def fnExactUnHexRow : OpenClaim := { program := "ytofmibbadbmlfaa", sum := "dc31b7dc474d4bbf543c2acc39d4572e0de1e24e2362c01679e6597ef65d6489", func := "loop.example/g00038/laws.FnExactUnHex", spec := "fnExactUnHex", inPlace := ["internal/bytealg.IndexByteString"], apart := false }
def FnExactUnHexSaid : Prop := fnExactUnHexRow.holds Try.pinned (OpenSpec.ofChange fnExactUnHexSpec)

/-- ITS FALSE NEIGHBOUR: 'it returns false'. Refute it at one input. -/
def fnExactUnHexWrong : ChangeSpec := { name := "fnExactUnHex", fn := fun _ => fun
  | [d] => { results := [.lit (.bool false)], args := [d] }
  | _ => none }
def FnExactUnHexWrongFalsely : Prop := fnExactUnHexRow.holds Try.pinned (OpenSpec.ofChange fnExactUnHexWrong)

/-- 'laws.FnExactSetWord': WHATEVER THE INPUT: true; the input reads as it did. -/
def fnExactSetWordSpec : ChangeSpec := { name := "fnExactSetWord", fn := fun _ => fun
  | [d1, d2, d3] => { results := [.lit (.bool true)], args := [d1, d2, d3] }
  | _ => none }
def fnExactSetWordRow : OpenClaim := { program := "ytofmibbadbmlfaa", sum := "dc31b7dc474d4bbf543c2acc39d4572e0de1e24e2362c01679e6597ef65d6489", func := "loop.example/g00038/laws.FnExactSetWord", spec := "fnExactSetWord", apart := false }
def FnExactSetWordSaid : Prop := fnExactSetWordRow.holds Try.pinned (OpenSpec.ofChange fnExactSetWordSpec)

/-- ITS FALSE NEIGHBOUR: 'it returns false'. Refute it at one input. -/
def fnExactSetWordWrong : ChangeSpec := { name := "fnExactSetWord", fn := fun _ => fun
  | [d1, d2, d3] => { results := [.lit (.bool false)], args := [d1, d2, d3] }
  | _ => none }
def FnExactSetWordWrongFalsely : Prop := fnExactSetWordRow.holds Try.pinned (OpenSpec.ofChange fnExactSetWordWrong)

/-- 'laws.FnExactHex': WHATEVER THE INPUT: true; the input reads as it did. -/
def fnExactHexSpec : ChangeSpec := { name := "fnExactHex", fn := fun _ => fun
  | [d] => { results := [.lit (.bool true)], args := [d] }
  | _ => none }
def fnExactHexRow : OpenClaim := { program := "ytofmibbadbmlfaa", sum := "dc31b7dc474d4bbf543c2acc39d4572e0de1e24e2362c01679e6597ef65d6489", func := "loop.example/g00038/laws.FnExactHex", spec := "fnExactHex", inPlace := ["internal/abi.NoEscape"], apart := false }
def FnExactHexSaid : Prop := fnExactHexRow.holds Try.pinned (OpenSpec.ofChange fnExactHexSpec)

/-- ITS FALSE NEIGHBOUR: 'it returns false'. Refute it at one input. -/
def fnExactHexWrong : ChangeSpec := { name := "fnExactHex", fn := fun _ => fun
  | [d] => { results := [.lit (.bool false)], args := [d] }
  | _ => none }
def FnExactHexWrongFalsely : Prop := fnExactHexRow.holds Try.pinned (OpenSpec.ofChange fnExactHexWrong)

/-- 'laws.FnExactSecondsOf': WHATEVER THE INPUT: true; the input reads as it did. -/
def fnExactSecondsOfSpec : ChangeSpec := { name := "fnExactSecondsOf", fn := fun _ => fun
  | [d] => { results := [.lit (.bool true)], args := [d] }
  | _ => none }
def fnExactSecondsOfRow : OpenClaim := { program := "ytofmibbadbmlfaa", sum := "dc31b7dc474d4bbf543c2acc39d4572e0de1e24e2362c01679e6597ef65d6489", func := "loop.example/g00038/laws.FnExactSecondsOf", spec := "fnExactSecondsOf", apart := false }
def FnExactSecondsOfSaid : Prop := fnExactSecondsOfRow.holds Try.pinned (OpenSpec.ofChange fnExactSecondsOfSpec)

/-- ITS FALSE NEIGHBOUR: 'it returns false'. Refute it at one input. -/
def fnExactSecondsOfWrong : ChangeSpec := { name := "fnExactSecondsOf", fn := fun _ => fun
  | [d] => { results := [.lit (.bool false)], args := [d] }
  | _ => none }
def FnExactSecondsOfWrongFalsely : Prop := fnExactSecondsOfRow.holds Try.pinned (OpenSpec.ofChange fnExactSecondsOfWrong)

/-- 'laws.FnExactTagOf': WHATEVER THE INPUT: true; the input reads as it did. -/
def fnExactTagOfSpec : ChangeSpec := { name := "fnExactTagOf", fn := fun _ => fun
  | [d1, d2] => { results := [.lit (.bool true)], args := [d1, d2] }
  | _ => none }
def fnExactTagOfRow : OpenClaim := { program := "ytofmibbadbmlfaa", sum := "dc31b7dc474d4bbf543c2acc39d4572e0de1e24e2362c01679e6597ef65d6489", func := "loop.example/g00038/laws.FnExactTagOf", spec := "fnExactTagOf", unfollowed := true, recurses := true, apart := false }
def FnExactTagOfSaid : Prop := fnExactTagOfRow.holds Try.pinned (OpenSpec.ofChange fnExactTagOfSpec)

/-- ITS FALSE NEIGHBOUR: 'it returns false'. Refute it at one input. -/
def fnExactTagOfWrong : ChangeSpec := { name := "fnExactTagOf", fn := fun _ => fun
  | [d1, d2] => { results := [.lit (.bool false)], args := [d1, d2] }
  | _ => none }
def FnExactTagOfWrongFalsely : Prop := fnExactTagOfRow.holds Try.pinned (OpenSpec.ofChange fnExactTagOfWrong)

/-- 'laws.FnExactStampOf': WHATEVER THE INPUT: true; the input reads as it did. -/
def fnExactStampOfSpec : ChangeSpec := { name := "fnExactStampOf", fn := fun _ => fun
  | [d] => { results := [.lit (.bool true)], args := [d] }
  | _ => none }
def fnExactStampOfRow : OpenClaim := { program := "ytofmibbadbmlfaa", sum := "dc31b7dc474d4bbf543c2acc39d4572e0de1e24e2362c01679e6597ef65d6489", func := "loop.example/g00038/laws.FnExactStampOf", spec := "fnExactStampOf", apart := false }
def FnExactStampOfSaid : Prop := fnExactStampOfRow.holds Try.pinned (OpenSpec.ofChange fnExactStampOfSpec)

/-- ITS FALSE NEIGHBOUR: 'it returns false'. Refute it at one input. -/
def fnExactStampOfWrong : ChangeSpec := { name := "fnExactStampOf", fn := fun _ => fun
  | [d] => { results := [.lit (.bool false)], args := [d] }
  | _ => none }
def FnExactStampOfWrongFalsely : Prop := fnExactStampOfRow.holds Try.pinned (OpenSpec.ofChange fnExactStampOfWrong)

/-- 'laws.FnExactPlaceFault': WHATEVER THE INPUT: true; the input reads as it did. -/
def fnExactPlaceFaultSpec : ChangeSpec := { name := "fnExactPlaceFault", fn := fun _ => fun
  | [d1, d2, d3] => { results := [.lit (.bool true)], args := [d1, d2, d3] }
  | _ => none }
def fnExactPlaceFaultRow : OpenClaim := { program := "ytofmibbadbmlfaa", sum := "dc31b7dc474d4bbf543c2acc39d4572e0de1e24e2362c01679e6597ef65d6489", func := "loop.example/g00038/laws.FnExactPlaceFault", spec := "fnExactPlaceFault", apart := false }
def FnExactPlaceFaultSaid : Prop := fnExactPlaceFaultRow.holds Try.pinned (OpenSpec.ofChange fnExactPlaceFaultSpec)

/-- ITS FALSE NEIGHBOUR: 'it returns false'. Refute it at one input. -/
def fnExactPlaceFaultWrong : ChangeSpec := { name := "fnExactPlaceFault", fn := fun _ => fun
  | [d1, d2, d3] => { results := [.lit (.bool false)], args := [d1, d2, d3] }
  | _ => none }
def FnExactPlaceFaultWrongFalsely : Prop := fnExactPlaceFaultRow.holds Try.pinned (OpenSpec.ofChange fnExactPlaceFaultWrong)

/-- 'laws.FnWords': WHATEVER THE INPUT: true; the input reads as it did. -/
def fnWordsSpec : ChangeSpec := { name := "fnWords", fn := fun _ => fun
  | [d] => { results := [.lit (.bool true)], args := [d] }
  | _ => none }
def fnWordsRow : OpenClaim := { program := "ytofmibbadbmlfaa", sum := "dc31b7dc474d4bbf543c2acc39d4572e0de1e24e2362c01679e6597ef65d6489", func := "loop.example/g00038/laws.FnWords", spec := "fnWords", apart := false }
def FnWordsSaid : Prop := fnWordsRow.holds Try.pinned (OpenSpec.ofChange fnWordsSpec)

/-- ITS FALSE NEIGHBOUR: 'it returns false'. Refute it at one input. -/
def fnWordsWrong : ChangeSpec := { name := "fnWords", fn := fun _ => fun
  | [d] => { results := [.lit (.bool false)], args := [d] }
  | _ => none }
def FnWordsWrongFalsely : Prop := fnWordsRow.holds Try.pinned (OpenSpec.ofChange fnWordsWrong)

/-- 'laws.FnStamps': WHATEVER THE INPUT: true; the input reads as it did. -/
def fnStampsSpec : ChangeSpec := { name := "fnStamps", fn := fun _ => fun
  | [d] => { results := [.lit (.bool true)], args := [d] }
  | _ => none }
def fnStampsRow : OpenClaim := { program := "ytofmibbadbmlfaa", sum := "dc31b7dc474d4bbf543c2acc39d4572e0de1e24e2362c01679e6597ef65d6489", func := "loop.example/g00038/laws.FnStamps", spec := "fnStamps", apart := false }
def FnStampsSaid : Prop := fnStampsRow.holds Try.pinned (OpenSpec.ofChange fnStampsSpec)

/-- ITS FALSE NEIGHBOUR: 'it returns false'. Refute it at one input. -/
def fnStampsWrong : ChangeSpec := { name := "fnStamps", fn := fun _ => fun
  | [d] => { results := [.lit (.bool false)], args := [d] }
  | _ => none }
def FnStampsWrongFalsely : Prop := fnStampsRow.holds Try.pinned (OpenSpec.ofChange fnStampsWrong)

/-- 'laws.FnBitSets': WHATEVER THE INPUT: true; the input reads as it did. -/
def fnBitSetsSpec : ChangeSpec := { name := "fnBitSets", fn := fun _ => fun
  | [d] => { results := [.lit (.bool true)], args := [d] }
  | _ => none }
def fnBitSetsRow : OpenClaim := { program := "ytofmibbadbmlfaa", sum := "dc31b7dc474d4bbf543c2acc39d4572e0de1e24e2362c01679e6597ef65d6489", func := "loop.example/g00038/laws.FnBitSets", spec := "fnBitSets", apart := false }
def FnBitSetsSaid : Prop := fnBitSetsRow.holds Try.pinned (OpenSpec.ofChange fnBitSetsSpec)

/-- ITS FALSE NEIGHBOUR: 'it returns false'. Refute it at one input. -/
def fnBitSetsWrong : ChangeSpec := { name := "fnBitSets", fn := fun _ => fun
  | [d] => { results := [.lit (.bool false)], args := [d] }
  | _ => none }
def FnBitSetsWrongFalsely : Prop := fnBitSetsRow.holds Try.pinned (OpenSpec.ofChange fnBitSetsWrong)

/- THE SECOND FORM. 'bulk': how many values and letters a reading holds, each counted each time it is reached (what is shared counts as often as it is met; a slice's spare places count too). A statement '..UptoSaid' is the law's where the arguments, and the package variables that the reading takes, are together of bulk at most 1048576: NARROWER than '..Said'. Prove '..Said' where nothing that the law and all that it calls make is longer than what came in: it says more and counts as full. Else prove '..UptoSaid'. A law counts once. -/
mutual
def uptoBulk {H : Type} : DataW H → Nat
  | .lit (.string bytes) => bytes.length + 1
  | .lit _ => 1
  | .nil => 1
  | .ptr d => uptoBulk d + 1
  | .slice elems spare => uptoBulkAll elems + uptoBulkAll spare + 1
  | .agg parts => uptoBulkAll parts + 1
  | .iface _ d => uptoBulk d + 1
  | .map entries => uptoBulkEntries entries + 1
  | .held _ => 1
def uptoBulkAll {H : Type} : List (DataW H) → Nat
  | [] => 0
  | d :: r => uptoBulk d + uptoBulkAll r
def uptoBulkEntries {H : Type} : List (Lit × DataW H) → Nat
  | [] => 0
  | x :: r => uptoBulkEntry x + uptoBulkEntries r
def uptoBulkEntry {H : Type} : Lit × DataW H → Nat
  | (.string bytes, d) => bytes.length + uptoBulk d + 1
  | (_, d) => uptoBulk d + 1
 end
def uptoSmall : (H : Type) → List (DataW H) → Bool := fun _ ds => decide (uptoBulkAll ds ≤ 1048576)
def OpenSpec.upto (s : _root_.Go.ChangeSpec) : _root_.Go.OpenSpec := { _root_.Go.OpenSpec.ofChange s with cond := some uptoSmall }

/-- 'laws.FnExactMix', WHERE WHAT IT READS IS OF BULK AT MOST 1048576: true; the input reads as it did. -/
def fnExactMixUptoRow : OpenClaim := { program := "ytofmibbadbmlfaa", sum := "dc31b7dc474d4bbf543c2acc39d4572e0de1e24e2362c01679e6597ef65d6489", func := "loop.example/g00038/laws.FnExactMix", spec := "fnExactMix", apart := false, narrowed := true }
def FnExactMixUptoSaid : Prop := fnExactMixUptoRow.holds Try.pinned (OpenSpec.upto fnExactMixSpec)

/-- 'laws.FnExactNextBit', WHERE WHAT IT READS IS OF BULK AT MOST 1048576: true; the input reads as it did. -/
def fnExactNextBitUptoRow : OpenClaim := { program := "ytofmibbadbmlfaa", sum := "dc31b7dc474d4bbf543c2acc39d4572e0de1e24e2362c01679e6597ef65d6489", func := "loop.example/g00038/laws.FnExactNextBit", spec := "fnExactNextBit", apart := false, narrowed := true }
def FnExactNextBitUptoSaid : Prop := fnExactNextBitUptoRow.holds Try.pinned (OpenSpec.upto fnExactNextBitSpec)

/-- 'laws.FnExactUnHex', WHERE WHAT IT READS IS OF BULK AT MOST 1048576: true; the input reads as it did. -/
def fnExactUnHexUptoRow : OpenClaim := { program := "ytofmibbadbmlfaa", sum := "dc31b7dc474d4bbf543c2acc39d4572e0de1e24e2362c01679e6597ef65d6489", func := "loop.example/g00038/laws.FnExactUnHex", spec := "fnExactUnHex", inPlace := ["internal/bytealg.IndexByteString"], apart := false, narrowed := true }
def FnExactUnHexUptoSaid : Prop := fnExactUnHexUptoRow.holds Try.pinned (OpenSpec.upto fnExactUnHexSpec)

/-- 'laws.FnExactSetWord', WHERE WHAT IT READS IS OF BULK AT MOST 1048576: true; the input reads as it did. -/
def fnExactSetWordUptoRow : OpenClaim := { program := "ytofmibbadbmlfaa", sum := "dc31b7dc474d4bbf543c2acc39d4572e0de1e24e2362c01679e6597ef65d6489", func := "loop.example/g00038/laws.FnExactSetWord", spec := "fnExactSetWord", apart := false, narrowed := true }
def FnExactSetWordUptoSaid : Prop := fnExactSetWordUptoRow.holds Try.pinned (OpenSpec.upto fnExactSetWordSpec)

/-- 'laws.FnExactHex', WHERE WHAT IT READS IS OF BULK AT MOST 1048576: true; the input reads as it did. -/
def fnExactHexUptoRow : OpenClaim := { program := "ytofmibbadbmlfaa", sum := "dc31b7dc474d4bbf543c2acc39d4572e0de1e24e2362c01679e6597ef65d6489", func := "loop.example/g00038/laws.FnExactHex", spec := "fnExactHex", inPlace := ["internal/abi.NoEscape"], apart := false, narrowed := true }
def FnExactHexUptoSaid : Prop := fnExactHexUptoRow.holds Try.pinned (OpenSpec.upto fnExactHexSpec)

/-- 'laws.FnExactSecondsOf', WHERE WHAT IT READS IS OF BULK AT MOST 1048576: true; the input reads as it did. -/
def fnExactSecondsOfUptoRow : OpenClaim := { program := "ytofmibbadbmlfaa", sum := "dc31b7dc474d4bbf543c2acc39d4572e0de1e24e2362c01679e6597ef65d6489", func := "loop.example/g00038/laws.FnExactSecondsOf", spec := "fnExactSecondsOf", apart := false, narrowed := true }
def FnExactSecondsOfUptoSaid : Prop := fnExactSecondsOfUptoRow.holds Try.pinned (OpenSpec.upto fnExactSecondsOfSpec)

/-- 'laws.FnExactTagOf', WHERE WHAT IT READS IS OF BULK AT MOST 1048576: true; the input reads as it did. -/
def fnExactTagOfUptoRow : OpenClaim := { program := "ytofmibbadbmlfaa", sum := "dc31b7dc474d4bbf543c2acc39d4572e0de1e24e2362c01679e6597ef65d6489", func := "loop.example/g00038/laws.FnExactTagOf", spec := "fnExactTagOf", unfollowed := true, recurses := true, apart := false, narrowed := true }
def FnExactTagOfUptoSaid : Prop := fnExactTagOfUptoRow.holds Try.pinned (OpenSpec.upto fnExactTagOfSpec)

/-- 'laws.FnExactStampOf', WHERE WHAT IT READS IS OF BULK AT MOST 1048576: true; the input reads as it did. -/
def fnExactStampOfUptoRow : OpenClaim := { program := "ytofmibbadbmlfaa", sum := "dc31b7dc474d4bbf543c2acc39d4572e0de1e24e2362c01679e6597ef65d6489", func := "loop.example/g00038/laws.FnExactStampOf", spec := "fnExactStampOf", apart := false, narrowed := true }
def FnExactStampOfUptoSaid : Prop := fnExactStampOfUptoRow.holds Try.pinned (OpenSpec.upto fnExactStampOfSpec)

/-- 'laws.FnExactPlaceFault', WHERE WHAT IT READS IS OF BULK AT MOST 1048576: true; the input reads as it did. -/
def fnExactPlaceFaultUptoRow : OpenClaim := { program := "ytofmibbadbmlfaa", sum := "dc31b7dc474d4bbf543c2acc39d4572e0de1e24e2362c01679e6597ef65d6489", func := "loop.example/g00038/laws.FnExactPlaceFault", spec := "fnExactPlaceFault", apart := false, narrowed := true }
def FnExactPlaceFaultUptoSaid : Prop := fnExactPlaceFaultUptoRow.holds Try.pinned (OpenSpec.upto fnExactPlaceFaultSpec)

/-- 'laws.FnWords', WHERE WHAT IT READS IS OF BULK AT MOST 1048576: true; the input reads as it did. -/
def fnWordsUptoRow : OpenClaim := { program := "ytofmibbadbmlfaa", sum := "dc31b7dc474d4bbf543c2acc39d4572e0de1e24e2362c01679e6597ef65d6489", func := "loop.example/g00038/laws.FnWords", spec := "fnWords", apart := false, narrowed := true }
def FnWordsUptoSaid : Prop := fnWordsUptoRow.holds Try.pinned (OpenSpec.upto fnWordsSpec)

/-- 'laws.FnStamps', WHERE WHAT IT READS IS OF BULK AT MOST 1048576: true; the input reads as it did. -/
def fnStampsUptoRow : OpenClaim := { program := "ytofmibbadbmlfaa", sum := "dc31b7dc474d4bbf543c2acc39d4572e0de1e24e2362c01679e6597ef65d6489", func := "loop.example/g00038/laws.FnStamps", spec := "fnStamps", apart := false, narrowed := true }
def FnStampsUptoSaid : Prop := fnStampsUptoRow.holds Try.pinned (OpenSpec.upto fnStampsSpec)

/-- 'laws.FnBitSets', WHERE WHAT IT READS IS OF BULK AT MOST 1048576: true; the input reads as it did. -/
def fnBitSetsUptoRow : OpenClaim := { program := "ytofmibbadbmlfaa", sum := "dc31b7dc474d4bbf543c2acc39d4572e0de1e24e2362c01679e6597ef65d6489", func := "loop.example/g00038/laws.FnBitSets", spec := "fnBitSets", apart := false, narrowed := true }
def FnBitSetsUptoSaid : Prop := fnBitSetsUptoRow.holds Try.pinned (OpenSpec.upto fnBitSetsSpec)

end Rows
end Go.Proofs.Ytofmibbadbmlfaa
