/-
  No cell of these rows narrows 'for every input' (looked for: loops, veiled, ifaces, maps, wideKeys, modest, calm, conditions, laid).
  DERIVED. THE GIVEN ROWS OF THIS SEAT. 4 by the template 'for every input the law returns true; each argument reads behind the call as it read before'; 0 by the template 'total and deterministic' (their statements: YtpcpjkbjadgoiaaTotals.lean).
  GIVEN WITH THE SEED: the statements are not yours to turn. If you find one false, say at which input.
  Laid BY PROGRAM, IN A SANDBOX (cutbox-rows.mjs): the forced cells as the released guide's own fill.sh prints them over the translation eae5a767be650e6f… (all of the seat's roots in one cut). By AI agents, Wed Nov 11 2026. No macro, syntax, notation, axiom, sorry.
-/
import Derived.Test.YtpcpjkbjadgoiaaChecked
import GoSem.Claim
import GoSem.ClaimJoined
import GoSem.ClaimMapViews
import Derived.JoinedTies
import Derived.KernelRfl
namespace Go.Proofs.Ytpcpjkbjadgoiaa
/- THE CELL 'sum', in the pinned program and in every row, IS THE sha256 OF THE DUMP (.gsa) THAT YtpcpjkbjadgoiaaProg.lean LOADS. Nothing in Lean hashes anything: it is a label: what it is worth is what the hold of that sum in a sandbox is worth. -/
noncomputable def Try.pinned : Pinned := { name := "ytpcpjkbjadgoiaa", sum := "eae5a767be650e6f0adddcb2a9aea8444610ec110d805301f5ad7275fc6691e0", checked := Try.checked }
namespace Rows
def none {H : Type} : Left H := { results := [], args := [] }

/-- 'laws.FnExactCrypt': WHATEVER THE INPUT: true; the input reads as it did. -/
def fnExactCryptSpec : ChangeSpec := { name := "fnExactCrypt", fn := fun _ => fun
  | [d1, d2, d3] => { results := [.lit (.bool true)], args := [d1, d2, d3] }
  | _ => none }
def fnExactCryptRow : OpenClaim := { program := "ytpcpjkbjadgoiaa", sum := "eae5a767be650e6f0adddcb2a9aea8444610ec110d805301f5ad7275fc6691e0", func := "loop.example/g00038/laws.FnExactCrypt", spec := "fnExactCrypt", inPlace := ["internal/abi.NoEscape", "internal/bytealg.MakeNoZero"], unfollowed := true, recurses := true, apart := false }
def FnExactCryptSaid : Prop := fnExactCryptRow.holds Try.pinned (OpenSpec.ofChange fnExactCryptSpec)

/-- ITS FALSE NEIGHBOUR: 'it returns false'. Refute it at one input. -/
def fnExactCryptWrong : ChangeSpec := { name := "fnExactCrypt", fn := fun _ => fun
  | [d1, d2, d3] => { results := [.lit (.bool false)], args := [d1, d2, d3] }
  | _ => none }
def FnExactCryptWrongFalsely : Prop := fnExactCryptRow.holds Try.pinned (OpenSpec.ofChange fnExactCryptWrong)

/-- 'laws.FnExactCryptDisk': WHATEVER THE INPUT: true; the input reads as it did. -/
def fnExactCryptDiskSpec : ChangeSpec := { name := "fnExactCryptDisk", fn := fun _ => fun
  | [d1, d2] => { results := [.lit (.bool true)], args := [d1, d2] }
  | _ => none }
def fnExactCryptDiskRow : OpenClaim := { program := "ytpcpjkbjadgoiaa", sum := "eae5a767be650e6f0adddcb2a9aea8444610ec110d805301f5ad7275fc6691e0", func := "loop.example/g00038/laws.FnExactCryptDisk", spec := "fnExactCryptDisk", inPlace := ["internal/abi.NoEscape", "internal/bytealg.MakeNoZero"], unfollowed := true, recurses := true, apart := false }
def FnExactCryptDiskSaid : Prop := fnExactCryptDiskRow.holds Try.pinned (OpenSpec.ofChange fnExactCryptDiskSpec)

/-- ITS FALSE NEIGHBOUR: 'it returns false'. Refute it at one input. -/
def fnExactCryptDiskWrong : ChangeSpec := { name := "fnExactCryptDisk", fn := fun _ => fun
  | [d1, d2] => { results := [.lit (.bool false)], args := [d1, d2] }
  | _ => none }
def FnExactCryptDiskWrongFalsely : Prop := fnExactCryptDiskRow.holds Try.pinned (OpenSpec.ofChange fnExactCryptDiskWrong)

/-- 'laws.FnExactMeasure': WHATEVER THE INPUT: true; the input reads as it did. -/
def fnExactMeasureSpec : ChangeSpec := { name := "fnExactMeasure", fn := fun _ => fun
  | [d1, d2] => { results := [.lit (.bool true)], args := [d1, d2] }
  | _ => none }
def fnExactMeasureRow : OpenClaim := { program := "ytpcpjkbjadgoiaa", sum := "eae5a767be650e6f0adddcb2a9aea8444610ec110d805301f5ad7275fc6691e0", func := "loop.example/g00038/laws.FnExactMeasure", spec := "fnExactMeasure", unfollowed := true, recurses := true, apart := false }
def FnExactMeasureSaid : Prop := fnExactMeasureRow.holds Try.pinned (OpenSpec.ofChange fnExactMeasureSpec)

/-- ITS FALSE NEIGHBOUR: 'it returns false'. Refute it at one input. -/
def fnExactMeasureWrong : ChangeSpec := { name := "fnExactMeasure", fn := fun _ => fun
  | [d1, d2] => { results := [.lit (.bool false)], args := [d1, d2] }
  | _ => none }
def FnExactMeasureWrongFalsely : Prop := fnExactMeasureRow.holds Try.pinned (OpenSpec.ofChange fnExactMeasureWrong)

/-- 'laws.FnExactCheckQuote': WHATEVER THE INPUT: true; the input reads as it did. -/
def fnExactCheckQuoteSpec : ChangeSpec := { name := "fnExactCheckQuote", fn := fun _ => fun
  | [d1, d2, d3, d4] => { results := [.lit (.bool true)], args := [d1, d2, d3, d4] }
  | _ => none }
def fnExactCheckQuoteRow : OpenClaim := { program := "ytpcpjkbjadgoiaa", sum := "eae5a767be650e6f0adddcb2a9aea8444610ec110d805301f5ad7275fc6691e0", func := "loop.example/g00038/laws.FnExactCheckQuote", spec := "fnExactCheckQuote", inPlace := ["internal/abi.NoEscape", "internal/bytealg.MakeNoZero"], unfollowed := true, recurses := true, apart := false }
def FnExactCheckQuoteSaid : Prop := fnExactCheckQuoteRow.holds Try.pinned (OpenSpec.ofChange fnExactCheckQuoteSpec)

/-- ITS FALSE NEIGHBOUR: 'it returns false'. Refute it at one input. -/
def fnExactCheckQuoteWrong : ChangeSpec := { name := "fnExactCheckQuote", fn := fun _ => fun
  | [d1, d2, d3, d4] => { results := [.lit (.bool false)], args := [d1, d2, d3, d4] }
  | _ => none }
def FnExactCheckQuoteWrongFalsely : Prop := fnExactCheckQuoteRow.holds Try.pinned (OpenSpec.ofChange fnExactCheckQuoteWrong)

/- THE SECOND FORM. 'bulk': how many values and letters a reading holds, each counted each time it is reached (what is shared counts as often as it is met; a slice's spare places count too). A statement '..UptoSaid' is the law's where the arguments, and the package variables that the reading takes, are together of bulk at most 1048576: NARROWER than '..Said'. Prove '..Said' where nothing that the law and all that it calls make is longer than what came in: it says more and counts as full. Else prove '..UptoSaid'. A law counts once. -/
mutual
def uptoBulk {H : Type} : DataW H → Nat
  | .lit (.string bytes) => bytes.length + 1
  | .lit _ => 1
  | .nil => 1
  | .ptr d => uptoBulk d + 1
  | .slice elems spare => uptoBulkAll elems + uptoBulkAll spare + 1
  | .agg parts => uptoBulkAll parts + 1
  | .iface _ d => uptoBulk d + 1
  | .map entries => uptoBulkEntries entries + 1
  | .held _ => 1
def uptoBulkAll {H : Type} : List (DataW H) → Nat
  | [] => 0
  | d :: r => uptoBulk d + uptoBulkAll r
def uptoBulkEntries {H : Type} : List (Lit × DataW H) → Nat
  | [] => 0
  | x :: r => uptoBulkEntry x + uptoBulkEntries r
def uptoBulkEntry {H : Type} : Lit × DataW H → Nat
  | (.string bytes, d) => bytes.length + uptoBulk d + 1
  | (_, d) => uptoBulk d + 1
 end
def uptoSmall : (H : Type) → List (DataW H) → Bool := fun _ ds => decide (uptoBulkAll ds ≤ 1048576)
def OpenSpec.upto (s : _root_.Go.ChangeSpec) : _root_.Go.OpenSpec := { _root_.Go.OpenSpec.ofChange s with cond := some uptoSmall }

/-- 'laws.FnExactCrypt', WHERE WHAT IT READS IS OF BULK AT MOST 1048576: true; the input reads as it did. -/
def fnExactCryptUptoRow : OpenClaim := { program := "ytpcpjkbjadgoiaa", sum := "eae5a767be650e6f0adddcb2a9aea8444610ec110d805301f5ad7275fc6691e0", func := "loop.example/g00038/laws.FnExactCrypt", spec := "fnExactCrypt", inPlace := ["internal/abi.NoEscape", "internal/bytealg.MakeNoZero"], unfollowed := true, recurses := true, apart := false, narrowed := true }
def FnExactCryptUptoSaid : Prop := fnExactCryptUptoRow.holds Try.pinned (OpenSpec.upto fnExactCryptSpec)

/-- 'laws.FnExactCryptDisk', WHERE WHAT IT READS IS OF BULK AT MOST 1048576: true; the input reads as it did. -/
def fnExactCryptDiskUptoRow : OpenClaim := { program := "ytpcpjkbjadgoiaa", sum := "eae5a767be650e6f0adddcb2a9aea8444610ec110d805301f5ad7275fc6691e0", func := "loop.example/g00038/laws.FnExactCryptDisk", spec := "fnExactCryptDisk", inPlace := ["internal/abi.NoEscape", "internal/bytealg.MakeNoZero"], unfollowed := true, recurses := true, apart := false, narrowed := true }
def FnExactCryptDiskUptoSaid : Prop := fnExactCryptDiskUptoRow.holds Try.pinned (OpenSpec.upto fnExactCryptDiskSpec)

/-- 'laws.FnExactMeasure', WHERE WHAT IT READS IS OF BULK AT MOST 1048576: true; the input reads as it did. -/
def fnExactMeasureUptoRow : OpenClaim := { program := "ytpcpjkbjadgoiaa", sum := "eae5a767be650e6f0adddcb2a9aea8444610ec110d805301f5ad7275fc6691e0", func := "loop.example/g00038/laws.FnExactMeasure", spec := "fnExactMeasure", unfollowed := true, recurses := true, apart := false, narrowed := true }
def FnExactMeasureUptoSaid : Prop := fnExactMeasureUptoRow.holds Try.pinned (OpenSpec.upto fnExactMeasureSpec)

/-- 'laws.FnExactCheckQuote', WHERE WHAT IT READS IS OF BULK AT MOST 1048576: true; the input reads as it did. -/
def fnExactCheckQuoteUptoRow : OpenClaim := { program := "ytpcpjkbjadgoiaa", sum := "eae5a767be650e6f0adddcb2a9aea8444610ec110d805301f5ad7275fc6691e0", func := "loop.example/g00038/laws.FnExactCheckQuote", spec := "fnExactCheckQuote", inPlace := ["internal/abi.NoEscape", "internal/bytealg.MakeNoZero"], unfollowed := true, recurses := true, apart := false, narrowed := true }
def FnExactCheckQuoteUptoSaid : Prop := fnExactCheckQuoteUptoRow.holds Try.pinned (OpenSpec.upto fnExactCheckQuoteSpec)

end Rows
end Go.Proofs.Ytpcpjkbjadgoiaa
