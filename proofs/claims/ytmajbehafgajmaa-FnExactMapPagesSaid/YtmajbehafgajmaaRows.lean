/-
  No cell of these rows narrows 'for every input' (looked for: loops, veiled, ifaces, maps, wideKeys, modest, calm, conditions, laid).
  DERIVED. THE GIVEN ROWS OF THIS SEAT. 5 by the template 'for every input the law returns true; each argument reads behind the call as it read before'; 0 by the template 'total and deterministic' (their statements: YtmajbehafgajmaaTotals.lean).
  GIVEN WITH THE SEED: the statements are not yours to turn. If you find one false, say at which input.
  Laid BY PROGRAM, IN A SANDBOX (cutbox-rows.mjs): the forced cells as the released guide's own fill.sh prints them over the translation fd4ec43308c6cfaf… (all of the seat's roots in one cut). By AI agents, Wed Nov 11 2026. No macro, syntax, notation, axiom, sorry.
-/
import Derived.Test.YtmajbehafgajmaaChecked
import GoSem.Claim
import GoSem.ClaimJoined
import GoSem.ClaimMapViews
import Derived.JoinedTies
import Derived.KernelRfl
namespace Go.Proofs.Ytmajbehafgajmaa
/- THE CELL 'sum', in the pinned program and in every row, IS THE sha256 OF THE DUMP (.gsa) THAT YtmajbehafgajmaaProg.lean LOADS. Nothing in Lean hashes anything: it is a label: what it is worth is what the hold of that sum in a sandbox is worth. -/
noncomputable def Try.pinned : Pinned := { name := "ytmajbehafgajmaa", sum := "fd4ec43308c6cfaf7b362938439e546b1f7f2d547beae0fd0d52e002a25bfeb1", checked := Try.checked }
namespace Rows
def none {H : Type} : Left H := { results := [], args := [] }

/-- 'laws.FnExactMemHostFault': WHATEVER THE INPUT: true; the input reads as it did. -/
def fnExactMemHostFaultSpec : ChangeSpec := { name := "fnExactMemHostFault", fn := fun _ => fun
  | [d] => { results := [.lit (.bool true)], args := [d] }
  | _ => none }
def fnExactMemHostFaultRow : OpenClaim := { program := "ytmajbehafgajmaa", sum := "fd4ec43308c6cfaf7b362938439e546b1f7f2d547beae0fd0d52e002a25bfeb1", func := "loop.example/g00038/laws.FnExactMemHostFault", spec := "fnExactMemHostFault", apart := false }
def FnExactMemHostFaultSaid : Prop := fnExactMemHostFaultRow.holds Try.pinned (OpenSpec.ofChange fnExactMemHostFaultSpec)

/-- ITS FALSE NEIGHBOUR: 'it returns false'. Refute it at one input. -/
def fnExactMemHostFaultWrong : ChangeSpec := { name := "fnExactMemHostFault", fn := fun _ => fun
  | [d] => { results := [.lit (.bool false)], args := [d] }
  | _ => none }
def FnExactMemHostFaultWrongFalsely : Prop := fnExactMemHostFaultRow.holds Try.pinned (OpenSpec.ofChange fnExactMemHostFaultWrong)

/-- 'laws.FnExactRouterFault': WHATEVER THE INPUT: true; the input reads as it did. -/
def fnExactRouterFaultSpec : ChangeSpec := { name := "fnExactRouterFault", fn := fun _ => fun
  | [d] => { results := [.lit (.bool true)], args := [d] }
  | _ => none }
def fnExactRouterFaultRow : OpenClaim := { program := "ytmajbehafgajmaa", sum := "fd4ec43308c6cfaf7b362938439e546b1f7f2d547beae0fd0d52e002a25bfeb1", func := "loop.example/g00038/laws.FnExactRouterFault", spec := "fnExactRouterFault", unfollowed := true, recurses := true, apart := false }
def FnExactRouterFaultSaid : Prop := fnExactRouterFaultRow.holds Try.pinned (OpenSpec.ofChange fnExactRouterFaultSpec)

/-- ITS FALSE NEIGHBOUR: 'it returns false'. Refute it at one input. -/
def fnExactRouterFaultWrong : ChangeSpec := { name := "fnExactRouterFault", fn := fun _ => fun
  | [d] => { results := [.lit (.bool false)], args := [d] }
  | _ => none }
def FnExactRouterFaultWrongFalsely : Prop := fnExactRouterFaultRow.holds Try.pinned (OpenSpec.ofChange fnExactRouterFaultWrong)

/-- 'laws.FnExactMapPages': WHATEVER THE INPUT: true; the input reads as it did. -/
def fnExactMapPagesSpec : ChangeSpec := { name := "fnExactMapPages", fn := fun _ => fun
  | [d1, d2, d3, d4] => { results := [.lit (.bool true)], args := [d1, d2, d3, d4] }
  | _ => none }
def fnExactMapPagesRow : OpenClaim := { program := "ytmajbehafgajmaa", sum := "fd4ec43308c6cfaf7b362938439e546b1f7f2d547beae0fd0d52e002a25bfeb1", func := "loop.example/g00038/laws.FnExactMapPages", spec := "fnExactMapPages", unfollowed := true, recurses := true, apart := false }
def FnExactMapPagesSaid : Prop := fnExactMapPagesRow.holds Try.pinned (OpenSpec.ofChange fnExactMapPagesSpec)

/-- ITS FALSE NEIGHBOUR: 'it returns false'. Refute it at one input. -/
def fnExactMapPagesWrong : ChangeSpec := { name := "fnExactMapPages", fn := fun _ => fun
  | [d1, d2, d3, d4] => { results := [.lit (.bool false)], args := [d1, d2, d3, d4] }
  | _ => none }
def FnExactMapPagesWrongFalsely : Prop := fnExactMapPagesRow.holds Try.pinned (OpenSpec.ofChange fnExactMapPagesWrong)

/-- 'laws.FnExactRaiseLine': WHATEVER THE INPUT: true; the input reads as it did. -/
def fnExactRaiseLineSpec : ChangeSpec := { name := "fnExactRaiseLine", fn := fun _ => fun
  | [d1, d2] => { results := [.lit (.bool true)], args := [d1, d2] }
  | _ => none }
def fnExactRaiseLineRow : OpenClaim := { program := "ytmajbehafgajmaa", sum := "fd4ec43308c6cfaf7b362938439e546b1f7f2d547beae0fd0d52e002a25bfeb1", func := "loop.example/g00038/laws.FnExactRaiseLine", spec := "fnExactRaiseLine", unfollowed := true, recurses := true, apart := false }
def FnExactRaiseLineSaid : Prop := fnExactRaiseLineRow.holds Try.pinned (OpenSpec.ofChange fnExactRaiseLineSpec)

/-- ITS FALSE NEIGHBOUR: 'it returns false'. Refute it at one input. -/
def fnExactRaiseLineWrong : ChangeSpec := { name := "fnExactRaiseLine", fn := fun _ => fun
  | [d1, d2] => { results := [.lit (.bool false)], args := [d1, d2] }
  | _ => none }
def FnExactRaiseLineWrongFalsely : Prop := fnExactRaiseLineRow.holds Try.pinned (OpenSpec.ofChange fnExactRaiseLineWrong)

/-- 'laws.FnExactChainFault': WHATEVER THE INPUT: true; the input reads as it did. -/
def fnExactChainFaultSpec : ChangeSpec := { name := "fnExactChainFault", fn := fun _ => fun
  | [d] => { results := [.lit (.bool true)], args := [d] }
  | _ => none }
def fnExactChainFaultRow : OpenClaim := { program := "ytmajbehafgajmaa", sum := "fd4ec43308c6cfaf7b362938439e546b1f7f2d547beae0fd0d52e002a25bfeb1", func := "loop.example/g00038/laws.FnExactChainFault", spec := "fnExactChainFault", unfollowed := true, recurses := true, apart := false }
def FnExactChainFaultSaid : Prop := fnExactChainFaultRow.holds Try.pinned (OpenSpec.ofChange fnExactChainFaultSpec)

/-- ITS FALSE NEIGHBOUR: 'it returns false'. Refute it at one input. -/
def fnExactChainFaultWrong : ChangeSpec := { name := "fnExactChainFault", fn := fun _ => fun
  | [d] => { results := [.lit (.bool false)], args := [d] }
  | _ => none }
def FnExactChainFaultWrongFalsely : Prop := fnExactChainFaultRow.holds Try.pinned (OpenSpec.ofChange fnExactChainFaultWrong)

/- THE SECOND FORM. 'bulk': how many values and letters a reading holds, each counted each time it is reached (what is shared counts as often as it is met; a slice's spare places count too). A statement '..UptoSaid' is the law's where the arguments, and the package variables that the reading takes, are together of bulk at most 1048576: NARROWER than '..Said'. Prove '..Said' where nothing that the law and all that it calls make is longer than what came in: it says more and counts as full. Else prove '..UptoSaid'. A law counts once. -/
mutual
def uptoBulk {H : Type} : DataW H → Nat
  | .lit (.string bytes) => bytes.length + 1
  | .lit _ => 1
  | .nil => 1
  | .ptr d => uptoBulk d + 1
  | .slice elems spare => uptoBulkAll elems + uptoBulkAll spare + 1
  | .agg parts => uptoBulkAll parts + 1
  | .iface _ d => uptoBulk d + 1
  | .map entries => uptoBulkEntries entries + 1
  | .held _ => 1
def uptoBulkAll {H : Type} : List (DataW H) → Nat
  | [] => 0
  | d :: r => uptoBulk d + uptoBulkAll r
def uptoBulkEntries {H : Type} : List (Lit × DataW H) → Nat
  | [] => 0
  | x :: r => uptoBulkEntry x + uptoBulkEntries r
def uptoBulkEntry {H : Type} : Lit × DataW H → Nat
  | (.string bytes, d) => bytes.length + uptoBulk d + 1
  | (_, d) => uptoBulk d + 1
 end
def uptoSmall : (H : Type) → List (DataW H) → Bool := fun _ ds => decide (uptoBulkAll ds ≤ 1048576)
def OpenSpec.upto (s : _root_.Go.ChangeSpec) : _root_.Go.OpenSpec := { _root_.Go.OpenSpec.ofChange s with cond := some uptoSmall }

/-- 'laws.FnExactMemHostFault', WHERE WHAT IT READS IS OF BULK AT MOST 1048576: true; the input reads as it did. -/
def fnExactMemHostFaultUptoRow : OpenClaim := { program := "ytmajbehafgajmaa", sum := "fd4ec43308c6cfaf7b362938439e546b1f7f2d547beae0fd0d52e002a25bfeb1", func := "loop.example/g00038/laws.FnExactMemHostFault", spec := "fnExactMemHostFault", apart := false, narrowed := true }
def FnExactMemHostFaultUptoSaid : Prop := fnExactMemHostFaultUptoRow.holds Try.pinned (OpenSpec.upto fnExactMemHostFaultSpec)

/-- 'laws.FnExactRouterFault', WHERE WHAT IT READS IS OF BULK AT MOST 1048576: true; the input reads as it did. -/
def fnExactRouterFaultUptoRow : OpenClaim := { program := "ytmajbehafgajmaa", sum := "fd4ec43308c6cfaf7b362938439e546b1f7f2d547beae0fd0d52e002a25bfeb1", func := "loop.example/g00038/laws.FnExactRouterFault", spec := "fnExactRouterFault", unfollowed := true, recurses := true, apart := false, narrowed := true }
def FnExactRouterFaultUptoSaid : Prop := fnExactRouterFaultUptoRow.holds Try.pinned (OpenSpec.upto fnExactRouterFaultSpec)

/-- 'laws.FnExactMapPages', WHERE WHAT IT READS IS OF BULK AT MOST 1048576: true; the input reads as it did. -/
def fnExactMapPagesUptoRow : OpenClaim := { program := "ytmajbehafgajmaa", sum := "fd4ec43308c6cfaf7b362938439e546b1f7f2d547beae0fd0d52e002a25bfeb1", func := "loop.example/g00038/laws.FnExactMapPages", spec := "fnExactMapPages", unfollowed := true, recurses := true, apart := false, narrowed := true }
def FnExactMapPagesUptoSaid : Prop := fnExactMapPagesUptoRow.holds Try.pinned (OpenSpec.upto fnExactMapPagesSpec)

/-- 'laws.FnExactRaiseLine', WHERE WHAT IT READS IS OF BULK AT MOST 1048576: true; the input reads as it did. -/
def fnExactRaiseLineUptoRow : OpenClaim := { program := "ytmajbehafgajmaa", sum := "fd4ec43308c6cfaf7b362938439e546b1f7f2d547beae0fd0d52e002a25bfeb1", func := "loop.example/g00038/laws.FnExactRaiseLine", spec := "fnExactRaiseLine", unfollowed := true, recurses := true, apart := false, narrowed := true }
def FnExactRaiseLineUptoSaid : Prop := fnExactRaiseLineUptoRow.holds Try.pinned (OpenSpec.upto fnExactRaiseLineSpec)

/-- 'laws.FnExactChainFault', WHERE WHAT IT READS IS OF BULK AT MOST 1048576: true; the input reads as it did. -/
def fnExactChainFaultUptoRow : OpenClaim := { program := "ytmajbehafgajmaa", sum := "fd4ec43308c6cfaf7b362938439e546b1f7f2d547beae0fd0d52e002a25bfeb1", func := "loop.example/g00038/laws.FnExactChainFault", spec := "fnExactChainFault", unfollowed := true, recurses := true, apart := false, narrowed := true }
def FnExactChainFaultUptoSaid : Prop := fnExactChainFaultUptoRow.holds Try.pinned (OpenSpec.upto fnExactChainFaultSpec)

end Rows
end Go.Proofs.Ytmajbehafgajmaa
