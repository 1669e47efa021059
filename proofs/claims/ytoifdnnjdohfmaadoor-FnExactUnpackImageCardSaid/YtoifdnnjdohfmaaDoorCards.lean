/-
  DERIVED. GIVEN WITH THE SEED: THE CARDS: each row of YtoifdnnjdohfmaaDoorRows.lean that lists a variable, with what it lists TIED to the program's text (the seventh form; the later family's looks); each row that meets fmt, with fmt's text TOLD by the authors' own Lean function (tested against real Go, not proved from fmt's source: count such statements apart). THE CARD IS WHAT COUNTS. Prove the row's statement (the work); the ties are given (YtoifdnnjdohfmaaDoorTie.lean); close each card by the builder's one call (the guide's Derived/Test/ToyasCard.lean, 'card_holds'). Laid BY PROGRAM, IN A SANDBOX (cutbox-door.mjs). By AI agents, Wed Nov 11 2026. No macro, syntax, notation, axiom, sorry.
-/
import Derived.Test.YtoifdnnjdohfmaaDoorRows
import GoSem.ClaimSeven
namespace Go.Proofs.YtoifdnnjdohfmaaDoor
namespace Rows

/-- THE TIED CARD OF 'laws.FnExactUnpackImage'. -/
def fnExactUnpackImageCard : Claim7 := { stood := { row := fnExactUnpackImageRow, standIns := [], harness := (true, "c63cc8500e00ae1717b0d394c350ed0347ae50bf377082ed50f9a25ea8261865"), looks := true }, kinds := [], alts := [], laidByText := true, laidKinds := [.handle], laidTests := true, laidLooks := .later }
def FnExactUnpackImageCardSaid : Prop := Claim7.holds Tryd.pinned (.plain (OpenSpec.ofChange fnExactUnpackImageSpec)) fnExactUnpackImageCard

/-- THE TIED CARD OF 'laws.FnPackedImage'. -/
def fnPackedImageCard : Claim7 := { stood := { row := fnPackedImageRow, standIns := [], harness := (true, "c63cc8500e00ae1717b0d394c350ed0347ae50bf377082ed50f9a25ea8261865"), looks := true }, kinds := [], alts := [], laidByText := true, laidKinds := [.handle], laidTests := true, laidLooks := .later }
def FnPackedImageCardSaid : Prop := Claim7.holds Tryd.pinned (.plain (OpenSpec.ofChange fnPackedImageSpec)) fnPackedImageCard

/-- THE SECOND FORM's CARD OF 'laws.FnExactUnpackImage'. -/
def fnExactUnpackImageUptoCard : Claim7 := { stood := { row := fnExactUnpackImageUptoRow, standIns := [], harness := (true, "c63cc8500e00ae1717b0d394c350ed0347ae50bf377082ed50f9a25ea8261865"), looks := true }, kinds := [], alts := [], laidByText := true, laidKinds := [.handle], laidTests := true, laidLooks := .later }
def FnExactUnpackImageUptoCardSaid : Prop := Claim7.holds Tryd.pinned (.plain (OpenSpec.upto fnExactUnpackImageSpec)) fnExactUnpackImageUptoCard

/-- THE SECOND FORM's CARD OF 'laws.FnPackedImage'. -/
def fnPackedImageUptoCard : Claim7 := { stood := { row := fnPackedImageUptoRow, standIns := [], harness := (true, "c63cc8500e00ae1717b0d394c350ed0347ae50bf377082ed50f9a25ea8261865"), looks := true }, kinds := [], alts := [], laidByText := true, laidKinds := [.handle], laidTests := true, laidLooks := .later }
def FnPackedImageUptoCardSaid : Prop := Claim7.holds Tryd.pinned (.plain (OpenSpec.upto fnPackedImageSpec)) fnPackedImageUptoCard
end Rows
end Go.Proofs.YtoifdnnjdohfmaaDoor
