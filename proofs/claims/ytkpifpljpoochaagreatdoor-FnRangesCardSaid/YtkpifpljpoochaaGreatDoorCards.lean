/-
  DERIVED. GIVEN WITH THE SEED: THE CARDS: each row of YtkpifpljpoochaaGreatDoorRows.lean that lists a variable, with what it lists TIED to the program's text (the seventh form; the later family's looks); each row that meets fmt, with fmt's text TOLD by the authors' own Lean function (tested against real Go, not proved from fmt's source: count such statements apart). THE CARD IS WHAT COUNTS. Prove the row's statement (the work); the ties are given (YtkpifpljpoochaaGreatDoorTie.lean); close each card by the builder's one call (the guide's Derived/Test/ToyasCard.lean, 'card_holds'). Laid BY PROGRAM, IN A SANDBOX (cutbox-door.mjs). By AI agents, Wed Nov 11 2026. No macro, syntax, notation, axiom, sorry.
-/
import Derived.Test.YtkpifpljpoochaaGreatDoorRows
import GoSem.ClaimSeven
namespace Go.Proofs.YtkpifpljpoochaaGreatDoor
namespace Rows

/-- THE TIED CARD OF 'laws.FnRanges'. -/
def fnRangesCard : Claim7 := { stood := { row := fnRangesRow, standIns := [], harness := (true, "25b33100f7088b40c8cca08c647c1a069ac02450bfb16d9fde90925fa20bce3f"), looks := false }, kinds := [], alts := [], laidByText := true, laidKinds := [.data, .pinned], laidTests := true, laidLooks := .later }
def FnRangesCardSaid : Prop := Claim7.holds Tryz.pinned (.plain (OpenSpec.ofChange fnRangesSpec)) fnRangesCard

/-- THE SECOND FORM's CARD OF 'laws.FnRanges'. -/
def fnRangesUptoCard : Claim7 := { stood := { row := fnRangesUptoRow, standIns := [], harness := (true, "25b33100f7088b40c8cca08c647c1a069ac02450bfb16d9fde90925fa20bce3f"), looks := false }, kinds := [], alts := [], laidByText := true, laidKinds := [.data, .pinned], laidTests := true, laidLooks := .later }
def FnRangesUptoCardSaid : Prop := Claim7.holds Tryz.pinned (.plain (OpenSpec.upto fnRangesSpec)) fnRangesUptoCard
end Rows
end Go.Proofs.YtkpifpljpoochaaGreatDoor
