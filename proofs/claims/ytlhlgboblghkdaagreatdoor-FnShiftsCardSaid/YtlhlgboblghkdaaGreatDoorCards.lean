/-
  DERIVED. GIVEN WITH THE SEED: THE CARDS: each row of YtlhlgboblghkdaaGreatDoorRows.lean that lists a variable, with what it lists TIED to the program's text (the seventh form; the later family's looks); each row that meets fmt, with fmt's text TOLD by the authors' own Lean function (tested against real Go, not proved from fmt's source: count such statements apart). THE CARD IS WHAT COUNTS. Prove the row's statement (the work); the ties are given (YtlhlgboblghkdaaGreatDoorTie.lean); close each card by the builder's one call (the guide's Derived/Test/ToyasCard.lean, 'card_holds'). Laid BY PROGRAM, IN A SANDBOX (cutbox-door.mjs). By AI agents, Wed Nov 11 2026. No macro, syntax, notation, axiom, sorry.
-/
import Derived.Test.YtlhlgboblghkdaaGreatDoorRows
import GoSem.ClaimSeven
namespace Go.Proofs.YtlhlgboblghkdaaGreatDoor
namespace Rows

/-- THE TIED CARD OF 'laws.FnShifts'. -/
def fnShiftsCard : Claim7 := { stood := { row := fnShiftsRow, standIns := [], harness := (true, "ef8e2a9acb20d23931efad7aca9e863799f8d54315547dd70bc82ae1792939d3"), looks := true }, kinds := [], alts := [], laidByText := true, laidKinds := [.data, .data, .data, .data, .sentinel, .sentinel, .pinned], laidTests := true, laidLooks := .later }
def FnShiftsCardSaid : Prop := Claim7.holds Tryz.pinned (.plain (OpenSpec.ofChange fnShiftsSpec)) fnShiftsCard

/-- THE SECOND FORM's CARD OF 'laws.FnShifts'. -/
def fnShiftsUptoCard : Claim7 := { stood := { row := fnShiftsUptoRow, standIns := [], harness := (true, "ef8e2a9acb20d23931efad7aca9e863799f8d54315547dd70bc82ae1792939d3"), looks := true }, kinds := [], alts := [], laidByText := true, laidKinds := [.data, .data, .data, .data, .sentinel, .sentinel, .pinned], laidTests := true, laidLooks := .later }
def FnShiftsUptoCardSaid : Prop := Claim7.holds Tryz.pinned (.plain (OpenSpec.upto fnShiftsSpec)) fnShiftsUptoCard
end Rows
end Go.Proofs.YtlhlgboblghkdaaGreatDoor
