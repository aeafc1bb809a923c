/-
  DERIVED. GIVEN WITH THE SEED: THE CARDS: each row of YtagokdejdanfcaaGreatDoorRows.lean that lists a variable, with what it lists TIED to the program's text (the seventh form; the later family's looks); each row that meets fmt, with fmt's text TOLD by the authors' own Lean function (tested against real Go, not proved from fmt's source: count such statements apart). THE CARD IS WHAT COUNTS. Prove the row's statement (the work); the ties are given (YtagokdejdanfcaaGreatDoorTie.lean); close each card by the builder's one call (the guide's Derived/Test/ToyasCard.lean, 'card_holds'). Laid BY PROGRAM, IN A SANDBOX (cutbox-door.mjs). By AI agents, Wed Nov 11 2026. No macro, syntax, notation, axiom, sorry.
-/
import Derived.Test.YtagokdejdanfcaaGreatDoorRows
import GoSem.ClaimSeven
namespace Go.Proofs.YtagokdejdanfcaaGreatDoor
namespace Rows

/-- THE TIED CARD OF 'laws.FnStmts'. -/
def fnStmtsCard : Claim7 := { stood := { row := fnStmtsRow, standIns := [], harness := (true, "dc8f2497074adec8186d8f7f2a75d92a06a25c3eae453a09b602368bb0362054"), looks := false }, kinds := [], alts := [], laidByText := true, laidKinds := [.data, .pinned], laidTests := true, laidLooks := .later }
def FnStmtsCardSaid : Prop := Claim7.holds Tryz.pinned (.plain (OpenSpec.ofChange fnStmtsSpec)) fnStmtsCard

/-- THE SECOND FORM's CARD OF 'laws.FnStmts'. -/
def fnStmtsUptoCard : Claim7 := { stood := { row := fnStmtsUptoRow, standIns := [], harness := (true, "dc8f2497074adec8186d8f7f2a75d92a06a25c3eae453a09b602368bb0362054"), looks := false }, kinds := [], alts := [], laidByText := true, laidKinds := [.data, .pinned], laidTests := true, laidLooks := .later }
def FnStmtsUptoCardSaid : Prop := Claim7.holds Tryz.pinned (.plain (OpenSpec.upto fnStmtsSpec)) fnStmtsUptoCard
end Rows
end Go.Proofs.YtagokdejdanfcaaGreatDoor
