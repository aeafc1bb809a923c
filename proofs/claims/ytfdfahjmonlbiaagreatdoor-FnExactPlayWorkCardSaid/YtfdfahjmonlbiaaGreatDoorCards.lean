/-
  DERIVED. GIVEN WITH THE SEED: THE CARDS: each row of YtfdfahjmonlbiaaGreatDoorRows.lean that lists a variable, with what it lists TIED to the program's text (the seventh form; the later family's looks); each row that meets fmt, with fmt's text TOLD by the authors' own Lean function (tested against real Go, not proved from fmt's source: count such statements apart). THE CARD IS WHAT COUNTS. Prove the row's statement (the work); the ties are given (YtfdfahjmonlbiaaGreatDoorTie.lean); close each card by the builder's one call (the guide's Derived/Test/ToyasCard.lean, 'card_holds'). Laid BY PROGRAM, IN A SANDBOX (cutbox-door.mjs). By AI agents, Wed Nov 11 2026. No macro, syntax, notation, axiom, sorry.
-/
import Derived.Test.YtfdfahjmonlbiaaGreatDoorRows
import GoSem.ClaimSeven
namespace Go.Proofs.YtfdfahjmonlbiaaGreatDoor
namespace Rows

/-- THE TIED CARD OF 'laws.FnExactPlayWork'. -/
def fnExactPlayWorkCard : Claim7 := { stood := { row := fnExactPlayWorkRow, standIns := [], harness := (true, "f5e712804e8deca029a1955b0b5289fbdb8a72a852627f6edf188492854d26d3"), looks := true }, kinds := [], alts := [], laidByText := true, laidKinds := [.data, .data, .data, .data, .sentinel, .sentinel, .pinned], laidTests := true, laidLooks := .later }
def FnExactPlayWorkCardSaid : Prop := Claim7.holds Tryz.pinned (.plain (OpenSpec.ofChange fnExactPlayWorkSpec)) fnExactPlayWorkCard

/-- THE SECOND FORM's CARD OF 'laws.FnExactPlayWork'. -/
def fnExactPlayWorkUptoCard : Claim7 := { stood := { row := fnExactPlayWorkUptoRow, standIns := [], harness := (true, "f5e712804e8deca029a1955b0b5289fbdb8a72a852627f6edf188492854d26d3"), looks := true }, kinds := [], alts := [], laidByText := true, laidKinds := [.data, .data, .data, .data, .sentinel, .sentinel, .pinned], laidTests := true, laidLooks := .later }
def FnExactPlayWorkUptoCardSaid : Prop := Claim7.holds Tryz.pinned (.plain (OpenSpec.upto fnExactPlayWorkSpec)) fnExactPlayWorkUptoCard
end Rows
end Go.Proofs.YtfdfahjmonlbiaaGreatDoor
