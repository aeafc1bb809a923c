/-
  DERIVED. GIVEN WITH THE SEED: THE CARDS: each row of YtecngjbpbnfegaaGreatDoorRows.lean that lists a variable, with what it lists TIED to the program's text (the seventh form; the later family's looks); each row that meets fmt, with fmt's text TOLD by the authors' own Lean function (tested against real Go, not proved from fmt's source: count such statements apart). THE CARD IS WHAT COUNTS. Prove the row's statement (the work); the ties are given (YtecngjbpbnfegaaGreatDoorTie.lean); close each card by the builder's one call (the guide's Derived/Test/ToyasCard.lean, 'card_holds'). Laid BY PROGRAM, IN A SANDBOX (cutbox-door.mjs). By AI agents, Wed Nov 11 2026. No macro, syntax, notation, axiom, sorry.
-/
import Derived.Test.YtecngjbpbnfegaaGreatDoorRows
import GoSem.ClaimSeven
namespace Go.Proofs.YtecngjbpbnfegaaGreatDoor
namespace Rows

/-- THE TIED CARD OF 'laws.FnExactHoldsAt'. -/
def fnExactHoldsAtCard : Claim7 := { stood := { row := fnExactHoldsAtRow, standIns := [], harness := (true, "a3a94ab8df6772c8b15cae68c3748e595f2fd691d55f8b88b9160008fa0fcd76"), looks := false }, kinds := [], alts := [], laidByText := true, laidKinds := [.data, .pinned], laidTests := true, laidLooks := .later }
def FnExactHoldsAtCardSaid : Prop := Claim7.holds Tryz.pinned (.plain (OpenSpec.ofChange fnExactHoldsAtSpec)) fnExactHoldsAtCard

/-- THE TIED CARD OF 'laws.FnExactIsHeld'. -/
def fnExactIsHeldCard : Claim7 := { stood := { row := fnExactIsHeldRow, standIns := [], harness := (true, "a3a94ab8df6772c8b15cae68c3748e595f2fd691d55f8b88b9160008fa0fcd76"), looks := false }, kinds := [], alts := [], laidByText := true, laidKinds := [.data, .pinned], laidTests := true, laidLooks := .later }
def FnExactIsHeldCardSaid : Prop := Claim7.holds Tryz.pinned (.plain (OpenSpec.ofChange fnExactIsHeldSpec)) fnExactIsHeldCard

/-- THE SECOND FORM's CARD OF 'laws.FnExactHoldsAt'. -/
def fnExactHoldsAtUptoCard : Claim7 := { stood := { row := fnExactHoldsAtUptoRow, standIns := [], harness := (true, "a3a94ab8df6772c8b15cae68c3748e595f2fd691d55f8b88b9160008fa0fcd76"), looks := false }, kinds := [], alts := [], laidByText := true, laidKinds := [.data, .pinned], laidTests := true, laidLooks := .later }
def FnExactHoldsAtUptoCardSaid : Prop := Claim7.holds Tryz.pinned (.plain (OpenSpec.upto fnExactHoldsAtSpec)) fnExactHoldsAtUptoCard

/-- THE SECOND FORM's CARD OF 'laws.FnExactIsHeld'. -/
def fnExactIsHeldUptoCard : Claim7 := { stood := { row := fnExactIsHeldUptoRow, standIns := [], harness := (true, "a3a94ab8df6772c8b15cae68c3748e595f2fd691d55f8b88b9160008fa0fcd76"), looks := false }, kinds := [], alts := [], laidByText := true, laidKinds := [.data, .pinned], laidTests := true, laidLooks := .later }
def FnExactIsHeldUptoCardSaid : Prop := Claim7.holds Tryz.pinned (.plain (OpenSpec.upto fnExactIsHeldSpec)) fnExactIsHeldUptoCard
end Rows
end Go.Proofs.YtecngjbpbnfegaaGreatDoor
