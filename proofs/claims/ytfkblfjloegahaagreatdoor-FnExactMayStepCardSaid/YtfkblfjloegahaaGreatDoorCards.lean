/-
  DERIVED. GIVEN WITH THE SEED: THE CARDS: each row of YtfkblfjloegahaaGreatDoorRows.lean that lists a variable, with what it lists TIED to the program's text (the seventh form; the later family's looks); each row that meets fmt, with fmt's text TOLD by the authors' own Lean function (tested against real Go, not proved from fmt's source: count such statements apart). THE CARD IS WHAT COUNTS. Prove the row's statement (the work); the ties are given (YtfkblfjloegahaaGreatDoorTie.lean); close each card by the builder's one call (the guide's Derived/Test/ToyasCard.lean, 'card_holds'). Laid BY PROGRAM, IN A SANDBOX (cutbox-door.mjs). By AI agents, Wed Nov 11 2026. No macro, syntax, notation, axiom, sorry.
-/
import Derived.Test.YtfkblfjloegahaaGreatDoorRows
import GoSem.ClaimSeven
namespace Go.Proofs.YtfkblfjloegahaaGreatDoor
namespace Rows

/-- THE TIED CARD OF 'laws.FnExactStepShift'. -/
def fnExactStepShiftCard : Claim7 := { stood := { row := fnExactStepShiftRow, standIns := [], harness := (true, "e7adbfe4239e50b433ceff0411c615cc0111931567e4fa82d5141c28b841db8f"), looks := true }, kinds := [], alts := [], laidByText := true, laidKinds := [.data, .data, .data, .sentinel, .sentinel], laidTests := true, laidLooks := .later }
def FnExactStepShiftCardSaid : Prop := Claim7.holds Tryz.pinned (.plain (OpenSpec.ofChange fnExactStepShiftSpec)) fnExactStepShiftCard

/-- THE TIED CARD OF 'laws.FnExactMayStep'. -/
def fnExactMayStepCard : Claim7 := { stood := { row := fnExactMayStepRow, standIns := [], harness := (true, "e7adbfe4239e50b433ceff0411c615cc0111931567e4fa82d5141c28b841db8f"), looks := true }, kinds := [], alts := [], laidByText := true, laidKinds := [.data, .data, .data, .data, .sentinel, .sentinel, .pinned], laidTests := true, laidLooks := .later }
def FnExactMayStepCardSaid : Prop := Claim7.holds Tryz.pinned (.plain (OpenSpec.ofChange fnExactMayStepSpec)) fnExactMayStepCard

/-- THE TIED CARD OF 'laws.FnExactPlayShift'. -/
def fnExactPlayShiftCard : Claim7 := { stood := { row := fnExactPlayShiftRow, standIns := [], harness := (true, "e7adbfe4239e50b433ceff0411c615cc0111931567e4fa82d5141c28b841db8f"), looks := true }, kinds := [], alts := [], laidByText := true, laidKinds := [.data, .data, .data, .data, .sentinel, .sentinel, .pinned], laidTests := true, laidLooks := .later }
def FnExactPlayShiftCardSaid : Prop := Claim7.holds Tryz.pinned (.plain (OpenSpec.ofChange fnExactPlayShiftSpec)) fnExactPlayShiftCard

/-- THE SECOND FORM's CARD OF 'laws.FnExactStepShift'. -/
def fnExactStepShiftUptoCard : Claim7 := { stood := { row := fnExactStepShiftUptoRow, standIns := [], harness := (true, "e7adbfe4239e50b433ceff0411c615cc0111931567e4fa82d5141c28b841db8f"), looks := true }, kinds := [], alts := [], laidByText := true, laidKinds := [.data, .data, .data, .sentinel, .sentinel], laidTests := true, laidLooks := .later }
def FnExactStepShiftUptoCardSaid : Prop := Claim7.holds Tryz.pinned (.plain (OpenSpec.upto fnExactStepShiftSpec)) fnExactStepShiftUptoCard

/-- THE SECOND FORM's CARD OF 'laws.FnExactMayStep'. -/
def fnExactMayStepUptoCard : Claim7 := { stood := { row := fnExactMayStepUptoRow, standIns := [], harness := (true, "e7adbfe4239e50b433ceff0411c615cc0111931567e4fa82d5141c28b841db8f"), looks := true }, kinds := [], alts := [], laidByText := true, laidKinds := [.data, .data, .data, .data, .sentinel, .sentinel, .pinned], laidTests := true, laidLooks := .later }
def FnExactMayStepUptoCardSaid : Prop := Claim7.holds Tryz.pinned (.plain (OpenSpec.upto fnExactMayStepSpec)) fnExactMayStepUptoCard

/-- THE SECOND FORM's CARD OF 'laws.FnExactPlayShift'. -/
def fnExactPlayShiftUptoCard : Claim7 := { stood := { row := fnExactPlayShiftUptoRow, standIns := [], harness := (true, "e7adbfe4239e50b433ceff0411c615cc0111931567e4fa82d5141c28b841db8f"), looks := true }, kinds := [], alts := [], laidByText := true, laidKinds := [.data, .data, .data, .data, .sentinel, .sentinel, .pinned], laidTests := true, laidLooks := .later }
def FnExactPlayShiftUptoCardSaid : Prop := Claim7.holds Tryz.pinned (.plain (OpenSpec.upto fnExactPlayShiftSpec)) fnExactPlayShiftUptoCard
end Rows
end Go.Proofs.YtfkblfjloegahaaGreatDoor
