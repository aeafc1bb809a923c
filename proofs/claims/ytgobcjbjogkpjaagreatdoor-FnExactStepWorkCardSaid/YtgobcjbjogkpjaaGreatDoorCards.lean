/-
  DERIVED. GIVEN WITH THE SEED: THE CARDS: each row of YtgobcjbjogkpjaaGreatDoorRows.lean that lists a variable, with what it lists TIED to the program's text (the seventh form; the later family's looks); each row that meets fmt, with fmt's text TOLD by the authors' own Lean function (tested against real Go, not proved from fmt's source: count such statements apart). THE CARD IS WHAT COUNTS. Prove the row's statement (the work); the ties are given (YtgobcjbjogkpjaaGreatDoorTie.lean); close each card by the builder's one call (the guide's Derived/Test/ToyasCard.lean, 'card_holds'). Laid BY PROGRAM, IN A SANDBOX (cutbox-door.mjs). By AI agents, Wed Nov 11 2026. No macro, syntax, notation, axiom, sorry.
-/
import Derived.Test.YtgobcjbjogkpjaaGreatDoorRows
import GoSem.ClaimSeven
namespace Go.Proofs.YtgobcjbjogkpjaaGreatDoor
namespace Rows

/-- THE TIED CARD OF 'laws.FnApart'. -/
def fnApartCard : Claim7 := { stood := { row := fnApartRow, standIns := [], harness := (true, "78d2bd65a73978c76ad6af9447aa12ccb3649c9a2e86cc8f8d2524c6404778da"), looks := true }, kinds := [], alts := [], laidByText := true, laidKinds := [.data, .data, .data, .data, .sentinel, .sentinel, .pinned], laidTests := true, laidLooks := .later }
def FnApartCardSaid : Prop := Claim7.holds Tryz.pinned (.plain (OpenSpec.ofChange fnApartSpec)) fnApartCard

/-- THE TIED CARD OF 'laws.FnActs'. -/
def fnActsCard : Claim7 := { stood := { row := fnActsRow, standIns := [], harness := (true, "78d2bd65a73978c76ad6af9447aa12ccb3649c9a2e86cc8f8d2524c6404778da"), looks := true }, kinds := [], alts := [], laidByText := true, laidKinds := [.data, .data, .data, .data, .sentinel, .sentinel, .pinned], laidTests := true, laidLooks := .later }
def FnActsCardSaid : Prop := Claim7.holds Tryz.pinned (.plain (OpenSpec.ofChange fnActsSpec)) fnActsCard

/-- THE TIED CARD OF 'laws.FnNoOrphans'. -/
def fnNoOrphansCard : Claim7 := { stood := { row := fnNoOrphansRow, standIns := [], harness := (true, "78d2bd65a73978c76ad6af9447aa12ccb3649c9a2e86cc8f8d2524c6404778da"), looks := true }, kinds := [], alts := [], laidByText := true, laidKinds := [.data, .data, .data, .data, .sentinel, .sentinel, .pinned], laidTests := true, laidLooks := .later }
def FnNoOrphansCardSaid : Prop := Claim7.holds Tryz.pinned (.plain (OpenSpec.ofChange fnNoOrphansSpec)) fnNoOrphansCard

/-- THE TIED CARD OF 'laws.FnNone'. -/
def fnNoneCard : Claim7 := { stood := { row := fnNoneRow, standIns := [], harness := (true, "78d2bd65a73978c76ad6af9447aa12ccb3649c9a2e86cc8f8d2524c6404778da"), looks := true }, kinds := [], alts := [], laidByText := true, laidKinds := [.data, .data, .data, .data, .sentinel, .sentinel, .pinned], laidTests := true, laidLooks := .later }
def FnNoneCardSaid : Prop := Claim7.holds Tryz.pinned (.plain (OpenSpec.ofChange fnNoneSpec)) fnNoneCard

/-- THE TIED CARD OF 'laws.FnWhole'. -/
def fnWholeCard : Claim7 := { stood := { row := fnWholeRow, standIns := [], harness := (true, "78d2bd65a73978c76ad6af9447aa12ccb3649c9a2e86cc8f8d2524c6404778da"), looks := true }, kinds := [], alts := [], laidByText := true, laidKinds := [.data, .data, .data, .data, .sentinel, .sentinel, .pinned], laidTests := true, laidLooks := .later }
def FnWholeCardSaid : Prop := Claim7.holds Tryz.pinned (.plain (OpenSpec.ofChange fnWholeSpec)) fnWholeCard

/-- THE TIED CARD OF 'laws.FnShift'. -/
def fnShiftCard : Claim7 := { stood := { row := fnShiftRow, standIns := [], harness := (true, "78d2bd65a73978c76ad6af9447aa12ccb3649c9a2e86cc8f8d2524c6404778da"), looks := true }, kinds := [], alts := [], laidByText := true, laidKinds := [.data, .data, .data, .data, .sentinel, .sentinel, .pinned], laidTests := true, laidLooks := .later }
def FnShiftCardSaid : Prop := Claim7.holds Tryz.pinned (.plain (OpenSpec.ofChange fnShiftSpec)) fnShiftCard

/-- THE TIED CARD OF 'laws.FnShifts'. -/
def fnShiftsCard : Claim7 := { stood := { row := fnShiftsRow, standIns := [], harness := (true, "78d2bd65a73978c76ad6af9447aa12ccb3649c9a2e86cc8f8d2524c6404778da"), looks := true }, kinds := [], alts := [], laidByText := true, laidKinds := [.data, .data, .data, .data, .sentinel, .sentinel, .pinned], laidTests := true, laidLooks := .later }
def FnShiftsCardSaid : Prop := Claim7.holds Tryz.pinned (.plain (OpenSpec.ofChange fnShiftsSpec)) fnShiftsCard

/-- THE TIED CARD OF 'laws.FnExactPlayShift'. -/
def fnExactPlayShiftCard : Claim7 := { stood := { row := fnExactPlayShiftRow, standIns := [], harness := (true, "78d2bd65a73978c76ad6af9447aa12ccb3649c9a2e86cc8f8d2524c6404778da"), looks := true }, kinds := [], alts := [], laidByText := true, laidKinds := [.data, .data, .data, .data, .sentinel, .sentinel, .pinned], laidTests := true, laidLooks := .later }
def FnExactPlayShiftCardSaid : Prop := Claim7.holds Tryz.pinned (.plain (OpenSpec.ofChange fnExactPlayShiftSpec)) fnExactPlayShiftCard

/-- THE TIED CARD OF 'laws.FnExactStepWork'. -/
def fnExactStepWorkCard : Claim7 := { stood := { row := fnExactStepWorkRow, standIns := [], harness := (true, "78d2bd65a73978c76ad6af9447aa12ccb3649c9a2e86cc8f8d2524c6404778da"), looks := true }, kinds := [], alts := [], laidByText := true, laidKinds := [.data, .data, .data, .data, .sentinel, .sentinel, .pinned], laidTests := true, laidLooks := .later }
def FnExactStepWorkCardSaid : Prop := Claim7.holds Tryz.pinned (.plain (OpenSpec.ofChange fnExactStepWorkSpec)) fnExactStepWorkCard

/-- THE SECOND FORM's CARD OF 'laws.FnApart'. -/
def fnApartUptoCard : Claim7 := { stood := { row := fnApartUptoRow, standIns := [], harness := (true, "78d2bd65a73978c76ad6af9447aa12ccb3649c9a2e86cc8f8d2524c6404778da"), looks := true }, kinds := [], alts := [], laidByText := true, laidKinds := [.data, .data, .data, .data, .sentinel, .sentinel, .pinned], laidTests := true, laidLooks := .later }
def FnApartUptoCardSaid : Prop := Claim7.holds Tryz.pinned (.plain (OpenSpec.upto fnApartSpec)) fnApartUptoCard

/-- THE SECOND FORM's CARD OF 'laws.FnActs'. -/
def fnActsUptoCard : Claim7 := { stood := { row := fnActsUptoRow, standIns := [], harness := (true, "78d2bd65a73978c76ad6af9447aa12ccb3649c9a2e86cc8f8d2524c6404778da"), looks := true }, kinds := [], alts := [], laidByText := true, laidKinds := [.data, .data, .data, .data, .sentinel, .sentinel, .pinned], laidTests := true, laidLooks := .later }
def FnActsUptoCardSaid : Prop := Claim7.holds Tryz.pinned (.plain (OpenSpec.upto fnActsSpec)) fnActsUptoCard

/-- THE SECOND FORM's CARD OF 'laws.FnNoOrphans'. -/
def fnNoOrphansUptoCard : Claim7 := { stood := { row := fnNoOrphansUptoRow, standIns := [], harness := (true, "78d2bd65a73978c76ad6af9447aa12ccb3649c9a2e86cc8f8d2524c6404778da"), looks := true }, kinds := [], alts := [], laidByText := true, laidKinds := [.data, .data, .data, .data, .sentinel, .sentinel, .pinned], laidTests := true, laidLooks := .later }
def FnNoOrphansUptoCardSaid : Prop := Claim7.holds Tryz.pinned (.plain (OpenSpec.upto fnNoOrphansSpec)) fnNoOrphansUptoCard

/-- THE SECOND FORM's CARD OF 'laws.FnNone'. -/
def fnNoneUptoCard : Claim7 := { stood := { row := fnNoneUptoRow, standIns := [], harness := (true, "78d2bd65a73978c76ad6af9447aa12ccb3649c9a2e86cc8f8d2524c6404778da"), looks := true }, kinds := [], alts := [], laidByText := true, laidKinds := [.data, .data, .data, .data, .sentinel, .sentinel, .pinned], laidTests := true, laidLooks := .later }
def FnNoneUptoCardSaid : Prop := Claim7.holds Tryz.pinned (.plain (OpenSpec.upto fnNoneSpec)) fnNoneUptoCard

/-- THE SECOND FORM's CARD OF 'laws.FnWhole'. -/
def fnWholeUptoCard : Claim7 := { stood := { row := fnWholeUptoRow, standIns := [], harness := (true, "78d2bd65a73978c76ad6af9447aa12ccb3649c9a2e86cc8f8d2524c6404778da"), looks := true }, kinds := [], alts := [], laidByText := true, laidKinds := [.data, .data, .data, .data, .sentinel, .sentinel, .pinned], laidTests := true, laidLooks := .later }
def FnWholeUptoCardSaid : Prop := Claim7.holds Tryz.pinned (.plain (OpenSpec.upto fnWholeSpec)) fnWholeUptoCard

/-- THE SECOND FORM's CARD OF 'laws.FnShift'. -/
def fnShiftUptoCard : Claim7 := { stood := { row := fnShiftUptoRow, standIns := [], harness := (true, "78d2bd65a73978c76ad6af9447aa12ccb3649c9a2e86cc8f8d2524c6404778da"), looks := true }, kinds := [], alts := [], laidByText := true, laidKinds := [.data, .data, .data, .data, .sentinel, .sentinel, .pinned], laidTests := true, laidLooks := .later }
def FnShiftUptoCardSaid : Prop := Claim7.holds Tryz.pinned (.plain (OpenSpec.upto fnShiftSpec)) fnShiftUptoCard

/-- THE SECOND FORM's CARD OF 'laws.FnShifts'. -/
def fnShiftsUptoCard : Claim7 := { stood := { row := fnShiftsUptoRow, standIns := [], harness := (true, "78d2bd65a73978c76ad6af9447aa12ccb3649c9a2e86cc8f8d2524c6404778da"), looks := true }, kinds := [], alts := [], laidByText := true, laidKinds := [.data, .data, .data, .data, .sentinel, .sentinel, .pinned], laidTests := true, laidLooks := .later }
def FnShiftsUptoCardSaid : Prop := Claim7.holds Tryz.pinned (.plain (OpenSpec.upto fnShiftsSpec)) fnShiftsUptoCard

/-- THE SECOND FORM's CARD OF 'laws.FnExactPlayShift'. -/
def fnExactPlayShiftUptoCard : Claim7 := { stood := { row := fnExactPlayShiftUptoRow, standIns := [], harness := (true, "78d2bd65a73978c76ad6af9447aa12ccb3649c9a2e86cc8f8d2524c6404778da"), looks := true }, kinds := [], alts := [], laidByText := true, laidKinds := [.data, .data, .data, .data, .sentinel, .sentinel, .pinned], laidTests := true, laidLooks := .later }
def FnExactPlayShiftUptoCardSaid : Prop := Claim7.holds Tryz.pinned (.plain (OpenSpec.upto fnExactPlayShiftSpec)) fnExactPlayShiftUptoCard

/-- THE SECOND FORM's CARD OF 'laws.FnExactStepWork'. -/
def fnExactStepWorkUptoCard : Claim7 := { stood := { row := fnExactStepWorkUptoRow, standIns := [], harness := (true, "78d2bd65a73978c76ad6af9447aa12ccb3649c9a2e86cc8f8d2524c6404778da"), looks := true }, kinds := [], alts := [], laidByText := true, laidKinds := [.data, .data, .data, .data, .sentinel, .sentinel, .pinned], laidTests := true, laidLooks := .later }
def FnExactStepWorkUptoCardSaid : Prop := Claim7.holds Tryz.pinned (.plain (OpenSpec.upto fnExactStepWorkSpec)) fnExactStepWorkUptoCard
end Rows
end Go.Proofs.YtgobcjbjogkpjaaGreatDoor
