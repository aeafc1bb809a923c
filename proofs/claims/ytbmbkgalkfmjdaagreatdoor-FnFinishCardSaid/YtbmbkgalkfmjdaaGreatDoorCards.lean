/-
  DERIVED. GIVEN WITH THE SEED: THE CARDS: each row of YtbmbkgalkfmjdaaGreatDoorRows.lean that lists a variable, with what it lists TIED to the program's text (the seventh form; the later family's looks); each row that meets fmt, with fmt's text TOLD by the authors' own Lean function (tested against real Go, not proved from fmt's source: count such statements apart). THE CARD IS WHAT COUNTS. Prove the row's statement (the work); the ties are given (YtbmbkgalkfmjdaaGreatDoorTie.lean); close each card by the builder's one call (the guide's Derived/Test/ToyasCard.lean, 'card_holds'). Laid BY PROGRAM, IN A SANDBOX (cutbox-door.mjs). By AI agents, Wed Nov 11 2026. No macro, syntax, notation, axiom, sorry.
-/
import Derived.Test.YtbmbkgalkfmjdaaGreatDoorRows
import GoSem.ClaimSeven
namespace Go.Proofs.YtbmbkgalkfmjdaaGreatDoor
namespace Rows

/-- THE TIED CARD OF 'laws.FnLeased'. -/
def fnLeasedCard : Claim7 := { stood := { row := fnLeasedRow, standIns := [], harness := (true, "c74b41e68ee92d2a07648a4fe9facdef041324b44548137c0d0408661cd2a86d"), looks := true }, kinds := [], alts := [], laidByText := true, laidKinds := [.data, .data, .data, .data, .sentinel, .sentinel, .pinned], laidTests := true, laidLooks := .later }
def FnLeasedCardSaid : Prop := Claim7.holds Tryz.pinned (.plain (OpenSpec.ofChange fnLeasedSpec)) fnLeasedCard

/-- THE TIED CARD OF 'laws.FnFinish'. -/
def fnFinishCard : Claim7 := { stood := { row := fnFinishRow, standIns := [], harness := (true, "c74b41e68ee92d2a07648a4fe9facdef041324b44548137c0d0408661cd2a86d"), looks := true }, kinds := [], alts := [], laidByText := true, laidKinds := [.data, .data, .data, .data, .sentinel, .sentinel, .pinned], laidTests := true, laidLooks := .later }
def FnFinishCardSaid : Prop := Claim7.holds Tryz.pinned (.plain (OpenSpec.ofChange fnFinishSpec)) fnFinishCard

/-- THE TIED CARD OF 'laws.FnWorks'. -/
def fnWorksCard : Claim7 := { stood := { row := fnWorksRow, standIns := [], harness := (true, "c74b41e68ee92d2a07648a4fe9facdef041324b44548137c0d0408661cd2a86d"), looks := true }, kinds := [], alts := [], laidByText := true, laidKinds := [.data, .data, .data, .data, .sentinel, .sentinel, .pinned], laidTests := true, laidLooks := .later }
def FnWorksCardSaid : Prop := Claim7.holds Tryz.pinned (.plain (OpenSpec.ofChange fnWorksSpec)) fnWorksCard

/-- THE TIED CARD OF 'laws.FnWork'. -/
def fnWorkCard : Claim7 := { stood := { row := fnWorkRow, standIns := [], harness := (true, "c74b41e68ee92d2a07648a4fe9facdef041324b44548137c0d0408661cd2a86d"), looks := true }, kinds := [], alts := [], laidByText := true, laidKinds := [.data, .data, .data, .data, .sentinel, .sentinel, .pinned], laidTests := true, laidLooks := .later }
def FnWorkCardSaid : Prop := Claim7.holds Tryz.pinned (.plain (OpenSpec.ofChange fnWorkSpec)) fnWorkCard

/-- THE SECOND FORM's CARD OF 'laws.FnLeased'. -/
def fnLeasedUptoCard : Claim7 := { stood := { row := fnLeasedUptoRow, standIns := [], harness := (true, "c74b41e68ee92d2a07648a4fe9facdef041324b44548137c0d0408661cd2a86d"), looks := true }, kinds := [], alts := [], laidByText := true, laidKinds := [.data, .data, .data, .data, .sentinel, .sentinel, .pinned], laidTests := true, laidLooks := .later }
def FnLeasedUptoCardSaid : Prop := Claim7.holds Tryz.pinned (.plain (OpenSpec.upto fnLeasedSpec)) fnLeasedUptoCard

/-- THE SECOND FORM's CARD OF 'laws.FnFinish'. -/
def fnFinishUptoCard : Claim7 := { stood := { row := fnFinishUptoRow, standIns := [], harness := (true, "c74b41e68ee92d2a07648a4fe9facdef041324b44548137c0d0408661cd2a86d"), looks := true }, kinds := [], alts := [], laidByText := true, laidKinds := [.data, .data, .data, .data, .sentinel, .sentinel, .pinned], laidTests := true, laidLooks := .later }
def FnFinishUptoCardSaid : Prop := Claim7.holds Tryz.pinned (.plain (OpenSpec.upto fnFinishSpec)) fnFinishUptoCard

/-- THE SECOND FORM's CARD OF 'laws.FnWorks'. -/
def fnWorksUptoCard : Claim7 := { stood := { row := fnWorksUptoRow, standIns := [], harness := (true, "c74b41e68ee92d2a07648a4fe9facdef041324b44548137c0d0408661cd2a86d"), looks := true }, kinds := [], alts := [], laidByText := true, laidKinds := [.data, .data, .data, .data, .sentinel, .sentinel, .pinned], laidTests := true, laidLooks := .later }
def FnWorksUptoCardSaid : Prop := Claim7.holds Tryz.pinned (.plain (OpenSpec.upto fnWorksSpec)) fnWorksUptoCard

/-- THE SECOND FORM's CARD OF 'laws.FnWork'. -/
def fnWorkUptoCard : Claim7 := { stood := { row := fnWorkUptoRow, standIns := [], harness := (true, "c74b41e68ee92d2a07648a4fe9facdef041324b44548137c0d0408661cd2a86d"), looks := true }, kinds := [], alts := [], laidByText := true, laidKinds := [.data, .data, .data, .data, .sentinel, .sentinel, .pinned], laidTests := true, laidLooks := .later }
def FnWorkUptoCardSaid : Prop := Claim7.holds Tryz.pinned (.plain (OpenSpec.upto fnWorkSpec)) fnWorkUptoCard
end Rows
end Go.Proofs.YtbmbkgalkfmjdaaGreatDoor
