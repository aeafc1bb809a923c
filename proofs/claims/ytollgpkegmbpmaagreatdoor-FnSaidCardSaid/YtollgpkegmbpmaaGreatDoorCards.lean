/-
  DERIVED. GIVEN WITH THE SEED: THE CARDS: each row of YtollgpkegmbpmaaGreatDoorRows.lean that lists a variable, with what it lists TIED to the program's text (the seventh form; the later family's looks); each row that meets fmt, with fmt's text TOLD by the authors' own Lean function (tested against real Go, not proved from fmt's source: count such statements apart). THE CARD IS WHAT COUNTS. Prove the row's statement (the work); the ties are given (YtollgpkegmbpmaaGreatDoorTie.lean); close each card by the builder's one call (the guide's Derived/Test/ToyasCard.lean, 'card_holds'). Laid BY PROGRAM, IN A SANDBOX (cutbox-door.mjs). By AI agents, Wed Nov 11 2026. No macro, syntax, notation, axiom, sorry.
-/
import Derived.Test.YtollgpkegmbpmaaGreatDoorRows
import GoSem.ClaimSeven
namespace Go.Proofs.YtollgpkegmbpmaaGreatDoor
namespace Rows

/-- THE TIED CARD OF 'laws.FnStmts'. -/
def fnStmtsCard : Claim7 := { stood := { row := fnStmtsRow, standIns := [], harness := (true, "4a364ca8298e928d3be8446627d981bfed22b0d7d71383db69de1d0daa3c58e4"), looks := true }, kinds := [], alts := [], laidByText := true, laidKinds := [.data, .pinned], laidTests := true, laidLooks := .later }
def FnStmtsCardSaid : Prop := Claim7.holds Tryz.pinned (.plain (OpenSpec.ofChange fnStmtsSpec)) fnStmtsCard

/-- THE TIED CARD OF 'laws.FnTurns'. -/
def fnTurnsCard : Claim7 := { stood := { row := fnTurnsRow, standIns := [], harness := (true, "4a364ca8298e928d3be8446627d981bfed22b0d7d71383db69de1d0daa3c58e4"), looks := true }, kinds := [], alts := [], laidByText := true, laidKinds := [.data, .data, .data, .sentinel, .sentinel], laidTests := true, laidLooks := .later }
def FnTurnsCardSaid : Prop := Claim7.holds Tryz.pinned (.plain (OpenSpec.ofChange fnTurnsSpec)) fnTurnsCard

/-- THE TIED CARD OF 'laws.FnAlone'. -/
def fnAloneCard : Claim7 := { stood := { row := fnAloneRow, standIns := [], harness := (true, "4a364ca8298e928d3be8446627d981bfed22b0d7d71383db69de1d0daa3c58e4"), looks := true }, kinds := [], alts := [], laidByText := true, laidKinds := [.data, .data, .data, .sentinel, .sentinel], laidTests := true, laidLooks := .later }
def FnAloneCardSaid : Prop := Claim7.holds Tryz.pinned (.plain (OpenSpec.ofChange fnAloneSpec)) fnAloneCard

/-- THE TIED CARD OF 'laws.FnRanges'. -/
def fnRangesCard : Claim7 := { stood := { row := fnRangesRow, standIns := [], harness := (true, "4a364ca8298e928d3be8446627d981bfed22b0d7d71383db69de1d0daa3c58e4"), looks := true }, kinds := [], alts := [], laidByText := true, laidKinds := [.data, .pinned], laidTests := true, laidLooks := .later }
def FnRangesCardSaid : Prop := Claim7.holds Tryz.pinned (.plain (OpenSpec.ofChange fnRangesSpec)) fnRangesCard

/-- THE TIED CARD OF 'laws.FnSaid'. -/
def fnSaidCard : Claim7 := { stood := { row := fnSaidRow, standIns := [], harness := (true, "4a364ca8298e928d3be8446627d981bfed22b0d7d71383db69de1d0daa3c58e4"), looks := true }, kinds := [], alts := [], laidByText := true, laidKinds := [.data, .data, .data, .data, .sentinel, .sentinel, .pinned], laidTests := true, laidLooks := .later }
def FnSaidCardSaid : Prop := Claim7.holds Tryz.pinned (.plain (OpenSpec.ofChange fnSaidSpec)) fnSaidCard

/-- THE SECOND FORM's CARD OF 'laws.FnStmts'. -/
def fnStmtsUptoCard : Claim7 := { stood := { row := fnStmtsUptoRow, standIns := [], harness := (true, "4a364ca8298e928d3be8446627d981bfed22b0d7d71383db69de1d0daa3c58e4"), looks := true }, kinds := [], alts := [], laidByText := true, laidKinds := [.data, .pinned], laidTests := true, laidLooks := .later }
def FnStmtsUptoCardSaid : Prop := Claim7.holds Tryz.pinned (.plain (OpenSpec.upto fnStmtsSpec)) fnStmtsUptoCard

/-- THE SECOND FORM's CARD OF 'laws.FnTurns'. -/
def fnTurnsUptoCard : Claim7 := { stood := { row := fnTurnsUptoRow, standIns := [], harness := (true, "4a364ca8298e928d3be8446627d981bfed22b0d7d71383db69de1d0daa3c58e4"), looks := true }, kinds := [], alts := [], laidByText := true, laidKinds := [.data, .data, .data, .sentinel, .sentinel], laidTests := true, laidLooks := .later }
def FnTurnsUptoCardSaid : Prop := Claim7.holds Tryz.pinned (.plain (OpenSpec.upto fnTurnsSpec)) fnTurnsUptoCard

/-- THE SECOND FORM's CARD OF 'laws.FnAlone'. -/
def fnAloneUptoCard : Claim7 := { stood := { row := fnAloneUptoRow, standIns := [], harness := (true, "4a364ca8298e928d3be8446627d981bfed22b0d7d71383db69de1d0daa3c58e4"), looks := true }, kinds := [], alts := [], laidByText := true, laidKinds := [.data, .data, .data, .sentinel, .sentinel], laidTests := true, laidLooks := .later }
def FnAloneUptoCardSaid : Prop := Claim7.holds Tryz.pinned (.plain (OpenSpec.upto fnAloneSpec)) fnAloneUptoCard

/-- THE SECOND FORM's CARD OF 'laws.FnRanges'. -/
def fnRangesUptoCard : Claim7 := { stood := { row := fnRangesUptoRow, standIns := [], harness := (true, "4a364ca8298e928d3be8446627d981bfed22b0d7d71383db69de1d0daa3c58e4"), looks := true }, kinds := [], alts := [], laidByText := true, laidKinds := [.data, .pinned], laidTests := true, laidLooks := .later }
def FnRangesUptoCardSaid : Prop := Claim7.holds Tryz.pinned (.plain (OpenSpec.upto fnRangesSpec)) fnRangesUptoCard

/-- THE SECOND FORM's CARD OF 'laws.FnSaid'. -/
def fnSaidUptoCard : Claim7 := { stood := { row := fnSaidUptoRow, standIns := [], harness := (true, "4a364ca8298e928d3be8446627d981bfed22b0d7d71383db69de1d0daa3c58e4"), looks := true }, kinds := [], alts := [], laidByText := true, laidKinds := [.data, .data, .data, .data, .sentinel, .sentinel, .pinned], laidTests := true, laidLooks := .later }
def FnSaidUptoCardSaid : Prop := Claim7.holds Tryz.pinned (.plain (OpenSpec.upto fnSaidSpec)) fnSaidUptoCard
end Rows
end Go.Proofs.YtollgpkegmbpmaaGreatDoor
