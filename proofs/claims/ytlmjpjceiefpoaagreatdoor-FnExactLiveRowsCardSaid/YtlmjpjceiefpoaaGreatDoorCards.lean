/-
  DERIVED. GIVEN WITH THE SEED: THE CARDS: each row of YtlmjpjceiefpoaaGreatDoorRows.lean that lists a variable, with what it lists TIED to the program's text (the seventh form; the later family's looks); each row that meets fmt, with fmt's text TOLD by the authors' own Lean function (tested against real Go, not proved from fmt's source: count such statements apart). THE CARD IS WHAT COUNTS. Prove the row's statement (the work); the ties are given (YtlmjpjceiefpoaaGreatDoorTie.lean); close each card by the builder's one call (the guide's Derived/Test/ToyasCard.lean, 'card_holds'). Laid BY PROGRAM, IN A SANDBOX (cutbox-door.mjs). By AI agents, Wed Nov 11 2026. No macro, syntax, notation, axiom, sorry.
-/
import Derived.Test.YtlmjpjceiefpoaaGreatDoorRows
import GoSem.ClaimSeven
namespace Go.Proofs.YtlmjpjceiefpoaaGreatDoor
namespace Rows

/-- THE TIED CARD OF 'laws.FnExactLiveRows'. -/
def fnExactLiveRowsCard : Claim7 := { stood := { row := fnExactLiveRowsRow, standIns := [], harness := (true, "d8e315125671b6472eccfbf6effe9539389487558cc6484b8422ff8bfb790a2f"), looks := false }, kinds := [], alts := [], laidByText := true, laidKinds := [.data, .pinned], laidTests := true, laidLooks := .later }
def FnExactLiveRowsCardSaid : Prop := Claim7.holds Tryz.pinned (.plain (OpenSpec.ofChange fnExactLiveRowsSpec)) fnExactLiveRowsCard

/-- THE SECOND FORM's CARD OF 'laws.FnExactLiveRows'. -/
def fnExactLiveRowsUptoCard : Claim7 := { stood := { row := fnExactLiveRowsUptoRow, standIns := [], harness := (true, "d8e315125671b6472eccfbf6effe9539389487558cc6484b8422ff8bfb790a2f"), looks := false }, kinds := [], alts := [], laidByText := true, laidKinds := [.data, .pinned], laidTests := true, laidLooks := .later }
def FnExactLiveRowsUptoCardSaid : Prop := Claim7.holds Tryz.pinned (.plain (OpenSpec.upto fnExactLiveRowsSpec)) fnExactLiveRowsUptoCard
end Rows
end Go.Proofs.YtlmjpjceiefpoaaGreatDoor
