/-
  DERIVED. GIVEN WITH THE SEED: THE CARDS: each row of YtnjjkcnokkhlkaaGreatDoorRows.lean that lists a variable, with what it lists TIED to the program's text (the seventh form; the later family's looks); each row that meets fmt, with fmt's text TOLD by the authors' own Lean function (tested against real Go, not proved from fmt's source: count such statements apart). THE CARD IS WHAT COUNTS. Prove the row's statement (the work); the ties are given (YtnjjkcnokkhlkaaGreatDoorTie.lean); close each card by the builder's one call (the guide's Derived/Test/ToyasCard.lean, 'card_holds'). Laid BY PROGRAM, IN A SANDBOX (cutbox-door.mjs). By AI agents, Wed Nov 11 2026. No macro, syntax, notation, axiom, sorry.
-/
import Derived.Test.YtnjjkcnokkhlkaaGreatDoorRows
import GoSem.ClaimSeven
namespace Go.Proofs.YtnjjkcnokkhlkaaGreatDoor
namespace Rows

/-- THE TIED CARD OF 'arrayarchivelaw02.CalendarTexts'. -/
def calendarTextsCard : Claim7 := { stood := { row := calendarTextsRow, standIns := [], harness := (true, "3728633d0a04cbeb392627b43ec3a82bccf03f9911444d0c27a296aebe52c29a"), looks := true }, kinds := [], alts := [], laidByText := true, laidKinds := [.data, .data, .data, .data, .sentinel, .sentinel, .pinned], laidTests := true, laidLooks := .later }
def CalendarTextsCardSaid : Prop := Claim7.holds Tryz.pinned (.plain (OpenSpec.ofChange calendarTextsSpec)) calendarTextsCard

/-- THE SECOND FORM's CARD OF 'arrayarchivelaw02.CalendarTexts'. -/
def calendarTextsUptoCard : Claim7 := { stood := { row := calendarTextsUptoRow, standIns := [], harness := (true, "3728633d0a04cbeb392627b43ec3a82bccf03f9911444d0c27a296aebe52c29a"), looks := true }, kinds := [], alts := [], laidByText := true, laidKinds := [.data, .data, .data, .data, .sentinel, .sentinel, .pinned], laidTests := true, laidLooks := .later }
def CalendarTextsUptoCardSaid : Prop := Claim7.holds Tryz.pinned (.plain (OpenSpec.upto calendarTextsSpec)) calendarTextsUptoCard
end Rows
end Go.Proofs.YtnjjkcnokkhlkaaGreatDoor
