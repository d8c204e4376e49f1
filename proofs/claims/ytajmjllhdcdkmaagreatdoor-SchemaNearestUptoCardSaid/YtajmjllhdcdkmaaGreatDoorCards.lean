/-
  DERIVED. GIVEN WITH THE SEED: THE CARDS: each row of YtajmjllhdcdkmaaGreatDoorRows.lean that lists a variable, with what it lists TIED to the program's text (the seventh form; the later family's looks); each row that meets fmt, with fmt's text TOLD by the authors' own Lean function (tested against real Go, not proved from fmt's source: count such statements apart). THE CARD IS WHAT COUNTS. Prove the row's statement (the work); the ties are given (YtajmjllhdcdkmaaGreatDoorTie.lean); close each card by the builder's one call (the guide's Derived/Test/ToyasCard.lean, 'card_holds'). Laid BY PROGRAM, IN A SANDBOX (cutbox-door.mjs). By AI agents, Wed Nov 11 2026. No macro, syntax, notation, axiom, sorry.
-/
import Derived.Test.YtajmjllhdcdkmaaGreatDoorRows
import GoSem.ClaimSeven
namespace Go.Proofs.YtajmjllhdcdkmaaGreatDoor
namespace Rows

/-- THE TIED CARD OF 'arrayarchivelaw03.SchemaNearest'. -/
def schemaNearestCard : Claim7 := { stood := { row := schemaNearestRow, standIns := [], harness := (true, "71feeeb55cf1c371ec65b66c95db595caf0f7d4f6b058f6d17c63e65fa2ebb38"), looks := true }, kinds := [], alts := [], laidByText := true, laidKinds := [.data, .data, .data, .data, .sentinel, .sentinel, .pinned], laidTests := true, laidLooks := .later }
def SchemaNearestCardSaid : Prop := Claim7.holds Tryz.pinned (.plain (OpenSpec.ofChange schemaNearestSpec)) schemaNearestCard

/-- THE SECOND FORM's CARD OF 'arrayarchivelaw03.SchemaNearest'. -/
def schemaNearestUptoCard : Claim7 := { stood := { row := schemaNearestUptoRow, standIns := [], harness := (true, "71feeeb55cf1c371ec65b66c95db595caf0f7d4f6b058f6d17c63e65fa2ebb38"), looks := true }, kinds := [], alts := [], laidByText := true, laidKinds := [.data, .data, .data, .data, .sentinel, .sentinel, .pinned], laidTests := true, laidLooks := .later }
def SchemaNearestUptoCardSaid : Prop := Claim7.holds Tryz.pinned (.plain (OpenSpec.upto schemaNearestSpec)) schemaNearestUptoCard
end Rows
end Go.Proofs.YtajmjllhdcdkmaaGreatDoor
