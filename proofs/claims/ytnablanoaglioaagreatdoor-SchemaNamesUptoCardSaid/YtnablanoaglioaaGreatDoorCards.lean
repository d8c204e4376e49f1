/-
  DERIVED. GIVEN WITH THE SEED: THE CARDS: each row of YtnablanoaglioaaGreatDoorRows.lean that lists a variable, with what it lists TIED to the program's text (the seventh form; the later family's looks); each row that meets fmt, with fmt's text TOLD by the authors' own Lean function (tested against real Go, not proved from fmt's source: count such statements apart). THE CARD IS WHAT COUNTS. Prove the row's statement (the work); the ties are given (YtnablanoaglioaaGreatDoorTie.lean); close each card by the builder's one call (the guide's Derived/Test/ToyasCard.lean, 'card_holds'). Laid BY PROGRAM, IN A SANDBOX (cutbox-door.mjs). By AI agents, Wed Nov 11 2026. No macro, syntax, notation, axiom, sorry.
-/
import Derived.Test.YtnablanoaglioaaGreatDoorRows
import GoSem.ClaimSeven
namespace Go.Proofs.YtnablanoaglioaaGreatDoor
namespace Rows

/-- THE TIED CARD OF 'arrayarchivelaw03.SchemaNames'. -/
def schemaNamesCard : Claim7 := { stood := { row := schemaNamesRow, standIns := [], harness := (true, "0bd13a2b541f04bb1ac7f073550fc0791559cfa38d871a522b19097f639933b1"), looks := true }, kinds := [], alts := [], laidByText := true, laidKinds := [.data, .data, .data, .data, .sentinel, .sentinel, .pinned], laidTests := true, laidLooks := .later }
def SchemaNamesCardSaid : Prop := Claim7.holds Tryz.pinned (.plain (OpenSpec.ofChange schemaNamesSpec)) schemaNamesCard

/-- THE TIED CARD OF 'arrayarchivelaw03.SchemaValid'. -/
def schemaValidCard : Claim7 := { stood := { row := schemaValidRow, standIns := [], harness := (true, "0bd13a2b541f04bb1ac7f073550fc0791559cfa38d871a522b19097f639933b1"), looks := true }, kinds := [], alts := [], laidByText := true, laidKinds := [.data, .data, .data, .data, .sentinel, .sentinel, .pinned], laidTests := true, laidLooks := .later }
def SchemaValidCardSaid : Prop := Claim7.holds Tryz.pinned (.plain (OpenSpec.ofChange schemaValidSpec)) schemaValidCard

/-- THE TIED CARD OF 'arrayarchivelaw03.SchemaFinds'. -/
def schemaFindsCard : Claim7 := { stood := { row := schemaFindsRow, standIns := [], harness := (true, "0bd13a2b541f04bb1ac7f073550fc0791559cfa38d871a522b19097f639933b1"), looks := true }, kinds := [], alts := [], laidByText := true, laidKinds := [.data, .data, .data, .data, .sentinel, .sentinel, .pinned], laidTests := true, laidLooks := .later }
def SchemaFindsCardSaid : Prop := Claim7.holds Tryz.pinned (.plain (OpenSpec.ofChange schemaFindsSpec)) schemaFindsCard

/-- THE TIED CARD OF 'arrayarchivelaw03.SchemaBack'. -/
def schemaBackCard : Claim7 := { stood := { row := schemaBackRow, standIns := [], harness := (true, "0bd13a2b541f04bb1ac7f073550fc0791559cfa38d871a522b19097f639933b1"), looks := true }, kinds := [], alts := [], laidByText := true, laidKinds := [.data, .data, .data, .data, .sentinel, .sentinel, .pinned], laidTests := true, laidLooks := .later }
def SchemaBackCardSaid : Prop := Claim7.holds Tryz.pinned (.plain (OpenSpec.ofChange schemaBackSpec)) schemaBackCard

/-- THE TIED CARD OF 'arrayarchivelaw03.SchemaKept'. -/
def schemaKeptCard : Claim7 := { stood := { row := schemaKeptRow, standIns := [], harness := (true, "0bd13a2b541f04bb1ac7f073550fc0791559cfa38d871a522b19097f639933b1"), looks := true }, kinds := [], alts := [], laidByText := true, laidKinds := [.data, .data, .data, .data, .sentinel, .sentinel, .pinned], laidTests := true, laidLooks := .later }
def SchemaKeptCardSaid : Prop := Claim7.holds Tryz.pinned (.plain (OpenSpec.ofChange schemaKeptSpec)) schemaKeptCard

/-- THE TIED CARD OF 'arrayarchivelaw03.SchemaShapes'. -/
def schemaShapesCard : Claim7 := { stood := { row := schemaShapesRow, standIns := [], harness := (true, "0bd13a2b541f04bb1ac7f073550fc0791559cfa38d871a522b19097f639933b1"), looks := true }, kinds := [], alts := [], laidByText := true, laidKinds := [.data, .data, .data, .data, .sentinel, .sentinel, .pinned], laidTests := true, laidLooks := .later }
def SchemaShapesCardSaid : Prop := Claim7.holds Tryz.pinned (.plain (OpenSpec.ofChange schemaShapesSpec)) schemaShapesCard

/-- THE SECOND FORM's CARD OF 'arrayarchivelaw03.SchemaNames'. -/
def schemaNamesUptoCard : Claim7 := { stood := { row := schemaNamesUptoRow, standIns := [], harness := (true, "0bd13a2b541f04bb1ac7f073550fc0791559cfa38d871a522b19097f639933b1"), looks := true }, kinds := [], alts := [], laidByText := true, laidKinds := [.data, .data, .data, .data, .sentinel, .sentinel, .pinned], laidTests := true, laidLooks := .later }
def SchemaNamesUptoCardSaid : Prop := Claim7.holds Tryz.pinned (.plain (OpenSpec.upto schemaNamesSpec)) schemaNamesUptoCard

/-- THE SECOND FORM's CARD OF 'arrayarchivelaw03.SchemaValid'. -/
def schemaValidUptoCard : Claim7 := { stood := { row := schemaValidUptoRow, standIns := [], harness := (true, "0bd13a2b541f04bb1ac7f073550fc0791559cfa38d871a522b19097f639933b1"), looks := true }, kinds := [], alts := [], laidByText := true, laidKinds := [.data, .data, .data, .data, .sentinel, .sentinel, .pinned], laidTests := true, laidLooks := .later }
def SchemaValidUptoCardSaid : Prop := Claim7.holds Tryz.pinned (.plain (OpenSpec.upto schemaValidSpec)) schemaValidUptoCard

/-- THE SECOND FORM's CARD OF 'arrayarchivelaw03.SchemaFinds'. -/
def schemaFindsUptoCard : Claim7 := { stood := { row := schemaFindsUptoRow, standIns := [], harness := (true, "0bd13a2b541f04bb1ac7f073550fc0791559cfa38d871a522b19097f639933b1"), looks := true }, kinds := [], alts := [], laidByText := true, laidKinds := [.data, .data, .data, .data, .sentinel, .sentinel, .pinned], laidTests := true, laidLooks := .later }
def SchemaFindsUptoCardSaid : Prop := Claim7.holds Tryz.pinned (.plain (OpenSpec.upto schemaFindsSpec)) schemaFindsUptoCard

/-- THE SECOND FORM's CARD OF 'arrayarchivelaw03.SchemaBack'. -/
def schemaBackUptoCard : Claim7 := { stood := { row := schemaBackUptoRow, standIns := [], harness := (true, "0bd13a2b541f04bb1ac7f073550fc0791559cfa38d871a522b19097f639933b1"), looks := true }, kinds := [], alts := [], laidByText := true, laidKinds := [.data, .data, .data, .data, .sentinel, .sentinel, .pinned], laidTests := true, laidLooks := .later }
def SchemaBackUptoCardSaid : Prop := Claim7.holds Tryz.pinned (.plain (OpenSpec.upto schemaBackSpec)) schemaBackUptoCard

/-- THE SECOND FORM's CARD OF 'arrayarchivelaw03.SchemaKept'. -/
def schemaKeptUptoCard : Claim7 := { stood := { row := schemaKeptUptoRow, standIns := [], harness := (true, "0bd13a2b541f04bb1ac7f073550fc0791559cfa38d871a522b19097f639933b1"), looks := true }, kinds := [], alts := [], laidByText := true, laidKinds := [.data, .data, .data, .data, .sentinel, .sentinel, .pinned], laidTests := true, laidLooks := .later }
def SchemaKeptUptoCardSaid : Prop := Claim7.holds Tryz.pinned (.plain (OpenSpec.upto schemaKeptSpec)) schemaKeptUptoCard

/-- THE SECOND FORM's CARD OF 'arrayarchivelaw03.SchemaShapes'. -/
def schemaShapesUptoCard : Claim7 := { stood := { row := schemaShapesUptoRow, standIns := [], harness := (true, "0bd13a2b541f04bb1ac7f073550fc0791559cfa38d871a522b19097f639933b1"), looks := true }, kinds := [], alts := [], laidByText := true, laidKinds := [.data, .data, .data, .data, .sentinel, .sentinel, .pinned], laidTests := true, laidLooks := .later }
def SchemaShapesUptoCardSaid : Prop := Claim7.holds Tryz.pinned (.plain (OpenSpec.upto schemaShapesSpec)) schemaShapesUptoCard
end Rows
end Go.Proofs.YtnablanoaglioaaGreatDoor
