/-
  DERIVED. GIVEN WITH THE SEED: THE CARDS: each row of YtinoipjblkidfaaGreatDoorRows.lean that lists a variable, with what it lists TIED to the program's text (the seventh form; the later family's looks); each row that meets fmt, with fmt's text TOLD by the authors' own Lean function (tested against real Go, not proved from fmt's source: count such statements apart). THE CARD IS WHAT COUNTS. Prove the row's statement (the work); the ties are given (YtinoipjblkidfaaGreatDoorTie.lean); close each card by the builder's one call (the guide's Derived/Test/ToyasCard.lean, 'card_holds'). Laid BY PROGRAM, IN A SANDBOX (cutbox-door.mjs). By AI agents, Wed Nov 11 2026. No macro, syntax, notation, axiom, sorry.
-/
import Derived.Test.YtinoipjblkidfaaGreatDoorRows
import GoSem.ClaimSeven
namespace Go.Proofs.YtinoipjblkidfaaGreatDoor
namespace Rows

/-- THE TIED CARD OF 'arrayarchivelaw01.QuantityReads'. -/
def quantityReadsCard : Claim7 := { stood := { row := quantityReadsRow, standIns := [], harness := (true, "9381ab0642133ac47971c78e18bada0cde82ec95fae80342f5e80890793c8750"), looks := true }, kinds := [], alts := [], laidByText := true, laidKinds := [.data, .data, .data, .data, .sentinel, .sentinel, .pinned], laidTests := true, laidLooks := .later }
def QuantityReadsCardSaid : Prop := Claim7.holds Tryz.pinned (.plain (OpenSpec.ofChange quantityReadsSpec)) quantityReadsCard

/-- THE TIED CARD OF 'arrayarchivelaw01.QuantityNumbers'. -/
def quantityNumbersCard : Claim7 := { stood := { row := quantityNumbersRow, standIns := [], harness := (true, "9381ab0642133ac47971c78e18bada0cde82ec95fae80342f5e80890793c8750"), looks := true }, kinds := [], alts := [], laidByText := true, laidKinds := [.data, .data, .data, .data, .sentinel, .sentinel, .pinned], laidTests := true, laidLooks := .later }
def QuantityNumbersCardSaid : Prop := Claim7.holds Tryz.pinned (.plain (OpenSpec.ofChange quantityNumbersSpec)) quantityNumbersCard

/-- THE TIED CARD OF 'arrayarchivelaw01.QuantityInts'. -/
def quantityIntsCard : Claim7 := { stood := { row := quantityIntsRow, standIns := [], harness := (true, "9381ab0642133ac47971c78e18bada0cde82ec95fae80342f5e80890793c8750"), looks := true }, kinds := [], alts := [], laidByText := true, laidKinds := [.data, .data, .data, .data, .sentinel, .sentinel, .pinned], laidTests := true, laidLooks := .later }
def QuantityIntsCardSaid : Prop := Claim7.holds Tryz.pinned (.plain (OpenSpec.ofChange quantityIntsSpec)) quantityIntsCard

/-- THE TIED CARD OF 'arrayarchivelaw01.QuantityField'. -/
def quantityFieldCard : Claim7 := { stood := { row := quantityFieldRow, standIns := [], harness := (true, "9381ab0642133ac47971c78e18bada0cde82ec95fae80342f5e80890793c8750"), looks := true }, kinds := [], alts := [], laidByText := true, laidKinds := [.data, .data, .data, .data, .sentinel, .sentinel, .pinned], laidTests := true, laidLooks := .later }
def QuantityFieldCardSaid : Prop := Claim7.holds Tryz.pinned (.plain (OpenSpec.ofChange quantityFieldSpec)) quantityFieldCard

/-- THE TIED CARD OF 'arrayarchivelaw01.QuantityOrder'. -/
def quantityOrderCard : Claim7 := { stood := { row := quantityOrderRow, standIns := [], harness := (true, "9381ab0642133ac47971c78e18bada0cde82ec95fae80342f5e80890793c8750"), looks := true }, kinds := [], alts := [], laidByText := true, laidKinds := [.data, .data, .data, .data, .sentinel, .sentinel, .pinned], laidTests := true, laidLooks := .later }
def QuantityOrderCardSaid : Prop := Claim7.holds Tryz.pinned (.plain (OpenSpec.ofChange quantityOrderSpec)) quantityOrderCard

/-- THE TIED CARD OF 'arrayarchivelaw01.QuantitySums'. -/
def quantitySumsCard : Claim7 := { stood := { row := quantitySumsRow, standIns := [], harness := (true, "9381ab0642133ac47971c78e18bada0cde82ec95fae80342f5e80890793c8750"), looks := true }, kinds := [], alts := [], laidByText := true, laidKinds := [.data, .data, .data, .data, .sentinel, .sentinel, .pinned], laidTests := true, laidLooks := .later }
def QuantitySumsCardSaid : Prop := Claim7.holds Tryz.pinned (.plain (OpenSpec.ofChange quantitySumsSpec)) quantitySumsCard

/-- THE TIED CARD OF 'arrayarchivelaw01.QuantityConverts'. -/
def quantityConvertsCard : Claim7 := { stood := { row := quantityConvertsRow, standIns := [], harness := (true, "9381ab0642133ac47971c78e18bada0cde82ec95fae80342f5e80890793c8750"), looks := true }, kinds := [], alts := [], laidByText := true, laidKinds := [.data, .data, .data, .data, .sentinel, .sentinel, .pinned], laidTests := true, laidLooks := .later }
def QuantityConvertsCardSaid : Prop := Claim7.holds Tryz.pinned (.plain (OpenSpec.ofChange quantityConvertsSpec)) quantityConvertsCard

/-- THE TIED CARD OF 'arrayarchivelaw01.QuantityThere'. -/
def quantityThereCard : Claim7 := { stood := { row := quantityThereRow, standIns := [], harness := (true, "9381ab0642133ac47971c78e18bada0cde82ec95fae80342f5e80890793c8750"), looks := true }, kinds := [], alts := [], laidByText := true, laidKinds := [.data, .data, .data, .data, .sentinel, .sentinel, .pinned], laidTests := true, laidLooks := .later }
def QuantityThereCardSaid : Prop := Claim7.holds Tryz.pinned (.plain (OpenSpec.ofChange quantityThereSpec)) quantityThereCard

/-- THE TIED CARD OF 'arrayarchivelaw01.QuantityOps'. -/
def quantityOpsCard : Claim7 := { stood := { row := quantityOpsRow, standIns := [], harness := (true, "9381ab0642133ac47971c78e18bada0cde82ec95fae80342f5e80890793c8750"), looks := true }, kinds := [], alts := [], laidByText := true, laidKinds := [.data, .data, .data, .data, .sentinel, .sentinel, .pinned], laidTests := true, laidLooks := .later }
def QuantityOpsCardSaid : Prop := Claim7.holds Tryz.pinned (.plain (OpenSpec.ofChange quantityOpsSpec)) quantityOpsCard

/-- THE TIED CARD OF 'arrayarchivelaw01.QuantityRounds'. -/
def quantityRoundsCard : Claim7 := { stood := { row := quantityRoundsRow, standIns := [], harness := (true, "9381ab0642133ac47971c78e18bada0cde82ec95fae80342f5e80890793c8750"), looks := true }, kinds := [], alts := [], laidByText := true, laidKinds := [.data, .data, .data, .data, .sentinel, .sentinel, .pinned], laidTests := true, laidLooks := .later }
def QuantityRoundsCardSaid : Prop := Claim7.holds Tryz.pinned (.plain (OpenSpec.ofChange quantityRoundsSpec)) quantityRoundsCard

/-- THE TIED CARD OF 'arrayarchivelaw01.QuantityFits'. -/
def quantityFitsCard : Claim7 := { stood := { row := quantityFitsRow, standIns := [], harness := (true, "9381ab0642133ac47971c78e18bada0cde82ec95fae80342f5e80890793c8750"), looks := true }, kinds := [], alts := [], laidByText := true, laidKinds := [.data, .data, .data, .data, .sentinel, .sentinel, .pinned], laidTests := true, laidLooks := .later }
def QuantityFitsCardSaid : Prop := Claim7.holds Tryz.pinned (.plain (OpenSpec.ofChange quantityFitsSpec)) quantityFitsCard

/-- THE TIED CARD OF 'arrayarchivelaw01.QuantityUnits'. -/
def quantityUnitsCard : Claim7 := { stood := { row := quantityUnitsRow, standIns := [], harness := (true, "9381ab0642133ac47971c78e18bada0cde82ec95fae80342f5e80890793c8750"), looks := true }, kinds := [], alts := [], laidByText := true, laidKinds := [.data, .data, .data, .data, .sentinel, .sentinel, .pinned], laidTests := true, laidLooks := .later }
def QuantityUnitsCardSaid : Prop := Claim7.holds Tryz.pinned (.plain (OpenSpec.ofChange quantityUnitsSpec)) quantityUnitsCard

/-- THE TIED CARD OF 'arrayarchivelaw01.QuantityProducts'. -/
def quantityProductsCard : Claim7 := { stood := { row := quantityProductsRow, standIns := [], harness := (true, "9381ab0642133ac47971c78e18bada0cde82ec95fae80342f5e80890793c8750"), looks := true }, kinds := [], alts := [], laidByText := true, laidKinds := [.data, .data, .data, .data, .sentinel, .sentinel, .pinned], laidTests := true, laidLooks := .later }
def QuantityProductsCardSaid : Prop := Claim7.holds Tryz.pinned (.plain (OpenSpec.ofChange quantityProductsSpec)) quantityProductsCard

/-- THE TIED CARD OF 'arrayarchivelaw01.QuantityFormats'. -/
def quantityFormatsCard : Claim7 := { stood := { row := quantityFormatsRow, standIns := [], harness := (true, "9381ab0642133ac47971c78e18bada0cde82ec95fae80342f5e80890793c8750"), looks := true }, kinds := [], alts := [], laidByText := true, laidKinds := [.data, .data, .data, .data, .sentinel, .sentinel, .pinned], laidTests := true, laidLooks := .later }
def QuantityFormatsCardSaid : Prop := Claim7.holds Tryz.pinned (.plain (OpenSpec.ofChange quantityFormatsSpec)) quantityFormatsCard

/-- THE SECOND FORM's CARD OF 'arrayarchivelaw01.QuantityReads'. -/
def quantityReadsUptoCard : Claim7 := { stood := { row := quantityReadsUptoRow, standIns := [], harness := (true, "9381ab0642133ac47971c78e18bada0cde82ec95fae80342f5e80890793c8750"), looks := true }, kinds := [], alts := [], laidByText := true, laidKinds := [.data, .data, .data, .data, .sentinel, .sentinel, .pinned], laidTests := true, laidLooks := .later }
def QuantityReadsUptoCardSaid : Prop := Claim7.holds Tryz.pinned (.plain (OpenSpec.upto quantityReadsSpec)) quantityReadsUptoCard

/-- THE SECOND FORM's CARD OF 'arrayarchivelaw01.QuantityNumbers'. -/
def quantityNumbersUptoCard : Claim7 := { stood := { row := quantityNumbersUptoRow, standIns := [], harness := (true, "9381ab0642133ac47971c78e18bada0cde82ec95fae80342f5e80890793c8750"), looks := true }, kinds := [], alts := [], laidByText := true, laidKinds := [.data, .data, .data, .data, .sentinel, .sentinel, .pinned], laidTests := true, laidLooks := .later }
def QuantityNumbersUptoCardSaid : Prop := Claim7.holds Tryz.pinned (.plain (OpenSpec.upto quantityNumbersSpec)) quantityNumbersUptoCard

/-- THE SECOND FORM's CARD OF 'arrayarchivelaw01.QuantityInts'. -/
def quantityIntsUptoCard : Claim7 := { stood := { row := quantityIntsUptoRow, standIns := [], harness := (true, "9381ab0642133ac47971c78e18bada0cde82ec95fae80342f5e80890793c8750"), looks := true }, kinds := [], alts := [], laidByText := true, laidKinds := [.data, .data, .data, .data, .sentinel, .sentinel, .pinned], laidTests := true, laidLooks := .later }
def QuantityIntsUptoCardSaid : Prop := Claim7.holds Tryz.pinned (.plain (OpenSpec.upto quantityIntsSpec)) quantityIntsUptoCard

/-- THE SECOND FORM's CARD OF 'arrayarchivelaw01.QuantityField'. -/
def quantityFieldUptoCard : Claim7 := { stood := { row := quantityFieldUptoRow, standIns := [], harness := (true, "9381ab0642133ac47971c78e18bada0cde82ec95fae80342f5e80890793c8750"), looks := true }, kinds := [], alts := [], laidByText := true, laidKinds := [.data, .data, .data, .data, .sentinel, .sentinel, .pinned], laidTests := true, laidLooks := .later }
def QuantityFieldUptoCardSaid : Prop := Claim7.holds Tryz.pinned (.plain (OpenSpec.upto quantityFieldSpec)) quantityFieldUptoCard

/-- THE SECOND FORM's CARD OF 'arrayarchivelaw01.QuantityOrder'. -/
def quantityOrderUptoCard : Claim7 := { stood := { row := quantityOrderUptoRow, standIns := [], harness := (true, "9381ab0642133ac47971c78e18bada0cde82ec95fae80342f5e80890793c8750"), looks := true }, kinds := [], alts := [], laidByText := true, laidKinds := [.data, .data, .data, .data, .sentinel, .sentinel, .pinned], laidTests := true, laidLooks := .later }
def QuantityOrderUptoCardSaid : Prop := Claim7.holds Tryz.pinned (.plain (OpenSpec.upto quantityOrderSpec)) quantityOrderUptoCard

/-- THE SECOND FORM's CARD OF 'arrayarchivelaw01.QuantitySums'. -/
def quantitySumsUptoCard : Claim7 := { stood := { row := quantitySumsUptoRow, standIns := [], harness := (true, "9381ab0642133ac47971c78e18bada0cde82ec95fae80342f5e80890793c8750"), looks := true }, kinds := [], alts := [], laidByText := true, laidKinds := [.data, .data, .data, .data, .sentinel, .sentinel, .pinned], laidTests := true, laidLooks := .later }
def QuantitySumsUptoCardSaid : Prop := Claim7.holds Tryz.pinned (.plain (OpenSpec.upto quantitySumsSpec)) quantitySumsUptoCard

/-- THE SECOND FORM's CARD OF 'arrayarchivelaw01.QuantityConverts'. -/
def quantityConvertsUptoCard : Claim7 := { stood := { row := quantityConvertsUptoRow, standIns := [], harness := (true, "9381ab0642133ac47971c78e18bada0cde82ec95fae80342f5e80890793c8750"), looks := true }, kinds := [], alts := [], laidByText := true, laidKinds := [.data, .data, .data, .data, .sentinel, .sentinel, .pinned], laidTests := true, laidLooks := .later }
def QuantityConvertsUptoCardSaid : Prop := Claim7.holds Tryz.pinned (.plain (OpenSpec.upto quantityConvertsSpec)) quantityConvertsUptoCard

/-- THE SECOND FORM's CARD OF 'arrayarchivelaw01.QuantityThere'. -/
def quantityThereUptoCard : Claim7 := { stood := { row := quantityThereUptoRow, standIns := [], harness := (true, "9381ab0642133ac47971c78e18bada0cde82ec95fae80342f5e80890793c8750"), looks := true }, kinds := [], alts := [], laidByText := true, laidKinds := [.data, .data, .data, .data, .sentinel, .sentinel, .pinned], laidTests := true, laidLooks := .later }
def QuantityThereUptoCardSaid : Prop := Claim7.holds Tryz.pinned (.plain (OpenSpec.upto quantityThereSpec)) quantityThereUptoCard

/-- THE SECOND FORM's CARD OF 'arrayarchivelaw01.QuantityOps'. -/
def quantityOpsUptoCard : Claim7 := { stood := { row := quantityOpsUptoRow, standIns := [], harness := (true, "9381ab0642133ac47971c78e18bada0cde82ec95fae80342f5e80890793c8750"), looks := true }, kinds := [], alts := [], laidByText := true, laidKinds := [.data, .data, .data, .data, .sentinel, .sentinel, .pinned], laidTests := true, laidLooks := .later }
def QuantityOpsUptoCardSaid : Prop := Claim7.holds Tryz.pinned (.plain (OpenSpec.upto quantityOpsSpec)) quantityOpsUptoCard

/-- THE SECOND FORM's CARD OF 'arrayarchivelaw01.QuantityRounds'. -/
def quantityRoundsUptoCard : Claim7 := { stood := { row := quantityRoundsUptoRow, standIns := [], harness := (true, "9381ab0642133ac47971c78e18bada0cde82ec95fae80342f5e80890793c8750"), looks := true }, kinds := [], alts := [], laidByText := true, laidKinds := [.data, .data, .data, .data, .sentinel, .sentinel, .pinned], laidTests := true, laidLooks := .later }
def QuantityRoundsUptoCardSaid : Prop := Claim7.holds Tryz.pinned (.plain (OpenSpec.upto quantityRoundsSpec)) quantityRoundsUptoCard

/-- THE SECOND FORM's CARD OF 'arrayarchivelaw01.QuantityFits'. -/
def quantityFitsUptoCard : Claim7 := { stood := { row := quantityFitsUptoRow, standIns := [], harness := (true, "9381ab0642133ac47971c78e18bada0cde82ec95fae80342f5e80890793c8750"), looks := true }, kinds := [], alts := [], laidByText := true, laidKinds := [.data, .data, .data, .data, .sentinel, .sentinel, .pinned], laidTests := true, laidLooks := .later }
def QuantityFitsUptoCardSaid : Prop := Claim7.holds Tryz.pinned (.plain (OpenSpec.upto quantityFitsSpec)) quantityFitsUptoCard

/-- THE SECOND FORM's CARD OF 'arrayarchivelaw01.QuantityUnits'. -/
def quantityUnitsUptoCard : Claim7 := { stood := { row := quantityUnitsUptoRow, standIns := [], harness := (true, "9381ab0642133ac47971c78e18bada0cde82ec95fae80342f5e80890793c8750"), looks := true }, kinds := [], alts := [], laidByText := true, laidKinds := [.data, .data, .data, .data, .sentinel, .sentinel, .pinned], laidTests := true, laidLooks := .later }
def QuantityUnitsUptoCardSaid : Prop := Claim7.holds Tryz.pinned (.plain (OpenSpec.upto quantityUnitsSpec)) quantityUnitsUptoCard

/-- THE SECOND FORM's CARD OF 'arrayarchivelaw01.QuantityProducts'. -/
def quantityProductsUptoCard : Claim7 := { stood := { row := quantityProductsUptoRow, standIns := [], harness := (true, "9381ab0642133ac47971c78e18bada0cde82ec95fae80342f5e80890793c8750"), looks := true }, kinds := [], alts := [], laidByText := true, laidKinds := [.data, .data, .data, .data, .sentinel, .sentinel, .pinned], laidTests := true, laidLooks := .later }
def QuantityProductsUptoCardSaid : Prop := Claim7.holds Tryz.pinned (.plain (OpenSpec.upto quantityProductsSpec)) quantityProductsUptoCard

/-- THE SECOND FORM's CARD OF 'arrayarchivelaw01.QuantityFormats'. -/
def quantityFormatsUptoCard : Claim7 := { stood := { row := quantityFormatsUptoRow, standIns := [], harness := (true, "9381ab0642133ac47971c78e18bada0cde82ec95fae80342f5e80890793c8750"), looks := true }, kinds := [], alts := [], laidByText := true, laidKinds := [.data, .data, .data, .data, .sentinel, .sentinel, .pinned], laidTests := true, laidLooks := .later }
def QuantityFormatsUptoCardSaid : Prop := Claim7.holds Tryz.pinned (.plain (OpenSpec.upto quantityFormatsSpec)) quantityFormatsUptoCard
end Rows
end Go.Proofs.YtinoipjblkidfaaGreatDoor
