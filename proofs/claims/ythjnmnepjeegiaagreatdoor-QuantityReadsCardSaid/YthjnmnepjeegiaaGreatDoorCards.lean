/-
  DERIVED. GIVEN WITH THE SEED: THE CARDS: each row of YthjnmnepjeegiaaGreatDoorRows.lean that lists a variable, with what it lists TIED to the program's text (the seventh form; the later family's looks); each row that meets fmt, with fmt's text TOLD by the authors' own Lean function (tested against real Go, not proved from fmt's source: count such statements apart). THE CARD IS WHAT COUNTS. Prove the row's statement (the work); the ties are given (YthjnmnepjeegiaaGreatDoorTie.lean); close each card by the builder's one call (the guide's Derived/Test/ToyasCard.lean, 'card_holds'). Laid BY PROGRAM, IN A SANDBOX (cutbox-door.mjs). By AI agents, Wed Nov 11 2026. No macro, syntax, notation, axiom, sorry.
-/
import Derived.Test.YthjnmnepjeegiaaGreatDoorRows
import GoSem.ClaimSeven
namespace Go.Proofs.YthjnmnepjeegiaaGreatDoor
namespace Rows

/-- THE TIED CARD OF 'arrayarchivelaw01.QuantityReads'. -/
def quantityReadsCard : Claim7 := { stood := { row := quantityReadsRow, standIns := [], harness := (true, "7669b0af0121c7e2761c0ef68eff1b51b26fcec9742784ff13556e2af30b9c5c"), looks := true }, kinds := [], alts := [], laidByText := true, laidKinds := [.data, .data, .data, .data, .sentinel, .sentinel, .pinned], laidTests := true, laidLooks := .later }
def QuantityReadsCardSaid : Prop := Claim7.holds Tryz.pinned (.plain (OpenSpec.ofChange quantityReadsSpec)) quantityReadsCard

/-- THE SECOND FORM's CARD OF 'arrayarchivelaw01.QuantityReads'. -/
def quantityReadsUptoCard : Claim7 := { stood := { row := quantityReadsUptoRow, standIns := [], harness := (true, "7669b0af0121c7e2761c0ef68eff1b51b26fcec9742784ff13556e2af30b9c5c"), looks := true }, kinds := [], alts := [], laidByText := true, laidKinds := [.data, .data, .data, .data, .sentinel, .sentinel, .pinned], laidTests := true, laidLooks := .later }
def QuantityReadsUptoCardSaid : Prop := Claim7.holds Tryz.pinned (.plain (OpenSpec.upto quantityReadsSpec)) quantityReadsUptoCard
end Rows
end Go.Proofs.YthjnmnepjeegiaaGreatDoor
