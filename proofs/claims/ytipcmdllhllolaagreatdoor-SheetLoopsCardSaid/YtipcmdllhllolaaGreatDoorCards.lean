/-
  DERIVED. GIVEN WITH THE SEED: THE CARDS: each row of YtipcmdllhllolaaGreatDoorRows.lean that lists a variable, with what it lists TIED to the program's text (the seventh form; the later family's looks); each row that meets fmt, with fmt's text TOLD by the authors' own Lean function (tested against real Go, not proved from fmt's source: count such statements apart). THE CARD IS WHAT COUNTS. Prove the row's statement (the work); the ties are given (YtipcmdllhllolaaGreatDoorTie.lean); close each card by the builder's one call (the guide's Derived/Test/ToyasCard.lean, 'card_holds'). Laid BY PROGRAM, IN A SANDBOX (cutbox-door.mjs). By AI agents, Wed Nov 11 2026. No macro, syntax, notation, axiom, sorry.
-/
import Derived.Test.YtipcmdllhllolaaGreatDoorRows
import GoSem.ClaimSeven
namespace Go.Proofs.YtipcmdllhllolaaGreatDoor
namespace Rows

/-- THE TIED CARD OF 'etchantlaw14.SheetMade'. -/
def sheetMadeCard : Claim7 := { stood := { row := sheetMadeRow, standIns := [], harness := (true, "e8a7c6ffebef7a9edc71c4a4aafad1d06bfbb88debefc032d0643c67bb391c16"), looks := true }, kinds := [], alts := [], laidByText := true, laidKinds := [.data, .data, .data, .data, .sentinel, .sentinel, .pinned], laidTests := true, laidLooks := .later }
def SheetMadeCardSaid : Prop := Claim7.holds Tryz.pinned (.plain (OpenSpec.ofChange sheetMadeSpec)) sheetMadeCard

/-- THE TIED CARD OF 'etchantlaw14.SheetPaths'. -/
def sheetPathsCard : Claim7 := { stood := { row := sheetPathsRow, standIns := [], harness := (true, "e8a7c6ffebef7a9edc71c4a4aafad1d06bfbb88debefc032d0643c67bb391c16"), looks := true }, kinds := [], alts := [], laidByText := true, laidKinds := [.data, .data, .data, .data, .sentinel, .sentinel, .pinned], laidTests := true, laidLooks := .later }
def SheetPathsCardSaid : Prop := Claim7.holds Tryz.pinned (.plain (OpenSpec.ofChange sheetPathsSpec)) sheetPathsCard

/-- THE TIED CARD OF 'etchantlaw14.SheetLoops'. -/
def sheetLoopsCard : Claim7 := { stood := { row := sheetLoopsRow, standIns := [], harness := (true, "e8a7c6ffebef7a9edc71c4a4aafad1d06bfbb88debefc032d0643c67bb391c16"), looks := true }, kinds := [], alts := [], laidByText := true, laidKinds := [.data, .data, .data, .data, .sentinel, .sentinel, .pinned], laidTests := true, laidLooks := .later }
def SheetLoopsCardSaid : Prop := Claim7.holds Tryz.pinned (.plain (OpenSpec.ofChange sheetLoopsSpec)) sheetLoopsCard

/-- THE SECOND FORM's CARD OF 'etchantlaw14.SheetMade'. -/
def sheetMadeUptoCard : Claim7 := { stood := { row := sheetMadeUptoRow, standIns := [], harness := (true, "e8a7c6ffebef7a9edc71c4a4aafad1d06bfbb88debefc032d0643c67bb391c16"), looks := true }, kinds := [], alts := [], laidByText := true, laidKinds := [.data, .data, .data, .data, .sentinel, .sentinel, .pinned], laidTests := true, laidLooks := .later }
def SheetMadeUptoCardSaid : Prop := Claim7.holds Tryz.pinned (.plain (OpenSpec.upto sheetMadeSpec)) sheetMadeUptoCard

/-- THE SECOND FORM's CARD OF 'etchantlaw14.SheetPaths'. -/
def sheetPathsUptoCard : Claim7 := { stood := { row := sheetPathsUptoRow, standIns := [], harness := (true, "e8a7c6ffebef7a9edc71c4a4aafad1d06bfbb88debefc032d0643c67bb391c16"), looks := true }, kinds := [], alts := [], laidByText := true, laidKinds := [.data, .data, .data, .data, .sentinel, .sentinel, .pinned], laidTests := true, laidLooks := .later }
def SheetPathsUptoCardSaid : Prop := Claim7.holds Tryz.pinned (.plain (OpenSpec.upto sheetPathsSpec)) sheetPathsUptoCard

/-- THE SECOND FORM's CARD OF 'etchantlaw14.SheetLoops'. -/
def sheetLoopsUptoCard : Claim7 := { stood := { row := sheetLoopsUptoRow, standIns := [], harness := (true, "e8a7c6ffebef7a9edc71c4a4aafad1d06bfbb88debefc032d0643c67bb391c16"), looks := true }, kinds := [], alts := [], laidByText := true, laidKinds := [.data, .data, .data, .data, .sentinel, .sentinel, .pinned], laidTests := true, laidLooks := .later }
def SheetLoopsUptoCardSaid : Prop := Claim7.holds Tryz.pinned (.plain (OpenSpec.upto sheetLoopsSpec)) sheetLoopsUptoCard
end Rows
end Go.Proofs.YtipcmdllhllolaaGreatDoor
