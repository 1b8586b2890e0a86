/-
  DERIVED. GIVEN WITH THE SEED: THE CARDS: each row of YtgmgakdkheemkaaGreatDoorRows.lean that lists a variable, with what it lists TIED to the program's text (the seventh form; the later family's looks); each row that meets fmt, with fmt's text TOLD by the authors' own Lean function (tested against real Go, not proved from fmt's source: count such statements apart). THE CARD IS WHAT COUNTS. Prove the row's statement (the work); the ties are given (YtgmgakdkheemkaaGreatDoorTie.lean); close each card by the builder's one call (the guide's Derived/Test/ToyasCard.lean, 'card_holds'). Laid BY PROGRAM, IN A SANDBOX (cutbox-door.mjs). By AI agents, Wed Nov 11 2026. No macro, syntax, notation, axiom, sorry.
-/
import Derived.Test.YtgmgakdkheemkaaGreatDoorRows
import GoSem.ClaimSeven
namespace Go.Proofs.YtgmgakdkheemkaaGreatDoor
namespace Rows

/-- THE TIED CARD OF 'etchantlaw13.LibSwaps'. -/
def libSwapsCard : Claim7 := { stood := { row := libSwapsRow, standIns := [], harness := (true, "7e83e1a8755d9ad4dce2e96651a3657c5092bec4e25de37a798a1bdd38c59e11"), looks := true }, kinds := [], alts := [], laidByText := true, laidKinds := [.data, .data, .data, .sentinel, .sentinel], laidTests := true, laidLooks := .later }
def LibSwapsCardSaid : Prop := Claim7.holds Tryz.pinned (.plain (OpenSpec.ofChange libSwapsSpec)) libSwapsCard

/-- THE TIED CARD OF 'etchantlaw13.LibCanon'. -/
def libCanonCard : Claim7 := { stood := { row := libCanonRow, standIns := [], harness := (true, "7e83e1a8755d9ad4dce2e96651a3657c5092bec4e25de37a798a1bdd38c59e11"), looks := true }, kinds := [], alts := [], laidByText := true, laidKinds := [.data, .data, .data, .sentinel, .sentinel], laidTests := true, laidLooks := .later }
def LibCanonCardSaid : Prop := Claim7.holds Tryz.pinned (.plain (OpenSpec.ofChange libCanonSpec)) libCanonCard

/-- THE TIED CARD OF 'etchantlaw13.LibReach'. -/
def libReachCard : Claim7 := { stood := { row := libReachRow, standIns := [], harness := (true, "7e83e1a8755d9ad4dce2e96651a3657c5092bec4e25de37a798a1bdd38c59e11"), looks := true }, kinds := [], alts := [], laidByText := true, laidKinds := [.data, .data, .data, .sentinel, .sentinel], laidTests := true, laidLooks := .later }
def LibReachCardSaid : Prop := Claim7.holds Tryz.pinned (.plain (OpenSpec.ofChange libReachSpec)) libReachCard

/-- THE SECOND FORM's CARD OF 'etchantlaw13.LibSwaps'. -/
def libSwapsUptoCard : Claim7 := { stood := { row := libSwapsUptoRow, standIns := [], harness := (true, "7e83e1a8755d9ad4dce2e96651a3657c5092bec4e25de37a798a1bdd38c59e11"), looks := true }, kinds := [], alts := [], laidByText := true, laidKinds := [.data, .data, .data, .sentinel, .sentinel], laidTests := true, laidLooks := .later }
def LibSwapsUptoCardSaid : Prop := Claim7.holds Tryz.pinned (.plain (OpenSpec.upto libSwapsSpec)) libSwapsUptoCard

/-- THE SECOND FORM's CARD OF 'etchantlaw13.LibCanon'. -/
def libCanonUptoCard : Claim7 := { stood := { row := libCanonUptoRow, standIns := [], harness := (true, "7e83e1a8755d9ad4dce2e96651a3657c5092bec4e25de37a798a1bdd38c59e11"), looks := true }, kinds := [], alts := [], laidByText := true, laidKinds := [.data, .data, .data, .sentinel, .sentinel], laidTests := true, laidLooks := .later }
def LibCanonUptoCardSaid : Prop := Claim7.holds Tryz.pinned (.plain (OpenSpec.upto libCanonSpec)) libCanonUptoCard

/-- THE SECOND FORM's CARD OF 'etchantlaw13.LibReach'. -/
def libReachUptoCard : Claim7 := { stood := { row := libReachUptoRow, standIns := [], harness := (true, "7e83e1a8755d9ad4dce2e96651a3657c5092bec4e25de37a798a1bdd38c59e11"), looks := true }, kinds := [], alts := [], laidByText := true, laidKinds := [.data, .data, .data, .sentinel, .sentinel], laidTests := true, laidLooks := .later }
def LibReachUptoCardSaid : Prop := Claim7.holds Tryz.pinned (.plain (OpenSpec.upto libReachSpec)) libReachUptoCard
end Rows
end Go.Proofs.YtgmgakdkheemkaaGreatDoor
