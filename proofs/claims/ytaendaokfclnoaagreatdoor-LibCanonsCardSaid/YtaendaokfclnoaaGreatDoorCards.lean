/-
  DERIVED. GIVEN WITH THE SEED: THE CARDS: each row of YtaendaokfclnoaaGreatDoorRows.lean that lists a variable, with what it lists TIED to the program's text (the seventh form; the later family's looks); each row that meets fmt, with fmt's text TOLD by the authors' own Lean function (tested against real Go, not proved from fmt's source: count such statements apart). THE CARD IS WHAT COUNTS. Prove the row's statement (the work); the ties are given (YtaendaokfclnoaaGreatDoorTie.lean); close each card by the builder's one call (the guide's Derived/Test/ToyasCard.lean, 'card_holds'). Laid BY PROGRAM, IN A SANDBOX (cutbox-door.mjs). By AI agents, Wed Nov 11 2026. No macro, syntax, notation, axiom, sorry.
-/
import Derived.Test.YtaendaokfclnoaaGreatDoorRows
import GoSem.ClaimSeven
namespace Go.Proofs.YtaendaokfclnoaaGreatDoor
namespace Rows

/-- THE TIED CARD OF 'etchantlaw13.LibCanons'. -/
def libCanonsCard : Claim7 := { stood := { row := libCanonsRow, standIns := [], harness := (true, "f45eed60ef9bf3f7461cc7befac10ca28a9b91c0ea61f0048f47ea64270cec3c"), looks := true }, kinds := [], alts := [], laidByText := true, laidKinds := [.data, .data, .data, .sentinel, .sentinel], laidTests := true, laidLooks := .later }
def LibCanonsCardSaid : Prop := Claim7.holds Tryz.pinned (.plain (OpenSpec.ofChange libCanonsSpec)) libCanonsCard

/-- THE SECOND FORM's CARD OF 'etchantlaw13.LibCanons'. -/
def libCanonsUptoCard : Claim7 := { stood := { row := libCanonsUptoRow, standIns := [], harness := (true, "f45eed60ef9bf3f7461cc7befac10ca28a9b91c0ea61f0048f47ea64270cec3c"), looks := true }, kinds := [], alts := [], laidByText := true, laidKinds := [.data, .data, .data, .sentinel, .sentinel], laidTests := true, laidLooks := .later }
def LibCanonsUptoCardSaid : Prop := Claim7.holds Tryz.pinned (.plain (OpenSpec.upto libCanonsSpec)) libCanonsUptoCard
end Rows
end Go.Proofs.YtaendaokfclnoaaGreatDoor
