/-
  DERIVED. GIVEN WITH THE SEED: THE CARDS: each row of YthfmfbbfaiohcaaGreatDoorRows.lean that lists a variable, with what it lists TIED to the program's text (the seventh form; the later family's looks); each row that meets fmt, with fmt's text TOLD by the authors' own Lean function (tested against real Go, not proved from fmt's source: count such statements apart). THE CARD IS WHAT COUNTS. Prove the row's statement (the work); the ties are given (YthfmfbbfaiohcaaGreatDoorTie.lean); close each card by the builder's one call (the guide's Derived/Test/ToyasCard.lean, 'card_holds'). Laid BY PROGRAM, IN A SANDBOX (cutbox-door.mjs). By AI agents, Wed Nov 11 2026. No macro, syntax, notation, axiom, sorry.
-/
import Derived.Test.YthfmfbbfaiohcaaGreatDoorRows
import GoSem.ClaimSeven
namespace Go.Proofs.YthfmfbbfaiohcaaGreatDoor
namespace Rows

/-- THE TIED CARD OF 'etchantlaw13.LibFinds'. -/
def libFindsCard : Claim7 := { stood := { row := libFindsRow, standIns := [], harness := (true, "773a6587b84b4e617f047d10060bfead4defc202c0b1c1fa30cdaf3e4e80c1e8"), looks := true }, kinds := [], alts := [], laidByText := true, laidKinds := [.data, .data, .data, .sentinel, .sentinel], laidTests := true, laidLooks := .later }
def LibFindsCardSaid : Prop := Claim7.holds Tryz.pinned (.plain (OpenSpec.ofChange libFindsSpec)) libFindsCard

/-- THE SECOND FORM's CARD OF 'etchantlaw13.LibFinds'. -/
def libFindsUptoCard : Claim7 := { stood := { row := libFindsUptoRow, standIns := [], harness := (true, "773a6587b84b4e617f047d10060bfead4defc202c0b1c1fa30cdaf3e4e80c1e8"), looks := true }, kinds := [], alts := [], laidByText := true, laidKinds := [.data, .data, .data, .sentinel, .sentinel], laidTests := true, laidLooks := .later }
def LibFindsUptoCardSaid : Prop := Claim7.holds Tryz.pinned (.plain (OpenSpec.upto libFindsSpec)) libFindsUptoCard
end Rows
end Go.Proofs.YthfmfbbfaiohcaaGreatDoor
