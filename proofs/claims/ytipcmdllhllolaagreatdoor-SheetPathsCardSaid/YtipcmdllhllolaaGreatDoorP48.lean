/- SheetPaths answers true for every input, as its card states, on the pruned copy that the row names: no condition beyond the card's own. -/
import Derived.SevenTiedAt
import Derived.Test.YtipcmdllhllolaaGreatDoorP47
import Derived.Test.YtipcmdllhllolaaGreatDoorTie
import Derived.Test.YtipcmdllhllolaaGreatDoorCards
section
set_option maxRecDepth 10000
namespace Go.Proofs.YtipcmdllhllolaaGreatDoor
open Go
theorem cg1:Rows.sheetPathsRow.wfByText (OpenSpec.ofChange Rows.sheetPathsSpec)=true:=by kernel_rfl
theorem cg2 : Tryz.pinned.checked.prog.mainIs = some (true, "e8a7c6ffebef7a9edc71c4a4aafad1d06bfbb88debefc032d0643c67bb391c16".toList) := by kernel_rfl
theorem cg3:true=Tryz.pinned.checked.prog.looks []:=by kernel_rfl
theorem cg4:([22].all fun u => !Tryz.prog.wantsStandIn u)=true:=by kernel_rfl
theorem cg5:false=Rows.sheetPathsRow.goesBy Tryz.pinned.checked.prog:=by kernel_rfl
theorem sheetPaths_card:Rows.SheetPathsCardSaid :=
 Claim7.holds_tied_plain_at .later [] [.data,.data,.data,.data,.sentinel,.sentinel,.pinned] true (true, "e8a7c6ffebef7a9edc71c4a4aafad1d06bfbb88debefc032d0643c67bb391c16") true
  sheetPaths_holds (fun _ h=>by cases h) cg1 (fun _ h=>by cases h) sheetPaths_row_tie rfl ⟨rfl,rfl⟩ cg2 rfl
  (fun f fn hf hfn=>by
   obtain rfl:f=4:=Option.some.inj (named4.symm.trans hf) |>.symm
   obtain rfl:fn=Tryz.f4:=(Option.some.inj (Tryz.func4.symm.trans hfn)).symm
   exact ⟨cg3,fun j t ht=>by
    rw [Tryz.params4] at ht
    have hm:t∈[22]:=by simpa using Array.mem_of_getElem? ht
    exact (show Tryz.prog.wantsStandIn t=false by simpa using List.all_eq_true.1 cg4 t hm)⟩)
  cg5
#print axioms sheetPaths_card
end Go.Proofs.YtipcmdllhllolaaGreatDoor
end
