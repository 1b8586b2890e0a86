/- SheetMade answers true for every input, as its card states, on the pruned copy that the row names: no condition beyond the card's own. -/
import Derived.SevenTiedAt
import Derived.Test.YtipcmdllhllolaaGreatDoorM52
import Derived.Test.YtipcmdllhllolaaGreatDoorTie
import Derived.Test.YtipcmdllhllolaaGreatDoorCards
noncomputable section
section
set_option maxRecDepth 10000
namespace Go.Proofs.YtipcmdllhllolaaGreatDoor
open Go
theorem cg1:Rows.sheetMadeRow.wfByText (OpenSpec.ofChange Rows.sheetMadeSpec)=true:=by kernel_rfl
theorem cg2 : Tryz.pinned.checked.prog.mainIs = some (true, "e8a7c6ffebef7a9edc71c4a4aafad1d06bfbb88debefc032d0643c67bb391c16".toList) := by kernel_rfl
theorem cg3:true=Tryz.pinned.checked.prog.looks []:=by kernel_rfl
theorem cg4:([22].all fun u => !Tryz.prog.wantsStandIn u)=true:=by kernel_rfl
theorem cg5:false=Rows.sheetMadeRow.goesBy Tryz.pinned.checked.prog:=by
 rw [pin_prog]
 exact goes_of rfl rfl named3 gA
theorem sheetMade_card:Rows.SheetMadeCardSaid :=
 Claim7.holds_tied_plain_at .later [] [.data, .data, .data, .data, .sentinel, .sentinel, .pinned] true (true, "e8a7c6ffebef7a9edc71c4a4aafad1d06bfbb88debefc032d0643c67bb391c16") true
  sheetMade_holds (fun _ h=>by cases h) cg1 (fun _ h=>by cases h) sheetMade_row_tie rfl ⟨rfl, rfl⟩ cg2 rfl
  (fun f fn hf hfn=>by
   obtain rfl:f=3:=Option.some.inj (named3.symm.trans hf) |>.symm
   obtain rfl:fn=Tryz.f3:=(Option.some.inj (Tryz.func3.symm.trans hfn)).symm
   exact ⟨cg3, fun j t ht=>by
    rw [Tryz.params3] at ht
    have hm:t∈[22]:=by simpa using Array.mem_of_getElem? ht
    exact (show Tryz.prog.wantsStandIn t=false by simpa using List.all_eq_true.1 cg4 t hm)⟩)
  cg5
#print axioms sheetMade_card
end Go.Proofs.YtipcmdllhllolaaGreatDoor
end
end
