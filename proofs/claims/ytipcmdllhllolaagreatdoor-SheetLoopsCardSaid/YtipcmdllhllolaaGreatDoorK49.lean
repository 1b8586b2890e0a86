/- SheetLoops: its row holds. -/
import Derived.Test.YtipcmdllhllolaaGreatDoorK48
import Derived.SevenTiedAt
import Derived.Test.YtipcmdllhllolaaGreatDoorTie
import Derived.Test.YtipcmdllhllolaaGreatDoorCards
noncomputable section
section
section
set_option maxRecDepth 10000
namespace Go.Proofs.YtipcmdllhllolaaGreatDoor
open Go
theorem closed5:joinedFacts Tryz.prog 5 Tryz.f5 Rows.sheetLoopsSpec Rows.sheetLoopsRow=true:=by
 unfold joinedFacts
 exact bt (bt (bt (bt (bt (bt (bt (bt (bt (bt (bt (bt (bt (bt (bt (bt (bt (bt (bt (bt (bt (bt (bt (bt (bt (bt (bt (bt (bt (bt (bt cf1 cf2) cf3) cf4) cf5) cf6) cf7) cf8) cf9) cf10) cf11) cf12) cf13) cf14) cf15) cf16) cf17) cf18) cf19) cf20) cf21) cf22) cf23) cf24) cf25) cf26) cf27) cf28) cf29) cf30) cf31) cf32
theorem sheetLoops_holds:Rows.SheetLoopsSaid :=
 OpenClaim.holds_of_wide 5 Tryz.f5 rfl rfl rfl rfl rfl rfl rfl ⟨rfl,rfl,rfl,rfl,rfl⟩ rfl rfl rfl rfl rfl named5 Tryz.func5 closed5 inst5 wrap5
  (fun os started H enc _=>lifted os started H enc)
end Go.Proofs.YtipcmdllhllolaaGreatDoor
end
end
section
namespace Go.Proofs.YtipcmdllhllolaaGreatDoor
open Go
theorem gA:Tryz.prog.goes 5=false:=by kernel_rfl
theorem goes_of {c:OpenClaim} {P:Program} {f:FuncId} {s:String} (hs:c.start=.entering) (hc:c.func=s) (hn:P.funcNamed s=some f) (h:P.goes f=false):false=c.goesBy P:=by
 unfold OpenClaim.goesBy Program.goesAt Program.goesFrom
 rw [hs, hc, hn]
 show false=(P.goes f||false)
 rw [h]
 rfl
theorem pin_prog:Tryz.pinned.checked.prog=Tryz.prog:=rfl
end Go.Proofs.YtipcmdllhllolaaGreatDoor
end
section
section
set_option maxRecDepth 10000
namespace Go.Proofs.YtipcmdllhllolaaGreatDoor
open Go
theorem cg1:Rows.sheetLoopsRow.wfByText (OpenSpec.ofChange Rows.sheetLoopsSpec)=true:=by kernel_rfl
theorem cg2 : Tryz.pinned.checked.prog.mainIs = some (true, "e8a7c6ffebef7a9edc71c4a4aafad1d06bfbb88debefc032d0643c67bb391c16".toList) := by kernel_rfl
theorem cg3:true=Tryz.pinned.checked.prog.looks []:=by kernel_rfl
theorem cg4:([22, 38].all fun u => !Tryz.prog.wantsStandIn u)=true:=by kernel_rfl
theorem cg5:false=Rows.sheetLoopsRow.goesBy Tryz.pinned.checked.prog:=by
 rw [pin_prog]
 exact goes_of rfl rfl named5 gA
theorem sheetLoops_card:Rows.SheetLoopsCardSaid :=
 Claim7.holds_tied_plain_at .later [] [.data, .data, .data, .data, .sentinel, .sentinel, .pinned] true (true, "e8a7c6ffebef7a9edc71c4a4aafad1d06bfbb88debefc032d0643c67bb391c16") true
  sheetLoops_holds (fun _ h=>by cases h) cg1 (fun _ h=>by cases h) sheetLoops_row_tie rfl ⟨rfl, rfl⟩ cg2 rfl
  (fun f fn hf hfn=>by
   obtain rfl:f=5:=Option.some.inj (named5.symm.trans hf) |>.symm
   obtain rfl:fn=Tryz.f5:=(Option.some.inj (Tryz.func5.symm.trans hfn)).symm
   exact ⟨cg3, fun j t ht=>by
    rw [Tryz.params5] at ht
    have hm:t∈[22, 38]:=by simpa using Array.mem_of_getElem? ht
    exact (show Tryz.prog.wantsStandIn t=false by simpa using List.all_eq_true.1 cg4 t hm)⟩)
  cg5
#print axioms sheetLoops_card
end Go.Proofs.YtipcmdllhllolaaGreatDoor
end
end
end
