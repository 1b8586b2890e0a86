/- SheetMade: its row holds. -/
import Derived.Test.YtipcmdllhllolaaGreatDoorM51
import Derived.SevenTiedAt
noncomputable section
section
section
set_option maxRecDepth 10000
namespace Go.Proofs.YtipcmdllhllolaaGreatDoor
open Go
theorem closed3:joinedFacts Tryz.prog 3 Tryz.f3 Rows.sheetMadeSpec Rows.sheetMadeRow=true:=by
 unfold joinedFacts
 exact bt (bt (bt (bt (bt (bt (bt (bt (bt (bt (bt (bt (bt (bt (bt (bt (bt (bt (bt (bt (bt (bt (bt (bt (bt (bt (bt (bt (bt (bt (bt cf1 cf2) cf3) cf4) cf5) cf6) cf7) cf8) cf9) cf10) cf11) cf12) cf13) cf14) cf15) cf16) cf17) cf18) cf19) cf20) cf21) cf22) cf23) cf24) cf25) cf26) cf27) cf28) cf29) cf30) cf31) cf32
theorem sheetMade_holds:Rows.SheetMadeSaid :=
 OpenClaim.holds_of_wide 3 Tryz.f3 rfl rfl rfl rfl rfl rfl rfl ⟨rfl,rfl,rfl,rfl,rfl⟩ rfl rfl rfl rfl rfl named3 Tryz.func3 closed3 inst3 wrap3
  (fun os started H enc _=>lifted os started H enc)
end Go.Proofs.YtipcmdllhllolaaGreatDoor
end
end
section
namespace Go.Proofs.YtipcmdllhllolaaGreatDoor
open Go
theorem gA:Tryz.prog.goes 3=false:=by kernel_rfl
theorem goes_of {c:OpenClaim} {P:Program} {f:FuncId} {s:String} (hs:c.start=.entering) (hc:c.func=s) (hn:P.funcNamed s=some f) (h:P.goes f=false):false=c.goesBy P:=by
 unfold OpenClaim.goesBy Program.goesAt Program.goesFrom
 rw [hs, hc, hn]
 show false=(P.goes f||false)
 rw [h]
 rfl
theorem pin_prog:Tryz.pinned.checked.prog=Tryz.prog:=rfl
end Go.Proofs.YtipcmdllhllolaaGreatDoor
end
end
