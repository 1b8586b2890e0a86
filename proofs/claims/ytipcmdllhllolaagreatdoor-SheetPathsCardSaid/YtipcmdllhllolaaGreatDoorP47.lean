/- SheetPaths: its row holds. -/
import Derived.Test.YtipcmdllhllolaaGreatDoorP46
section
set_option maxRecDepth 10000
namespace Go.Proofs.YtipcmdllhllolaaGreatDoor
open Go
theorem closed4:joinedFacts Tryz.prog 4 Tryz.f4 Rows.sheetPathsSpec Rows.sheetPathsRow=true:=by
 unfold joinedFacts
 exact bt (bt (bt (bt (bt (bt (bt (bt (bt (bt (bt (bt (bt (bt (bt (bt (bt (bt (bt (bt (bt (bt (bt (bt (bt (bt (bt (bt (bt (bt (bt cf1 cf2) cf3) cf4) cf5) cf6) cf7) cf8) cf9) cf10) cf11) cf12) cf13) cf14) cf15) cf16) cf17) cf18) cf19) cf20) cf21) cf22) cf23) cf24) cf25) cf26) cf27) cf28) cf29) cf30) cf31) cf32
theorem sheetPaths_holds:Rows.SheetPathsSaid :=
 OpenClaim.holds_of_wide 4 Tryz.f4 rfl rfl rfl rfl rfl rfl rfl ⟨rfl,rfl,rfl,rfl,rfl⟩ rfl rfl rfl rfl rfl named4 Tryz.func4 closed4 inst4 wrap4
  (fun os started H enc _=>lifted os started H enc)
end Go.Proofs.YtipcmdllhllolaaGreatDoor
end
