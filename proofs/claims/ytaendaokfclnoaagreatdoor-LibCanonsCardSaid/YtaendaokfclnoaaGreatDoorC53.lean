/- LibCanons: the closed facts of its card. -/
import Derived.SevenTiedAt
import Derived.Test.YtaendaokfclnoaaGreatDoorC37
noncomputable section
section
set_option maxRecDepth 10000
namespace Go.Proofs.YtaendaokfclnoaaGreatDoor
open Go
theorem cg1:Rows.libCanonsRow.wfByText (OpenSpec.ofChange Rows.libCanonsSpec)=true:=by kernel_rfl
theorem cg2 : Tryz.pinned.checked.prog.mainIs = some (true, "f45eed60ef9bf3f7461cc7befac10ca28a9b91c0ea61f0048f47ea64270cec3c".toList) := by kernel_rfl
theorem cg3:true=Tryz.pinned.checked.prog.looks []:=by kernel_rfl
theorem cg4:([26,27,29].all fun u => !Tryz.prog.wantsStandIn u)=true:=by kernel_rfl
theorem cg5:false=Rows.libCanonsRow.goesBy Tryz.pinned.checked.prog:=by kernel_rfl
end Go.Proofs.YtaendaokfclnoaaGreatDoor
end
end
