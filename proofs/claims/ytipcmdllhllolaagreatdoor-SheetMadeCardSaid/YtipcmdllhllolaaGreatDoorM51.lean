/- SheetMade: the closed facts of its row. -/
import Derived.JoinedOf
import Derived.Test.YtipcmdllhllolaaGreatDoorM50
noncomputable section
section
namespace Go.Proofs.YtipcmdllhllolaaGreatDoor
open Go
theorem bt {a b:Bool} (ha:a=true) (hb:b=true):(a&&b)=true:=by subst ha; subst hb; rfl
theorem cf1:(Rows.sheetMadeRow.wf (OpenSpec.ofChange Rows.sheetMadeSpec))=true:=by kernel_rfl
theorem cf2:laidOutB Tryz.prog=true:=by kernel_rfl
theorem cf3:mapsRowed Tryz.prog=true:=by kernel_rfl
theorem cf4:Tryz.f3.params.all (Tryz.prog.readableRec ·)=true:=by kernel_rfl
theorem cf5:namedTie Tryz.prog Rows.sheetMadeRow.named Rows.sheetMadeSpec.vars=true:=by kernel_rfl
theorem cf6:(Rows.sheetMadeRow.stops==[])=true:=by kernel_rfl
theorem cf7:(Tryz.prog.stops==[])=true:=by kernel_rfl
theorem cf8:(Rows.sheetMadeRow.knobs==[])=true:=by kernel_rfl
theorem cf9:(Tryz.prog.stopKnobs==[])=true:=by kernel_rfl
theorem cf10:(Rows.sheetMadeRow.inPlace==Tryz.prog.inPlace 3)=true:=by kernel_rfl
theorem cf11:(Rows.sheetMadeRow.unfollowed==Tryz.prog.unfollowed 3)=true:=by kernel_rfl
theorem cf12:(Rows.sheetMadeRow.recurses==Tryz.prog.recurses 3)=true:=by kernel_rfl
theorem cf13:(Rows.sheetMadeRow.named==Tryz.prog.varsNamed 3)=true:=by kernel_rfl
theorem cf14:(Rows.sheetMadeRow.maps==(Tryz.f3.params.toList++Rows.sheetMadeSpec.plain.varTypes Tryz.prog).any (Tryz.prog.mapsRec ·))=true:=by kernel_rfl
theorem cf15:(Rows.sheetMadeRow.ifaces==(Tryz.f3.params.toList++Rows.sheetMadeSpec.plain.varTypes Tryz.prog).any (Tryz.prog.ifacesRec ·))=true:=by kernel_rfl
theorem cf16:(Rows.sheetMadeRow.mapsOut==Tryz.prog.mapsAmong Tryz.f3.resultTypes.toList)=true:=by kernel_rfl
theorem cf17:(Rows.sheetMadeRow.loops==(Tryz.f3.params.toList++Rows.sheetMadeSpec.plain.varTypes Tryz.prog).any (Tryz.prog.loopsFrom ·))=true:=by kernel_rfl
theorem cf18:(Rows.sheetMadeRow.wideKeys==((Tryz.f3.params.toList++Rows.sheetMadeSpec.plain.varTypes Tryz.prog)++Tryz.f3.resultTypes.toList).any (Tryz.prog.wideKeysFrom ·))=true:=by kernel_rfl
theorem cf19:Rows.sheetMadeSpec.vars.all (Tryz.prog.varReadable ·)=true:=by kernel_rfl
theorem cf20:Tryz.f3.resultTypes.all (fun t=>Tryz.prog.readableRec t&&decide (t<Tryz.prog.types.size))=true:=by kernel_rfl
theorem cf21:(Rows.sheetMadeRow.ifacesOut==Tryz.f3.resultTypes.toList.any (Tryz.prog.ifacesRec ·))=true:=by kernel_rfl
theorem cf22:(Rows.sheetMadeRow.loopsOut==Tryz.f3.resultTypes.toList.any (Tryz.prog.loopsFrom ·))=true:=by kernel_rfl
theorem cf23:(Rows.sheetMadeRow.plainKeys==Tryz.prog.plainKeys)=true:=by kernel_rfl
theorem cf24:Rows.sheetMadeRow.shortTexts.isNone=true:=by kernel_rfl
theorem cf25:Tryz.prog.stopsHeard=true:=by kernel_rfl
theorem cf26:Tryz.prog.mayEnter=true:=by kernel_rfl
theorem cf27:(Rows.sheetMadeRow.lifted==Tryz.prog.liftsFinal)=true:=by kernel_rfl
theorem cf28:(Tryz.prog.make==some Rows.sheetMadeRow.make)=true:=by kernel_rfl
theorem cf29:(Rows.sheetMadeRow.kinds==(if Rows.sheetMadeRow.domain.isEmpty then [] else Tryz.f3.params.toList.map fun t=>match Tryz.prog.underlying t with | some (.int k)=>some k | _=>none))=true:=by kernel_rfl
theorem cf30:(Rows.sheetMadeRow.pinned==Rows.sheetMadeRow.pinnedBy)=true:=by kernel_rfl
theorem cf31:(Rows.sheetMadeRow.veiled==((Tryz.f3.params.toList++Rows.sheetMadeSpec.plain.varTypes Tryz.prog)++Tryz.f3.resultTypes.toList).any (Tryz.prog.veiledRec ·))=true:=by kernel_rfl
theorem cf32:Rows.sheetMadeRow.veiledFits Tryz.prog Tryz.f3.params.toList ((Tryz.f3.params.toList++Rows.sheetMadeSpec.plain.varTypes Tryz.prog)++Tryz.f3.resultTypes.toList)=true:=by kernel_rfl
theorem named3 : Tryz.prog.funcNamed "etchant/etchantlaw14.SheetMade" = some 3 := by kernel_rfl
theorem inst3:Tryz.f3.isInstance Tryz.prog Rows.sheetMadeRow.origin Rows.sheetMadeRow.targs:=of_decide_eq_true (by kernel_rfl)
theorem wrap3:Tryz.f3.isWrapper Tryz.prog Rows.sheetMadeRow.wrapper Rows.sheetMadeRow.mainSum:=by unfold Func.isWrapper; first | (rw [if_pos (by decide +kernel)]; kernel_rfl) | (rw [if_neg (by decide +kernel)]; exact ⟨rfl,rfl⟩)
end Go.Proofs.YtipcmdllhllolaaGreatDoor
end
end
