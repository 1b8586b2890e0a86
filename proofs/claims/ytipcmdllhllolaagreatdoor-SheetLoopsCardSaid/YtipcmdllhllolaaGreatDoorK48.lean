/- SheetLoops: the closed facts of its row. -/
import Derived.JoinedOf
import Derived.Test.YtipcmdllhllolaaGreatDoorK47
noncomputable section
section
namespace Go.Proofs.YtipcmdllhllolaaGreatDoor
open Go
theorem bt {a b:Bool} (ha:a=true) (hb:b=true):(a&&b)=true:=by subst ha; subst hb; rfl
theorem cf1:(Rows.sheetLoopsRow.wf (OpenSpec.ofChange Rows.sheetLoopsSpec))=true:=by kernel_rfl
theorem cf2:laidOutB Tryz.prog=true:=by kernel_rfl
theorem cf3:mapsRowed Tryz.prog=true:=by kernel_rfl
theorem cf4:Tryz.f5.params.all (Tryz.prog.readableRec ·)=true:=by kernel_rfl
theorem cf5:namedTie Tryz.prog Rows.sheetLoopsRow.named Rows.sheetLoopsSpec.vars=true:=by kernel_rfl
theorem cf6:(Rows.sheetLoopsRow.stops==[])=true:=by kernel_rfl
theorem cf7:(Tryz.prog.stops==[])=true:=by kernel_rfl
theorem cf8:(Rows.sheetLoopsRow.knobs==[])=true:=by kernel_rfl
theorem cf9:(Tryz.prog.stopKnobs==[])=true:=by kernel_rfl
theorem cf10:(Rows.sheetLoopsRow.inPlace==Tryz.prog.inPlace 5)=true:=by kernel_rfl
theorem cf11:(Rows.sheetLoopsRow.unfollowed==Tryz.prog.unfollowed 5)=true:=by kernel_rfl
theorem cf12:(Rows.sheetLoopsRow.recurses==Tryz.prog.recurses 5)=true:=by kernel_rfl
theorem cf13:(Rows.sheetLoopsRow.named==Tryz.prog.varsNamed 5)=true:=by kernel_rfl
theorem cf14:(Rows.sheetLoopsRow.maps==(Tryz.f5.params.toList++Rows.sheetLoopsSpec.plain.varTypes Tryz.prog).any (Tryz.prog.mapsRec ·))=true:=by kernel_rfl
theorem cf15:(Rows.sheetLoopsRow.ifaces==(Tryz.f5.params.toList++Rows.sheetLoopsSpec.plain.varTypes Tryz.prog).any (Tryz.prog.ifacesRec ·))=true:=by kernel_rfl
theorem cf16:(Rows.sheetLoopsRow.mapsOut==Tryz.prog.mapsAmong Tryz.f5.resultTypes.toList)=true:=by kernel_rfl
theorem cf17:(Rows.sheetLoopsRow.loops==(Tryz.f5.params.toList++Rows.sheetLoopsSpec.plain.varTypes Tryz.prog).any (Tryz.prog.loopsFrom ·))=true:=by kernel_rfl
theorem cf18:(Rows.sheetLoopsRow.wideKeys==((Tryz.f5.params.toList++Rows.sheetLoopsSpec.plain.varTypes Tryz.prog)++Tryz.f5.resultTypes.toList).any (Tryz.prog.wideKeysFrom ·))=true:=by kernel_rfl
theorem cf19:Rows.sheetLoopsSpec.vars.all (Tryz.prog.varReadable ·)=true:=by kernel_rfl
theorem cf20:Tryz.f5.resultTypes.all (fun t=>Tryz.prog.readableRec t&&decide (t<Tryz.prog.types.size))=true:=by kernel_rfl
theorem cf21:(Rows.sheetLoopsRow.ifacesOut==Tryz.f5.resultTypes.toList.any (Tryz.prog.ifacesRec ·))=true:=by kernel_rfl
theorem cf22:(Rows.sheetLoopsRow.loopsOut==Tryz.f5.resultTypes.toList.any (Tryz.prog.loopsFrom ·))=true:=by kernel_rfl
theorem cf23:(Rows.sheetLoopsRow.plainKeys==Tryz.prog.plainKeys)=true:=by kernel_rfl
theorem cf24:Rows.sheetLoopsRow.shortTexts.isNone=true:=by kernel_rfl
theorem cf25:Tryz.prog.stopsHeard=true:=by kernel_rfl
theorem cf26:Tryz.prog.mayEnter=true:=by kernel_rfl
theorem cf27:(Rows.sheetLoopsRow.lifted==Tryz.prog.liftsFinal)=true:=by kernel_rfl
theorem cf28:(Tryz.prog.make==some Rows.sheetLoopsRow.make)=true:=by kernel_rfl
theorem cf29:(Rows.sheetLoopsRow.kinds==(if Rows.sheetLoopsRow.domain.isEmpty then [] else Tryz.f5.params.toList.map fun t=>match Tryz.prog.underlying t with | some (.int k)=>some k | _=>none))=true:=by kernel_rfl
theorem cf30:(Rows.sheetLoopsRow.pinned==Rows.sheetLoopsRow.pinnedBy)=true:=by kernel_rfl
theorem cf31:(Rows.sheetLoopsRow.veiled==((Tryz.f5.params.toList++Rows.sheetLoopsSpec.plain.varTypes Tryz.prog)++Tryz.f5.resultTypes.toList).any (Tryz.prog.veiledRec ·))=true:=by kernel_rfl
theorem cf32:Rows.sheetLoopsRow.veiledFits Tryz.prog Tryz.f5.params.toList ((Tryz.f5.params.toList++Rows.sheetLoopsSpec.plain.varTypes Tryz.prog)++Tryz.f5.resultTypes.toList)=true:=by kernel_rfl
theorem named5 : Tryz.prog.funcNamed "etchant/etchantlaw14.SheetLoops" = some 5 := by kernel_rfl
theorem inst5:Tryz.f5.isInstance Tryz.prog Rows.sheetLoopsRow.origin Rows.sheetLoopsRow.targs:=of_decide_eq_true (by kernel_rfl)
theorem wrap5:Tryz.f5.isWrapper Tryz.prog Rows.sheetLoopsRow.wrapper Rows.sheetLoopsRow.mainSum:=by unfold Func.isWrapper; first | (rw [if_pos (by decide +kernel)]; kernel_rfl) | (rw [if_neg (by decide +kernel)]; exact ⟨rfl,rfl⟩)
end Go.Proofs.YtipcmdllhllolaaGreatDoor
end
end
