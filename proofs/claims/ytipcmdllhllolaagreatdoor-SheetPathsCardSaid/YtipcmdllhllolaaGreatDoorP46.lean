/- SheetPaths: the closed facts of its row. -/
import Derived.JoinedOf
import Derived.Test.YtipcmdllhllolaaGreatDoorP45
section
namespace Go.Proofs.YtipcmdllhllolaaGreatDoor
open Go
theorem bt {a b:Bool} (ha:a=true) (hb:b=true):(a&&b)=true:=by subst ha; subst hb; rfl
theorem cf1:(Rows.sheetPathsRow.wf (OpenSpec.ofChange Rows.sheetPathsSpec))=true:=by kernel_rfl
theorem cf2:laidOutB Tryz.prog=true:=by kernel_rfl
theorem cf3:mapsRowed Tryz.prog=true:=by kernel_rfl
theorem cf4:Tryz.f4.params.all (Tryz.prog.readableRec ·)=true:=by kernel_rfl
theorem cf5:namedTie Tryz.prog Rows.sheetPathsRow.named Rows.sheetPathsSpec.vars=true:=by kernel_rfl
theorem cf6:(Rows.sheetPathsRow.stops==[])=true:=by kernel_rfl
theorem cf7:(Tryz.prog.stops==[])=true:=by kernel_rfl
theorem cf8:(Rows.sheetPathsRow.knobs==[])=true:=by kernel_rfl
theorem cf9:(Tryz.prog.stopKnobs==[])=true:=by kernel_rfl
theorem cf10:(Rows.sheetPathsRow.inPlace==Tryz.prog.inPlace 4)=true:=by kernel_rfl
theorem cf11:(Rows.sheetPathsRow.unfollowed==Tryz.prog.unfollowed 4)=true:=by kernel_rfl
theorem cf12:(Rows.sheetPathsRow.recurses==Tryz.prog.recurses 4)=true:=by kernel_rfl
theorem cf13:(Rows.sheetPathsRow.named==Tryz.prog.varsNamed 4)=true:=by kernel_rfl
theorem cf14:(Rows.sheetPathsRow.maps==(Tryz.f4.params.toList++Rows.sheetPathsSpec.plain.varTypes Tryz.prog).any (Tryz.prog.mapsRec ·))=true:=by kernel_rfl
theorem cf15:(Rows.sheetPathsRow.ifaces==(Tryz.f4.params.toList++Rows.sheetPathsSpec.plain.varTypes Tryz.prog).any (Tryz.prog.ifacesRec ·))=true:=by kernel_rfl
theorem cf16:(Rows.sheetPathsRow.mapsOut==Tryz.prog.mapsAmong Tryz.f4.resultTypes.toList)=true:=by kernel_rfl
theorem cf17:(Rows.sheetPathsRow.loops==(Tryz.f4.params.toList++Rows.sheetPathsSpec.plain.varTypes Tryz.prog).any (Tryz.prog.loopsFrom ·))=true:=by kernel_rfl
theorem cf18:(Rows.sheetPathsRow.wideKeys==((Tryz.f4.params.toList++Rows.sheetPathsSpec.plain.varTypes Tryz.prog)++Tryz.f4.resultTypes.toList).any (Tryz.prog.wideKeysFrom ·))=true:=by kernel_rfl
theorem cf19:Rows.sheetPathsSpec.vars.all (Tryz.prog.varReadable ·)=true:=by kernel_rfl
theorem cf20:Tryz.f4.resultTypes.all (fun t=>Tryz.prog.readableRec t&&decide (t<Tryz.prog.types.size))=true:=by kernel_rfl
theorem cf21:(Rows.sheetPathsRow.ifacesOut==Tryz.f4.resultTypes.toList.any (Tryz.prog.ifacesRec ·))=true:=by kernel_rfl
theorem cf22:(Rows.sheetPathsRow.loopsOut==Tryz.f4.resultTypes.toList.any (Tryz.prog.loopsFrom ·))=true:=by kernel_rfl
theorem cf23:(Rows.sheetPathsRow.plainKeys==Tryz.prog.plainKeys)=true:=by kernel_rfl
theorem cf24:Rows.sheetPathsRow.shortTexts.isNone=true:=by kernel_rfl
theorem cf25:Tryz.prog.stopsHeard=true:=by kernel_rfl
theorem cf26:Tryz.prog.mayEnter=true:=by kernel_rfl
theorem cf27:(Rows.sheetPathsRow.lifted==Tryz.prog.liftsFinal)=true:=by kernel_rfl
theorem cf28:(Tryz.prog.make==some Rows.sheetPathsRow.make)=true:=by kernel_rfl
theorem cf29:(Rows.sheetPathsRow.kinds==(if Rows.sheetPathsRow.domain.isEmpty then [] else Tryz.f4.params.toList.map fun t=>match Tryz.prog.underlying t with | some (.int k)=>some k | _=>none))=true:=by kernel_rfl
theorem cf30:(Rows.sheetPathsRow.pinned==Rows.sheetPathsRow.pinnedBy)=true:=by kernel_rfl
theorem cf31:(Rows.sheetPathsRow.veiled==((Tryz.f4.params.toList++Rows.sheetPathsSpec.plain.varTypes Tryz.prog)++Tryz.f4.resultTypes.toList).any (Tryz.prog.veiledRec ·))=true:=by kernel_rfl
theorem cf32:Rows.sheetPathsRow.veiledFits Tryz.prog Tryz.f4.params.toList ((Tryz.f4.params.toList++Rows.sheetPathsSpec.plain.varTypes Tryz.prog)++Tryz.f4.resultTypes.toList)=true:=by kernel_rfl
theorem named4 : Tryz.prog.funcNamed "etchant/etchantlaw14.SheetPaths" = some 4 := by kernel_rfl
theorem inst4:Tryz.f4.isInstance Tryz.prog Rows.sheetPathsRow.origin Rows.sheetPathsRow.targs:=of_decide_eq_true (by kernel_rfl)
theorem wrap4:Tryz.f4.isWrapper Tryz.prog Rows.sheetPathsRow.wrapper Rows.sheetPathsRow.mainSum:=by unfold Func.isWrapper; first | (rw [if_pos (by decide +kernel)]; kernel_rfl) | (rw [if_neg (by decide +kernel)]; exact ⟨rfl,rfl⟩)
end Go.Proofs.YtipcmdllhllolaaGreatDoor
end
