/- LibCanons: the closed facts of its row. -/
import Derived.JoinedOf
import Derived.Test.YtaendaokfclnoaaGreatDoorC36
noncomputable section
section
section
namespace Go.Proofs.YtaendaokfclnoaaGreatDoor
open Go
theorem bt {a b:Bool} (ha:a=true) (hb:b=true):(a&&b)=true:=by subst ha; subst hb; rfl
theorem cf1:(Rows.libCanonsRow.wf (OpenSpec.ofChange Rows.libCanonsSpec))=true:=by kernel_rfl
theorem cf2:laidOutB Tryz.prog=true:=by kernel_rfl
theorem cf3:mapsRowed Tryz.prog=true:=by kernel_rfl
theorem cf4:Tryz.f3.params.all (Tryz.prog.readableRec ·)=true:=by kernel_rfl
theorem cf5:namedTie Tryz.prog Rows.libCanonsRow.named Rows.libCanonsSpec.vars=true:=by kernel_rfl
theorem cf6:(Rows.libCanonsRow.stops==[])=true:=by kernel_rfl
theorem cf7:(Tryz.prog.stops==[])=true:=by kernel_rfl
theorem cf8:(Rows.libCanonsRow.knobs==[])=true:=by kernel_rfl
theorem cf9:(Tryz.prog.stopKnobs==[])=true:=by kernel_rfl
theorem yPy:(Rows.libCanonsRow.inPlace==Tryz.prog.inPlace 3)=true:=by kernel_rfl
theorem yPz:(Rows.libCanonsRow.unfollowed==Tryz.prog.unfollowed 3)=true:=by kernel_rfl
theorem yQ0:(Rows.libCanonsRow.recurses==Tryz.prog.recurses 3)=true:=by kernel_rfl
theorem yQ1:(Rows.libCanonsRow.named==Tryz.prog.varsNamed 3)=true:=by kernel_rfl
theorem yQ2:(Rows.libCanonsRow.maps==(Tryz.f3.params.toList++Rows.libCanonsSpec.plain.varTypes Tryz.prog).any (Tryz.prog.mapsRec ·))=true:=by kernel_rfl
theorem yQ3:(Rows.libCanonsRow.ifaces==(Tryz.f3.params.toList++Rows.libCanonsSpec.plain.varTypes Tryz.prog).any (Tryz.prog.ifacesRec ·))=true:=by kernel_rfl
theorem yQ4:(Rows.libCanonsRow.mapsOut==Tryz.prog.mapsAmong Tryz.f3.resultTypes.toList)=true:=by kernel_rfl
theorem yQ5:(Rows.libCanonsRow.loops==(Tryz.f3.params.toList++Rows.libCanonsSpec.plain.varTypes Tryz.prog).any (Tryz.prog.loopsFrom ·))=true:=by kernel_rfl
theorem yQ6:(Rows.libCanonsRow.wideKeys==((Tryz.f3.params.toList++Rows.libCanonsSpec.plain.varTypes Tryz.prog)++Tryz.f3.resultTypes.toList).any (Tryz.prog.wideKeysFrom ·))=true:=by kernel_rfl
theorem yQ7:Rows.libCanonsSpec.vars.all (Tryz.prog.varReadable ·)=true:=by kernel_rfl
theorem yQ8:Tryz.f3.resultTypes.all (fun t=>Tryz.prog.readableRec t&&decide (t<Tryz.prog.types.size))=true:=by kernel_rfl
theorem yQ9:(Rows.libCanonsRow.ifacesOut==Tryz.f3.resultTypes.toList.any (Tryz.prog.ifacesRec ·))=true:=by kernel_rfl
theorem yQa:(Rows.libCanonsRow.loopsOut==Tryz.f3.resultTypes.toList.any (Tryz.prog.loopsFrom ·))=true:=by kernel_rfl
theorem yQb:(Rows.libCanonsRow.plainKeys==Tryz.prog.plainKeys)=true:=by kernel_rfl
theorem yQc:Rows.libCanonsRow.shortTexts.isNone=true:=by kernel_rfl
theorem yQd:Tryz.prog.stopsHeard=true:=by kernel_rfl
theorem yQe:Tryz.prog.mayEnter=true:=by kernel_rfl
theorem yQf:(Rows.libCanonsRow.lifted==Tryz.prog.liftsFinal)=true:=by kernel_rfl
theorem yQg:(Tryz.prog.make==some Rows.libCanonsRow.make)=true:=by kernel_rfl
theorem yQh:(Rows.libCanonsRow.kinds==(if Rows.libCanonsRow.domain.isEmpty then [] else Tryz.f3.params.toList.map fun t=>match Tryz.prog.underlying t with | some (.int k)=>some k | _=>none))=true:=by kernel_rfl
theorem yQi:(Rows.libCanonsRow.pinned==Rows.libCanonsRow.pinnedBy)=true:=by kernel_rfl
theorem yQj:(Rows.libCanonsRow.veiled==((Tryz.f3.params.toList++Rows.libCanonsSpec.plain.varTypes Tryz.prog)++Tryz.f3.resultTypes.toList).any (Tryz.prog.veiledRec ·))=true:=by kernel_rfl
theorem yQk:Rows.libCanonsRow.veiledFits Tryz.prog Tryz.f3.params.toList ((Tryz.f3.params.toList++Rows.libCanonsSpec.plain.varTypes Tryz.prog)++Tryz.f3.resultTypes.toList)=true:=by kernel_rfl
theorem zJ6 : Tryz.prog.funcNamed "etchant/etchantlaw13.LibCanons" = some 3 := by kernel_rfl
theorem yNa:Tryz.f3.isInstance Tryz.prog Rows.libCanonsRow.origin Rows.libCanonsRow.targs:=of_decide_eq_true (by kernel_rfl)
theorem yOb:Tryz.f3.isWrapper Tryz.prog Rows.libCanonsRow.wrapper Rows.libCanonsRow.mainSum:=by unfold Func.isWrapper; first | (rw [if_pos (by decide +kernel)]; kernel_rfl) | (rw [if_neg (by decide +kernel)]; exact ⟨rfl,rfl⟩)
end Go.Proofs.YtaendaokfclnoaaGreatDoor
end
end
section
section
set_option maxRecDepth 10000
namespace Go.Proofs.YtaendaokfclnoaaGreatDoor
open Go
theorem zXj:joinedFacts Tryz.prog 3 Tryz.f3 Rows.libCanonsSpec Rows.libCanonsRow=true:=by
 unfold joinedFacts
 exact bt (bt (bt (bt (bt (bt (bt (bt (bt (bt (bt (bt (bt (bt (bt (bt (bt (bt (bt (bt (bt (bt (bt (bt (bt (bt (bt (bt (bt (bt (bt cf1 cf2) cf3) cf4) cf5) cf6) cf7) cf8) cf9) yPy) yPz) yQ0) yQ1) yQ2) yQ3) yQ4) yQ5) yQ6) yQ7) yQ8) yQ9) yQa) yQb) yQc) yQd) yQe) yQf) yQg) yQh) yQi) yQj) yQk
theorem xKe (rows:Abs.Sym.AllRows):Rows.LibCanonsSaid :=
 OpenClaim.holds_of_wide 3 Tryz.f3 rfl rfl rfl rfl rfl rfl rfl ⟨rfl,rfl,rfl,rfl,rfl⟩ rfl rfl rfl rfl rfl zJ6 Tryz.func3 zXj yNa yOb
  (fun os started H enc _=>lifted rows os started H enc)
end Go.Proofs.YtaendaokfclnoaaGreatDoor
end
end
end
