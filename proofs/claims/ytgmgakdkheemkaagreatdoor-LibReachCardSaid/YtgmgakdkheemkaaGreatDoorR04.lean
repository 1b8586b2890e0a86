/- The closed facts of the row of LibReach. -/
import Derived.Test.YtgmgakdkheemkaaGreatDoorR03
import Derived.JoinedOf
section
namespace Go.Proofs.YtgmgakdkheemkaaGreatDoor
open Go
theorem bt {a b : Bool} (ha : a = true) (hb : b = true) : (a && b) = true := by subst ha; subst hb; rfl
theorem cf1 : (Rows.libReachRow.wf (OpenSpec.ofChange Rows.libReachSpec)) = true := by kernel_rfl
theorem cf2 : laidOutB Tryz.prog = true := by kernel_rfl
theorem cf3 : mapsRowed Tryz.prog = true := by kernel_rfl
theorem cf4 : Tryz.f5.params.all (Tryz.prog.readableRec ·) = true := by kernel_rfl
theorem cf5 : namedTie Tryz.prog Rows.libReachRow.named Rows.libReachSpec.vars = true := by kernel_rfl
theorem cf6 : (Rows.libReachRow.stops == []) = true := by kernel_rfl
theorem cf7 : (Tryz.prog.stops == []) = true := by kernel_rfl
theorem cf8 : (Rows.libReachRow.knobs == []) = true := by kernel_rfl
theorem cf9 : (Tryz.prog.stopKnobs == []) = true := by kernel_rfl
theorem cf10 : (Rows.libReachRow.inPlace == Tryz.prog.inPlace 5) = true := by kernel_rfl
theorem cf11 : (Rows.libReachRow.unfollowed == Tryz.prog.unfollowed 5) = true := by kernel_rfl
theorem cf12 : (Rows.libReachRow.recurses == Tryz.prog.recurses 5) = true := by kernel_rfl
theorem cf13 : (Rows.libReachRow.named == Tryz.prog.varsNamed 5) = true := by kernel_rfl
theorem cf14 : (Rows.libReachRow.maps == (Tryz.f5.params.toList ++ Rows.libReachSpec.plain.varTypes Tryz.prog).any (Tryz.prog.mapsRec ·)) = true := by kernel_rfl
theorem cf15 : (Rows.libReachRow.ifaces == (Tryz.f5.params.toList ++ Rows.libReachSpec.plain.varTypes Tryz.prog).any (Tryz.prog.ifacesRec ·)) = true := by kernel_rfl
theorem cf16 : (Rows.libReachRow.mapsOut == Tryz.prog.mapsAmong Tryz.f5.resultTypes.toList) = true := by kernel_rfl
theorem cf17 : (Rows.libReachRow.loops == (Tryz.f5.params.toList ++ Rows.libReachSpec.plain.varTypes Tryz.prog).any (Tryz.prog.loopsFrom ·)) = true := by kernel_rfl
theorem cf18 : (Rows.libReachRow.wideKeys == ((Tryz.f5.params.toList ++ Rows.libReachSpec.plain.varTypes Tryz.prog) ++ Tryz.f5.resultTypes.toList).any (Tryz.prog.wideKeysFrom ·)) = true := by kernel_rfl
theorem cf19 : Rows.libReachSpec.vars.all (Tryz.prog.varReadable ·) = true := by kernel_rfl
theorem cf20 : Tryz.f5.resultTypes.all (fun t => Tryz.prog.readableRec t && decide (t < Tryz.prog.types.size)) = true := by kernel_rfl
theorem cf21 : (Rows.libReachRow.ifacesOut == Tryz.f5.resultTypes.toList.any (Tryz.prog.ifacesRec ·)) = true := by kernel_rfl
theorem cf22 : (Rows.libReachRow.loopsOut == Tryz.f5.resultTypes.toList.any (Tryz.prog.loopsFrom ·)) = true := by kernel_rfl
theorem cf23 : (Rows.libReachRow.plainKeys == Tryz.prog.plainKeys) = true := by kernel_rfl
theorem cf24 : Rows.libReachRow.shortTexts.isNone = true := by kernel_rfl
theorem cf25 : Tryz.prog.stopsHeard = true := by kernel_rfl
theorem cf26 : Tryz.prog.mayEnter = true := by kernel_rfl
theorem cf27 : (Rows.libReachRow.lifted == Tryz.prog.liftsFinal) = true := by kernel_rfl
theorem cf28 : (Tryz.prog.make == some Rows.libReachRow.make) = true := by kernel_rfl
theorem cf29 : (Rows.libReachRow.kinds == (if Rows.libReachRow.domain.isEmpty then [] else Tryz.f5.params.toList.map fun t => match Tryz.prog.underlying t with | some (.int k) => some k | _ => none)) = true := by kernel_rfl
theorem cf30 : (Rows.libReachRow.pinned == Rows.libReachRow.pinnedBy) = true := by kernel_rfl
theorem cf31 : (Rows.libReachRow.veiled == ((Tryz.f5.params.toList ++ Rows.libReachSpec.plain.varTypes Tryz.prog) ++ Tryz.f5.resultTypes.toList).any (Tryz.prog.veiledRec ·)) = true := by kernel_rfl
theorem cf32 : Rows.libReachRow.veiledFits Tryz.prog Tryz.f5.params.toList ((Tryz.f5.params.toList ++ Rows.libReachSpec.plain.varTypes Tryz.prog) ++ Tryz.f5.resultTypes.toList) = true := by kernel_rfl
theorem named5 : Tryz.prog.funcNamed "etchant/etchantlaw13.LibReach" = some 5 := by kernel_rfl
theorem inst5 : Tryz.f5.isInstance Tryz.prog Rows.libReachRow.origin Rows.libReachRow.targs := of_decide_eq_true (by kernel_rfl)
theorem wrap5 : Tryz.f5.isWrapper Tryz.prog Rows.libReachRow.wrapper Rows.libReachRow.mainSum := by unfold Func.isWrapper; first | (rw [if_pos (by decide +kernel)]; kernel_rfl) | (rw [if_neg (by decide +kernel)]; exact ⟨rfl,rfl⟩)
end Go.Proofs.YtgmgakdkheemkaaGreatDoor
end
