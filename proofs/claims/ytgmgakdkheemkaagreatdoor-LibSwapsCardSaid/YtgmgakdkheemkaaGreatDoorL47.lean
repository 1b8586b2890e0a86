/- A part of the proof that LibSwaps answers true at every input: AbsBr3. -/
import Derived.JoinedOf
import Derived.Test.YtgmgakdkheemkaaGreatDoorL46
section
namespace Go.Proofs.YtgmgakdkheemkaaGreatDoor
open Go
theorem bt {a b : Bool} (ha : a = true) (hb : b = true) : (a && b) = true := by subst ha; subst hb; rfl
theorem cf1 : (Rows.libSwapsRow.wf (OpenSpec.ofChange Rows.libSwapsSpec)) = true := by kernel_rfl
theorem cf2 : laidOutB Tryz.prog = true := by kernel_rfl
theorem cf3 : mapsRowed Tryz.prog = true := by kernel_rfl
theorem cf4 : Tryz.f3.params.all (Tryz.prog.readableRec ·) = true := by kernel_rfl
theorem cf5 : namedTie Tryz.prog Rows.libSwapsRow.named Rows.libSwapsSpec.vars = true := by kernel_rfl
theorem cf6 : (Rows.libSwapsRow.stops == []) = true := by kernel_rfl
theorem cf7 : (Tryz.prog.stops == []) = true := by kernel_rfl
theorem cf8 : (Rows.libSwapsRow.knobs == []) = true := by kernel_rfl
theorem cf9 : (Tryz.prog.stopKnobs == []) = true := by kernel_rfl
theorem cf10 : (Rows.libSwapsRow.inPlace == Tryz.prog.inPlace 3) = true := by kernel_rfl
theorem cf11 : (Rows.libSwapsRow.unfollowed == Tryz.prog.unfollowed 3) = true := by kernel_rfl
theorem cf12 : (Rows.libSwapsRow.recurses == Tryz.prog.recurses 3) = true := by kernel_rfl
theorem cf13 : (Rows.libSwapsRow.named == Tryz.prog.varsNamed 3) = true := by kernel_rfl
theorem cf14 : (Rows.libSwapsRow.maps == (Tryz.f3.params.toList ++ Rows.libSwapsSpec.plain.varTypes Tryz.prog).any (Tryz.prog.mapsRec ·)) = true := by kernel_rfl
theorem cf15 : (Rows.libSwapsRow.ifaces == (Tryz.f3.params.toList ++ Rows.libSwapsSpec.plain.varTypes Tryz.prog).any (Tryz.prog.ifacesRec ·)) = true := by kernel_rfl
theorem cf16 : (Rows.libSwapsRow.mapsOut == Tryz.prog.mapsAmong Tryz.f3.resultTypes.toList) = true := by kernel_rfl
theorem cf17 : (Rows.libSwapsRow.loops == (Tryz.f3.params.toList ++ Rows.libSwapsSpec.plain.varTypes Tryz.prog).any (Tryz.prog.loopsFrom ·)) = true := by kernel_rfl
theorem cf18 : (Rows.libSwapsRow.wideKeys == ((Tryz.f3.params.toList ++ Rows.libSwapsSpec.plain.varTypes Tryz.prog) ++ Tryz.f3.resultTypes.toList).any (Tryz.prog.wideKeysFrom ·)) = true := by kernel_rfl
theorem cf19 : Rows.libSwapsSpec.vars.all (Tryz.prog.varReadable ·) = true := by kernel_rfl
theorem cf20 : Tryz.f3.resultTypes.all (fun t => Tryz.prog.readableRec t && decide (t < Tryz.prog.types.size)) = true := by kernel_rfl
theorem cf21 : (Rows.libSwapsRow.ifacesOut == Tryz.f3.resultTypes.toList.any (Tryz.prog.ifacesRec ·)) = true := by kernel_rfl
theorem cf22 : (Rows.libSwapsRow.loopsOut == Tryz.f3.resultTypes.toList.any (Tryz.prog.loopsFrom ·)) = true := by kernel_rfl
theorem cf23 : (Rows.libSwapsRow.plainKeys == Tryz.prog.plainKeys) = true := by kernel_rfl
theorem cf24 : Rows.libSwapsRow.shortTexts.isNone = true := by kernel_rfl
theorem cf25 : Tryz.prog.stopsHeard = true := by kernel_rfl
theorem cf26 : Tryz.prog.mayEnter = true := by kernel_rfl
theorem cf27 : (Rows.libSwapsRow.lifted == Tryz.prog.liftsFinal) = true := by kernel_rfl
theorem cf28 : (Tryz.prog.make == some Rows.libSwapsRow.make) = true := by kernel_rfl
theorem cf29 : (Rows.libSwapsRow.kinds == (if Rows.libSwapsRow.domain.isEmpty then [] else Tryz.f3.params.toList.map fun t => match Tryz.prog.underlying t with | some (.int k) => some k | _ => none)) = true := by kernel_rfl
theorem cf30 : (Rows.libSwapsRow.pinned == Rows.libSwapsRow.pinnedBy) = true := by kernel_rfl
theorem cf31 : (Rows.libSwapsRow.veiled == ((Tryz.f3.params.toList ++ Rows.libSwapsSpec.plain.varTypes Tryz.prog) ++ Tryz.f3.resultTypes.toList).any (Tryz.prog.veiledRec ·)) = true := by kernel_rfl
theorem cf32 : Rows.libSwapsRow.veiledFits Tryz.prog Tryz.f3.params.toList ((Tryz.f3.params.toList ++ Rows.libSwapsSpec.plain.varTypes Tryz.prog) ++ Tryz.f3.resultTypes.toList) = true := by kernel_rfl
theorem named3 : Tryz.prog.funcNamed "etchant/etchantlaw13.LibSwaps" = some 3 := by kernel_rfl
theorem inst3 : Tryz.f3.isInstance Tryz.prog Rows.libSwapsRow.origin Rows.libSwapsRow.targs := of_decide_eq_true (by kernel_rfl)
theorem wrap3 : Tryz.f3.isWrapper Tryz.prog Rows.libSwapsRow.wrapper Rows.libSwapsRow.mainSum := by unfold Func.isWrapper; first | (rw [if_pos (by decide +kernel)]; kernel_rfl) | (rw [if_neg (by decide +kernel)]; exact ⟨rfl,rfl⟩)
end Go.Proofs.YtgmgakdkheemkaaGreatDoor
end
