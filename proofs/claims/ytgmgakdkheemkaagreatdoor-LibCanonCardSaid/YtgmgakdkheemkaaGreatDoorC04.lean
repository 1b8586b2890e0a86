/- The closed facts of the row of LibCanon. -/
import Derived.Test.YtgmgakdkheemkaaGreatDoorC03
import Derived.JoinedOf
section
namespace Go.Proofs.YtgmgakdkheemkaaGreatDoor
open Go
theorem bt {a b : Bool} (ha : a = true) (hb : b = true) : (a && b) = true := by subst ha; subst hb; rfl
theorem cf1 : (Rows.libCanonRow.wf (OpenSpec.ofChange Rows.libCanonSpec)) = true := by kernel_rfl
theorem cf2 : laidOutB Tryz.prog = true := by kernel_rfl
theorem cf3 : mapsRowed Tryz.prog = true := by kernel_rfl
theorem cf4 : Tryz.f4.params.all (Tryz.prog.readableRec ·) = true := by kernel_rfl
theorem cf5 : namedTie Tryz.prog Rows.libCanonRow.named Rows.libCanonSpec.vars = true := by kernel_rfl
theorem cf6 : (Rows.libCanonRow.stops == []) = true := by kernel_rfl
theorem cf7 : (Tryz.prog.stops == []) = true := by kernel_rfl
theorem cf8 : (Rows.libCanonRow.knobs == []) = true := by kernel_rfl
theorem cf9 : (Tryz.prog.stopKnobs == []) = true := by kernel_rfl
theorem cf10 : (Rows.libCanonRow.inPlace == Tryz.prog.inPlace 4) = true := by kernel_rfl
theorem cf11 : (Rows.libCanonRow.unfollowed == Tryz.prog.unfollowed 4) = true := by kernel_rfl
theorem cf12 : (Rows.libCanonRow.recurses == Tryz.prog.recurses 4) = true := by kernel_rfl
theorem cf13 : (Rows.libCanonRow.named == Tryz.prog.varsNamed 4) = true := by kernel_rfl
theorem cf14 : (Rows.libCanonRow.maps == (Tryz.f4.params.toList ++ Rows.libCanonSpec.plain.varTypes Tryz.prog).any (Tryz.prog.mapsRec ·)) = true := by kernel_rfl
theorem cf15 : (Rows.libCanonRow.ifaces == (Tryz.f4.params.toList ++ Rows.libCanonSpec.plain.varTypes Tryz.prog).any (Tryz.prog.ifacesRec ·)) = true := by kernel_rfl
theorem cf16 : (Rows.libCanonRow.mapsOut == Tryz.prog.mapsAmong Tryz.f4.resultTypes.toList) = true := by kernel_rfl
theorem cf17 : (Rows.libCanonRow.loops == (Tryz.f4.params.toList ++ Rows.libCanonSpec.plain.varTypes Tryz.prog).any (Tryz.prog.loopsFrom ·)) = true := by kernel_rfl
theorem cf18 : (Rows.libCanonRow.wideKeys == ((Tryz.f4.params.toList ++ Rows.libCanonSpec.plain.varTypes Tryz.prog) ++ Tryz.f4.resultTypes.toList).any (Tryz.prog.wideKeysFrom ·)) = true := by kernel_rfl
theorem cf19 : Rows.libCanonSpec.vars.all (Tryz.prog.varReadable ·) = true := by kernel_rfl
theorem cf20 : Tryz.f4.resultTypes.all (fun t => Tryz.prog.readableRec t && decide (t < Tryz.prog.types.size)) = true := by kernel_rfl
theorem cf21 : (Rows.libCanonRow.ifacesOut == Tryz.f4.resultTypes.toList.any (Tryz.prog.ifacesRec ·)) = true := by kernel_rfl
theorem cf22 : (Rows.libCanonRow.loopsOut == Tryz.f4.resultTypes.toList.any (Tryz.prog.loopsFrom ·)) = true := by kernel_rfl
theorem cf23 : (Rows.libCanonRow.plainKeys == Tryz.prog.plainKeys) = true := by kernel_rfl
theorem cf24 : Rows.libCanonRow.shortTexts.isNone = true := by kernel_rfl
theorem cf25 : Tryz.prog.stopsHeard = true := by kernel_rfl
theorem cf26 : Tryz.prog.mayEnter = true := by kernel_rfl
theorem cf27 : (Rows.libCanonRow.lifted == Tryz.prog.liftsFinal) = true := by kernel_rfl
theorem cf28 : (Tryz.prog.make == some Rows.libCanonRow.make) = true := by kernel_rfl
theorem cf29 : (Rows.libCanonRow.kinds == (if Rows.libCanonRow.domain.isEmpty then [] else Tryz.f4.params.toList.map fun t => match Tryz.prog.underlying t with | some (.int k) => some k | _ => none)) = true := by kernel_rfl
theorem cf30 : (Rows.libCanonRow.pinned == Rows.libCanonRow.pinnedBy) = true := by kernel_rfl
theorem cf31 : (Rows.libCanonRow.veiled == ((Tryz.f4.params.toList ++ Rows.libCanonSpec.plain.varTypes Tryz.prog) ++ Tryz.f4.resultTypes.toList).any (Tryz.prog.veiledRec ·)) = true := by kernel_rfl
theorem cf32 : Rows.libCanonRow.veiledFits Tryz.prog Tryz.f4.params.toList ((Tryz.f4.params.toList ++ Rows.libCanonSpec.plain.varTypes Tryz.prog) ++ Tryz.f4.resultTypes.toList) = true := by kernel_rfl
theorem named4 : Tryz.prog.funcNamed "etchant/etchantlaw13.LibCanon" = some 4 := by kernel_rfl
theorem inst4 : Tryz.f4.isInstance Tryz.prog Rows.libCanonRow.origin Rows.libCanonRow.targs := of_decide_eq_true (by kernel_rfl)
theorem wrap4 : Tryz.f4.isWrapper Tryz.prog Rows.libCanonRow.wrapper Rows.libCanonRow.mainSum := by unfold Func.isWrapper; first | (rw [if_pos (by decide +kernel)]; kernel_rfl) | (rw [if_neg (by decide +kernel)]; exact ⟨rfl,rfl⟩)
end Go.Proofs.YtgmgakdkheemkaaGreatDoor
end
