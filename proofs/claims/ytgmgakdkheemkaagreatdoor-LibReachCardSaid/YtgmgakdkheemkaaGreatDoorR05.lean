/- LibReach: the card. -/
import Derived.Test.YtgmgakdkheemkaaGreatDoorR04
import Derived.SevenTiedAt
section
set_option maxRecDepth 10000
namespace Go.Proofs.YtgmgakdkheemkaaGreatDoor
open Go
theorem closed5 : joinedFacts Tryz.prog 5 Tryz.f5 Rows.libReachSpec Rows.libReachRow = true := by
  unfold joinedFacts
  exact bt (bt (bt (bt (bt (bt (bt (bt (bt (bt (bt (bt (bt (bt (bt (bt (bt (bt (bt (bt (bt (bt (bt (bt (bt (bt (bt (bt (bt (bt (bt cf1 cf2) cf3) cf4) cf5) cf6) cf7) cf8) cf9) cf10) cf11) cf12) cf13) cf14) cf15) cf16) cf17) cf18) cf19) cf20) cf21) cf22) cf23) cf24) cf25) cf26) cf27) cf28) cf29) cf30) cf31) cf32
theorem libReach_holds : Rows.LibReachSaid :=
  OpenClaim.holds_of_wide 5 Tryz.f5 rfl rfl rfl rfl rfl rfl rfl ⟨rfl,rfl,rfl,rfl,rfl⟩ rfl rfl rfl rfl rfl named5 Tryz.func5 closed5 inst5 wrap5
    (fun os started H enc _ => lifted os started H enc)
theorem libReach_card : Rows.LibReachCardSaid :=
  Claim7.holds_tied_plain_at .later [] [.data,.data,.data,.sentinel,.sentinel] true (true, "7e83e1a8755d9ad4dce2e96651a3657c5092bec4e25de37a798a1bdd38c59e11") true
    libReach_holds (fun _ h => by cases h) (by kernel_rfl) (fun _ h => by cases h) libReach_row_tie rfl ⟨rfl,rfl⟩ (by kernel_rfl) rfl
    (fun f fn hf hfn => by
      obtain rfl : f = 5 := Option.some.inj (named5.symm.trans hf) |>.symm
      obtain rfl : fn = Tryz.f5 := (Option.some.inj (Tryz.func5.symm.trans hfn)).symm
      exact ⟨by kernel_rfl,fun j t ht => by
        rw [Tryz.params5] at ht
        have hm : t ∈ [26] := by simpa using Array.mem_of_getElem? ht
        have hall : ([26].all fun u => !Tryz.prog.wantsStandIn u) = true := by kernel_rfl
        exact (show Tryz.prog.wantsStandIn t = false by simpa using List.all_eq_true.1 hall t hm)⟩)
    (by kernel_rfl)
#print axioms libReach_card
end Go.Proofs.YtgmgakdkheemkaaGreatDoor
end
