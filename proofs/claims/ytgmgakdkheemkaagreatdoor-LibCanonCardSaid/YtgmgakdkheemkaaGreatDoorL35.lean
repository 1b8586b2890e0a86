/- A part of the proof that LibSwaps answers true at every input: AbsKs0. -/
import Derived.KernelRfl
import Derived.Test.YtgmgakdkheemkaaGreatDoorL27
section
namespace Go.Abs.T
open Go.Abs.Sym
theorem swp_2_0 : swpA 2 0 = true := by kernel_rfl
theorem swp_2_1 : swpA 2 1 = true := by kernel_rfl
theorem swp_2_2 : swpA 2 2 = true := by kernel_rfl
theorem swp_3_0 : swpA 3 0 = true := by kernel_rfl
theorem swp_3_1 : swpA 3 1 = true := by kernel_rfl
theorem swp_3_2 : swpA 3 2 = true := by kernel_rfl
theorem swp_4_0 : swpA 4 0 = true := by kernel_rfl
theorem swp_4_3 : swpA 4 3 = true := by kernel_rfl
theorem swp_4_4 : swpA 4 4 = true := by kernel_rfl
theorem swp_5_0 : swpA 5 0 = true := by kernel_rfl
theorem swp_5_3 : swpA 5 3 = true := by kernel_rfl
theorem swp_5_4 : swpA 5 4 = true := by kernel_rfl
theorem swp_6_0 : swpA 6 0 = true := by kernel_rfl
theorem swp_6_3 : swpA 6 3 = true := by kernel_rfl
theorem swp_6_4 : swpA 6 4 = true := by kernel_rfl
end Go.Abs.T
end
