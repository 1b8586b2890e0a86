/- A part of the proof that LibSwaps answers true at every input: AbsKs1. -/
import Derived.KernelRfl
import Derived.Test.YtgmgakdkheemkaaGreatDoorL27
section
namespace Go.Abs.T
open Go.Abs.Sym
theorem swp_6_5 : swpA 6 5 = true := by kernel_rfl
theorem swp_6_6 : swpA 6 6 = true := by kernel_rfl
theorem swp_6_7 : swpA 6 7 = true := by kernel_rfl
end Go.Abs.T
end
