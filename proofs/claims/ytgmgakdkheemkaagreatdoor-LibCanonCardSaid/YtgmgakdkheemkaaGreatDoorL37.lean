/- A part of the proof that LibSwaps answers true at every input: AbsKs2. -/
import Derived.KernelRfl
import Derived.Test.YtgmgakdkheemkaaGreatDoorL27
section
namespace Go.Abs.T
open Go.Abs.Sym
theorem swp_6_8 : swpA 6 8 = true := by kernel_rfl
theorem swp_6_9 : swpA 6 9 = true := by kernel_rfl
theorem swp_6_10 : swpA 6 10 = true := by kernel_rfl
end Go.Abs.T
end
