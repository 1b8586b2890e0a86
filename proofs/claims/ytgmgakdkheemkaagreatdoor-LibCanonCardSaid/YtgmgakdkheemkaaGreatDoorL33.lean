/- A part of the proof that LibSwaps answers true at every input: AbsKc5. -/
import Derived.KernelRfl
import Derived.Test.YtgmgakdkheemkaaGreatDoorL27
section
namespace Go.Abs.T
open Go.Abs.Sym
theorem can_6_9_3 : canI 6 9 3 = true := by kernel_rfl
theorem can_6_9_8 : canI 6 9 8 = true := by kernel_rfl
theorem can_6_9_13 : canI 6 9 13 = true := by kernel_rfl
theorem can_6_9_18 : canI 6 9 18 = true := by kernel_rfl
theorem can_6_9_23 : canI 6 9 23 = true := by kernel_rfl
end Go.Abs.T
end
