/- A part of the proof that LibSwaps answers true at every input: AbsKc4. -/
import Derived.KernelRfl
import Derived.Test.YtgmgakdkheemkaaGreatDoorL27
section
namespace Go.Abs.T
open Go.Abs.Sym
theorem can_6_9_2 : canI 6 9 2 = true := by kernel_rfl
theorem can_6_9_7 : canI 6 9 7 = true := by kernel_rfl
theorem can_6_9_12 : canI 6 9 12 = true := by kernel_rfl
theorem can_6_9_17 : canI 6 9 17 = true := by kernel_rfl
theorem can_6_9_22 : canI 6 9 22 = true := by kernel_rfl
end Go.Abs.T
end
