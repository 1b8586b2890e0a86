/- A part of the proof that LibSwaps answers true at every input: AbsKc6. -/
import Derived.KernelRfl
import Derived.Test.YtgmgakdkheemkaaGreatDoorL27
section
namespace Go.Abs.T
open Go.Abs.Sym
theorem can_6_9_4 : canI 6 9 4 = true := by kernel_rfl
theorem can_6_9_9 : canI 6 9 9 = true := by kernel_rfl
theorem can_6_9_14 : canI 6 9 14 = true := by kernel_rfl
theorem can_6_9_19 : canI 6 9 19 = true := by kernel_rfl
theorem can_6_9_24 : canI 6 9 24 = true := by kernel_rfl
end Go.Abs.T
end
