/- A part of the proof that LibSwaps answers true at every input: AbsKc2. -/
import Derived.KernelRfl
import Derived.Test.YtgmgakdkheemkaaGreatDoorL27
section
namespace Go.Abs.T
open Go.Abs.Sym
theorem can_6_9_0 : canI 6 9 0 = true := by kernel_rfl
theorem can_6_9_5 : canI 6 9 5 = true := by kernel_rfl
theorem can_6_9_10 : canI 6 9 10 = true := by kernel_rfl
theorem can_6_9_15 : canI 6 9 15 = true := by kernel_rfl
theorem can_6_9_20 : canI 6 9 20 = true := by kernel_rfl
theorem can_6_9_25 : canI 6 9 25 = true := by kernel_rfl
end Go.Abs.T
end
