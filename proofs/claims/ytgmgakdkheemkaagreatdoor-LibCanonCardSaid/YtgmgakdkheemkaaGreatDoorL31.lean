/- A part of the proof that LibSwaps answers true at every input: AbsKc3. -/
import Derived.KernelRfl
import Derived.Test.YtgmgakdkheemkaaGreatDoorL27
section
namespace Go.Abs.T
open Go.Abs.Sym
theorem can_6_9_1 : canI 6 9 1 = true := by kernel_rfl
theorem can_6_9_6 : canI 6 9 6 = true := by kernel_rfl
theorem can_6_9_11 : canI 6 9 11 = true := by kernel_rfl
theorem can_6_9_16 : canI 6 9 16 = true := by kernel_rfl
theorem can_6_9_21 : canI 6 9 21 = true := by kernel_rfl
theorem can_6_9_26 : canI 6 9 26 = true := by kernel_rfl
end Go.Abs.T
end
