/- A part of the proof that LibSwaps answers true at every input: AbsKc1. -/
import Derived.KernelRfl
import Derived.Test.YtgmgakdkheemkaaGreatDoorL27
section
namespace Go.Abs.T
open Go.Abs.Sym
theorem can_6_8_4 : canI 6 8 4 = true := by kernel_rfl
theorem can_6_8_5 : canI 6 8 5 = true := by kernel_rfl
theorem can_6_8_6 : canI 6 8 6 = true := by kernel_rfl
theorem can_6_8_7 : canI 6 8 7 = true := by kernel_rfl
theorem can_6_8_8 : canI 6 8 8 = true := by kernel_rfl
theorem can_6_8_9 : canI 6 8 9 = true := by kernel_rfl
theorem can_6_8_10 : canI 6 8 10 = true := by kernel_rfl
theorem can_6_8_11 : canI 6 8 11 = true := by kernel_rfl
theorem can_6_8_12 : canI 6 8 12 = true := by kernel_rfl
theorem can_6_8_13 : canI 6 8 13 = true := by kernel_rfl
theorem can_6_8_14 : canI 6 8 14 = true := by kernel_rfl
theorem can_6_8_15 : canI 6 8 15 = true := by kernel_rfl
theorem can_6_8_16 : canI 6 8 16 = true := by kernel_rfl
theorem can_6_8_17 : canI 6 8 17 = true := by kernel_rfl
theorem can_6_8_18 : canI 6 8 18 = true := by kernel_rfl
theorem can_6_8_19 : canI 6 8 19 = true := by kernel_rfl
theorem can_6_8_20 : canI 6 8 20 = true := by kernel_rfl
theorem can_6_8_21 : canI 6 8 21 = true := by kernel_rfl
theorem can_6_8_22 : canI 6 8 22 = true := by kernel_rfl
theorem can_6_8_23 : canI 6 8 23 = true := by kernel_rfl
theorem can_6_8_24 : canI 6 8 24 = true := by kernel_rfl
theorem can_6_8_25 : canI 6 8 25 = true := by kernel_rfl
theorem can_6_8_26 : canI 6 8 26 = true := by kernel_rfl
theorem can_6_10_0 : canI 6 10 0 = true := by kernel_rfl
theorem can_6_10_1 : canI 6 10 1 = true := by kernel_rfl
theorem can_6_10_2 : canI 6 10 2 = true := by kernel_rfl
theorem can_6_10_3 : canI 6 10 3 = true := by kernel_rfl
theorem can_6_10_4 : canI 6 10 4 = true := by kernel_rfl
theorem can_6_10_5 : canI 6 10 5 = true := by kernel_rfl
theorem can_6_10_6 : canI 6 10 6 = true := by kernel_rfl
theorem can_6_10_7 : canI 6 10 7 = true := by kernel_rfl
theorem can_6_10_8 : canI 6 10 8 = true := by kernel_rfl
theorem can_6_10_9 : canI 6 10 9 = true := by kernel_rfl
theorem can_6_10_10 : canI 6 10 10 = true := by kernel_rfl
theorem can_6_10_11 : canI 6 10 11 = true := by kernel_rfl
theorem can_6_10_12 : canI 6 10 12 = true := by kernel_rfl
theorem can_6_10_13 : canI 6 10 13 = true := by kernel_rfl
theorem can_6_10_14 : canI 6 10 14 = true := by kernel_rfl
theorem can_6_10_15 : canI 6 10 15 = true := by kernel_rfl
theorem can_6_10_16 : canI 6 10 16 = true := by kernel_rfl
theorem can_6_10_17 : canI 6 10 17 = true := by kernel_rfl
theorem can_6_10_18 : canI 6 10 18 = true := by kernel_rfl
theorem can_6_10_19 : canI 6 10 19 = true := by kernel_rfl
theorem can_6_10_20 : canI 6 10 20 = true := by kernel_rfl
theorem can_6_10_21 : canI 6 10 21 = true := by kernel_rfl
theorem can_6_10_22 : canI 6 10 22 = true := by kernel_rfl
theorem can_6_10_23 : canI 6 10 23 = true := by kernel_rfl
theorem can_6_10_24 : canI 6 10 24 = true := by kernel_rfl
theorem can_6_10_25 : canI 6 10 25 = true := by kernel_rfl
theorem can_6_10_26 : canI 6 10 26 = true := by kernel_rfl
end Go.Abs.T
end
