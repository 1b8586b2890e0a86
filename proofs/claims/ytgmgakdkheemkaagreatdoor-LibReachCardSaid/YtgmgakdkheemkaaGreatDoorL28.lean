/- A part of the proof that LibSwaps answers true at every input: AbsKc0. -/
import Derived.KernelRfl
import Derived.Test.YtgmgakdkheemkaaGreatDoorL27
section
namespace Go.Abs.T
open Go.Abs.Sym
theorem can_2_0_0 : canI 2 0 0 = true := by kernel_rfl
theorem can_2_1_0 : canI 2 1 0 = true := by kernel_rfl
theorem can_2_2_0 : canI 2 2 0 = true := by kernel_rfl
theorem can_2_2_1 : canI 2 2 1 = true := by kernel_rfl
theorem can_2_2_2 : canI 2 2 2 = true := by kernel_rfl
theorem can_3_0_0 : canI 3 0 0 = true := by kernel_rfl
theorem can_3_1_0 : canI 3 1 0 = true := by kernel_rfl
theorem can_3_2_0 : canI 3 2 0 = true := by kernel_rfl
theorem can_3_2_1 : canI 3 2 1 = true := by kernel_rfl
theorem can_3_2_2 : canI 3 2 2 = true := by kernel_rfl
theorem can_4_0_0 : canI 4 0 0 = true := by kernel_rfl
theorem can_4_3_0 : canI 4 3 0 = true := by kernel_rfl
theorem can_4_4_0 : canI 4 4 0 = true := by kernel_rfl
theorem can_4_4_1 : canI 4 4 1 = true := by kernel_rfl
theorem can_4_4_2 : canI 4 4 2 = true := by kernel_rfl
theorem can_4_4_3 : canI 4 4 3 = true := by kernel_rfl
theorem can_4_4_4 : canI 4 4 4 = true := by kernel_rfl
theorem can_4_4_5 : canI 4 4 5 = true := by kernel_rfl
theorem can_4_4_6 : canI 4 4 6 = true := by kernel_rfl
theorem can_4_4_7 : canI 4 4 7 = true := by kernel_rfl
theorem can_4_4_8 : canI 4 4 8 = true := by kernel_rfl
theorem can_5_0_0 : canI 5 0 0 = true := by kernel_rfl
theorem can_5_3_0 : canI 5 3 0 = true := by kernel_rfl
theorem can_5_4_0 : canI 5 4 0 = true := by kernel_rfl
theorem can_5_4_1 : canI 5 4 1 = true := by kernel_rfl
theorem can_5_4_2 : canI 5 4 2 = true := by kernel_rfl
theorem can_5_4_3 : canI 5 4 3 = true := by kernel_rfl
theorem can_5_4_4 : canI 5 4 4 = true := by kernel_rfl
theorem can_5_4_5 : canI 5 4 5 = true := by kernel_rfl
theorem can_5_4_6 : canI 5 4 6 = true := by kernel_rfl
theorem can_5_4_7 : canI 5 4 7 = true := by kernel_rfl
theorem can_5_4_8 : canI 5 4 8 = true := by kernel_rfl
theorem can_6_0_0 : canI 6 0 0 = true := by kernel_rfl
theorem can_6_3_0 : canI 6 3 0 = true := by kernel_rfl
theorem can_6_4_0 : canI 6 4 0 = true := by kernel_rfl
theorem can_6_4_1 : canI 6 4 1 = true := by kernel_rfl
theorem can_6_4_2 : canI 6 4 2 = true := by kernel_rfl
theorem can_6_4_3 : canI 6 4 3 = true := by kernel_rfl
theorem can_6_4_4 : canI 6 4 4 = true := by kernel_rfl
theorem can_6_4_5 : canI 6 4 5 = true := by kernel_rfl
theorem can_6_4_6 : canI 6 4 6 = true := by kernel_rfl
theorem can_6_4_7 : canI 6 4 7 = true := by kernel_rfl
theorem can_6_4_8 : canI 6 4 8 = true := by kernel_rfl
theorem can_6_5_0 : canI 6 5 0 = true := by kernel_rfl
theorem can_6_6_0 : canI 6 6 0 = true := by kernel_rfl
theorem can_6_7_0 : canI 6 7 0 = true := by kernel_rfl
theorem can_6_8_0 : canI 6 8 0 = true := by kernel_rfl
theorem can_6_8_1 : canI 6 8 1 = true := by kernel_rfl
theorem can_6_8_2 : canI 6 8 2 = true := by kernel_rfl
theorem can_6_8_3 : canI 6 8 3 = true := by kernel_rfl
end Go.Abs.T
end
