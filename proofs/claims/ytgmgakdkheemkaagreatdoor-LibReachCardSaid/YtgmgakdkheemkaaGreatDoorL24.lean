/- A part of the proof that LibSwaps answers true at every input: AbsRowS. -/
import Derived.KernelRfl
import Derived.Test.YtgmgakdkheemkaaGreatDoorL23
section
namespace Go.Abs.T
theorem rsan : F.callC XB 100 (.fn f_sanity [] []) [] h0 (isV (.bool true)) = true := by kernel_rfl
end Go.Abs.T
end
