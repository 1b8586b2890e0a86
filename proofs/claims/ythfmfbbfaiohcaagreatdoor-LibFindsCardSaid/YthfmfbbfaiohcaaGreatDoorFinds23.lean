/- A part of the proof that LibFinds answers true at every input: AbsRow7. -/
import Derived.KernelRfl
import Derived.Test.YthfmfbbfaiohcaaGreatDoorFinds18
section
namespace Go.Abs.T
theorem rp7 : Row X0 f_padErr (pad7,i22) := row_of (n := 100) (by kernel_rfl) (by kernel_rfl) (by kernel_rfl)
end Go.Abs.T
end
