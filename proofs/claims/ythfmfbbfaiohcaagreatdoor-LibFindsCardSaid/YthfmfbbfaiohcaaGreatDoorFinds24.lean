/- A part of the proof that LibFinds answers true at every input: AbsRowC. -/
import Derived.KernelRfl
import Derived.Test.YthfmfbbfaiohcaaGreatDoorFinds18
section
namespace Go.Abs.T
theorem rc0 : Row XA f_check (tex,i0) := row_of (n := 100) (by kernel_rfl) (by kernel_rfl) (by kernel_rfl)
theorem rc1 : Row XA f_check (ttwice,i6) := row_of (n := 100) (by kernel_rfl) (by kernel_rfl) (by kernel_rfl)
theorem rc2 : Row XA f_check (tgroup,i26) := row_of (n := 100) (by kernel_rfl) (by kernel_rfl) (by kernel_rfl)
theorem rc3 : Row XA f_check (tfits,i0) := row_of (n := 100) (by kernel_rfl) (by kernel_rfl) (by kernel_rfl)
theorem rc4 : Row XA f_check (twide,i22) := row_of (n := 100) (by kernel_rfl) (by kernel_rfl) (by kernel_rfl)
end Go.Abs.T
end
