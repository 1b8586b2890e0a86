/- The reference's geometry of pads at three places. -/
import Derived.Test.YtipcmdllhllolaaGreatDoorM44
import Derived.KernelRfl
noncomputable section
section
namespace Go.Abs.T
open Go.Abs.Sym
theorem gE00:(tabGe 0 0).all (rowB XG 100)=true:=by kernel_rfl
theorem gM00:(tabGm 0 0).all (rowB (XGe (tabGe 0 0)) 100)=true:=by kernel_rfl
theorem gP00:(tabGp 0 0).all (rowB (XGm (tabGe 0 0) (tabGm 0 0)) 100)=true:=by kernel_rfl
theorem gE01:(tabGe 0 10).all (rowB XG 100)=true:=by kernel_rfl
theorem gM01:(tabGm 0 10).all (rowB (XGe (tabGe 0 10)) 100)=true:=by kernel_rfl
theorem gP01:(tabGp 0 1).all (rowB (XGm (tabGe 0 10) (tabGm 0 10)) 100)=true:=by kernel_rfl
theorem gE10:(tabGe 30 0).all (rowB XG 100)=true:=by kernel_rfl
theorem gM10:(tabGm 30 0).all (rowB (XGe (tabGe 30 0)) 100)=true:=by kernel_rfl
theorem gP10:(tabGp 1 0).all (rowB (XGm (tabGe 30 0) (tabGm 30 0)) 100)=true:=by kernel_rfl
end Go.Abs.T
end
section
namespace Go.Abs.T
open Go.Abs.Sym
theorem gE11:(tabGe 30 10).all (rowB XG 100)=true:=by kernel_rfl
theorem gM11:(tabGm 30 10).all (rowB (XGe (tabGe 30 10)) 100)=true:=by kernel_rfl
theorem gP11:(tabGp 1 1).all (rowB (XGm (tabGe 30 10) (tabGm 30 10)) 100)=true:=by kernel_rfl
theorem gE20:(tabGe 60 0).all (rowB XG 100)=true:=by kernel_rfl
theorem gM20:(tabGm 60 0).all (rowB (XGe (tabGe 60 0)) 100)=true:=by kernel_rfl
theorem gP20:(tabGp 2 0).all (rowB (XGm (tabGe 60 0) (tabGm 60 0)) 100)=true:=by kernel_rfl
theorem gE21:(tabGe 60 10).all (rowB XG 100)=true:=by kernel_rfl
theorem gM21:(tabGm 60 10).all (rowB (XGe (tabGe 60 10)) 100)=true:=by kernel_rfl
theorem gP21:(tabGp 2 1).all (rowB (XGm (tabGe 60 10) (tabGm 60 10)) 100)=true:=by kernel_rfl
end Go.Abs.T
end
end
