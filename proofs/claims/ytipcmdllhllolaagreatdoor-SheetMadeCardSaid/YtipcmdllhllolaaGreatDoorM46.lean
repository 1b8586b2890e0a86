/- The reference's geometry of pads at three places. -/
import Derived.Test.YtipcmdllhllolaaGreatDoorM44
import Derived.KernelRfl
noncomputable section
section
namespace Go.Abs.T
open Go.Abs.Sym
theorem gE30:(tabGe 90 0).all (rowB XG 100)=true:=by kernel_rfl
theorem gM30:(tabGm 90 0).all (rowB (XGe (tabGe 90 0)) 100)=true:=by kernel_rfl
theorem gP30:(tabGp 3 0).all (rowB (XGm (tabGe 90 0) (tabGm 90 0)) 100)=true:=by kernel_rfl
theorem gE31:(tabGe 90 10).all (rowB XG 100)=true:=by kernel_rfl
theorem gM31:(tabGm 90 10).all (rowB (XGe (tabGe 90 10)) 100)=true:=by kernel_rfl
theorem gP31:(tabGp 3 1).all (rowB (XGm (tabGe 90 10) (tabGm 90 10)) 100)=true:=by kernel_rfl
theorem gE40:(tabGe 120 0).all (rowB XG 100)=true:=by kernel_rfl
theorem gM40:(tabGm 120 0).all (rowB (XGe (tabGe 120 0)) 100)=true:=by kernel_rfl
theorem gP40:(tabGp 4 0).all (rowB (XGm (tabGe 120 0) (tabGm 120 0)) 100)=true:=by kernel_rfl
end Go.Abs.T
end
section
namespace Go.Abs.T
open Go.Abs.Sym
theorem gE41:(tabGe 120 10).all (rowB XG 100)=true:=by kernel_rfl
theorem gM41:(tabGm 120 10).all (rowB (XGe (tabGe 120 10)) 100)=true:=by kernel_rfl
theorem gP41:(tabGp 4 1).all (rowB (XGm (tabGe 120 10) (tabGm 120 10)) 100)=true:=by kernel_rfl
theorem gE50:(tabGe 150 0).all (rowB XG 100)=true:=by kernel_rfl
theorem gM50:(tabGm 150 0).all (rowB (XGe (tabGe 150 0)) 100)=true:=by kernel_rfl
theorem gP50:(tabGp 5 0).all (rowB (XGm (tabGe 150 0) (tabGm 150 0)) 100)=true:=by kernel_rfl
theorem gE51:(tabGe 150 10).all (rowB XG 100)=true:=by kernel_rfl
theorem gM51:(tabGm 150 10).all (rowB (XGe (tabGe 150 10)) 100)=true:=by kernel_rfl
theorem gP51:(tabGp 5 1).all (rowB (XGm (tabGe 150 10) (tabGm 150 10)) 100)=true:=by kernel_rfl
end Go.Abs.T
end
end
