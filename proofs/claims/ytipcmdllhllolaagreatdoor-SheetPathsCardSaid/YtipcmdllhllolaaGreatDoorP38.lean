/- The checks of pads at three places. -/
import Derived.Test.YtipcmdllhllolaaGreatDoorP34
import Derived.KernelRfl
namespace Go.Abs.T
open Go.Abs.Sym
theorem qE41:(tabEq 120 10).all (rowB XR 100)=true:=by kernel_rfl
theorem q141:(tabMq1 120 10).all (rowB (XEof (tabEq 120 10)) 100)=true:=by kernel_rfl
theorem q241:(tabMq2 120 10).all (rowB (XEof (tabEq 120 10)) 100)=true:=by kernel_rfl
theorem q341:(tabMq3 120 10).all (rowB (XEof (tabEq 120 10)) 100)=true:=by kernel_rfl
theorem q441:(tabMq4 120 10).all (rowB (XEof (tabEq 120 10)) 100)=true:=by kernel_rfl
theorem q541:(tabMq5 120 10).all (rowB (XEof (tabEq 120 10)) 100)=true:=by kernel_rfl
theorem q641:(tabMq6 120 10).all (rowB (XEof (tabEq 120 10)) 100)=true:=by kernel_rfl
theorem qP41:(padTab 4 1).all (rowB (XMof (tabEq 120 10) (tabMq 120 10)) 100)=true:=by kernel_rfl
theorem rows41 (s d:Nat) (hs:s<5) (hd:d<4):PadRow 4 1 s d:=padRow qE41 (.app (.app (.app (.app (.app (.all q641) (.all q541)) (.all q441)) (.all q341)) (.all q241)) (.all q141)) qP41 hs hd
theorem qE50:(tabEq 150 0).all (rowB XR 100)=true:=by kernel_rfl
theorem q150:(tabMq1 150 0).all (rowB (XEof (tabEq 150 0)) 100)=true:=by kernel_rfl
theorem q250:(tabMq2 150 0).all (rowB (XEof (tabEq 150 0)) 100)=true:=by kernel_rfl
theorem q350:(tabMq3 150 0).all (rowB (XEof (tabEq 150 0)) 100)=true:=by kernel_rfl
theorem q450:(tabMq4 150 0).all (rowB (XEof (tabEq 150 0)) 100)=true:=by kernel_rfl
theorem q550:(tabMq5 150 0).all (rowB (XEof (tabEq 150 0)) 100)=true:=by kernel_rfl
theorem q650:(tabMq6 150 0).all (rowB (XEof (tabEq 150 0)) 100)=true:=by kernel_rfl
theorem qP50:(padTab 5 0).all (rowB (XMof (tabEq 150 0) (tabMq 150 0)) 100)=true:=by kernel_rfl
theorem rows50 (s d:Nat) (hs:s<5) (hd:d<4):PadRow 5 0 s d:=padRow qE50 (.app (.app (.app (.app (.app (.all q650) (.all q550)) (.all q450)) (.all q350)) (.all q250)) (.all q150)) qP50 hs hd
theorem qE51:(tabEq 150 10).all (rowB XR 100)=true:=by kernel_rfl
theorem q151:(tabMq1 150 10).all (rowB (XEof (tabEq 150 10)) 100)=true:=by kernel_rfl
theorem q251:(tabMq2 150 10).all (rowB (XEof (tabEq 150 10)) 100)=true:=by kernel_rfl
theorem q351:(tabMq3 150 10).all (rowB (XEof (tabEq 150 10)) 100)=true:=by kernel_rfl
theorem q451:(tabMq4 150 10).all (rowB (XEof (tabEq 150 10)) 100)=true:=by kernel_rfl
theorem q551:(tabMq5 150 10).all (rowB (XEof (tabEq 150 10)) 100)=true:=by kernel_rfl
theorem q651:(tabMq6 150 10).all (rowB (XEof (tabEq 150 10)) 100)=true:=by kernel_rfl
theorem qP51:(padTab 5 1).all (rowB (XMof (tabEq 150 10) (tabMq 150 10)) 100)=true:=by kernel_rfl
theorem rows51 (s d:Nat) (hs:s<5) (hd:d<4):PadRow 5 1 s d:=padRow qE51 (.app (.app (.app (.app (.app (.all q651) (.all q551)) (.all q451)) (.all q351)) (.all q251)) (.all q151)) qP51 hs hd
end Go.Abs.T
