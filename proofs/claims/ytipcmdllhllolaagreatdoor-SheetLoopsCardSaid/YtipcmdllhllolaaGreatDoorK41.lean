/- The checks of pads at three places. -/
import Derived.Test.YtipcmdllhllolaaGreatDoorK39
import Derived.KernelRfl
noncomputable section
section
namespace Go.Abs.T
open Go.Abs.Sym
theorem qE30:(tabEq 90 0).all (rowB XR 100)=true:=by kernel_rfl
theorem q130:(tabMq1 90 0).all (rowB (XEof (tabEq 90 0)) 100)=true:=by kernel_rfl
theorem q230:(tabMq2 90 0).all (rowB (XEof (tabEq 90 0)) 100)=true:=by kernel_rfl
theorem q330:(tabMq3 90 0).all (rowB (XEof (tabEq 90 0)) 100)=true:=by kernel_rfl
theorem q430:(tabMq4 90 0).all (rowB (XEof (tabEq 90 0)) 100)=true:=by kernel_rfl
theorem q530:(tabMq5 90 0).all (rowB (XEof (tabEq 90 0)) 100)=true:=by kernel_rfl
theorem q630:(tabMq6 90 0).all (rowB (XEof (tabEq 90 0)) 100)=true:=by kernel_rfl
theorem qP30:(padTab 3 0).all (rowB (XMof (tabEq 90 0) (tabMq 90 0)) 100)=true:=by kernel_rfl
theorem rows30 (s d:Nat) (hs:s<5) (hd:d<4):PadRow 3 0 s d:=padRow qE30 (.app (.app (.app (.app (.app (.all q630) (.all q530)) (.all q430)) (.all q330)) (.all q230)) (.all q130)) qP30 hs hd
theorem qE31:(tabEq 90 10).all (rowB XR 100)=true:=by kernel_rfl
theorem q131:(tabMq1 90 10).all (rowB (XEof (tabEq 90 10)) 100)=true:=by kernel_rfl
theorem q231:(tabMq2 90 10).all (rowB (XEof (tabEq 90 10)) 100)=true:=by kernel_rfl
theorem q331:(tabMq3 90 10).all (rowB (XEof (tabEq 90 10)) 100)=true:=by kernel_rfl
theorem q431:(tabMq4 90 10).all (rowB (XEof (tabEq 90 10)) 100)=true:=by kernel_rfl
theorem q531:(tabMq5 90 10).all (rowB (XEof (tabEq 90 10)) 100)=true:=by kernel_rfl
theorem q631:(tabMq6 90 10).all (rowB (XEof (tabEq 90 10)) 100)=true:=by kernel_rfl
theorem qP31:(padTab 3 1).all (rowB (XMof (tabEq 90 10) (tabMq 90 10)) 100)=true:=by kernel_rfl
theorem rows31 (s d:Nat) (hs:s<5) (hd:d<4):PadRow 3 1 s d:=padRow qE31 (.app (.app (.app (.app (.app (.all q631) (.all q531)) (.all q431)) (.all q331)) (.all q231)) (.all q131)) qP31 hs hd
theorem qE40:(tabEq 120 0).all (rowB XR 100)=true:=by kernel_rfl
theorem q140:(tabMq1 120 0).all (rowB (XEof (tabEq 120 0)) 100)=true:=by kernel_rfl
theorem q240:(tabMq2 120 0).all (rowB (XEof (tabEq 120 0)) 100)=true:=by kernel_rfl
theorem q340:(tabMq3 120 0).all (rowB (XEof (tabEq 120 0)) 100)=true:=by kernel_rfl
theorem q440:(tabMq4 120 0).all (rowB (XEof (tabEq 120 0)) 100)=true:=by kernel_rfl
theorem q540:(tabMq5 120 0).all (rowB (XEof (tabEq 120 0)) 100)=true:=by kernel_rfl
theorem q640:(tabMq6 120 0).all (rowB (XEof (tabEq 120 0)) 100)=true:=by kernel_rfl
theorem qP40:(padTab 4 0).all (rowB (XMof (tabEq 120 0) (tabMq 120 0)) 100)=true:=by kernel_rfl
theorem rows40 (s d:Nat) (hs:s<5) (hd:d<4):PadRow 4 0 s d:=padRow qE40 (.app (.app (.app (.app (.app (.all q640) (.all q540)) (.all q440)) (.all q340)) (.all q240)) (.all q140)) qP40 hs hd
end Go.Abs.T
end
section
namespace Go.Abs.T
open Go.Abs.Sym
theorem qE41:(tabEq 120 10).all (rowB XR 100)=true:=by kernel_rfl
theorem q141:(tabMq1 120 10).all (rowB (XEof (tabEq 120 10)) 100)=true:=by kernel_rfl
theorem q241:(tabMq2 120 10).all (rowB (XEof (tabEq 120 10)) 100)=true:=by kernel_rfl
theorem q341:(tabMq3 120 10).all (rowB (XEof (tabEq 120 10)) 100)=true:=by kernel_rfl
theorem q441:(tabMq4 120 10).all (rowB (XEof (tabEq 120 10)) 100)=true:=by kernel_rfl
theorem q541:(tabMq5 120 10).all (rowB (XEof (tabEq 120 10)) 100)=true:=by kernel_rfl
theorem q641:(tabMq6 120 10).all (rowB (XEof (tabEq 120 10)) 100)=true:=by kernel_rfl
theorem qP41:(padTab 4 1).all (rowB (XMof (tabEq 120 10) (tabMq 120 10)) 100)=true:=by kernel_rfl
theorem rows41 (s d:Nat) (hs:s<5) (hd:d<4):PadRow 4 1 s d:=padRow qE41 (.app (.app (.app (.app (.app (.all q641) (.all q541)) (.all q441)) (.all q341)) (.all q241)) (.all q141)) qP41 hs hd
theorem qE50:(tabEq 150 0).all (rowB XR 100)=true:=by kernel_rfl
theorem q150:(tabMq1 150 0).all (rowB (XEof (tabEq 150 0)) 100)=true:=by kernel_rfl
theorem q250:(tabMq2 150 0).all (rowB (XEof (tabEq 150 0)) 100)=true:=by kernel_rfl
theorem q350:(tabMq3 150 0).all (rowB (XEof (tabEq 150 0)) 100)=true:=by kernel_rfl
theorem q450:(tabMq4 150 0).all (rowB (XEof (tabEq 150 0)) 100)=true:=by kernel_rfl
theorem q550:(tabMq5 150 0).all (rowB (XEof (tabEq 150 0)) 100)=true:=by kernel_rfl
theorem q650:(tabMq6 150 0).all (rowB (XEof (tabEq 150 0)) 100)=true:=by kernel_rfl
theorem qP50:(padTab 5 0).all (rowB (XMof (tabEq 150 0) (tabMq 150 0)) 100)=true:=by kernel_rfl
theorem rows50 (s d:Nat) (hs:s<5) (hd:d<4):PadRow 5 0 s d:=padRow qE50 (.app (.app (.app (.app (.app (.all q650) (.all q550)) (.all q450)) (.all q350)) (.all q250)) (.all q150)) qP50 hs hd
theorem qE51:(tabEq 150 10).all (rowB XR 100)=true:=by kernel_rfl
theorem q151:(tabMq1 150 10).all (rowB (XEof (tabEq 150 10)) 100)=true:=by kernel_rfl
theorem q251:(tabMq2 150 10).all (rowB (XEof (tabEq 150 10)) 100)=true:=by kernel_rfl
theorem q351:(tabMq3 150 10).all (rowB (XEof (tabEq 150 10)) 100)=true:=by kernel_rfl
theorem q451:(tabMq4 150 10).all (rowB (XEof (tabEq 150 10)) 100)=true:=by kernel_rfl
theorem q551:(tabMq5 150 10).all (rowB (XEof (tabEq 150 10)) 100)=true:=by kernel_rfl
theorem q651:(tabMq6 150 10).all (rowB (XEof (tabEq 150 10)) 100)=true:=by kernel_rfl
theorem qP51:(padTab 5 1).all (rowB (XMof (tabEq 150 10) (tabMq 150 10)) 100)=true:=by kernel_rfl
theorem rows51 (s d:Nat) (hs:s<5) (hd:d<4):PadRow 5 1 s d:=padRow qE51 (.app (.app (.app (.app (.app (.all q651) (.all q551)) (.all q451)) (.all q351)) (.all q251)) (.all q151)) qP51 hs hd
end Go.Abs.T
end
end
