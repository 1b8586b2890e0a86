/- The checks of pads at three places. -/
import Derived.Test.YtipcmdllhllolaaGreatDoorP34
import Derived.KernelRfl
namespace Go.Abs.T
open Go.Abs.Sym
theorem qE11:(tabEq 30 10).all (rowB XR 100)=true:=by kernel_rfl
theorem q111:(tabMq1 30 10).all (rowB (XEof (tabEq 30 10)) 100)=true:=by kernel_rfl
theorem q211:(tabMq2 30 10).all (rowB (XEof (tabEq 30 10)) 100)=true:=by kernel_rfl
theorem q311:(tabMq3 30 10).all (rowB (XEof (tabEq 30 10)) 100)=true:=by kernel_rfl
theorem q411:(tabMq4 30 10).all (rowB (XEof (tabEq 30 10)) 100)=true:=by kernel_rfl
theorem q511:(tabMq5 30 10).all (rowB (XEof (tabEq 30 10)) 100)=true:=by kernel_rfl
theorem q611:(tabMq6 30 10).all (rowB (XEof (tabEq 30 10)) 100)=true:=by kernel_rfl
theorem qP11:(padTab 1 1).all (rowB (XMof (tabEq 30 10) (tabMq 30 10)) 100)=true:=by kernel_rfl
theorem rows11 (s d:Nat) (hs:s<5) (hd:d<4):PadRow 1 1 s d:=padRow qE11 (.app (.app (.app (.app (.app (.all q611) (.all q511)) (.all q411)) (.all q311)) (.all q211)) (.all q111)) qP11 hs hd
theorem qE20:(tabEq 60 0).all (rowB XR 100)=true:=by kernel_rfl
theorem q120:(tabMq1 60 0).all (rowB (XEof (tabEq 60 0)) 100)=true:=by kernel_rfl
theorem q220:(tabMq2 60 0).all (rowB (XEof (tabEq 60 0)) 100)=true:=by kernel_rfl
theorem q320:(tabMq3 60 0).all (rowB (XEof (tabEq 60 0)) 100)=true:=by kernel_rfl
theorem q420:(tabMq4 60 0).all (rowB (XEof (tabEq 60 0)) 100)=true:=by kernel_rfl
theorem q520:(tabMq5 60 0).all (rowB (XEof (tabEq 60 0)) 100)=true:=by kernel_rfl
theorem q620:(tabMq6 60 0).all (rowB (XEof (tabEq 60 0)) 100)=true:=by kernel_rfl
theorem qP20:(padTab 2 0).all (rowB (XMof (tabEq 60 0) (tabMq 60 0)) 100)=true:=by kernel_rfl
theorem rows20 (s d:Nat) (hs:s<5) (hd:d<4):PadRow 2 0 s d:=padRow qE20 (.app (.app (.app (.app (.app (.all q620) (.all q520)) (.all q420)) (.all q320)) (.all q220)) (.all q120)) qP20 hs hd
theorem qE21:(tabEq 60 10).all (rowB XR 100)=true:=by kernel_rfl
theorem q121:(tabMq1 60 10).all (rowB (XEof (tabEq 60 10)) 100)=true:=by kernel_rfl
theorem q221:(tabMq2 60 10).all (rowB (XEof (tabEq 60 10)) 100)=true:=by kernel_rfl
theorem q321:(tabMq3 60 10).all (rowB (XEof (tabEq 60 10)) 100)=true:=by kernel_rfl
theorem q421:(tabMq4 60 10).all (rowB (XEof (tabEq 60 10)) 100)=true:=by kernel_rfl
theorem q521:(tabMq5 60 10).all (rowB (XEof (tabEq 60 10)) 100)=true:=by kernel_rfl
theorem q621:(tabMq6 60 10).all (rowB (XEof (tabEq 60 10)) 100)=true:=by kernel_rfl
theorem qP21:(padTab 2 1).all (rowB (XMof (tabEq 60 10) (tabMq 60 10)) 100)=true:=by kernel_rfl
theorem rows21 (s d:Nat) (hs:s<5) (hd:d<4):PadRow 2 1 s d:=padRow qE21 (.app (.app (.app (.app (.app (.all q621) (.all q521)) (.all q421)) (.all q321)) (.all q221)) (.all q121)) qP21 hs hd
end Go.Abs.T
