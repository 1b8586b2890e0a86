/- The checks of pads at three places. -/
import Derived.Test.YtipcmdllhllolaaGreatDoorK39
import Derived.KernelRfl
noncomputable section
section
namespace Go.Abs.T
open Go.Abs.Sym
theorem qE00:(tabEq 0 0).all (rowB XR 100)=true:=by kernel_rfl
theorem q100:(tabMq1 0 0).all (rowB (XEof (tabEq 0 0)) 100)=true:=by kernel_rfl
theorem q200:(tabMq2 0 0).all (rowB (XEof (tabEq 0 0)) 100)=true:=by kernel_rfl
theorem q300:(tabMq3 0 0).all (rowB (XEof (tabEq 0 0)) 100)=true:=by kernel_rfl
theorem q400:(tabMq4 0 0).all (rowB (XEof (tabEq 0 0)) 100)=true:=by kernel_rfl
theorem q500:(tabMq5 0 0).all (rowB (XEof (tabEq 0 0)) 100)=true:=by kernel_rfl
theorem q600:(tabMq6 0 0).all (rowB (XEof (tabEq 0 0)) 100)=true:=by kernel_rfl
theorem qP00:(padTab 0 0).all (rowB (XMof (tabEq 0 0) (tabMq 0 0)) 100)=true:=by kernel_rfl
theorem rows00 (s d:Nat) (hs:s<5) (hd:d<4):PadRow 0 0 s d:=padRow qE00 (.app (.app (.app (.app (.app (.all q600) (.all q500)) (.all q400)) (.all q300)) (.all q200)) (.all q100)) qP00 hs hd
theorem qE01:(tabEq 0 10).all (rowB XR 100)=true:=by kernel_rfl
theorem q101:(tabMq1 0 10).all (rowB (XEof (tabEq 0 10)) 100)=true:=by kernel_rfl
theorem q201:(tabMq2 0 10).all (rowB (XEof (tabEq 0 10)) 100)=true:=by kernel_rfl
theorem q301:(tabMq3 0 10).all (rowB (XEof (tabEq 0 10)) 100)=true:=by kernel_rfl
theorem q401:(tabMq4 0 10).all (rowB (XEof (tabEq 0 10)) 100)=true:=by kernel_rfl
theorem q501:(tabMq5 0 10).all (rowB (XEof (tabEq 0 10)) 100)=true:=by kernel_rfl
theorem q601:(tabMq6 0 10).all (rowB (XEof (tabEq 0 10)) 100)=true:=by kernel_rfl
theorem qP01:(padTab 0 1).all (rowB (XMof (tabEq 0 10) (tabMq 0 10)) 100)=true:=by kernel_rfl
theorem rows01 (s d:Nat) (hs:s<5) (hd:d<4):PadRow 0 1 s d:=padRow qE01 (.app (.app (.app (.app (.app (.all q601) (.all q501)) (.all q401)) (.all q301)) (.all q201)) (.all q101)) qP01 hs hd
theorem qE10:(tabEq 30 0).all (rowB XR 100)=true:=by kernel_rfl
theorem q110:(tabMq1 30 0).all (rowB (XEof (tabEq 30 0)) 100)=true:=by kernel_rfl
theorem q210:(tabMq2 30 0).all (rowB (XEof (tabEq 30 0)) 100)=true:=by kernel_rfl
theorem q310:(tabMq3 30 0).all (rowB (XEof (tabEq 30 0)) 100)=true:=by kernel_rfl
theorem q410:(tabMq4 30 0).all (rowB (XEof (tabEq 30 0)) 100)=true:=by kernel_rfl
theorem q510:(tabMq5 30 0).all (rowB (XEof (tabEq 30 0)) 100)=true:=by kernel_rfl
theorem q610:(tabMq6 30 0).all (rowB (XEof (tabEq 30 0)) 100)=true:=by kernel_rfl
theorem qP10:(padTab 1 0).all (rowB (XMof (tabEq 30 0) (tabMq 30 0)) 100)=true:=by kernel_rfl
theorem rows10 (s d:Nat) (hs:s<5) (hd:d<4):PadRow 1 0 s d:=padRow qE10 (.app (.app (.app (.app (.app (.all q610) (.all q510)) (.all q410)) (.all q310)) (.all q210)) (.all q110)) qP10 hs hd
end Go.Abs.T
end
section
namespace Go.Abs.T
open Go.Abs.Sym
theorem qE11:(tabEq 30 10).all (rowB XR 100)=true:=by kernel_rfl
theorem q111:(tabMq1 30 10).all (rowB (XEof (tabEq 30 10)) 100)=true:=by kernel_rfl
theorem q211:(tabMq2 30 10).all (rowB (XEof (tabEq 30 10)) 100)=true:=by kernel_rfl
theorem q311:(tabMq3 30 10).all (rowB (XEof (tabEq 30 10)) 100)=true:=by kernel_rfl
theorem q411:(tabMq4 30 10).all (rowB (XEof (tabEq 30 10)) 100)=true:=by kernel_rfl
theorem q511:(tabMq5 30 10).all (rowB (XEof (tabEq 30 10)) 100)=true:=by kernel_rfl
theorem q611:(tabMq6 30 10).all (rowB (XEof (tabEq 30 10)) 100)=true:=by kernel_rfl
theorem qP11:(padTab 1 1).all (rowB (XMof (tabEq 30 10) (tabMq 30 10)) 100)=true:=by kernel_rfl
theorem rows11 (s d:Nat) (hs:s<5) (hd:d<4):PadRow 1 1 s d:=padRow qE11 (.app (.app (.app (.app (.app (.all q611) (.all q511)) (.all q411)) (.all q311)) (.all q211)) (.all q111)) qP11 hs hd
theorem qE20:(tabEq 60 0).all (rowB XR 100)=true:=by kernel_rfl
theorem q120:(tabMq1 60 0).all (rowB (XEof (tabEq 60 0)) 100)=true:=by kernel_rfl
theorem q220:(tabMq2 60 0).all (rowB (XEof (tabEq 60 0)) 100)=true:=by kernel_rfl
theorem q320:(tabMq3 60 0).all (rowB (XEof (tabEq 60 0)) 100)=true:=by kernel_rfl
theorem q420:(tabMq4 60 0).all (rowB (XEof (tabEq 60 0)) 100)=true:=by kernel_rfl
theorem q520:(tabMq5 60 0).all (rowB (XEof (tabEq 60 0)) 100)=true:=by kernel_rfl
theorem q620:(tabMq6 60 0).all (rowB (XEof (tabEq 60 0)) 100)=true:=by kernel_rfl
theorem qP20:(padTab 2 0).all (rowB (XMof (tabEq 60 0) (tabMq 60 0)) 100)=true:=by kernel_rfl
theorem rows20 (s d:Nat) (hs:s<5) (hd:d<4):PadRow 2 0 s d:=padRow qE20 (.app (.app (.app (.app (.app (.all q620) (.all q520)) (.all q420)) (.all q320)) (.all q220)) (.all q120)) qP20 hs hd
theorem qE21:(tabEq 60 10).all (rowB XR 100)=true:=by kernel_rfl
theorem q121:(tabMq1 60 10).all (rowB (XEof (tabEq 60 10)) 100)=true:=by kernel_rfl
theorem q221:(tabMq2 60 10).all (rowB (XEof (tabEq 60 10)) 100)=true:=by kernel_rfl
theorem q321:(tabMq3 60 10).all (rowB (XEof (tabEq 60 10)) 100)=true:=by kernel_rfl
theorem q421:(tabMq4 60 10).all (rowB (XEof (tabEq 60 10)) 100)=true:=by kernel_rfl
theorem q521:(tabMq5 60 10).all (rowB (XEof (tabEq 60 10)) 100)=true:=by kernel_rfl
theorem q621:(tabMq6 60 10).all (rowB (XEof (tabEq 60 10)) 100)=true:=by kernel_rfl
theorem qP21:(padTab 2 1).all (rowB (XMof (tabEq 60 10) (tabMq 60 10)) 100)=true:=by kernel_rfl
theorem rows21 (s d:Nat) (hs:s<5) (hd:d<4):PadRow 2 1 s d:=padRow qE21 (.app (.app (.app (.app (.app (.all q621) (.all q521)) (.all q421)) (.all q321)) (.all q221)) (.all q121)) qP21 hs hd
end Go.Abs.T
end
end
