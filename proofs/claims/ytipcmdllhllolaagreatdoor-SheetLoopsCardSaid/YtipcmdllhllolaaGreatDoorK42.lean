/- padError of all pads that numbers make. -/
import Derived.Test.YtipcmdllhllolaaGreatDoorK40
import Derived.Test.YtipcmdllhllolaaGreatDoorK41
import Derived.Test.YtipcmdllhllolaaGreatDoorK27
import Derived.Test.YtipcmdllhllolaaGreatDoorK17
import Derived.Test.YtipcmdllhllolaaGreatDoorK19
import Derived.KernelRfl
noncomputable section
section
namespace Go.Abs.T
theorem rowsP (k b s d:Nat) (hk:k<6) (hb:b<2) (hs:s<5) (hd:d<4):PadRow k b s d:=by
 match k,hk,b,hb with
 | 0,_,0,_=>exact rows00 s d hs hd
 | 0,_,1,_=>exact rows01 s d hs hd
 | 1,_,0,_=>exact rows10 s d hs hd
 | 1,_,1,_=>exact rows11 s d hs hd
 | 2,_,0,_=>exact rows20 s d hs hd
 | 2,_,1,_=>exact rows21 s d hs hd
 | 3,_,0,_=>exact rows30 s d hs hd
 | 3,_,1,_=>exact rows31 s d hs hd
 | 4,_,0,_=>exact rows40 s d hs hd
 | 4,_,1,_=>exact rows41 s d hs hd
 | 5,_,0,_=>exact rows50 s d hs hd
 | 5,_,1,_=>exact rows51 s d hs hd
end Go.Abs.T
end
section
namespace Go.Abs.T
open Go.Abs.Sym
theorem busRow:F.callC X0 100 (.fn f_check [] []) [.agg (tyC busT)] h0 (isV i0)=true:=by kernel_rfl
end Go.Abs.T
end
end
